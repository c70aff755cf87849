/- A part of the proof of statements of this seat: lemmas, no statement of their own. -/
import Derived.Test.YtcmbgfmbmbgbiaaYbTab
import Derived.Test.YtcmbgfmbmbgbiaaYbVtI
set_option linter.unusedVariables false
set_option maxRecDepth 100000
set_option maxHeartbeats 1000000
namespace Go.Q.Yb
/-- slices.Sort   uint64 uint64  -/
def slices_Sort_uint64_uint64 (p0 : Slc) (k : (Unit) → Heap → Prop) (h : Heap) : Prop :=
  ∃ x1 : Int, x1 = (p0.len : Int) ∧ (math_bits_Len (IntKind.u64.wrap x1) (fun (r2 : Int) h3 => slices_pdqsortOrdered_uint64 (pdqQ 40) p0 0 x1 r2 (fun (r4 : Unit) h5 => k () h5) h3) h)

/-- slices.Sorted uint64  -/
def slices_Sorted_uint64 (p0 : Value) (k : (Slc) → Heap → Prop) (h : Heap) : Prop :=
  slices_Collect_uint64 p0 (fun (r1 : Slc) h2 => slices_Sort_uint64_uint64 r1 (fun (r3 : Unit) h4 => k r1 h4) h2) h

/-- quaestor vote.Commit -/
def vote_Commit (p0 : Slc) (k : (Int) → Heap → Prop) (h : Heap) : Prop :=
  if ((p0.len : Int) == 0) then (k 0 h) else (slices_Values_uint64_uint64 p0 (fun (r1 : Value) h2 => slices_Sorted_uint64 r1 (fun (r3 : Slc) h4 => vote_Half (r3.len : Int) (fun (r5 : Int) h6 => ∃ a7 : Addr, r3.a = some a7 ∧ (0 : Int) ≤ (IntKind.i64.wrap ((r3.len : Int) - r5)) ∧ (IntKind.i64.wrap ((r3.len : Int) - r5)) < (r3.len : Int) ∧ (∃ v8 : Int, cellH h6 (a7.add ((IntKind.i64.wrap ((r3.len : Int) - r5)).toNat * 1)) = some (.int .u64 v8) ∧ (k v8 h6))) h4) h2) h)

/-- quaestor quaestorlaw24.awake -/
def law24_awake_g1 (t8_1 : Bool) (k : (Bool) → Heap → Prop) (h_1 : Heap) : Prop :=
  k t8_1 h_1
def law24_awake (k : (Bool) → Heap → Prop) (h : Heap) : Prop :=
  ∃ (b1 : Nat) (h2 : Heap), b1 = h.size ∧ h2 = h.push (.cells ([.int .u64 5, .int .u64 3, .int .u64 9]).toArray 22) ∧ (vote_Commit (⟨some ⟨b1, 0, none⟩, 3, 3⟩ : Slc) (fun (r3 : Int) h4 => if (r3 == 5) then (∃ (b5 : Nat) (h6 : Heap), b5 = h4.size ∧ h6 = h4.push (.cells ([.int .u64 5, .int .u64 3, .int .u64 9, .int .u64 1]).toArray 22) ∧ (vote_Commit (⟨some ⟨b5, 0, none⟩, 4, 4⟩ : Slc) (fun (r7 : Int) h8 => law24_awake_g1 (r7 == 3) k h8) h6)) else (law24_awake_g1 false k h4)) h2)

/-- quaestor quaestorref24.Commit -/
def ref24_Commit_j2 (t0_2 : Slc) (t4_2 : Int) (t3_2 : Int) (k : (Int) → Heap → Prop) (nx1 : (Int × Int) → Heap → Prop) (h_2 : Heap) : Prop :=
  ∃ x1 : Int, x1 = (IntKind.i64.wrap (t4_2 + 1)) ∧ (nx1 (t3_2, x1) h_2)
def ref24_Commit_j4 (t0_4 : Slc) (t3_4 : Int) (t4_4 : Int) (t6_4 : Int) (t5_4 : Int) (k : (Int) → Heap → Prop) (nx1 : (Int × Int) → Heap → Prop) (nx3 : (Int × Int) → Heap → Prop) (h_4 : Heap) : Prop :=
  ∃ x2 : Int, x2 = (IntKind.i64.wrap (t6_4 + 1)) ∧ (nx3 (t5_4, x2) h_4)
def ref24_Commit_l3b (t0_3 : Slc) (t3_3 : Int) (t4_3 : Int) (t5_3 : Int) (t6_3 : Int) (k : (Int) → Heap → Prop) (nx1 : (Int × Int) → Heap → Prop) (nx3 : (Int × Int) → Heap → Prop) (h_3 : Heap) : Prop :=
  if (decide (t6_3 < (t0_3.len : Int))) then (∃ a3 : Addr, t0_3.a = some a3 ∧ (0 : Int) ≤ t6_3 ∧ t6_3 < (t0_3.len : Int) ∧ (∃ v4 : Int, cellH h_3 (a3.add (t6_3.toNat * 1)) = some (.int .u64 v4) ∧ (∃ a5 : Addr, t0_3.a = some a5 ∧ (0 : Int) ≤ t4_3 ∧ t4_3 < (t0_3.len : Int) ∧ (∃ v6 : Int, cellH h_3 (a5.add (t4_3.toNat * 1)) = some (.int .u64 v6) ∧ (if (decide (v4 ≥ v6)) then (∃ x7 : Int, x7 = (IntKind.i64.wrap (t5_3 + 1)) ∧ (ref24_Commit_j4 t0_3 t3_3 t4_3 t6_3 x7 k nx1 nx3 h_3)) else (ref24_Commit_j4 t0_3 t3_3 t4_3 t6_3 t5_3 k nx1 nx3 h_3)))))) else (ref24_Half (t0_3.len : Int) (fun (r8 : Int) h9 => if (decide (t5_3 ≥ r8)) then (∃ a10 : Addr, t0_3.a = some a10 ∧ (0 : Int) ≤ t4_3 ∧ t4_3 < (t0_3.len : Int) ∧ (∃ v11 : Int, cellH h9 (a10.add (t4_3.toNat * 1)) = some (.int .u64 v11) ∧ (∃ x12 : Int, x12 = (if v11 > t3_3 then v11 else t3_3) ∧ (ref24_Commit_j2 t0_3 t4_3 x12 k nx1 h9)))) else (ref24_Commit_j2 t0_3 t4_3 t3_3 k nx1 h9)) h_3)
def ref24_Commit_l3 (t0_3 : Slc) (t3_3 : Int) (t4_3 : Int) (i5 : Int) (i6 : Int) (k : (Int) → Heap → Prop) (nx1 : (Int × Int) → Heap → Prop) (h : Heap) : Prop :=
  ∃ (I : (Int × Int) → Heap → Prop) (μ : (Int × Int) → Heap → Nat), I (i5, i6) h ∧ ∀ (t5_3 : Int) (t6_3 : Int) (h : Heap), I (t5_3, t6_3) h → ref24_Commit_l3b t0_3 t3_3 t4_3 t5_3 t6_3 k nx1 (fun s h' => I s h' ∧ μ s h' < μ (t5_3, t6_3) h) h
def ref24_Commit_l1b (t0_1 : Slc) (t3_1 : Int) (t4_1 : Int) (k : (Int) → Heap → Prop) (nx1 : (Int × Int) → Heap → Prop) (h_1 : Heap) : Prop :=
  if (decide (t4_1 < (t0_1.len : Int))) then (ref24_Commit_l3 t0_1 t3_1 t4_1 0 0 k nx1 h_1) else (k t3_1 h_1)
def ref24_Commit_l1 (t0_1 : Slc) (i3 : Int) (i4 : Int) (k : (Int) → Heap → Prop) (h : Heap) : Prop :=
  ∃ (I : (Int × Int) → Heap → Prop) (μ : (Int × Int) → Heap → Nat), I (i3, i4) h ∧ ∀ (t3_1 : Int) (t4_1 : Int) (h : Heap), I (t3_1, t4_1) h → ref24_Commit_l1b t0_1 t3_1 t4_1 k (fun s h' => I s h' ∧ μ s h' < μ (t3_1, t4_1) h) h
def ref24_Commit (p0 : Slc) (k : (Int) → Heap → Prop) (h : Heap) : Prop :=
  ref24_Commit_l1 p0 0 0 k h

/-- quaestor vote.Least -/
def vote_Least (p0 : Slc) (k : (Int) → Heap → Prop) (h : Heap) : Prop :=
  if ((p0.len : Int) == 0) then (k 0 h) else (slices_Min_uint64_uint64 p0 (fun (r1 : Int) h2 => k r1 h2) h)

/-- quaestor quaestorlaw24.VoteCommits -/
def law24_VoteCommits_j2 (t0_2 : Slc) (t1_2 : Int) (t2_2 : Int) (t7_2 : Int) (t9_2 : Int) (t8_2 : Int) (k : (Bool) → Heap → Prop) (nx1 : (Int × Int) → Heap → Prop) (h_2 : Heap) : Prop :=
  ∃ x5 : Int, x5 = (IntKind.i64.wrap (t9_2 + 1)) ∧ (nx1 (t8_2, x5) h_2)
def law24_VoteCommits_g3 (t0_3 : Slc) (t1_3 : Int) (t2_3 : Int) (t7_3 : Int) (t8_3 : Int) (t9_3 : Int) (t32_3 : Bool) (k : (Bool) → Heap → Prop) (nx1 : (Int × Int) → Heap → Prop) (h_3 : Heap) : Prop :=
  if t32_3 then (∃ a6 : Addr, t0_3.a = some a6 ∧ (0 : Int) ≤ t9_3 ∧ t9_3 < (t0_3.len : Int) ∧ (∃ v7 : Int, cellH h_3 (a6.add (t9_3.toNat * 1)) = some (.int .u64 v7) ∧ (law24_VoteCommits_j2 t0_3 t1_3 t2_3 t7_3 t9_3 v7 k nx1 h_3))) else (law24_VoteCommits_j2 t0_3 t1_3 t2_3 t7_3 t9_3 t8_3 k nx1 h_3)
def law24_VoteCommits_g6 (t87_6 : Bool) (k : (Bool) → Heap → Prop) (nx1 : (Int × Int) → Heap → Prop) (h_6 : Heap) : Prop :=
  k t87_6 h_6
def law24_VoteCommits_g5 (t0_5 : Slc) (t1_5 : Int) (t2_5 : Int) (t7_5 : Int) (t67_5 : Bool) (k : (Bool) → Heap → Prop) (nx1 : (Int × Int) → Heap → Prop) (h_5 : Heap) : Prop :=
  if t67_5 then (law24_awake  (fun (r12 : Bool) h13 => k r12 h13) h_5) else (∃ (b14 : Nat) (h15 : Heap), b14 = h_5.size ∧ h15 = h_5.push (.cells ([]).toArray 22) ∧ (∃ l18 : List Value, SlcAt h15 t0_5 l18 ∧ App 22 1 8 [.int .u64 0] h15 (⟨some ⟨b14, 0, none⟩, 0, 0⟩ : Slc) t0_5.len l18 (fun s16 h17 => ∃ a19 : Addr, s16.a = some a19 ∧ (0 : Int) ≤ t1_5 ∧ t1_5 < (s16.len : Int) ∧ (∃ v20 : Int, cellH h17 (a19.add (t1_5.toNat * 1)) = some (.int .u64 v20) ∧ (∃ a21 : Addr, s16.a = some a21 ∧ (0 : Int) ≤ t1_5 ∧ t1_5 < (s16.len : Int) ∧ (∃ h22 : Heap, WrH h17 (a21.add (t1_5.toNat * 1)) ∧ h22 = setH h17 (a21.add (t1_5.toNat * 1)) (.int .u64 (IntKind.u64.wrap (v20 + t2_5))) ∧ (vote_Commit s16 (fun (r23 : Int) h24 => if (decide (r23 ≥ t7_5)) then (law24_awake  (fun (r25 : Bool) h26 => law24_VoteCommits_g6 r25 k nx1 h26) h24) else (law24_VoteCommits_g6 false k nx1 h24)) h22)))))))
def law24_VoteCommits_g4 (t0_4 : Slc) (t1_4 : Int) (t2_4 : Int) (t7_4 : Int) (t46_4 : Bool) (k : (Bool) → Heap → Prop) (nx1 : (Int × Int) → Heap → Prop) (h_4 : Heap) : Prop :=
  if t46_4 then (k false h_4) else (if ((decide (t1_4 < 0)) || (decide (t1_4 ≥ (t0_4.len : Int)))) then (law24_VoteCommits_g5 t0_4 t1_4 t2_4 t7_4 true k nx1 h_4) else (∃ a27 : Addr, t0_4.a = some a27 ∧ (0 : Int) ≤ t1_4 ∧ t1_4 < (t0_4.len : Int) ∧ (∃ v28 : Int, cellH h_4 (a27.add (t1_4.toNat * 1)) = some (.int .u64 v28) ∧ (∃ a29 : Addr, t0_4.a = some a29 ∧ (0 : Int) ≤ t1_4 ∧ t1_4 < (t0_4.len : Int) ∧ (∃ v30 : Int, cellH h_4 (a29.add (t1_4.toNat * 1)) = some (.int .u64 v30) ∧ (law24_VoteCommits_g5 t0_4 t1_4 t2_4 t7_4 (decide ((IntKind.u64.wrap (v28 + t2_4)) < v30)) k nx1 h_4))))))
def law24_VoteCommits_l1b (t0_1 : Slc) (t1_1 : Int) (t2_1 : Int) (t7_1 : Int) (t8_1 : Int) (t9_1 : Int) (k : (Bool) → Heap → Prop) (nx1 : (Int × Int) → Heap → Prop) (h_1 : Heap) : Prop :=
  if (decide (t9_1 < (t0_1.len : Int))) then (if (t9_1 == 0) then (law24_VoteCommits_g3 t0_1 t1_1 t2_1 t7_1 t8_1 t9_1 true k nx1 h_1) else (∃ a8 : Addr, t0_1.a = some a8 ∧ (0 : Int) ≤ t9_1 ∧ t9_1 < (t0_1.len : Int) ∧ (∃ v9 : Int, cellH h_1 (a8.add (t9_1.toNat * 1)) = some (.int .u64 v9) ∧ (law24_VoteCommits_g3 t0_1 t1_1 t2_1 t7_1 t8_1 t9_1 (decide (v9 < t8_1)) k nx1 h_1)))) else (ref24_Commit t0_1 (fun (r10 : Int) h11 => if (t7_1 != r10) then (law24_VoteCommits_g4 t0_1 t1_1 t2_1 t7_1 true k nx1 h11) else (vote_Least t0_1 (fun (r31 : Int) h32 => law24_VoteCommits_g4 t0_1 t1_1 t2_1 t7_1 (r31 != t8_1) k nx1 h32) h11)) h_1)
def law24_VoteCommits_l1 (t0_1 : Slc) (t1_1 : Int) (t2_1 : Int) (t7_1 : Int) (i8 : Int) (i9 : Int) (k : (Bool) → Heap → Prop) (h : Heap) : Prop :=
  ∃ (I : (Int × Int) → Heap → Prop) (μ : (Int × Int) → Heap → Nat), I (i8, i9) h ∧ ∀ (t8_1 : Int) (t9_1 : Int) (h : Heap), I (t8_1, t9_1) h → law24_VoteCommits_l1b t0_1 t1_1 t2_1 t7_1 t8_1 t9_1 k (fun s h' => I s h' ∧ μ s h' < μ (t8_1, t9_1) h) h
def law24_VoteCommits (p0 : Slc) (p1 : Int) (p2 : Int) (k : (Bool) → Heap → Prop) (h : Heap) : Prop :=
  if (decide ((p0.len : Int) > 32)) then (law24_awake  (fun (r1 : Bool) h2 => k r1 h2) h) else (vote_Commit p0 (fun (r3 : Int) h4 => law24_VoteCommits_l1 p0 p1 p2 r3 0 0 k h4) h)

theorem slices_Sort_uint64_uint64_ok : CallOk Go.Proofs.Try.prog 181 := ⟨_, Go.Proofs.Try.func181, by kernel_rfl, by kernel_rfl⟩
theorem slices_Sort_uint64_uint64_ref (p0 : Slc) (k : (Unit) → Heap → Prop) (h : Heap) (H : slices_Sort_uint64_uint64 p0 k h) : CallsH Go.Proofs.Try.prog 181 #[Slc.v p0] h (fun v h' => ∃ r : Unit, v = .tuple #[] ∧ k r h') := by
  refine f_enter (N := 11) Go.Proofs.Try.func181 rfl rfl rfl (fun w0 => ?_)
  unfold slices_Sort_uint64_uint64 at H
  refine c_weak [(0, Slc.v p0)] ⟨rfl, trivial⟩ ?_
  refine c_seq ?_
  refine c_region ?_
  refine w_p tok rfl rfl rfl ?_
  refine w_p tok rfl rfl rfl ?_
  obtain ⟨x1, ex1, H⟩ := H
  refine w_pe tok rfl (congrArg (fun z => (.int .i64 z : Value)) ex1) rfl rfl ?_
  refine w_end ?_
  refine x_seq ?_
  refine c_region ?_
  refine w_p tok rfl rfl rfl ?_
  refine w_p tok rfl rfl rfl ?_
  refine w_p tok rfl rfl rfl ?_
  refine w_p tok rfl rfl rfl ?_
  refine w_call math_bits_Len_ok (math_bits_Len_ref _ _ _ H) rfl rfl rfl rfl ?_
  rintro _ h3 ⟨r2, rfl, H⟩
  refine w_call slices_pdqsortOrdered_uint64_ok (slices_pdqsortOrdered_uint64_ref _ _ _ _ _ _ _ H) rfl rfl rfl rfl ?_
  rintro _ h5 ⟨r4, rfl, H⟩
  refine w_end ?_
  exact x_end _ rfl _ rfl ⟨(), rfl, H⟩

theorem slices_Sorted_uint64_ok : CallOk Go.Proofs.Try.prog 122 := ⟨_, Go.Proofs.Try.func122, by kernel_rfl, by kernel_rfl⟩
theorem slices_Sorted_uint64_ref (p0 : Value) (k : (Slc) → Heap → Prop) (h : Heap) (H : slices_Sorted_uint64 p0 k h) : CallsH Go.Proofs.Try.prog 122 #[p0] h (fun v h' => ∃ r : Slc, v = Slc.v r ∧ k r h') := by
  refine f_enter (N := 9) Go.Proofs.Try.func122 rfl rfl rfl (fun w0 => ?_)
  unfold slices_Sorted_uint64 at H
  refine c_weak [(0, p0)] ⟨rfl, trivial⟩ ?_
  refine c_seq ?_
  refine c_region ?_
  refine w_p tok rfl rfl rfl ?_
  refine w_end ?_
  refine x_seq ?_
  refine c_seq ?_
  refine c_region ?_
  refine w_p tok rfl rfl rfl ?_
  refine w_call slices_Collect_uint64_ok (slices_Collect_uint64_ref _ _ _ H) rfl rfl rfl rfl ?_
  rintro _ h2 ⟨r1, rfl, H⟩
  refine w_p tok rfl rfl rfl ?_
  refine w_end ?_
  refine x_seq ?_
  refine c_seq ?_
  refine c_region ?_
  refine w_p tok rfl rfl rfl ?_
  refine w_call slices_Sort_uint64_uint64_ok (slices_Sort_uint64_uint64_ref _ _ _ H) rfl rfl rfl rfl ?_
  rintro _ h4 ⟨r3, rfl, H⟩
  refine w_end ?_
  refine x_seq ?_
  refine c_seq ?_
  refine c_region ?_
  refine w_p tok rfl rfl rfl ?_
  refine w_p tok rfl rfl rfl ?_
  refine w_end ?_
  refine x_seq ?_
  refine c_weak [(2, Slc.v r1)] ⟨rfl, trivial⟩ ?_
  refine c_ret ?_
  exact x_ret _ rfl _ rfl ⟨r1, rfl, H⟩

theorem vote_Commit_ok : CallOk Go.Proofs.Try.prog 47 := ⟨_, Go.Proofs.Try.func47, by kernel_rfl, by kernel_rfl⟩
theorem vote_Commit_ref (p0 : Slc) (k : (Int) → Heap → Prop) (h : Heap) (H : vote_Commit p0 k h) : CallsH Go.Proofs.Try.prog 47 #[Slc.v p0] h (fun v h' => ∃ r : Int, v = .int .u64 r ∧ k r h') := by
  refine f_enter (N := 19) Go.Proofs.Try.func47 rfl rfl rfl (fun w0 => ?_)
  unfold vote_Commit at H
  refine c_weak [(0, Slc.v p0)] ⟨rfl, trivial⟩ ?_
  refine c_seq ?_
  refine c_region ?_
  refine w_p tok rfl rfl rfl ?_
  refine w_end ?_
  refine x_seq ?_
  refine c_seq ?_
  refine c_seq ?_
  refine c_region ?_
  refine w_p tok rfl rfl rfl ?_
  refine w_p tok rfl rfl rfl ?_
  refine w_p tok rfl rfl rfl ?_
  refine w_end ?_
  refine x_seq ?_
  refine c_if H rfl (fun H => ?_) (fun H => ?_)
  ·
    refine c_seq ?_
    refine c_region ?_
    refine w_p tok rfl rfl rfl ?_
    refine w_end ?_
    refine x_seq ?_
    refine c_ret ?_
    refine x_tr ?_
    exact x_ret _ rfl _ rfl ⟨0, rfl, H⟩
  ·
    refine c_skip ?_
    refine x_seq ?_
    refine c_seq ?_
    refine c_region ?_
    refine w_p tok rfl rfl rfl ?_
    refine w_call slices_Values_uint64_uint64_ok (slices_Values_uint64_uint64_ref _ _ _ H) rfl rfl rfl rfl ?_
    rintro _ h2 ⟨r1, rfl, H⟩
    refine w_call slices_Sorted_uint64_ok (slices_Sorted_uint64_ref _ _ _ H) rfl rfl rfl rfl ?_
    rintro _ h4 ⟨r3, rfl, H⟩
    refine w_p tok rfl rfl rfl ?_
    refine w_end ?_
    refine x_seq ?_
    refine c_weak [(3, Slc.v r3)] ⟨rfl, trivial⟩ ?_
    refine c_seq ?_
    refine c_region ?_
    refine w_p tok rfl rfl rfl ?_
    refine w_p tok rfl rfl rfl ?_
    refine w_p tok rfl rfl rfl ?_
    refine w_p tok rfl rfl rfl ?_
    refine w_p tok rfl rfl rfl ?_
    refine w_call vote_Half_ok (vote_Half_ref _ _ _ H) rfl rfl rfl rfl ?_
    rintro _ h6 ⟨r5, rfl, H⟩
    refine w_p tok rfl rfl rfl ?_
    obtain ⟨a7, ha7, la7, ua7, H⟩ := H
    refine w_y (y_ixa' tok rfl rfl ha7 rfl rfl rfl la7 ua7) rfl rfl ?_
    obtain ⟨v8, hv8, H⟩ := H
    refine w_y (y_ld tok rfl rfl rfl rfl hv8) rfl rfl ?_
    refine w_p tok rfl rfl rfl ?_
    refine w_end ?_
    refine x_seq ?_
    refine c_weak [(2, .int .u64 v8)] ⟨rfl, trivial⟩ ?_
    refine c_ret ?_
    exact x_ret _ rfl _ rfl ⟨v8, rfl, H⟩

theorem law24_awake_ok : CallOk Go.Proofs.Try.prog 46 := ⟨_, Go.Proofs.Try.func46, by kernel_rfl, by kernel_rfl⟩
theorem law24_awake_ref (k : (Bool) → Heap → Prop) (h : Heap) (H : law24_awake k h) : CallsH Go.Proofs.Try.prog 46 #[] h (fun v h' => ∃ r : Bool, v = .bool r ∧ k r h') := by
  refine f_enter (N := 9) Go.Proofs.Try.func46 rfl rfl rfl (fun w0 => ?_)
  unfold law24_awake at H
  refine c_seq ?_
  refine c_region ?_
  refine w_p tok rfl rfl rfl ?_
  refine w_end ?_
  refine x_seq ?_
  refine c_seq ?_
  refine c_region ?_
  obtain ⟨b1, h2, eb1, eh2, H⟩ := H
  refine w_h (h_bs tok rfl rfl rfl rfl rfl rfl rfl eb1 eh2) rfl rfl ?_
  refine w_call vote_Commit_ok (vote_Commit_ref _ _ _ H) rfl rfl rfl rfl ?_
  rintro _ h4 ⟨r3, rfl, H⟩
  refine w_p tok rfl rfl rfl ?_
  refine w_p tok rfl rfl rfl ?_
  refine w_cut 4 (α := Bool) (fun (s : Bool) => [(8, .bool s)]) (fun (s : Bool) h => law24_awake_g1 s k h) ?_ ?_
  ·
    rintro t8_1 h_1 H
    replace H : law24_awake_g1 t8_1 k h_1 := H
    unfold law24_awake_g1 at H
    refine w_weak [(8, .bool t8_1)] ⟨rfl, trivial⟩ ?_
    refine w_p tok rfl rfl rfl ?_
    refine w_end ?_
    refine x_seq ?_
    refine c_ret ?_
    exact x_ret _ rfl _ rfl ⟨t8_1, rfl, H⟩
  ·
    refine w_gif (d := 4) H rfl (fun H => ?_) (fun H => ?_)
    ·
      obtain ⟨b5, h6, eb5, eh6, H⟩ := H
      refine w_h (h_bs tok rfl rfl rfl rfl rfl rfl rfl eb5 eh6) rfl rfl ?_
      refine w_call vote_Commit_ok (vote_Commit_ref _ _ _ H) rfl rfl rfl rfl ?_
      rintro _ h8 ⟨r7, rfl, H⟩
      refine w_p tok rfl rfl rfl ?_
      refine w_p tok rfl rfl rfl ?_
      exact w_jn (r7 == 3) H ⟨rfl, trivial⟩
    ·
      refine w_skip rfl rfl ?_
      refine w_skip rfl rfl ?_
      refine w_skip rfl rfl ?_
      refine w_p tok rfl rfl rfl ?_
      exact w_jn false H ⟨rfl, trivial⟩

theorem ref24_Commit_ok : CallOk Go.Proofs.Try.prog 48 := ⟨_, Go.Proofs.Try.func48, by kernel_rfl, by kernel_rfl⟩
theorem ref24_Commit_ref (p0 : Slc) (k : (Int) → Heap → Prop) (h : Heap) (H : ref24_Commit p0 k h) : CallsH Go.Proofs.Try.prog 48 #[Slc.v p0] h (fun v h' => ∃ r : Int, v = .int .u64 r ∧ k r h') := by
  refine f_enter (N := 42) Go.Proofs.Try.func48 rfl rfl rfl (fun w0 => ?_)
  unfold ref24_Commit at H
  refine c_weak [(0, Slc.v p0)] ⟨rfl, trivial⟩ ?_
  refine c_seq ?_
  refine c_region ?_
  refine w_p tok rfl rfl rfl ?_
  refine w_end ?_
  refine x_seq ?_
  refine c_seq ?_
  refine c_region ?_
  refine w_p tok rfl rfl rfl ?_
  refine w_end ?_
  refine x_seq ?_
  refine c_seq ?_
  refine c_seq ?_
  refine c_region ?_
  refine w_p tok rfl rfl rfl ?_
  refine w_end ?_
  refine x_seq ?_
  refine c_block ?_
  obtain ⟨I1, μ1, H0, HI⟩ := H
  refine c_loop (σ := Int × Int) (fun (s : Int × Int) => [(3, .int .u64 s.1), (4, .int .i64 s.2), (0, Slc.v p0)]) I1 μ1 (0, 0) H0 ⟨rfl, rfl, rfl, trivial⟩ ?_
  rintro ⟨t3_1, t4_1⟩ h_1 H
  replace H := HI t3_1 t4_1 h_1 H
  unfold ref24_Commit_l1b at H
  refine c_weak [(3, .int .u64 t3_1), (4, .int .i64 t4_1), (0, Slc.v p0)] ⟨rfl, rfl, rfl, trivial⟩ ?_
  refine c_seq ?_
  refine c_seq ?_
  refine c_region ?_
  refine w_p tok rfl rfl rfl ?_
  refine w_p tok rfl rfl rfl ?_
  refine w_p tok rfl rfl rfl ?_
  refine w_p tok rfl rfl rfl ?_
  refine w_end ?_
  refine x_seq ?_
  refine c_if H rfl (fun H => ?_) (fun H => ?_)
  ·
    refine c_skip ?_
    refine x_seq ?_
    refine c_seqJ (α := Int) (fun (s : Int) => [(3, .int .u64 s), (0, Slc.v p0), (4, .int .i64 t4_1)]) (fun (s : Int) h => ref24_Commit_j2 p0 t4_1 s k (fun s h' => I1 s h' ∧ μ1 s h' < μ1 (t3_1, t4_1) h_1) h) ?_ ?_
    ·
      rintro t3_2 h_2 H
      replace H : ref24_Commit_j2 p0 t4_1 t3_2 k (fun s h' => I1 s h' ∧ μ1 s h' < μ1 (t3_1, t4_1) h_1) h_2 := H
      unfold ref24_Commit_j2 at H
      refine c_weak [(3, .int .u64 t3_2), (0, Slc.v p0), (4, .int .i64 t4_1)] ⟨rfl, rfl, rfl, trivial⟩ ?_
      refine c_region ?_
      refine w_p tok rfl rfl rfl ?_
      refine w_p tok rfl rfl rfl ?_
      obtain ⟨x1, ex1, H⟩ := H
      refine w_pe tok rfl (congrArg (fun z => (.int .i64 z : Value)) ex1) rfl rfl ?_
      refine w_end ?_
      exact x_join (t3_2, x1) H ⟨rfl, rfl, rfl, trivial⟩
    ·
      refine c_block ?_
      refine c_seq ?_
      refine c_region ?_
      refine w_p tok rfl rfl rfl ?_
      refine w_end ?_
      refine x_seq ?_
      refine c_seq ?_
      refine c_seq ?_
      refine c_region ?_
      refine w_p tok rfl rfl rfl ?_
      refine w_end ?_
      refine x_seq ?_
      refine c_block ?_
      obtain ⟨I3, μ3, H0, HI⟩ := H
      refine c_loop (σ := Int × Int) (fun (s : Int × Int) => [(5, .int .i64 s.1), (6, .int .i64 s.2), (0, Slc.v p0), (3, .int .u64 t3_1), (4, .int .i64 t4_1)]) I3 μ3 (0, 0) H0 ⟨rfl, rfl, rfl, rfl, rfl, trivial⟩ ?_
      rintro ⟨t5_3, t6_3⟩ h_3 H
      replace H := HI t5_3 t6_3 h_3 H
      unfold ref24_Commit_l3b at H
      refine c_weak [(5, .int .i64 t5_3), (6, .int .i64 t6_3), (0, Slc.v p0), (3, .int .u64 t3_1), (4, .int .i64 t4_1)] ⟨rfl, rfl, rfl, rfl, rfl, trivial⟩ ?_
      refine c_seq ?_
      refine c_seq ?_
      refine c_region ?_
      refine w_p tok rfl rfl rfl ?_
      refine w_p tok rfl rfl rfl ?_
      refine w_p tok rfl rfl rfl ?_
      refine w_p tok rfl rfl rfl ?_
      refine w_end ?_
      refine x_seq ?_
      refine c_if H rfl (fun H => ?_) (fun H => ?_)
      ·
        refine c_skip ?_
        refine x_seq ?_
        refine c_seqJ (α := Int) (fun (s : Int) => [(5, .int .i64 s), (0, Slc.v p0), (3, .int .u64 t3_1), (4, .int .i64 t4_1), (6, .int .i64 t6_3)]) (fun (s : Int) h => ref24_Commit_j4 p0 t3_1 t4_1 t6_3 s k (fun s h' => I1 s h' ∧ μ1 s h' < μ1 (t3_1, t4_1) h_1) (fun s h' => I3 s h' ∧ μ3 s h' < μ3 (t5_3, t6_3) h_3) h) ?_ ?_
        ·
          rintro t5_4 h_4 H
          replace H : ref24_Commit_j4 p0 t3_1 t4_1 t6_3 t5_4 k (fun s h' => I1 s h' ∧ μ1 s h' < μ1 (t3_1, t4_1) h_1) (fun s h' => I3 s h' ∧ μ3 s h' < μ3 (t5_3, t6_3) h_3) h_4 := H
          unfold ref24_Commit_j4 at H
          refine c_weak [(5, .int .i64 t5_4), (0, Slc.v p0), (3, .int .u64 t3_1), (4, .int .i64 t4_1), (6, .int .i64 t6_3)] ⟨rfl, rfl, rfl, rfl, rfl, trivial⟩ ?_
          refine c_region ?_
          refine w_p tok rfl rfl rfl ?_
          refine w_p tok rfl rfl rfl ?_
          obtain ⟨x2, ex2, H⟩ := H
          refine w_pe tok rfl (congrArg (fun z => (.int .i64 z : Value)) ex2) rfl rfl ?_
          refine w_end ?_
          exact x_join (t5_4, x2) H ⟨rfl, rfl, rfl, rfl, rfl, trivial⟩
        ·
          refine c_block ?_
          refine c_seq ?_
          refine c_draw (by kernel_rfl) (by kernel_rfl) ?_
          refine q_p tok rfl rfl rfl ?_
          refine q_p tok rfl rfl rfl ?_
          obtain ⟨a3, ha3, la3, ua3, H⟩ := H
          refine q_y (y_ixa' tok rfl rfl ha3 rfl rfl rfl la3 ua3) rfl rfl ?_
          obtain ⟨v4, hv4, H⟩ := H
          refine q_y (y_ld tok rfl rfl rfl rfl hv4) rfl rfl ?_
          refine q_p tok rfl rfl rfl ?_
          refine q_p tok rfl rfl rfl ?_
          obtain ⟨a5, ha5, la5, ua5, H⟩ := H
          refine q_y (y_ixa' tok rfl rfl ha5 rfl rfl rfl la5 ua5) rfl rfl ?_
          obtain ⟨v6, hv6, H⟩ := H
          refine q_y (y_ld tok rfl rfl rfl rfl hv6) rfl rfl ?_
          refine q_p tok rfl rfl rfl ?_
          refine q_end ?_
          refine x_seq ?_
          refine c_weak [(5, .int .i64 t5_3), (6, .int .i64 t6_3), (0, Slc.v p0), (3, .int .u64 t3_1), (4, .int .i64 t4_1), (27, .bool (decide (v4 ≥ v6)))] ⟨rfl, rfl, rfl, rfl, rfl, rfl, trivial⟩ ?_
          refine c_if H rfl (fun H => ?_) (fun H => ?_)
          ·
            refine c_region ?_
            refine w_p tok rfl rfl rfl ?_
            refine w_p tok rfl rfl rfl ?_
            obtain ⟨x7, ex7, H⟩ := H
            refine w_pe tok rfl (congrArg (fun z => (.int .i64 z : Value)) ex7) rfl rfl ?_
            refine w_end ?_
            refine x_blk ?_
            exact x_join x7 H ⟨rfl, rfl, rfl, rfl, rfl, trivial⟩
          ·
            refine c_skip ?_
            refine x_blk ?_
            exact x_join t5_3 H ⟨rfl, rfl, rfl, rfl, rfl, trivial⟩
      ·
        refine c_exit ?_
        refine x_te ?_
        refine x_te ?_
        refine x_bh ?_
        refine x_seq ?_
        refine c_seq ?_
        refine c_region ?_
        refine w_p tok rfl rfl rfl ?_
        refine w_p tok rfl rfl rfl ?_
        refine w_p tok rfl rfl rfl ?_
        refine w_call ref24_Half_ok (ref24_Half_ref _ _ _ H) rfl rfl rfl rfl ?_
        rintro _ h9 ⟨r8, rfl, H⟩
        refine w_p tok rfl rfl rfl ?_
        refine w_end ?_
        refine x_seq ?_
        refine c_weak [(0, Slc.v p0), (3, .int .u64 t3_1), (4, .int .i64 t4_1), (34, .bool (decide (t5_3 ≥ r8)))] ⟨rfl, rfl, rfl, rfl, trivial⟩ ?_
        refine c_if H rfl (fun H => ?_) (fun H => ?_)
        ·
          refine c_region ?_
          refine w_p tok rfl rfl rfl ?_
          refine w_p tok rfl rfl rfl ?_
          refine w_p tok rfl rfl rfl ?_
          obtain ⟨a10, ha10, la10, ua10, H⟩ := H
          refine w_y (y_ixa' tok rfl rfl ha10 rfl rfl rfl la10 ua10) rfl rfl ?_
          obtain ⟨v11, hv11, H⟩ := H
          refine w_y (y_ld tok rfl rfl rfl rfl hv11) rfl rfl ?_
          refine w_p tok rfl rfl rfl ?_
          obtain ⟨x12, ex12, H⟩ := H
          refine w_pe tok rfl (congrArg (fun z => (.int .u64 z : Value)) ex12) rfl rfl ?_
          refine w_end ?_
          refine x_blk ?_
          exact x_join x12 H ⟨rfl, rfl, rfl, trivial⟩
        ·
          refine c_skip ?_
          refine x_blk ?_
          exact x_join t3_1 H ⟨rfl, rfl, rfl, trivial⟩
  ·
    refine c_exit ?_
    refine x_te ?_
    refine x_te ?_
    refine x_bh ?_
    refine x_seq ?_
    refine c_seq ?_
    refine c_region ?_
    refine w_p tok rfl rfl rfl ?_
    refine w_p tok rfl rfl rfl ?_
    refine w_end ?_
    refine x_seq ?_
    refine c_weak [(2, .int .u64 t3_1)] ⟨rfl, trivial⟩ ?_
    refine c_ret ?_
    exact x_ret _ rfl _ rfl ⟨t3_1, rfl, H⟩

theorem vote_Least_ok : CallOk Go.Proofs.Try.prog 49 := ⟨_, Go.Proofs.Try.func49, by kernel_rfl, by kernel_rfl⟩
theorem vote_Least_ref (p0 : Slc) (k : (Int) → Heap → Prop) (h : Heap) (H : vote_Least p0 k h) : CallsH Go.Proofs.Try.prog 49 #[Slc.v p0] h (fun v h' => ∃ r : Int, v = .int .u64 r ∧ k r h') := by
  refine f_enter (N := 8) Go.Proofs.Try.func49 rfl rfl rfl (fun w0 => ?_)
  unfold vote_Least at H
  refine c_weak [(0, Slc.v p0)] ⟨rfl, trivial⟩ ?_
  refine c_seq ?_
  refine c_region ?_
  refine w_p tok rfl rfl rfl ?_
  refine w_end ?_
  refine x_seq ?_
  refine c_seq ?_
  refine c_seq ?_
  refine c_region ?_
  refine w_p tok rfl rfl rfl ?_
  refine w_p tok rfl rfl rfl ?_
  refine w_p tok rfl rfl rfl ?_
  refine w_end ?_
  refine x_seq ?_
  refine c_if H rfl (fun H => ?_) (fun H => ?_)
  ·
    refine c_seq ?_
    refine c_region ?_
    refine w_p tok rfl rfl rfl ?_
    refine w_end ?_
    refine x_seq ?_
    refine c_ret ?_
    refine x_tr ?_
    exact x_ret _ rfl _ rfl ⟨0, rfl, H⟩
  ·
    refine c_skip ?_
    refine x_seq ?_
    refine c_seq ?_
    refine c_region ?_
    refine w_p tok rfl rfl rfl ?_
    refine w_call slices_Min_uint64_uint64_ok (slices_Min_uint64_uint64_ref _ _ _ H) rfl rfl rfl rfl ?_
    rintro _ h2 ⟨r1, rfl, H⟩
    refine w_p tok rfl rfl rfl ?_
    refine w_end ?_
    refine x_seq ?_
    refine c_ret ?_
    exact x_ret _ rfl _ rfl ⟨r1, rfl, H⟩

theorem law24_VoteCommits_ok : CallOk Go.Proofs.Try.prog 9 := ⟨_, Go.Proofs.Try.func9, by kernel_rfl, by kernel_rfl⟩
theorem law24_VoteCommits_ref (p0 : Slc) (p1 : Int) (p2 : Int) (k : (Bool) → Heap → Prop) (h : Heap) (H : law24_VoteCommits p0 p1 p2 k h) : CallsH Go.Proofs.Try.prog 9 #[Slc.v p0, .int .i64 p1, .int .u64 p2] h (fun v h' => ∃ r : Bool, v = .bool r ∧ k r h') := by
  refine f_enter (N := 88) Go.Proofs.Try.func9 rfl rfl rfl (fun w0 => ?_)
  unfold law24_VoteCommits at H
  refine c_weak [(0, Slc.v p0), (1, .int .i64 p1), (2, .int .u64 p2)] ⟨rfl, rfl, rfl, trivial⟩ ?_
  refine c_seq ?_
  refine c_region ?_
  refine w_p tok rfl rfl rfl ?_
  refine w_end ?_
  refine x_seq ?_
  refine c_seq ?_
  refine c_seq ?_
  refine c_region ?_
  refine w_p tok rfl rfl rfl ?_
  refine w_p tok rfl rfl rfl ?_
  refine w_p tok rfl rfl rfl ?_
  refine w_end ?_
  refine x_seq ?_
  refine c_if H rfl (fun H => ?_) (fun H => ?_)
  ·
    refine c_seq ?_
    refine c_region ?_
    refine w_call law24_awake_ok (law24_awake_ref  _ _ H) rfl rfl rfl rfl ?_
    rintro _ h2 ⟨r1, rfl, H⟩
    refine w_p tok rfl rfl rfl ?_
    refine w_end ?_
    refine x_seq ?_
    refine c_weak [(6, .bool r1)] ⟨rfl, trivial⟩ ?_
    refine c_ret ?_
    refine x_tr ?_
    exact x_ret _ rfl _ rfl ⟨r1, rfl, H⟩
  ·
    refine c_skip ?_
    refine x_seq ?_
    refine c_seq ?_
    refine c_region ?_
    refine w_p tok rfl rfl rfl ?_
    refine w_call vote_Commit_ok (vote_Commit_ref _ _ _ H) rfl rfl rfl rfl ?_
    rintro _ h4 ⟨r3, rfl, H⟩
    refine w_p tok rfl rfl rfl ?_
    refine w_end ?_
    refine x_seq ?_
    refine c_seq ?_
    refine c_region ?_
    refine w_p tok rfl rfl rfl ?_
    refine w_end ?_
    refine x_seq ?_
    refine c_seq ?_
    refine c_seq ?_
    refine c_region ?_
    refine w_p tok rfl rfl rfl ?_
    refine w_end ?_
    refine x_seq ?_
    refine c_block ?_
    obtain ⟨I1, μ1, H0, HI⟩ := H
    refine c_loop (σ := Int × Int) (fun (s : Int × Int) => [(8, .int .u64 s.1), (9, .int .i64 s.2), (0, Slc.v p0), (1, .int .i64 p1), (2, .int .u64 p2), (7, .int .u64 r3)]) I1 μ1 (0, 0) H0 ⟨rfl, rfl, rfl, rfl, rfl, rfl, trivial⟩ ?_
    rintro ⟨t8_1, t9_1⟩ h_1 H
    replace H := HI t8_1 t9_1 h_1 H
    unfold law24_VoteCommits_l1b at H
    refine c_weak [(8, .int .u64 t8_1), (9, .int .i64 t9_1), (0, Slc.v p0), (1, .int .i64 p1), (2, .int .u64 p2), (7, .int .u64 r3)] ⟨rfl, rfl, rfl, rfl, rfl, rfl, trivial⟩ ?_
    refine c_seq ?_
    refine c_seq ?_
    refine c_region ?_
    refine w_p tok rfl rfl rfl ?_
    refine w_p tok rfl rfl rfl ?_
    refine w_p tok rfl rfl rfl ?_
    refine w_p tok rfl rfl rfl ?_
    refine w_end ?_
    refine x_seq ?_
    refine c_if H rfl (fun H => ?_) (fun H => ?_)
    ·
      refine c_skip ?_
      refine x_seq ?_
      refine c_seqJ (α := Int) (fun (s : Int) => [(8, .int .u64 s), (0, Slc.v p0), (1, .int .i64 p1), (2, .int .u64 p2), (7, .int .u64 r3), (9, .int .i64 t9_1)]) (fun (s : Int) h => law24_VoteCommits_j2 p0 p1 p2 r3 t9_1 s k (fun s h' => I1 s h' ∧ μ1 s h' < μ1 (t8_1, t9_1) h_1) h) ?_ ?_
      ·
        rintro t8_2 h_2 H
        replace H : law24_VoteCommits_j2 p0 p1 p2 r3 t9_1 t8_2 k (fun s h' => I1 s h' ∧ μ1 s h' < μ1 (t8_1, t9_1) h_1) h_2 := H
        unfold law24_VoteCommits_j2 at H
        refine c_weak [(8, .int .u64 t8_2), (0, Slc.v p0), (1, .int .i64 p1), (2, .int .u64 p2), (7, .int .u64 r3), (9, .int .i64 t9_1)] ⟨rfl, rfl, rfl, rfl, rfl, rfl, trivial⟩ ?_
        refine c_region ?_
        refine w_p tok rfl rfl rfl ?_
        refine w_p tok rfl rfl rfl ?_
        obtain ⟨x5, ex5, H⟩ := H
        refine w_pe tok rfl (congrArg (fun z => (.int .i64 z : Value)) ex5) rfl rfl ?_
        refine w_end ?_
        exact x_join (t8_2, x5) H ⟨rfl, rfl, rfl, rfl, rfl, rfl, trivial⟩
      ·
        refine c_block ?_
        refine c_seq ?_
        refine c_region ?_
        refine w_p tok rfl rfl rfl ?_
        refine w_p tok rfl rfl rfl ?_
        refine w_p tok rfl rfl rfl ?_
        refine w_cut 7 (α := Bool) (fun (s : Bool) => [(32, .bool s), (0, Slc.v p0), (1, .int .i64 p1), (2, .int .u64 p2), (7, .int .u64 r3), (8, .int .u64 t8_1), (9, .int .i64 t9_1)]) (fun (s : Bool) h => law24_VoteCommits_g3 p0 p1 p2 r3 t8_1 t9_1 s k (fun s h' => I1 s h' ∧ μ1 s h' < μ1 (t8_1, t9_1) h_1) h) ?_ ?_
        ·
          rintro t32_3 h_3 H
          replace H : law24_VoteCommits_g3 p0 p1 p2 r3 t8_1 t9_1 t32_3 k (fun s h' => I1 s h' ∧ μ1 s h' < μ1 (t8_1, t9_1) h_1) h_3 := H
          unfold law24_VoteCommits_g3 at H
          refine w_weak [(32, .bool t32_3), (0, Slc.v p0), (1, .int .i64 p1), (2, .int .u64 p2), (7, .int .u64 r3), (8, .int .u64 t8_1), (9, .int .i64 t9_1)] ⟨rfl, rfl, rfl, rfl, rfl, rfl, rfl, trivial⟩ ?_
          refine w_end ?_
          refine x_seq ?_
          refine c_if H rfl (fun H => ?_) (fun H => ?_)
          ·
            refine c_region ?_
            refine w_p tok rfl rfl rfl ?_
            refine w_p tok rfl rfl rfl ?_
            obtain ⟨a6, ha6, la6, ua6, H⟩ := H
            refine w_y (y_ixa' tok rfl rfl ha6 rfl rfl rfl la6 ua6) rfl rfl ?_
            obtain ⟨v7, hv7, H⟩ := H
            refine w_y (y_ld tok rfl rfl rfl rfl hv7) rfl rfl ?_
            refine w_p tok rfl rfl rfl ?_
            refine w_end ?_
            refine x_blk ?_
            exact x_join v7 H ⟨rfl, rfl, rfl, rfl, rfl, rfl, trivial⟩
          ·
            refine c_skip ?_
            refine x_blk ?_
            exact x_join t8_1 H ⟨rfl, rfl, rfl, rfl, rfl, rfl, trivial⟩
        ·
          refine w_gif (d := 25) H rfl (fun H => ?_) (fun H => ?_)
          ·
            refine w_skip rfl rfl ?_
            refine w_skip rfl rfl ?_
            refine w_skip rfl rfl ?_
            refine w_skip rfl rfl ?_
            refine w_skip rfl rfl ?_
            refine w_skip rfl rfl ?_
            refine w_p tok rfl rfl rfl ?_
            exact w_jn true H ⟨rfl, rfl, rfl, rfl, rfl, rfl, rfl, trivial⟩
          ·
            refine w_p tok rfl rfl rfl ?_
            refine w_p tok rfl rfl rfl ?_
            obtain ⟨a8, ha8, la8, ua8, H⟩ := H
            refine w_y (y_ixa' tok rfl rfl ha8 rfl rfl rfl la8 ua8) rfl rfl ?_
            obtain ⟨v9, hv9, H⟩ := H
            refine w_y (y_ld tok rfl rfl rfl rfl hv9) rfl rfl ?_
            refine w_p tok rfl rfl rfl ?_
            refine w_p tok rfl rfl rfl ?_
            refine w_p tok rfl rfl rfl ?_
            exact w_jn (decide (v9 < t8_1)) H ⟨rfl, rfl, rfl, rfl, rfl, rfl, rfl, trivial⟩
    ·
      refine c_exit ?_
      refine x_te ?_
      refine x_te ?_
      refine x_bh ?_
      refine x_seq ?_
      refine c_seq ?_
      refine c_seq ?_
      refine c_region ?_
      refine w_p tok rfl rfl rfl ?_
      refine w_p tok rfl rfl rfl ?_
      refine w_call ref24_Commit_ok (ref24_Commit_ref _ _ _ H) rfl rfl rfl rfl ?_
      rintro _ h11 ⟨r10, rfl, H⟩
      refine w_p tok rfl rfl rfl ?_
      refine w_p tok rfl rfl rfl ?_
      refine w_cut 5 (α := Bool) (fun (s : Bool) => [(46, .bool s), (0, Slc.v p0), (1, .int .i64 p1), (2, .int .u64 p2), (7, .int .u64 r3)]) (fun (s : Bool) h => law24_VoteCommits_g4 p0 p1 p2 r3 s k (fun s h' => I1 s h' ∧ μ1 s h' < μ1 (t8_1, t9_1) h_1) h) ?_ ?_
      ·
        rintro t46_4 h_4 H
        replace H : law24_VoteCommits_g4 p0 p1 p2 r3 t46_4 k (fun s h' => I1 s h' ∧ μ1 s h' < μ1 (t8_1, t9_1) h_1) h_4 := H
        unfold law24_VoteCommits_g4 at H
        refine w_weak [(46, .bool t46_4), (0, Slc.v p0), (1, .int .i64 p1), (2, .int .u64 p2), (7, .int .u64 r3)] ⟨rfl, rfl, rfl, rfl, rfl, trivial⟩ ?_
        refine w_end ?_
        refine x_seq ?_
        refine c_if H rfl (fun H => ?_) (fun H => ?_)
        ·
          refine c_seq ?_
          refine c_region ?_
          refine w_p tok rfl rfl rfl ?_
          refine w_end ?_
          refine x_seq ?_
          refine c_ret ?_
          refine x_tr ?_
          exact x_ret _ rfl _ rfl ⟨false, rfl, H⟩
        ·
          refine c_skip ?_
          refine x_seq ?_
          refine c_seq ?_
          refine c_seq ?_
          refine c_draw (by kernel_rfl) (by kernel_rfl) ?_
          refine q_p tok rfl rfl rfl ?_
          refine q_p tok rfl rfl rfl ?_
          refine q_p tok rfl rfl rfl ?_
          refine q_cutU 5 [(54, .bool ((decide (p1 < 0)) || (decide (p1 ≥ (p0.len : Int))))), (0, Slc.v p0), (1, .int .i64 p1), (2, .int .u64 p2), (7, .int .u64 r3)] ?_ ?_
          ·
            refine q_p tok rfl rfl rfl ?_
            refine q_cut 12 (α := Bool) (fun (s : Bool) => [(67, .bool s), (0, Slc.v p0), (1, .int .i64 p1), (2, .int .u64 p2), (7, .int .u64 r3)]) (fun (s : Bool) => law24_VoteCommits_g5 p0 p1 p2 r3 s k (fun s h' => I1 s h' ∧ μ1 s h' < μ1 (t8_1, t9_1) h_1) h_4) ?_ ?_
            ·
              rintro t67_5 H
              replace H : law24_VoteCommits_g5 p0 p1 p2 r3 t67_5 k (fun s h' => I1 s h' ∧ μ1 s h' < μ1 (t8_1, t9_1) h_1) h_4 := H
              unfold law24_VoteCommits_g5 at H
              refine q_weak [(67, .bool t67_5), (0, Slc.v p0), (1, .int .i64 p1), (2, .int .u64 p2), (7, .int .u64 r3)] ⟨rfl, rfl, rfl, rfl, rfl, trivial⟩ ?_
              refine q_end ?_
              refine x_seq ?_
              refine c_if H rfl (fun H => ?_) (fun H => ?_)
              ·
                refine c_seq ?_
                refine c_region ?_
                refine w_call law24_awake_ok (law24_awake_ref  _ _ H) rfl rfl rfl rfl ?_
                rintro _ h13 ⟨r12, rfl, H⟩
                refine w_p tok rfl rfl rfl ?_
                refine w_end ?_
                refine x_seq ?_
                refine c_ret ?_
                refine x_tr ?_
                exact x_ret _ rfl _ rfl ⟨r12, rfl, H⟩
              ·
                refine c_skip ?_
                refine x_seq ?_
                refine c_seq ?_
                refine c_region ?_
                obtain ⟨b14, h15, eb14, eh15, H⟩ := H
                refine w_h (h_bs tok rfl rfl rfl rfl rfl rfl rfl eb14 eh15) rfl rfl ?_
                refine w_p tok rfl rfl rfl ?_
                obtain ⟨l18, hl18, H⟩ := H
                refine w_a (a_app (s := (⟨some ⟨b14, 0, none⟩, 0, 0⟩ : Slc)) (r := p0) tok rfl rfl rfl rfl rfl hl18 H) rfl rfl ?_
                rintro _ h17 ⟨s16, rfl, H⟩
                refine w_p tok rfl rfl rfl ?_
                refine w_end ?_
                refine x_seq ?_
                refine c_seq ?_
                refine c_region ?_
                refine w_p tok rfl rfl rfl ?_
                refine w_p tok rfl rfl rfl ?_
                refine w_p tok rfl rfl rfl ?_
                refine w_p tok rfl rfl rfl ?_
                obtain ⟨a19, ha19, la19, ua19, H⟩ := H
                refine w_y (y_ixa' tok rfl rfl ha19 rfl rfl rfl la19 ua19) rfl rfl ?_
                obtain ⟨v20, hv20, H⟩ := H
                refine w_y (y_ld tok rfl rfl rfl rfl hv20) rfl rfl ?_
                refine w_p tok rfl rfl rfl ?_
                refine w_p tok rfl rfl rfl ?_
                obtain ⟨a21, ha21, la21, ua21, H⟩ := H
                refine w_y (y_ixa' tok rfl rfl ha21 rfl rfl rfl la21 ua21) rfl rfl ?_
                obtain ⟨h22, wh22, eh22, H⟩ := H
                refine w_h (h_st tok rfl rfl rfl rfl rfl rfl wh22 eh22) rfl rfl ?_
                refine w_end ?_
                refine x_seq ?_
                refine c_weak [(7, .int .u64 r3), (10, Slc.v s16)] ⟨rfl, rfl, trivial⟩ ?_
                refine c_seq ?_
                refine c_region ?_
                refine w_p tok rfl rfl rfl ?_
                refine w_call vote_Commit_ok (vote_Commit_ref _ _ _ H) rfl rfl rfl rfl ?_
                rintro _ h24 ⟨r23, rfl, H⟩
                refine w_p tok rfl rfl rfl ?_
                refine w_p tok rfl rfl rfl ?_
                refine w_p tok rfl rfl rfl ?_
                refine w_cut 2 (α := Bool) (fun (s : Bool) => [(87, .bool s)]) (fun (s : Bool) h => law24_VoteCommits_g6 s k (fun s h' => I1 s h' ∧ μ1 s h' < μ1 (t8_1, t9_1) h_1) h) ?_ ?_
                ·
                  rintro t87_6 h_6 H
                  replace H : law24_VoteCommits_g6 t87_6 k (fun s h' => I1 s h' ∧ μ1 s h' < μ1 (t8_1, t9_1) h_1) h_6 := H
                  unfold law24_VoteCommits_g6 at H
                  refine w_weak [(87, .bool t87_6)] ⟨rfl, trivial⟩ ?_
                  refine w_p tok rfl rfl rfl ?_
                  refine w_end ?_
                  refine x_seq ?_
                  refine c_ret ?_
                  exact x_ret _ rfl _ rfl ⟨t87_6, rfl, H⟩
                ·
                  refine w_gif (d := 85) H rfl (fun H => ?_) (fun H => ?_)
                  ·
                    refine w_call law24_awake_ok (law24_awake_ref  _ _ H) rfl rfl rfl rfl ?_
                    rintro _ h26 ⟨r25, rfl, H⟩
                    refine w_p tok rfl rfl rfl ?_
                    exact w_jn r25 H ⟨rfl, trivial⟩
                  ·
                    refine w_skip rfl rfl ?_
                    refine w_p tok rfl rfl rfl ?_
                    exact w_jn false H ⟨rfl, trivial⟩
            ·
              refine q_gif (d := 55) H rfl (fun H => ?_) (fun H => ?_)
              ·
                refine q_skip rfl rfl ?_
                refine q_skip rfl rfl ?_
                refine q_skip rfl rfl ?_
                refine q_skip rfl rfl ?_
                refine q_skip rfl rfl ?_
                refine q_skip rfl rfl ?_
                refine q_skip rfl rfl ?_
                refine q_skip rfl rfl ?_
                refine q_skip rfl rfl ?_
                refine q_skip rfl rfl ?_
                refine q_skip rfl rfl ?_
                refine q_p tok rfl rfl rfl ?_
                exact q_jn true H ⟨rfl, rfl, rfl, rfl, rfl, trivial⟩
              ·
                refine q_p tok rfl rfl rfl ?_
                refine q_p tok rfl rfl rfl ?_
                obtain ⟨a27, ha27, la27, ua27, H⟩ := H
                refine q_y (y_ixa' tok rfl rfl ha27 rfl rfl rfl la27 ua27) rfl rfl ?_
                obtain ⟨v28, hv28, H⟩ := H
                refine q_y (y_ld tok rfl rfl rfl rfl hv28) rfl rfl ?_
                refine q_p tok rfl rfl rfl ?_
                refine q_p tok rfl rfl rfl ?_
                refine q_p tok rfl rfl rfl ?_
                refine q_p tok rfl rfl rfl ?_
                obtain ⟨a29, ha29, la29, ua29, H⟩ := H
                refine q_y (y_ixa' tok rfl rfl ha29 rfl rfl rfl la29 ua29) rfl rfl ?_
                obtain ⟨v30, hv30, H⟩ := H
                refine q_y (y_ld tok rfl rfl rfl rfl hv30) rfl rfl ?_
                refine q_p tok rfl rfl rfl ?_
                refine q_p tok rfl rfl rfl ?_
                exact q_jn (decide ((IntKind.u64.wrap (v28 + p2)) < v30)) H ⟨rfl, rfl, rfl, rfl, rfl, trivial⟩
          ·
            refine q_gs (d := 49) rfl (fun hb => ?_) (fun hb => ?_)
            ·
              refine q_skip rfl rfl ?_
              refine q_skip rfl rfl ?_
              refine q_skip rfl rfl ?_
              refine q_skip rfl rfl ?_
              refine q_p tok rfl rfl rfl ?_
              refine q_jn () trivial ⟨?_, rfl, rfl, rfl, rfl, trivial⟩
              exact congrArg (fun b => some (Value.bool b)) (or_t hb)
            ·
              refine q_p tok rfl rfl rfl ?_
              refine q_p tok rfl rfl rfl ?_
              refine q_p tok rfl rfl rfl ?_
              refine q_p tok rfl rfl rfl ?_
              refine q_p tok rfl rfl rfl ?_
              refine q_jn () trivial ⟨?_, rfl, rfl, rfl, rfl, trivial⟩
              exact congrArg (fun b => some (Value.bool b)) (or_f hb)
      ·
        refine w_gif (d := 41) H rfl (fun H => ?_) (fun H => ?_)
        ·
          refine w_skip rfl rfl ?_
          refine w_skip rfl rfl ?_
          refine w_skip rfl rfl ?_
          refine w_skip rfl rfl ?_
          refine w_p tok rfl rfl rfl ?_
          exact w_jn true H ⟨rfl, rfl, rfl, rfl, rfl, trivial⟩
        ·
          refine w_p tok rfl rfl rfl ?_
          refine w_call vote_Least_ok (vote_Least_ref _ _ _ H) rfl rfl rfl rfl ?_
          rintro _ h32 ⟨r31, rfl, H⟩
          refine w_p tok rfl rfl rfl ?_
          refine w_p tok rfl rfl rfl ?_
          refine w_p tok rfl rfl rfl ?_
          exact w_jn (r31 != t8_1) H ⟨rfl, rfl, rfl, rfl, rfl, trivial⟩
end Go.Q.Yb

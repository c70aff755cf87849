/- A part of the proof of statements of this seat: lemmas, no statement of their own. -/
import Derived.Test.YtcmbgfmbmbgbiaaYbTab
import Derived.Test.YtcmbgfmbmbgbiaaYbVu2
set_option linter.unusedVariables false
set_option maxRecDepth 100000
set_option maxHeartbeats 1000000
namespace Go.Q.Yb
/-- slices.Sort   uint64 uint64  -/
def slices_Sort_uint64_uint64 (p0 : Slc) (k : (Unit) → Heap → Prop) (h : Heap) : Prop :=
  ∃ x1 : Int, x1 = (p0.len : Int) ∧ (math_bits_Len (IntKind.u64.wrap x1) (fun (r2 : Int) h3 => slices_pdqsortOrdered_uint64 p0 0 x1 r2 (fun (r4 : Unit) h5 => k () h5) h3) h)

/-- slices.Sorted uint64  -/
def slices_Sorted_uint64 (p0 : Value) (k : (Slc) → Heap → Prop) (h : Heap) : Prop :=
  slices_Collect_uint64 p0 (fun (r1 : Slc) h2 => slices_Sort_uint64_uint64 r1 (fun (r3 : Unit) h4 => k r1 h4) h2) h

/-- quaestor vote.Commit -/
def vote_Commit (p0 : Slc) (k : (Int) → Heap → Prop) (h : Heap) : Prop :=
  if ((p0.len : Int) == 0) then (k 0 h) else (slices_Values_uint64_uint64 p0 (fun (r1 : Value) h2 => slices_Sorted_uint64 r1 (fun (r3 : Slc) h4 => vote_Half (r3.len : Int) (fun (r5 : Int) h6 => ∃ a7 : Addr, r3.a = some a7 ∧ (0 : Int) ≤ (IntKind.i64.wrap ((r3.len : Int) - r5)) ∧ (IntKind.i64.wrap ((r3.len : Int) - r5)) < (r3.len : Int) ∧ (∃ v8 : Int, cellH h6 (a7.add ((IntKind.i64.wrap ((r3.len : Int) - r5)).toNat * 1)) = some (.int .u64 v8) ∧ (k v8 h6))) h4) h2) h)

/-- quaestor quaestorlaw24.awake -/
def law24_awake_g1 (t8_1 : Bool) (k : (Bool) → Heap → Prop) (h_1 : Heap) : Prop :=
  k t8_1 h_1
def law24_awake (k : (Bool) → Heap → Prop) (h : Heap) : Prop :=
  ∃ (b1 : Nat) (h2 : Heap), b1 = h.size ∧ h2 = h.push (.cells ([.int .u64 5, .int .u64 3, .int .u64 9]).toArray 22) ∧ (vote_Commit (⟨some ⟨b1, 0, none⟩, 3, 3⟩ : Slc) (fun (r3 : Int) h4 => if (r3 == 5) then (∃ (b5 : Nat) (h6 : Heap), b5 = h4.size ∧ h6 = h4.push (.cells ([.int .u64 5, .int .u64 3, .int .u64 9, .int .u64 1]).toArray 22) ∧ (vote_Commit (⟨some ⟨b5, 0, none⟩, 4, 4⟩ : Slc) (fun (r7 : Int) h8 => law24_awake_g1 (r7 == 3) k h8) h6)) else (law24_awake_g1 false k h4)) h2)

/-- quaestor quaestorlaw24.VoteCounts -/
def law24_VoteCounts_g4 (t0_4 : Int) (t1_4 : Slc) (t5_4 : Option Addr) (t6_4 : Int) (t7_4 : Slc) (t8_4 : Int) (t10_4 : Int) (t57_4 : Bool) (k : (Bool) → Heap → Prop) (nx1 : (Slc × Int) → Heap → Prop) (nx3 : (Bool × Int) → Heap → Prop) (h_4 : Heap) : Prop :=
  ∃ x8 : Int, x8 = (IntKind.i64.wrap (t10_4 + 1)) ∧ (nx3 (t57_4, x8) h_4)
def law24_VoteCounts_g6 (t0_6 : Int) (t1_6 : Slc) (t5_6 : Option Addr) (t6_6 : Int) (t7_6 : Slc) (t8_6 : Int) (t88_6 : Bool) (k : (Bool) → Heap → Prop) (nx1 : (Slc × Int) → Heap → Prop) (nx3 : (Bool × Int) → Heap → Prop) (h_6 : Heap) : Prop :=
  if t88_6 then (k false h_6) else (∃ x19 : Int, x19 = (IntKind.i64.wrap (t8_6 + 1)) ∧ (nx1 (t7_6, x19) h_6))
def law24_VoteCounts_j5 (t0_5 : Int) (t1_5 : Slc) (t5_5 : Option Addr) (t6_5 : Int) (t8_5 : Int) (t7_5 : Slc) (k : (Bool) → Heap → Prop) (nx1 : (Slc × Int) → Heap → Prop) (nx3 : (Bool × Int) → Heap → Prop) (h_5 : Heap) : Prop :=
  vote_Ballot_Count t5_5 (fun (r17 : Int) h18 => if (r17 != (t7_5.len : Int)) then (law24_VoteCounts_g6 t0_5 t1_5 t5_5 t6_5 t7_5 t8_5 true k nx1 nx3 h18) else (vote_Ballot_Won t5_5 (fun (r20 : Bool) h21 => ref24_Half t6_5 (fun (r22 : Int) h23 => law24_VoteCounts_g6 t0_5 t1_5 t5_5 t6_5 t7_5 t8_5 (!(r20 == (decide ((t7_5.len : Int) ≥ r22)))) k nx1 nx3 h23) h21) h18)) h_5
def law24_VoteCounts_l3b (t0_3 : Int) (t1_3 : Slc) (t5_3 : Option Addr) (t6_3 : Int) (t7_3 : Slc) (t8_3 : Int) (t9_3 : Bool) (t10_3 : Int) (k : (Bool) → Heap → Prop) (nx1 : (Slc × Int) → Heap → Prop) (nx3 : (Bool × Int) → Heap → Prop) (h_3 : Heap) : Prop :=
  if (decide (t10_3 < (t7_3.len : Int))) then (if t9_3 then (∃ a9 : Addr, t7_3.a = some a9 ∧ (0 : Int) ≤ t10_3 ∧ t10_3 < (t7_3.len : Int) ∧ (∃ v10 : Int, cellH h_3 (a9.add (t10_3.toNat * 1)) = some (.int .i64 v10) ∧ (∃ a11 : Addr, t1_3.a = some a11 ∧ (0 : Int) ≤ t8_3 ∧ t8_3 < (t1_3.len : Int) ∧ (∃ v12 : Int, cellH h_3 (a11.add (t8_3.toNat * 1)) = some (.int .i64 v12) ∧ (law24_VoteCounts_g4 t0_3 t1_3 t5_3 t6_3 t7_3 t8_3 t10_3 (v10 != v12) k nx1 nx3 h_3))))) else (law24_VoteCounts_g4 t0_3 t1_3 t5_3 t6_3 t7_3 t8_3 t10_3 false k nx1 nx3 h_3)) else (∃ a13 : Addr, t1_3.a = some a13 ∧ (0 : Int) ≤ t8_3 ∧ t8_3 < (t1_3.len : Int) ∧ (∃ v14 : Int, cellH h_3 (a13.add (t8_3.toNat * 1)) = some (.int .i64 v14) ∧ (vote_Ballot_Yes t5_3 v14 (fun (r15 : Bool) h16 => if (!(r15 == t9_3)) then (k false h16) else (if t9_3 then (∃ a24 : Addr, t1_3.a = some a24 ∧ (0 : Int) ≤ t8_3 ∧ t8_3 < (t1_3.len : Int) ∧ (∃ v25 : Int, cellH h16 (a24.add (t8_3.toNat * 1)) = some (.int .i64 v25) ∧ (∃ (b26 : Nat) (h27 : Heap), b26 = h16.size ∧ h27 = h16.push (.cells ([.int .i64 v25]).toArray 3) ∧ (App 3 1 8 [.int .i64 0] h27 t7_3 1 ([.int .i64 v25]) (fun s28 h29 => law24_VoteCounts_j5 t0_3 t1_3 t5_3 t6_3 t8_3 s28 k nx1 nx3 h29))))) else (law24_VoteCounts_j5 t0_3 t1_3 t5_3 t6_3 t8_3 t7_3 k nx1 nx3 h16))) h_3)))
def law24_VoteCounts_l3 (t0_3 : Int) (t1_3 : Slc) (t5_3 : Option Addr) (t6_3 : Int) (t7_3 : Slc) (t8_3 : Int) (i9 : Bool) (i10 : Int) (k : (Bool) → Heap → Prop) (nx1 : (Slc × Int) → Heap → Prop) (h : Heap) : Prop :=
  ∃ (I : (Bool × Int) → Heap → Prop) (μ : (Bool × Int) → Heap → Nat), I (i9, i10) h ∧ ∀ (t9_3 : Bool) (t10_3 : Int) (h : Heap), I (t9_3, t10_3) h → law24_VoteCounts_l3b t0_3 t1_3 t5_3 t6_3 t7_3 t8_3 t9_3 t10_3 k nx1 (fun s h' => I s h' ∧ μ s h' < μ (t9_3, t10_3) h) h
def law24_VoteCounts_g2 (t0_2 : Int) (t1_2 : Slc) (t5_2 : Option Addr) (t6_2 : Int) (t7_2 : Slc) (t8_2 : Int) (t39_2 : Bool) (k : (Bool) → Heap → Prop) (nx1 : (Slc × Int) → Heap → Prop) (h_2 : Heap) : Prop :=
  law24_VoteCounts_l3 t0_2 t1_2 t5_2 t6_2 t7_2 t8_2 t39_2 0 k nx1 h_2
def law24_VoteCounts_g10 (t111_10 : Bool) (k : (Bool) → Heap → Prop) (nx1 : (Slc × Int) → Heap → Prop) (h_10 : Heap) : Prop :=
  k t111_10 h_10
def law24_VoteCounts_g9 (t108_9 : Bool) (k : (Bool) → Heap → Prop) (nx1 : (Slc × Int) → Heap → Prop) (h_9 : Heap) : Prop :=
  if t108_9 then (law24_awake  (fun (r36 : Bool) h37 => law24_VoteCounts_g10 r36 k nx1 h37) h_9) else (law24_VoteCounts_g10 false k nx1 h_9)
def law24_VoteCounts_g8 (t11_8 : Option Addr) (t103_8 : Bool) (k : (Bool) → Heap → Prop) (nx1 : (Slc × Int) → Heap → Prop) (h_8 : Heap) : Prop :=
  if t103_8 then (vote_Ballot_Won t11_8 (fun (r38 : Bool) h39 => law24_VoteCounts_g9 (!r38) k nx1 h39) h_8) else (law24_VoteCounts_g9 false k nx1 h_8)
def law24_VoteCounts_g7 (t11_7 : Option Addr) (t98_7 : Bool) (k : (Bool) → Heap → Prop) (nx1 : (Slc × Int) → Heap → Prop) (h_7 : Heap) : Prop :=
  if t98_7 then (vote_Ballot_Count t11_7 (fun (r40 : Int) h41 => law24_VoteCounts_g8 t11_7 (r40 == 0) k nx1 h41) h_7) else (law24_VoteCounts_g8 t11_7 false k nx1 h_7)
def law24_VoteCounts_l1b (t0_1 : Int) (t1_1 : Slc) (t5_1 : Option Addr) (t6_1 : Int) (t7_1 : Slc) (t8_1 : Int) (k : (Bool) → Heap → Prop) (nx1 : (Slc × Int) → Heap → Prop) (h_1 : Heap) : Prop :=
  if (decide (t8_1 < (t1_1.len : Int))) then (∃ a6 : Addr, t1_1.a = some a6 ∧ (0 : Int) ≤ t8_1 ∧ t8_1 < (t1_1.len : Int) ∧ (∃ v7 : Int, cellH h_1 (a6.add (t8_1.toNat * 1)) = some (.int .i64 v7) ∧ (if (decide (v7 ≥ 0)) then (∃ a30 : Addr, t1_1.a = some a30 ∧ (0 : Int) ≤ t8_1 ∧ t8_1 < (t1_1.len : Int) ∧ (∃ v31 : Int, cellH h_1 (a30.add (t8_1.toNat * 1)) = some (.int .i64 v31) ∧ (law24_VoteCounts_g2 t0_1 t1_1 t5_1 t6_1 t7_1 t8_1 (decide (v31 < t6_1)) k nx1 h_1))) else (law24_VoteCounts_g2 t0_1 t1_1 t5_1 t6_1 t7_1 t8_1 false k nx1 h_1)))) else (vote_Half t0_1 (fun (r32 : Int) h33 => ref24_Half t0_1 (fun (r34 : Int) h35 => if (r32 == r34) then (vote_Ballot_Yes none 0 (fun (r42 : Bool) h43 => law24_VoteCounts_g7 none (!r42) k nx1 h43) h35) else (law24_VoteCounts_g7 none false k nx1 h35)) h33) h_1)
def law24_VoteCounts_l1 (t0_1 : Int) (t1_1 : Slc) (t5_1 : Option Addr) (t6_1 : Int) (i7 : Slc) (i8 : Int) (k : (Bool) → Heap → Prop) (h : Heap) : Prop :=
  ∃ (I : (Slc × Int) → Heap → Prop) (μ : (Slc × Int) → Heap → Nat), I (i7, i8) h ∧ ∀ (t7_1 : Slc) (t8_1 : Int) (h : Heap), I (t7_1, t8_1) h → law24_VoteCounts_l1b t0_1 t1_1 t5_1 t6_1 t7_1 t8_1 k (fun s h' => I s h' ∧ μ s h' < μ (t7_1, t8_1) h) h
def law24_VoteCounts (p0 : Int) (p1 : Slc) (k : (Bool) → Heap → Prop) (h : Heap) : Prop :=
  if (decide ((p1.len : Int) > 100)) then (law24_awake  (fun (r1 : Bool) h2 => k r1 h2) h) else (vote_New p0 (fun (r3 : Option Addr) h4 => ∃ x5 : Int, x5 = (if 32 < (if 0 > p0 then 0 else p0) then 32 else (if 0 > p0 then 0 else p0)) ∧ (law24_VoteCounts_l1 p0 p1 r3 x5 (⟨none, 0, 0⟩ : Slc) 0 k h4)) h)

/-- quaestor quaestorlaw24.VoteMeets -/
def law24_VoteMeets_g4 (t90_4 : Bool) (k : (Bool) → Heap → Prop) (nx1 : (Int) → Heap → Prop) (nx2 : (Int) → Heap → Prop) (h_4 : Heap) : Prop :=
  k t90_4 h_4
def law24_VoteMeets_g3 (t8_3 : Option Addr) (t9_3 : Option Addr) (t10_3 : Option Addr) (t78_3 : Bool) (k : (Bool) → Heap → Prop) (nx1 : (Int) → Heap → Prop) (nx2 : (Int) → Heap → Prop) (h_3 : Heap) : Prop :=
  if t78_3 then (law24_awake  (fun (r30 : Bool) h31 => k r30 h31) h_3) else (vote_Ballot_Count t8_3 (fun (r32 : Int) h33 => vote_Ballot_Count t9_3 (fun (r34 : Int) h35 => vote_Ballot_Count t10_3 (fun (r36 : Int) h37 => if (decide ((IntKind.i64.wrap (r32 + r34)) > r36)) then (law24_awake  (fun (r38 : Bool) h39 => law24_VoteMeets_g4 r38 k nx1 nx2 h39) h37) else (law24_VoteMeets_g4 false k nx1 nx2 h37)) h35) h33) h_3)
def law24_VoteMeets_l2b (t2_2 : Slc) (t8_2 : Option Addr) (t9_2 : Option Addr) (t10_2 : Option Addr) (t12_2 : Int) (k : (Bool) → Heap → Prop) (nx1 : (Int) → Heap → Prop) (nx2 : (Int) → Heap → Prop) (h_2 : Heap) : Prop :=
  if (decide (t12_2 < (t2_2.len : Int))) then (∃ a19 : Addr, t2_2.a = some a19 ∧ (0 : Int) ≤ t12_2 ∧ t12_2 < (t2_2.len : Int) ∧ (∃ v20 : Int, cellH h_2 (a19.add (t12_2.toNat * 1)) = some (.int .u8 v20) ∧ (vote_Ballot_Yes t9_2 (IntKind.i64.wrap v20) (fun (r21 : Bool) h22 => ∃ a23 : Addr, t2_2.a = some a23 ∧ (0 : Int) ≤ t12_2 ∧ t12_2 < (t2_2.len : Int) ∧ (∃ v24 : Int, cellH h22 (a23.add (t12_2.toNat * 1)) = some (.int .u8 v24) ∧ (vote_Ballot_Yes t10_2 (IntKind.i64.wrap v24) (fun (r25 : Bool) h26 => ∃ x27 : Int, x27 = (IntKind.i64.wrap (t12_2 + 1)) ∧ (nx2 x27 h26)) h22))) h_2))) else (vote_Ballot_Won t8_2 (fun (r28 : Bool) h29 => if (!r28) then (law24_VoteMeets_g3 t8_2 t9_2 t10_2 true k nx1 nx2 h29) else (vote_Ballot_Won t9_2 (fun (r40 : Bool) h41 => law24_VoteMeets_g3 t8_2 t9_2 t10_2 (!r40) k nx1 nx2 h41) h29)) h_2)
def law24_VoteMeets_l2 (t2_2 : Slc) (t8_2 : Option Addr) (t9_2 : Option Addr) (t10_2 : Option Addr) (i12 : Int) (k : (Bool) → Heap → Prop) (nx1 : (Int) → Heap → Prop) (h : Heap) : Prop :=
  ∃ (I : Int → Heap → Prop) (μ : Int → Heap → Nat), I i12 h ∧ ∀ (t12_2 : Int) (h : Heap), I t12_2 h → law24_VoteMeets_l2b t2_2 t8_2 t9_2 t10_2 t12_2 k nx1 (fun s h' => I s h' ∧ μ s h' < μ t12_2 h) h
def law24_VoteMeets_l1b (t1_1 : Slc) (t2_1 : Slc) (t8_1 : Option Addr) (t9_1 : Option Addr) (t10_1 : Option Addr) (t11_1 : Int) (k : (Bool) → Heap → Prop) (nx1 : (Int) → Heap → Prop) (h_1 : Heap) : Prop :=
  if (decide (t11_1 < (t1_1.len : Int))) then (∃ a10 : Addr, t1_1.a = some a10 ∧ (0 : Int) ≤ t11_1 ∧ t11_1 < (t1_1.len : Int) ∧ (∃ v11 : Int, cellH h_1 (a10.add (t11_1.toNat * 1)) = some (.int .u8 v11) ∧ (vote_Ballot_Yes t8_1 (IntKind.i64.wrap v11) (fun (r12 : Bool) h13 => ∃ a14 : Addr, t1_1.a = some a14 ∧ (0 : Int) ≤ t11_1 ∧ t11_1 < (t1_1.len : Int) ∧ (∃ v15 : Int, cellH h13 (a14.add (t11_1.toNat * 1)) = some (.int .u8 v15) ∧ (vote_Ballot_Yes t10_1 (IntKind.i64.wrap v15) (fun (r16 : Bool) h17 => ∃ x18 : Int, x18 = (IntKind.i64.wrap (t11_1 + 1)) ∧ (nx1 x18 h17)) h13))) h_1))) else (law24_VoteMeets_l2 t2_1 t8_1 t9_1 t10_1 0 k nx1 h_1)
def law24_VoteMeets_l1 (t1_1 : Slc) (t2_1 : Slc) (t8_1 : Option Addr) (t9_1 : Option Addr) (t10_1 : Option Addr) (i11 : Int) (k : (Bool) → Heap → Prop) (h : Heap) : Prop :=
  ∃ (I : Int → Heap → Prop) (μ : Int → Heap → Nat), I i11 h ∧ ∀ (t11_1 : Int) (h : Heap), I t11_1 h → law24_VoteMeets_l1b t1_1 t2_1 t8_1 t9_1 t10_1 t11_1 k (fun s h' => I s h' ∧ μ s h' < μ t11_1 h) h
def law24_VoteMeets (p0 : Int) (p1 : Slc) (p2 : Slc) (k : (Bool) → Heap → Prop) (h : Heap) : Prop :=
  if ((decide ((p1.len : Int) > 40)) || (decide ((p2.len : Int) > 40))) then (law24_awake  (fun (r1 : Bool) h2 => k r1 h2) h) else (∃ x3 : Int, x3 = (IntKind.i64.wrap (Int.tmod p0 33)) ∧ (vote_New x3 (fun (r4 : Option Addr) h5 => vote_New x3 (fun (r6 : Option Addr) h7 => vote_New x3 (fun (r8 : Option Addr) h9 => law24_VoteMeets_l1 p1 p2 r4 r6 r8 0 k h9) h7) h5) h))

theorem slices_Sort_uint64_uint64_ok : CallOk Go.Proofs.Try.prog 181 := ⟨_, Go.Proofs.Try.func181, by kernel_rfl, by kernel_rfl⟩
theorem slices_Sort_uint64_uint64_ref (p0 : Slc) (k : (Unit) → Heap → Prop) (h : Heap) (H : slices_Sort_uint64_uint64 p0 k h) : CallsH Go.Proofs.Try.prog 181 #[Slc.v p0] h (fun v h' => ∃ r : Unit, v = .tuple #[] ∧ k r h') := by
  refine f_enter (N := 11) Go.Proofs.Try.func181 rfl rfl rfl (fun w0 => ?_)
  unfold slices_Sort_uint64_uint64 at H
  refine c_weak [(0, Slc.v p0)] ⟨rfl, trivial⟩ ?_
  refine c_seq ?_
  refine c_region ?_
  refine w_p tok rfl rfl rfl ?_
  refine w_p tok rfl rfl rfl ?_
  obtain ⟨x1, ex1, H⟩ := H
  refine w_pe tok rfl (congrArg (fun z => (.int .i64 z : Value)) ex1) rfl rfl ?_
  refine w_end ?_
  refine x_seq ?_
  refine c_region ?_
  refine w_p tok rfl rfl rfl ?_
  refine w_p tok rfl rfl rfl ?_
  refine w_p tok rfl rfl rfl ?_
  refine w_p tok rfl rfl rfl ?_
  refine w_call math_bits_Len_ok (math_bits_Len_ref _ _ _ H) rfl rfl rfl rfl ?_
  rintro _ h3 ⟨r2, rfl, H⟩
  refine w_call slices_pdqsortOrdered_uint64_ok (slices_pdqsortOrdered_uint64_ref _ _ _ _ _ _ H) rfl rfl rfl rfl ?_
  rintro _ h5 ⟨r4, rfl, H⟩
  refine w_end ?_
  exact x_end _ rfl _ rfl ⟨(), rfl, H⟩

theorem slices_Sorted_uint64_ok : CallOk Go.Proofs.Try.prog 122 := ⟨_, Go.Proofs.Try.func122, by kernel_rfl, by kernel_rfl⟩
theorem slices_Sorted_uint64_ref (p0 : Value) (k : (Slc) → Heap → Prop) (h : Heap) (H : slices_Sorted_uint64 p0 k h) : CallsH Go.Proofs.Try.prog 122 #[p0] h (fun v h' => ∃ r : Slc, v = Slc.v r ∧ k r h') := by
  refine f_enter (N := 9) Go.Proofs.Try.func122 rfl rfl rfl (fun w0 => ?_)
  unfold slices_Sorted_uint64 at H
  refine c_weak [(0, p0)] ⟨rfl, trivial⟩ ?_
  refine c_seq ?_
  refine c_region ?_
  refine w_p tok rfl rfl rfl ?_
  refine w_end ?_
  refine x_seq ?_
  refine c_seq ?_
  refine c_region ?_
  refine w_p tok rfl rfl rfl ?_
  refine w_call slices_Collect_uint64_ok (slices_Collect_uint64_ref _ _ _ H) rfl rfl rfl rfl ?_
  rintro _ h2 ⟨r1, rfl, H⟩
  refine w_p tok rfl rfl rfl ?_
  refine w_end ?_
  refine x_seq ?_
  refine c_seq ?_
  refine c_region ?_
  refine w_p tok rfl rfl rfl ?_
  refine w_call slices_Sort_uint64_uint64_ok (slices_Sort_uint64_uint64_ref _ _ _ H) rfl rfl rfl rfl ?_
  rintro _ h4 ⟨r3, rfl, H⟩
  refine w_end ?_
  refine x_seq ?_
  refine c_seq ?_
  refine c_region ?_
  refine w_p tok rfl rfl rfl ?_
  refine w_p tok rfl rfl rfl ?_
  refine w_end ?_
  refine x_seq ?_
  refine c_weak [(2, Slc.v r1)] ⟨rfl, trivial⟩ ?_
  refine c_ret ?_
  exact x_ret _ rfl _ rfl ⟨r1, rfl, H⟩

theorem vote_Commit_ok : CallOk Go.Proofs.Try.prog 47 := ⟨_, Go.Proofs.Try.func47, by kernel_rfl, by kernel_rfl⟩
theorem vote_Commit_ref (p0 : Slc) (k : (Int) → Heap → Prop) (h : Heap) (H : vote_Commit p0 k h) : CallsH Go.Proofs.Try.prog 47 #[Slc.v p0] h (fun v h' => ∃ r : Int, v = .int .u64 r ∧ k r h') := by
  refine f_enter (N := 19) Go.Proofs.Try.func47 rfl rfl rfl (fun w0 => ?_)
  unfold vote_Commit at H
  refine c_weak [(0, Slc.v p0)] ⟨rfl, trivial⟩ ?_
  refine c_seq ?_
  refine c_region ?_
  refine w_p tok rfl rfl rfl ?_
  refine w_end ?_
  refine x_seq ?_
  refine c_seq ?_
  refine c_seq ?_
  refine c_region ?_
  refine w_p tok rfl rfl rfl ?_
  refine w_p tok rfl rfl rfl ?_
  refine w_p tok rfl rfl rfl ?_
  refine w_end ?_
  refine x_seq ?_
  refine c_if H rfl (fun H => ?_) (fun H => ?_)
  ·
    refine c_seq ?_
    refine c_region ?_
    refine w_p tok rfl rfl rfl ?_
    refine w_end ?_
    refine x_seq ?_
    refine c_ret ?_
    refine x_tr ?_
    exact x_ret _ rfl _ rfl ⟨0, rfl, H⟩
  ·
    refine c_skip ?_
    refine x_seq ?_
    refine c_seq ?_
    refine c_region ?_
    refine w_p tok rfl rfl rfl ?_
    refine w_call slices_Values_uint64_uint64_ok (slices_Values_uint64_uint64_ref _ _ _ H) rfl rfl rfl rfl ?_
    rintro _ h2 ⟨r1, rfl, H⟩
    refine w_call slices_Sorted_uint64_ok (slices_Sorted_uint64_ref _ _ _ H) rfl rfl rfl rfl ?_
    rintro _ h4 ⟨r3, rfl, H⟩
    refine w_p tok rfl rfl rfl ?_
    refine w_end ?_
    refine x_seq ?_
    refine c_weak [(3, Slc.v r3)] ⟨rfl, trivial⟩ ?_
    refine c_seq ?_
    refine c_region ?_
    refine w_p tok rfl rfl rfl ?_
    refine w_p tok rfl rfl rfl ?_
    refine w_p tok rfl rfl rfl ?_
    refine w_p tok rfl rfl rfl ?_
    refine w_p tok rfl rfl rfl ?_
    refine w_call vote_Half_ok (vote_Half_ref _ _ _ H) rfl rfl rfl rfl ?_
    rintro _ h6 ⟨r5, rfl, H⟩
    refine w_p tok rfl rfl rfl ?_
    obtain ⟨a7, ha7, la7, ua7, H⟩ := H
    refine w_y (y_ixa' tok rfl rfl ha7 rfl rfl rfl la7 ua7) rfl rfl ?_
    obtain ⟨v8, hv8, H⟩ := H
    refine w_y (y_ld tok rfl rfl rfl rfl hv8) rfl rfl ?_
    refine w_p tok rfl rfl rfl ?_
    refine w_end ?_
    refine x_seq ?_
    refine c_weak [(2, .int .u64 v8)] ⟨rfl, trivial⟩ ?_
    refine c_ret ?_
    exact x_ret _ rfl _ rfl ⟨v8, rfl, H⟩

theorem law24_awake_ok : CallOk Go.Proofs.Try.prog 46 := ⟨_, Go.Proofs.Try.func46, by kernel_rfl, by kernel_rfl⟩
theorem law24_awake_ref (k : (Bool) → Heap → Prop) (h : Heap) (H : law24_awake k h) : CallsH Go.Proofs.Try.prog 46 #[] h (fun v h' => ∃ r : Bool, v = .bool r ∧ k r h') := by
  refine f_enter (N := 9) Go.Proofs.Try.func46 rfl rfl rfl (fun w0 => ?_)
  unfold law24_awake at H
  refine c_seq ?_
  refine c_region ?_
  refine w_p tok rfl rfl rfl ?_
  refine w_end ?_
  refine x_seq ?_
  refine c_seq ?_
  refine c_region ?_
  obtain ⟨b1, h2, eb1, eh2, H⟩ := H
  refine w_h (h_bs tok rfl rfl rfl rfl rfl rfl rfl eb1 eh2) rfl rfl ?_
  refine w_call vote_Commit_ok (vote_Commit_ref _ _ _ H) rfl rfl rfl rfl ?_
  rintro _ h4 ⟨r3, rfl, H⟩
  refine w_p tok rfl rfl rfl ?_
  refine w_p tok rfl rfl rfl ?_
  refine w_cut 4 (α := Bool) (fun (s : Bool) => [(8, .bool s)]) (fun (s : Bool) h => law24_awake_g1 s k h) ?_ ?_
  ·
    rintro t8_1 h_1 H
    replace H : law24_awake_g1 t8_1 k h_1 := H
    unfold law24_awake_g1 at H
    refine w_weak [(8, .bool t8_1)] ⟨rfl, trivial⟩ ?_
    refine w_p tok rfl rfl rfl ?_
    refine w_end ?_
    refine x_seq ?_
    refine c_ret ?_
    exact x_ret _ rfl _ rfl ⟨t8_1, rfl, H⟩
  ·
    refine w_gif (d := 4) H rfl (fun H => ?_) (fun H => ?_)
    ·
      obtain ⟨b5, h6, eb5, eh6, H⟩ := H
      refine w_h (h_bs tok rfl rfl rfl rfl rfl rfl rfl eb5 eh6) rfl rfl ?_
      refine w_call vote_Commit_ok (vote_Commit_ref _ _ _ H) rfl rfl rfl rfl ?_
      rintro _ h8 ⟨r7, rfl, H⟩
      refine w_p tok rfl rfl rfl ?_
      refine w_p tok rfl rfl rfl ?_
      exact w_jn (r7 == 3) H ⟨rfl, trivial⟩
    ·
      refine w_skip rfl rfl ?_
      refine w_skip rfl rfl ?_
      refine w_skip rfl rfl ?_
      refine w_p tok rfl rfl rfl ?_
      exact w_jn false H ⟨rfl, trivial⟩

theorem law24_VoteCounts_ok : CallOk Go.Proofs.Try.prog 10 := ⟨_, Go.Proofs.Try.func10, by kernel_rfl, by kernel_rfl⟩
theorem law24_VoteCounts_ref (p0 : Int) (p1 : Slc) (k : (Bool) → Heap → Prop) (h : Heap) (H : law24_VoteCounts p0 p1 k h) : CallsH Go.Proofs.Try.prog 10 #[.int .i64 p0, Slc.v p1] h (fun v h' => ∃ r : Bool, v = .bool r ∧ k r h') := by
  refine f_enter (N := 112) Go.Proofs.Try.func10 rfl rfl rfl (fun w0 => ?_)
  unfold law24_VoteCounts at H
  refine c_weak [(0, .int .i64 p0), (1, Slc.v p1)] ⟨rfl, rfl, trivial⟩ ?_
  refine c_seq ?_
  refine c_region ?_
  refine w_p tok rfl rfl rfl ?_
  refine w_end ?_
  refine x_seq ?_
  refine c_seq ?_
  refine c_seq ?_
  refine c_region ?_
  refine w_p tok rfl rfl rfl ?_
  refine w_p tok rfl rfl rfl ?_
  refine w_p tok rfl rfl rfl ?_
  refine w_end ?_
  refine x_seq ?_
  refine c_if H rfl (fun H => ?_) (fun H => ?_)
  ·
    refine c_seq ?_
    refine c_region ?_
    refine w_call law24_awake_ok (law24_awake_ref  _ _ H) rfl rfl rfl rfl ?_
    rintro _ h2 ⟨r1, rfl, H⟩
    refine w_p tok rfl rfl rfl ?_
    refine w_end ?_
    refine x_seq ?_
    refine c_ret ?_
    refine x_tr ?_
    exact x_ret _ rfl _ rfl ⟨r1, rfl, H⟩
  ·
    refine c_skip ?_
    refine x_seq ?_
    refine c_seq ?_
    refine c_region ?_
    refine w_p tok rfl rfl rfl ?_
    refine w_call vote_New_ok (vote_New_ref _ _ _ H) rfl rfl rfl rfl ?_
    rintro _ h4 ⟨r3, rfl, H⟩
    refine w_p tok rfl rfl rfl ?_
    refine w_end ?_
    refine x_seq ?_
    refine c_seq ?_
    refine c_region ?_
    refine w_p tok rfl rfl rfl ?_
    refine w_p tok rfl rfl rfl ?_
    refine w_p tok rfl rfl rfl ?_
    obtain ⟨x5, ex5, H⟩ := H
    refine w_pe tok rfl (congrArg (fun z => (.int .i64 z : Value)) ex5) rfl rfl ?_
    refine w_end ?_
    refine x_seq ?_
    refine c_weak [(0, .int .i64 p0), (1, Slc.v p1), (5, .pointer r3), (6, .int .i64 x5)] ⟨rfl, rfl, rfl, rfl, trivial⟩ ?_
    refine c_seq ?_
    refine c_region ?_
    refine w_p tok rfl rfl rfl ?_
    refine w_end ?_
    refine x_seq ?_
    refine c_seq ?_
    refine c_seq ?_
    refine c_region ?_
    refine w_p tok rfl rfl rfl ?_
    refine w_end ?_
    refine x_seq ?_
    refine c_block ?_
    obtain ⟨I1, μ1, H0, HI⟩ := H
    refine c_loop (σ := Slc × Int) (fun (s : Slc × Int) => [(7, Slc.v s.1), (8, .int .i64 s.2), (0, .int .i64 p0), (1, Slc.v p1), (5, .pointer r3), (6, .int .i64 x5)]) I1 μ1 ((⟨none, 0, 0⟩ : Slc), 0) H0 ⟨rfl, rfl, rfl, rfl, rfl, rfl, trivial⟩ ?_
    rintro ⟨t7_1, t8_1⟩ h_1 H
    replace H := HI t7_1 t8_1 h_1 H
    unfold law24_VoteCounts_l1b at H
    refine c_weak [(7, Slc.v t7_1), (8, .int .i64 t8_1), (0, .int .i64 p0), (1, Slc.v p1), (5, .pointer r3), (6, .int .i64 x5)] ⟨rfl, rfl, rfl, rfl, rfl, rfl, trivial⟩ ?_
    refine c_seq ?_
    refine c_seq ?_
    refine c_region ?_
    refine w_p tok rfl rfl rfl ?_
    refine w_p tok rfl rfl rfl ?_
    refine w_p tok rfl rfl rfl ?_
    refine w_p tok rfl rfl rfl ?_
    refine w_end ?_
    refine x_seq ?_
    refine c_if H rfl (fun H => ?_) (fun H => ?_)
    ·
      refine c_skip ?_
      refine x_seq ?_
      refine c_seq ?_
      refine c_block ?_
      refine c_seq ?_
      refine c_region ?_
      refine w_p tok rfl rfl rfl ?_
      refine w_p tok rfl rfl rfl ?_
      obtain ⟨a6, ha6, la6, ua6, H⟩ := H
      refine w_y (y_ixa' tok rfl rfl ha6 rfl rfl rfl la6 ua6) rfl rfl ?_
      obtain ⟨v7, hv7, H⟩ := H
      refine w_y (y_ld tok rfl rfl rfl rfl hv7) rfl rfl ?_
      refine w_p tok rfl rfl rfl ?_
      refine w_p tok rfl rfl rfl ?_
      refine w_cut 7 (α := Bool) (fun (s : Bool) => [(39, .bool s), (0, .int .i64 p0), (1, Slc.v p1), (5, .pointer r3), (6, .int .i64 x5), (7, Slc.v t7_1), (8, .int .i64 t8_1)]) (fun (s : Bool) h => law24_VoteCounts_g2 p0 p1 r3 x5 t7_1 t8_1 s k (fun s h' => I1 s h' ∧ μ1 s h' < μ1 (t7_1, t8_1) h_1) h) ?_ ?_
      ·
        rintro t39_2 h_2 H
        replace H : law24_VoteCounts_g2 p0 p1 r3 x5 t7_1 t8_1 t39_2 k (fun s h' => I1 s h' ∧ μ1 s h' < μ1 (t7_1, t8_1) h_1) h_2 := H
        unfold law24_VoteCounts_g2 at H
        refine w_weak [(39, .bool t39_2), (0, .int .i64 p0), (1, Slc.v p1), (5, .pointer r3), (6, .int .i64 x5), (7, Slc.v t7_1), (8, .int .i64 t8_1)] ⟨rfl, rfl, rfl, rfl, rfl, rfl, rfl, trivial⟩ ?_
        refine w_p tok rfl rfl rfl ?_
        refine w_end ?_
        refine x_seq ?_
        refine c_seq ?_
        refine c_seq ?_
        refine c_region ?_
        refine w_p tok rfl rfl rfl ?_
        refine w_end ?_
        refine x_seq ?_
        refine c_block ?_
        obtain ⟨I3, μ3, H0, HI⟩ := H
        refine c_loop (σ := Bool × Int) (fun (s : Bool × Int) => [(9, .bool s.1), (10, .int .i64 s.2), (0, .int .i64 p0), (1, Slc.v p1), (5, .pointer r3), (6, .int .i64 x5), (7, Slc.v t7_1), (8, .int .i64 t8_1)]) I3 μ3 (t39_2, 0) H0 ⟨rfl, rfl, rfl, rfl, rfl, rfl, rfl, rfl, trivial⟩ ?_
        rintro ⟨t9_3, t10_3⟩ h_3 H
        replace H := HI t9_3 t10_3 h_3 H
        unfold law24_VoteCounts_l3b at H
        refine c_weak [(9, .bool t9_3), (10, .int .i64 t10_3), (0, .int .i64 p0), (1, Slc.v p1), (5, .pointer r3), (6, .int .i64 x5), (7, Slc.v t7_1), (8, .int .i64 t8_1)] ⟨rfl, rfl, rfl, rfl, rfl, rfl, rfl, rfl, trivial⟩ ?_
        refine c_seq ?_
        refine c_seq ?_
        refine c_region ?_
        refine w_p tok rfl rfl rfl ?_
        refine w_p tok rfl rfl rfl ?_
        refine w_p tok rfl rfl rfl ?_
        refine w_p tok rfl rfl rfl ?_
        refine w_end ?_
        refine x_seq ?_
        refine c_if H rfl (fun H => ?_) (fun H => ?_)
        ·
          refine c_skip ?_
          refine x_seq ?_
          refine c_seq ?_
          refine c_block ?_
          refine c_draw (by kernel_rfl) (by kernel_rfl) ?_
          refine q_p tok rfl rfl rfl ?_
          refine q_p tok rfl rfl rfl ?_
          refine q_cut 10 (α := Bool) (fun (s : Bool) => [(57, .bool s), (0, .int .i64 p0), (1, Slc.v p1), (5, .pointer r3), (6, .int .i64 x5), (7, Slc.v t7_1), (8, .int .i64 t8_1), (10, .int .i64 t10_3)]) (fun (s : Bool) => law24_VoteCounts_g4 p0 p1 r3 x5 t7_1 t8_1 t10_3 s k (fun s h' => I1 s h' ∧ μ1 s h' < μ1 (t7_1, t8_1) h_1) (fun s h' => I3 s h' ∧ μ3 s h' < μ3 (t9_3, t10_3) h_3) h_3) ?_ ?_
          ·
            rintro t57_4 H
            replace H : law24_VoteCounts_g4 p0 p1 r3 x5 t7_1 t8_1 t10_3 t57_4 k (fun s h' => I1 s h' ∧ μ1 s h' < μ1 (t7_1, t8_1) h_1) (fun s h' => I3 s h' ∧ μ3 s h' < μ3 (t9_3, t10_3) h_3) h_3 := H
            unfold law24_VoteCounts_g4 at H
            refine q_weak [(57, .bool t57_4), (0, .int .i64 p0), (1, Slc.v p1), (5, .pointer r3), (6, .int .i64 x5), (7, Slc.v t7_1), (8, .int .i64 t8_1), (10, .int .i64 t10_3)] ⟨rfl, rfl, rfl, rfl, rfl, rfl, rfl, rfl, trivial⟩ ?_
            refine q_p tok rfl rfl rfl ?_
            refine q_end ?_
            refine x_blk ?_
            refine x_seq ?_
            refine c_region ?_
            refine w_p tok rfl rfl rfl ?_
            refine w_p tok rfl rfl rfl ?_
            obtain ⟨x8, ex8, H⟩ := H
            refine w_pe tok rfl (congrArg (fun z => (.int .i64 z : Value)) ex8) rfl rfl ?_
            refine w_end ?_
            exact x_join (t57_4, x8) H ⟨rfl, rfl, rfl, rfl, rfl, rfl, rfl, rfl, trivial⟩
          ·
            refine q_gif (d := 47) H rfl (fun H => ?_) (fun H => ?_)
            ·
              refine q_p tok rfl rfl rfl ?_
              refine q_p tok rfl rfl rfl ?_
              obtain ⟨a9, ha9, la9, ua9, H⟩ := H
              refine q_y (y_ixa' tok rfl rfl ha9 rfl rfl rfl la9 ua9) rfl rfl ?_
              obtain ⟨v10, hv10, H⟩ := H
              refine q_y (y_ld tok rfl rfl rfl rfl hv10) rfl rfl ?_
              refine q_p tok rfl rfl rfl ?_
              refine q_p tok rfl rfl rfl ?_
              obtain ⟨a11, ha11, la11, ua11, H⟩ := H
              refine q_y (y_ixa' tok rfl rfl ha11 rfl rfl rfl la11 ua11) rfl rfl ?_
              obtain ⟨v12, hv12, H⟩ := H
              refine q_y (y_ld tok rfl rfl rfl rfl hv12) rfl rfl ?_
              refine q_p tok rfl rfl rfl ?_
              refine q_p tok rfl rfl rfl ?_
              exact q_jn (v10 != v12) H ⟨rfl, rfl, rfl, rfl, rfl, rfl, rfl, rfl, trivial⟩
            ·
              refine q_skip rfl rfl ?_
              refine q_skip rfl rfl ?_
              refine q_skip rfl rfl ?_
              refine q_skip rfl rfl ?_
              refine q_skip rfl rfl ?_
              refine q_skip rfl rfl ?_
              refine q_skip rfl rfl ?_
              refine q_skip rfl rfl ?_
              refine q_skip rfl rfl ?_
              refine q_p tok rfl rfl rfl ?_
              exact q_jn false H ⟨rfl, rfl, rfl, rfl, rfl, rfl, rfl, rfl, trivial⟩
        ·
          refine c_exit ?_
          refine x_te ?_
          refine x_te ?_
          refine x_bh ?_
          refine x_seq ?_
          refine c_seq ?_
          refine c_seq ?_
          refine c_region ?_
          refine w_p tok rfl rfl rfl ?_
          refine w_p tok rfl rfl rfl ?_
          refine w_p tok rfl rfl rfl ?_
          obtain ⟨a13, ha13, la13, ua13, H⟩ := H
          refine w_y (y_ixa' tok rfl rfl ha13 rfl rfl rfl la13 ua13) rfl rfl ?_
          obtain ⟨v14, hv14, H⟩ := H
          refine w_y (y_ld tok rfl rfl rfl rfl hv14) rfl rfl ?_
          refine w_call vote_Ballot_Yes_ok (vote_Ballot_Yes_ref _ _ _ _ H) rfl rfl rfl rfl ?_
          rintro _ h16 ⟨r15, rfl, H⟩
          refine w_p tok rfl rfl rfl ?_
          refine w_p tok rfl rfl rfl ?_
          refine w_end ?_
          refine x_seq ?_
          refine c_weak [(9, .bool t9_3), (0, .int .i64 p0), (1, Slc.v p1), (5, .pointer r3), (6, .int .i64 x5), (7, Slc.v t7_1), (8, .int .i64 t8_1), (65, .bool (!(r15 == t9_3)))] ⟨rfl, rfl, rfl, rfl, rfl, rfl, rfl, rfl, trivial⟩ ?_
          refine c_if H rfl (fun H => ?_) (fun H => ?_)
          ·
            refine c_seq ?_
            refine c_region ?_
            refine w_p tok rfl rfl rfl ?_
            refine w_end ?_
            refine x_seq ?_
            refine c_weak [(4, .bool false)] ⟨rfl, trivial⟩ ?_
            refine c_ret ?_
            refine x_tr ?_
            refine x_br ?_
            refine x_tr ?_
            refine x_tr ?_
            refine x_br ?_
            refine x_tr ?_
            exact x_ret _ rfl _ rfl ⟨false, rfl, H⟩
          ·
            refine c_skip ?_
            refine x_seq ?_
            refine c_seqJ (α := Slc) (fun (s : Slc) => [(7, Slc.v s), (0, .int .i64 p0), (1, Slc.v p1), (5, .pointer r3), (6, .int .i64 x5), (8, .int .i64 t8_1)]) (fun (s : Slc) h => law24_VoteCounts_j5 p0 p1 r3 x5 t8_1 s k (fun s h' => I1 s h' ∧ μ1 s h' < μ1 (t7_1, t8_1) h_1) (fun s h' => I3 s h' ∧ μ3 s h' < μ3 (t9_3, t10_3) h_3) h) ?_ ?_
            ·
              rintro t7_5 h_5 H
              replace H : law24_VoteCounts_j5 p0 p1 r3 x5 t8_1 t7_5 k (fun s h' => I1 s h' ∧ μ1 s h' < μ1 (t7_1, t8_1) h_1) (fun s h' => I3 s h' ∧ μ3 s h' < μ3 (t9_3, t10_3) h_3) h_5 := H
              unfold law24_VoteCounts_j5 at H
              refine c_weak [(7, Slc.v t7_5), (0, .int .i64 p0), (1, Slc.v p1), (5, .pointer r3), (6, .int .i64 x5), (8, .int .i64 t8_1)] ⟨rfl, rfl, rfl, rfl, rfl, rfl, trivial⟩ ?_
              refine c_seq ?_
              refine c_region ?_
              refine w_p tok rfl rfl rfl ?_
              refine w_call vote_Ballot_Count_ok (vote_Ballot_Count_ref _ _ _ H) rfl rfl rfl rfl ?_
              rintro _ h18 ⟨r17, rfl, H⟩
              refine w_p tok rfl rfl rfl ?_
              refine w_p tok rfl rfl rfl ?_
              refine w_p tok rfl rfl rfl ?_
              refine w_p tok rfl rfl rfl ?_
              refine w_cut 9 (α := Bool) (fun (s : Bool) => [(88, .bool s), (0, .int .i64 p0), (1, Slc.v p1), (5, .pointer r3), (6, .int .i64 x5), (7, Slc.v t7_5), (8, .int .i64 t8_1)]) (fun (s : Bool) h => law24_VoteCounts_g6 p0 p1 r3 x5 t7_5 t8_1 s k (fun s h' => I1 s h' ∧ μ1 s h' < μ1 (t7_1, t8_1) h_1) (fun s h' => I3 s h' ∧ μ3 s h' < μ3 (t9_3, t10_3) h_3) h) ?_ ?_
              ·
                rintro t88_6 h_6 H
                replace H : law24_VoteCounts_g6 p0 p1 r3 x5 t7_5 t8_1 t88_6 k (fun s h' => I1 s h' ∧ μ1 s h' < μ1 (t7_1, t8_1) h_1) (fun s h' => I3 s h' ∧ μ3 s h' < μ3 (t9_3, t10_3) h_3) h_6 := H
                unfold law24_VoteCounts_g6 at H
                refine w_weak [(88, .bool t88_6), (0, .int .i64 p0), (1, Slc.v p1), (5, .pointer r3), (6, .int .i64 x5), (7, Slc.v t7_5), (8, .int .i64 t8_1)] ⟨rfl, rfl, rfl, rfl, rfl, rfl, rfl, trivial⟩ ?_
                refine w_end ?_
                refine x_seq ?_
                refine c_if H rfl (fun H => ?_) (fun H => ?_)
                ·
                  refine c_seq ?_
                  refine c_region ?_
                  refine w_p tok rfl rfl rfl ?_
                  refine w_end ?_
                  refine x_seq ?_
                  refine c_weak [(4, .bool false)] ⟨rfl, trivial⟩ ?_
                  refine c_ret ?_
                  refine x_br ?_
                  refine x_tr ?_
                  refine x_tr ?_
                  refine x_br ?_
                  refine x_tr ?_
                  exact x_ret _ rfl _ rfl ⟨false, rfl, H⟩
                ·
                  refine c_skip ?_
                  refine x_blk ?_
                  refine x_seq ?_
                  refine c_region ?_
                  refine w_p tok rfl rfl rfl ?_
                  refine w_p tok rfl rfl rfl ?_
                  obtain ⟨x19, ex19, H⟩ := H
                  refine w_pe tok rfl (congrArg (fun z => (.int .i64 z : Value)) ex19) rfl rfl ?_
                  refine w_end ?_
                  exact x_join (t7_5, x19) H ⟨rfl, rfl, rfl, rfl, rfl, rfl, trivial⟩
              ·
                refine w_gif (d := 79) H rfl (fun H => ?_) (fun H => ?_)
                ·
                  refine w_skip rfl rfl ?_
                  refine w_skip rfl rfl ?_
                  refine w_skip rfl rfl ?_
                  refine w_skip rfl rfl ?_
                  refine w_skip rfl rfl ?_
                  refine w_skip rfl rfl ?_
                  refine w_skip rfl rfl ?_
                  refine w_skip rfl rfl ?_
                  refine w_p tok rfl rfl rfl ?_
                  exact w_jn true H ⟨rfl, rfl, rfl, rfl, rfl, rfl, rfl, trivial⟩
                ·
                  refine w_p tok rfl rfl rfl ?_
                  refine w_call vote_Ballot_Won_ok (vote_Ballot_Won_ref _ _ _ H) rfl rfl rfl rfl ?_
                  rintro _ h21 ⟨r20, rfl, H⟩
                  refine w_p tok rfl rfl rfl ?_
                  refine w_p tok rfl rfl rfl ?_
                  refine w_p tok rfl rfl rfl ?_
                  refine w_call ref24_Half_ok (ref24_Half_ref _ _ _ H) rfl rfl rfl rfl ?_
                  rintro _ h23 ⟨r22, rfl, H⟩
                  refine w_p tok rfl rfl rfl ?_
                  refine w_p tok rfl rfl rfl ?_
                  refine w_p tok rfl rfl rfl ?_
                  exact w_jn (!(r20 == (decide ((t7_5.len : Int) ≥ r22)))) H ⟨rfl, rfl, rfl, rfl, rfl, rfl, rfl, trivial⟩
            ·
              refine c_seq ?_
              refine c_region ?_
              refine w_p tok rfl rfl rfl ?_
              refine w_end ?_
              refine x_seq ?_
              refine c_if H rfl (fun H => ?_) (fun H => ?_)
              ·
                refine c_region ?_
                refine w_p tok rfl rfl rfl ?_
                refine w_p tok rfl rfl rfl ?_
                refine w_p tok rfl rfl rfl ?_
                obtain ⟨a24, ha24, la24, ua24, H⟩ := H
                refine w_y (y_ixa' tok rfl rfl ha24 rfl rfl rfl la24 ua24) rfl rfl ?_
                obtain ⟨v25, hv25, H⟩ := H
                refine w_y (y_ld tok rfl rfl rfl rfl hv25) rfl rfl ?_
                obtain ⟨b26, h27, eb26, eh27, H⟩ := H
                refine w_h (h_bs tok rfl rfl rfl rfl rfl rfl rfl eb26 eh27) rfl rfl ?_
                refine w_a (a_app (s := t7_1) (r := (⟨some ⟨b26, 0, none⟩, 1, 1⟩ : Slc)) tok rfl rfl rfl rfl rfl (slcAt_push eb26 eh27) H) rfl rfl ?_
                rintro _ h29 ⟨s28, rfl, H⟩
                refine w_p tok rfl rfl rfl ?_
                refine w_end ?_
                exact x_join s28 H ⟨rfl, rfl, rfl, rfl, rfl, rfl, trivial⟩
              ·
                refine c_skip ?_
                exact x_join t7_1 H ⟨rfl, rfl, rfl, rfl, rfl, rfl, trivial⟩
      ·
        refine w_gif (d := 32) H rfl (fun H => ?_) (fun H => ?_)
        ·
          refine w_p tok rfl rfl rfl ?_
          refine w_p tok rfl rfl rfl ?_
          obtain ⟨a30, ha30, la30, ua30, H⟩ := H
          refine w_y (y_ixa' tok rfl rfl ha30 rfl rfl rfl la30 ua30) rfl rfl ?_
          obtain ⟨v31, hv31, H⟩ := H
          refine w_y (y_ld tok rfl rfl rfl rfl hv31) rfl rfl ?_
          refine w_p tok rfl rfl rfl ?_
          refine w_p tok rfl rfl rfl ?_
          refine w_p tok rfl rfl rfl ?_
          exact w_jn (decide (v31 < x5)) H ⟨rfl, rfl, rfl, rfl, rfl, rfl, rfl, trivial⟩
        ·
          refine w_skip rfl rfl ?_
          refine w_skip rfl rfl ?_
          refine w_skip rfl rfl ?_
          refine w_skip rfl rfl ?_
          refine w_skip rfl rfl ?_
          refine w_skip rfl rfl ?_
          refine w_p tok rfl rfl rfl ?_
          exact w_jn false H ⟨rfl, rfl, rfl, rfl, rfl, rfl, rfl, trivial⟩
    ·
      refine c_exit ?_
      refine x_te ?_
      refine x_te ?_
      refine x_bh ?_
      refine x_seq ?_
      refine c_weak [(0, .int .i64 p0)] ⟨rfl, trivial⟩ ?_
      refine c_seq ?_
      refine c_region ?_
      refine w_p tok rfl rfl rfl ?_
      refine w_end ?_
      refine x_seq ?_
      refine c_seq ?_
      refine c_region ?_
      refine w_p tok rfl rfl rfl ?_
      refine w_call vote_Half_ok (vote_Half_ref _ _ _ H) rfl rfl rfl rfl ?_
      rintro _ h33 ⟨r32, rfl, H⟩
      refine w_p tok rfl rfl rfl ?_
      refine w_call ref24_Half_ok (ref24_Half_ref _ _ _ H) rfl rfl rfl rfl ?_
      rintro _ h35 ⟨r34, rfl, H⟩
      refine w_p tok rfl rfl rfl ?_
      refine w_p tok rfl rfl rfl ?_
      refine w_cut 4 (α := Bool) (fun (s : Bool) => [(98, .bool s), (11, .pointer none)]) (fun (s : Bool) h => law24_VoteCounts_g7 none s k (fun s h' => I1 s h' ∧ μ1 s h' < μ1 (t7_1, t8_1) h_1) h) ?_ ?_
      ·
        rintro t98_7 h_7 H
        replace H : law24_VoteCounts_g7 none t98_7 k (fun s h' => I1 s h' ∧ μ1 s h' < μ1 (t7_1, t8_1) h_1) h_7 := H
        unfold law24_VoteCounts_g7 at H
        refine w_weak [(98, .bool t98_7), (11, .pointer none)] ⟨rfl, rfl, trivial⟩ ?_
        refine w_p tok rfl rfl rfl ?_
        refine w_cut 4 (α := Bool) (fun (s : Bool) => [(103, .bool s), (11, .pointer none)]) (fun (s : Bool) h => law24_VoteCounts_g8 none s k (fun s h' => I1 s h' ∧ μ1 s h' < μ1 (t7_1, t8_1) h_1) h) ?_ ?_
        ·
          rintro t103_8 h_8 H
          replace H : law24_VoteCounts_g8 none t103_8 k (fun s h' => I1 s h' ∧ μ1 s h' < μ1 (t7_1, t8_1) h_1) h_8 := H
          unfold law24_VoteCounts_g8 at H
          refine w_weak [(103, .bool t103_8), (11, .pointer none)] ⟨rfl, rfl, trivial⟩ ?_
          refine w_p tok rfl rfl rfl ?_
          refine w_cut 4 (α := Bool) (fun (s : Bool) => [(108, .bool s)]) (fun (s : Bool) h => law24_VoteCounts_g9 s k (fun s h' => I1 s h' ∧ μ1 s h' < μ1 (t7_1, t8_1) h_1) h) ?_ ?_
          ·
            rintro t108_9 h_9 H
            replace H : law24_VoteCounts_g9 t108_9 k (fun s h' => I1 s h' ∧ μ1 s h' < μ1 (t7_1, t8_1) h_1) h_9 := H
            unfold law24_VoteCounts_g9 at H
            refine w_weak [(108, .bool t108_9)] ⟨rfl, trivial⟩ ?_
            refine w_p tok rfl rfl rfl ?_
            refine w_cut 2 (α := Bool) (fun (s : Bool) => [(111, .bool s)]) (fun (s : Bool) h => law24_VoteCounts_g10 s k (fun s h' => I1 s h' ∧ μ1 s h' < μ1 (t7_1, t8_1) h_1) h) ?_ ?_
            ·
              rintro t111_10 h_10 H
              replace H : law24_VoteCounts_g10 t111_10 k (fun s h' => I1 s h' ∧ μ1 s h' < μ1 (t7_1, t8_1) h_1) h_10 := H
              unfold law24_VoteCounts_g10 at H
              refine w_weak [(111, .bool t111_10)] ⟨rfl, trivial⟩ ?_
              refine w_p tok rfl rfl rfl ?_
              refine w_end ?_
              refine x_seq ?_
              refine c_ret ?_
              exact x_ret _ rfl _ rfl ⟨t111_10, rfl, H⟩
            ·
              refine w_gif (d := 109) H rfl (fun H => ?_) (fun H => ?_)
              ·
                refine w_call law24_awake_ok (law24_awake_ref  _ _ H) rfl rfl rfl rfl ?_
                rintro _ h37 ⟨r36, rfl, H⟩
                refine w_p tok rfl rfl rfl ?_
                exact w_jn r36 H ⟨rfl, trivial⟩
              ·
                refine w_skip rfl rfl ?_
                refine w_p tok rfl rfl rfl ?_
                exact w_jn false H ⟨rfl, trivial⟩
          ·
            refine w_gif (d := 104) H rfl (fun H => ?_) (fun H => ?_)
            ·
              refine w_p tok rfl rfl rfl ?_
              refine w_call vote_Ballot_Won_ok (vote_Ballot_Won_ref _ _ _ H) rfl rfl rfl rfl ?_
              rintro _ h39 ⟨r38, rfl, H⟩
              refine w_p tok rfl rfl rfl ?_
              refine w_p tok rfl rfl rfl ?_
              exact w_jn (!r38) H ⟨rfl, trivial⟩
            ·
              refine w_skip rfl rfl ?_
              refine w_skip rfl rfl ?_
              refine w_skip rfl rfl ?_
              refine w_p tok rfl rfl rfl ?_
              exact w_jn false H ⟨rfl, trivial⟩
        ·
          refine w_gif (d := 99) H rfl (fun H => ?_) (fun H => ?_)
          ·
            refine w_p tok rfl rfl rfl ?_
            refine w_call vote_Ballot_Count_ok (vote_Ballot_Count_ref _ _ _ H) rfl rfl rfl rfl ?_
            rintro _ h41 ⟨r40, rfl, H⟩
            refine w_p tok rfl rfl rfl ?_
            refine w_p tok rfl rfl rfl ?_
            exact w_jn (r40 == 0) H ⟨rfl, rfl, trivial⟩
          ·
            refine w_skip rfl rfl ?_
            refine w_skip rfl rfl ?_
            refine w_skip rfl rfl ?_
            refine w_p tok rfl rfl rfl ?_
            exact w_jn false H ⟨rfl, rfl, trivial⟩
      ·
        refine w_gif (d := 94) H rfl (fun H => ?_) (fun H => ?_)
        ·
          refine w_p tok rfl rfl rfl ?_
          refine w_call vote_Ballot_Yes_ok (vote_Ballot_Yes_ref _ _ _ _ H) rfl rfl rfl rfl ?_
          rintro _ h43 ⟨r42, rfl, H⟩
          refine w_p tok rfl rfl rfl ?_
          refine w_p tok rfl rfl rfl ?_
          exact w_jn (!r42) H ⟨rfl, rfl, trivial⟩
        ·
          refine w_skip rfl rfl ?_
          refine w_skip rfl rfl ?_
          refine w_skip rfl rfl ?_
          refine w_p tok rfl rfl rfl ?_
          exact w_jn false H ⟨rfl, rfl, trivial⟩

theorem law24_VoteMeets_ok : CallOk Go.Proofs.Try.prog 11 := ⟨_, Go.Proofs.Try.func11, by kernel_rfl, by kernel_rfl⟩
theorem law24_VoteMeets_ref (p0 : Int) (p1 : Slc) (p2 : Slc) (k : (Bool) → Heap → Prop) (h : Heap) (H : law24_VoteMeets p0 p1 p2 k h) : CallsH Go.Proofs.Try.prog 11 #[.int .u8 p0, Slc.v p1, Slc.v p2] h (fun v h' => ∃ r : Bool, v = .bool r ∧ k r h') := by
  refine f_enter (N := 91) Go.Proofs.Try.func11 rfl rfl rfl (fun w0 => ?_)
  unfold law24_VoteMeets at H
  refine c_weak [(0, .int .u8 p0), (1, Slc.v p1), (2, Slc.v p2)] ⟨rfl, rfl, rfl, trivial⟩ ?_
  refine c_seq ?_
  refine c_region ?_
  refine w_p tok rfl rfl rfl ?_
  refine w_end ?_
  refine x_seq ?_
  refine c_seq ?_
  refine c_seq ?_
  refine c_region ?_
  refine w_p tok rfl rfl rfl ?_
  refine w_p tok rfl rfl rfl ?_
  refine w_p tok rfl rfl rfl ?_
  refine w_p tok rfl rfl rfl ?_
  refine w_cutU 4 [(20, .bool ((decide ((p1.len : Int) > 40)) || (decide ((p2.len : Int) > 40)))), (0, .int .u8 p0), (1, Slc.v p1), (2, Slc.v p2)] ?_ ?_
  ·
    refine w_end ?_
    refine x_seq ?_
    refine c_if H rfl (fun H => ?_) (fun H => ?_)
    ·
      refine c_seq ?_
      refine c_region ?_
      refine w_call law24_awake_ok (law24_awake_ref  _ _ H) rfl rfl rfl rfl ?_
      rintro _ h2 ⟨r1, rfl, H⟩
      refine w_p tok rfl rfl rfl ?_
      refine w_end ?_
      refine x_seq ?_
      refine c_ret ?_
      refine x_tr ?_
      exact x_ret _ rfl _ rfl ⟨r1, rfl, H⟩
    ·
      refine c_skip ?_
      refine x_seq ?_
      refine c_seq ?_
      refine c_region ?_
      refine w_p tok rfl rfl rfl ?_
      refine w_p tok rfl rfl rfl ?_
      refine w_p tok rfl rfl rfl ?_
      obtain ⟨x3, ex3, H⟩ := H
      refine w_pe tok rfl (congrArg (fun z => (.int .i64 z : Value)) ex3) rfl rfl ?_
      refine w_end ?_
      refine x_seq ?_
      refine c_seq ?_
      refine c_region ?_
      refine w_p tok rfl rfl rfl ?_
      refine w_call vote_New_ok (vote_New_ref _ _ _ H) rfl rfl rfl rfl ?_
      rintro _ h5 ⟨r4, rfl, H⟩
      refine w_p tok rfl rfl rfl ?_
      refine w_call vote_New_ok (vote_New_ref _ _ _ H) rfl rfl rfl rfl ?_
      rintro _ h7 ⟨r6, rfl, H⟩
      refine w_p tok rfl rfl rfl ?_
      refine w_call vote_New_ok (vote_New_ref _ _ _ H) rfl rfl rfl rfl ?_
      rintro _ h9 ⟨r8, rfl, H⟩
      refine w_p tok rfl rfl rfl ?_
      refine w_p tok rfl rfl rfl ?_
      refine w_p tok rfl rfl rfl ?_
      refine w_end ?_
      refine x_seq ?_
      refine c_weak [(1, Slc.v p1), (2, Slc.v p2), (8, .pointer r4), (9, .pointer r6), (10, .pointer r8)] ⟨rfl, rfl, rfl, rfl, rfl, trivial⟩ ?_
      refine c_seq ?_
      refine c_seq ?_
      refine c_region ?_
      refine w_p tok rfl rfl rfl ?_
      refine w_end ?_
      refine x_seq ?_
      refine c_block ?_
      obtain ⟨I1, μ1, H0, HI⟩ := H
      refine c_loop (σ := Int) (fun (s : Int) => [(11, .int .i64 s), (1, Slc.v p1), (2, Slc.v p2), (8, .pointer r4), (9, .pointer r6), (10, .pointer r8)]) I1 μ1 0 H0 ⟨rfl, rfl, rfl, rfl, rfl, rfl, trivial⟩ ?_
      rintro t11_1 h_1 H
      replace H := HI t11_1 h_1 H
      unfold law24_VoteMeets_l1b at H
      refine c_weak [(11, .int .i64 t11_1), (1, Slc.v p1), (2, Slc.v p2), (8, .pointer r4), (9, .pointer r6), (10, .pointer r8)] ⟨rfl, rfl, rfl, rfl, rfl, rfl, trivial⟩ ?_
      refine c_seq ?_
      refine c_seq ?_
      refine c_region ?_
      refine w_p tok rfl rfl rfl ?_
      refine w_p tok rfl rfl rfl ?_
      refine w_p tok rfl rfl rfl ?_
      refine w_p tok rfl rfl rfl ?_
      refine w_end ?_
      refine x_seq ?_
      refine c_if H rfl (fun H => ?_) (fun H => ?_)
      ·
        refine c_skip ?_
        refine x_seq ?_
        refine c_seq ?_
        refine c_block ?_
        refine c_seq ?_
        refine c_region ?_
        refine w_p tok rfl rfl rfl ?_
        refine w_p tok rfl rfl rfl ?_
        refine w_p tok rfl rfl rfl ?_
        obtain ⟨a10, ha10, la10, ua10, H⟩ := H
        refine w_y (y_ixa' tok rfl rfl ha10 rfl rfl rfl la10 ua10) rfl rfl ?_
        obtain ⟨v11, hv11, H⟩ := H
        refine w_y (y_ld tok rfl rfl rfl rfl hv11) rfl rfl ?_
        refine w_p tok rfl rfl rfl ?_
        refine w_call vote_Ballot_Yes_ok (vote_Ballot_Yes_ref _ _ _ _ H) rfl rfl rfl rfl ?_
        rintro _ h13 ⟨r12, rfl, H⟩
        refine w_end ?_
        refine x_seq ?_
        refine c_weak [(11, .int .i64 t11_1), (1, Slc.v p1), (2, Slc.v p2), (8, .pointer r4), (9, .pointer r6), (10, .pointer r8)] ⟨rfl, rfl, rfl, rfl, rfl, rfl, trivial⟩ ?_
        refine c_region ?_
        refine w_p tok rfl rfl rfl ?_
        refine w_p tok rfl rfl rfl ?_
        refine w_p tok rfl rfl rfl ?_
        obtain ⟨a14, ha14, la14, ua14, H⟩ := H
        refine w_y (y_ixa' tok rfl rfl ha14 rfl rfl rfl la14 ua14) rfl rfl ?_
        obtain ⟨v15, hv15, H⟩ := H
        refine w_y (y_ld tok rfl rfl rfl rfl hv15) rfl rfl ?_
        refine w_p tok rfl rfl rfl ?_
        refine w_call vote_Ballot_Yes_ok (vote_Ballot_Yes_ref _ _ _ _ H) rfl rfl rfl rfl ?_
        rintro _ h17 ⟨r16, rfl, H⟩
        refine w_end ?_
        refine x_blk ?_
        refine x_seq ?_
        refine c_weak [(11, .int .i64 t11_1), (1, Slc.v p1), (2, Slc.v p2), (8, .pointer r4), (9, .pointer r6), (10, .pointer r8)] ⟨rfl, rfl, rfl, rfl, rfl, rfl, trivial⟩ ?_
        refine c_region ?_
        refine w_p tok rfl rfl rfl ?_
        refine w_p tok rfl rfl rfl ?_
        obtain ⟨x18, ex18, H⟩ := H
        refine w_pe tok rfl (congrArg (fun z => (.int .i64 z : Value)) ex18) rfl rfl ?_
        refine w_end ?_
        exact x_join x18 H ⟨rfl, rfl, rfl, rfl, rfl, rfl, trivial⟩
      ·
        refine c_exit ?_
        refine x_te ?_
        refine x_te ?_
        refine x_bh ?_
        refine x_seq ?_
        refine c_seq ?_
        refine c_seq ?_
        refine c_region ?_
        refine w_p tok rfl rfl rfl ?_
        refine w_end ?_
        refine x_seq ?_
        refine c_block ?_
        obtain ⟨I2, μ2, H0, HI⟩ := H
        refine c_loop (σ := Int) (fun (s : Int) => [(12, .int .i64 s), (2, Slc.v p2), (8, .pointer r4), (9, .pointer r6), (10, .pointer r8)]) I2 μ2 0 H0 ⟨rfl, rfl, rfl, rfl, rfl, trivial⟩ ?_
        rintro t12_2 h_2 H
        replace H := HI t12_2 h_2 H
        unfold law24_VoteMeets_l2b at H
        refine c_weak [(12, .int .i64 t12_2), (2, Slc.v p2), (8, .pointer r4), (9, .pointer r6), (10, .pointer r8)] ⟨rfl, rfl, rfl, rfl, rfl, trivial⟩ ?_
        refine c_seq ?_
        refine c_seq ?_
        refine c_region ?_
        refine w_p tok rfl rfl rfl ?_
        refine w_p tok rfl rfl rfl ?_
        refine w_p tok rfl rfl rfl ?_
        refine w_p tok rfl rfl rfl ?_
        refine w_end ?_
        refine x_seq ?_
        refine c_if H rfl (fun H => ?_) (fun H => ?_)
        ·
          refine c_skip ?_
          refine x_seq ?_
          refine c_seq ?_
          refine c_block ?_
          refine c_seq ?_
          refine c_region ?_
          refine w_p tok rfl rfl rfl ?_
          refine w_p tok rfl rfl rfl ?_
          refine w_p tok rfl rfl rfl ?_
          obtain ⟨a19, ha19, la19, ua19, H⟩ := H
          refine w_y (y_ixa' tok rfl rfl ha19 rfl rfl rfl la19 ua19) rfl rfl ?_
          obtain ⟨v20, hv20, H⟩ := H
          refine w_y (y_ld tok rfl rfl rfl rfl hv20) rfl rfl ?_
          refine w_p tok rfl rfl rfl ?_
          refine w_call vote_Ballot_Yes_ok (vote_Ballot_Yes_ref _ _ _ _ H) rfl rfl rfl rfl ?_
          rintro _ h22 ⟨r21, rfl, H⟩
          refine w_end ?_
          refine x_seq ?_
          refine c_weak [(12, .int .i64 t12_2), (2, Slc.v p2), (8, .pointer r4), (9, .pointer r6), (10, .pointer r8)] ⟨rfl, rfl, rfl, rfl, rfl, trivial⟩ ?_
          refine c_region ?_
          refine w_p tok rfl rfl rfl ?_
          refine w_p tok rfl rfl rfl ?_
          refine w_p tok rfl rfl rfl ?_
          obtain ⟨a23, ha23, la23, ua23, H⟩ := H
          refine w_y (y_ixa' tok rfl rfl ha23 rfl rfl rfl la23 ua23) rfl rfl ?_
          obtain ⟨v24, hv24, H⟩ := H
          refine w_y (y_ld tok rfl rfl rfl rfl hv24) rfl rfl ?_
          refine w_p tok rfl rfl rfl ?_
          refine w_call vote_Ballot_Yes_ok (vote_Ballot_Yes_ref _ _ _ _ H) rfl rfl rfl rfl ?_
          rintro _ h26 ⟨r25, rfl, H⟩
          refine w_end ?_
          refine x_blk ?_
          refine x_seq ?_
          refine c_weak [(12, .int .i64 t12_2), (2, Slc.v p2), (8, .pointer r4), (9, .pointer r6), (10, .pointer r8)] ⟨rfl, rfl, rfl, rfl, rfl, trivial⟩ ?_
          refine c_region ?_
          refine w_p tok rfl rfl rfl ?_
          refine w_p tok rfl rfl rfl ?_
          obtain ⟨x27, ex27, H⟩ := H
          refine w_pe tok rfl (congrArg (fun z => (.int .i64 z : Value)) ex27) rfl rfl ?_
          refine w_end ?_
          exact x_join x27 H ⟨rfl, rfl, rfl, rfl, rfl, trivial⟩
        ·
          refine c_exit ?_
          refine x_te ?_
          refine x_te ?_
          refine x_bh ?_
          refine x_seq ?_
          refine c_seq ?_
          refine c_seq ?_
          refine c_region ?_
          refine w_p tok rfl rfl rfl ?_
          refine w_call vote_Ballot_Won_ok (vote_Ballot_Won_ref _ _ _ H) rfl rfl rfl rfl ?_
          rintro _ h29 ⟨r28, rfl, H⟩
          refine w_p tok rfl rfl rfl ?_
          refine w_p tok rfl rfl rfl ?_
          refine w_cut 4 (α := Bool) (fun (s : Bool) => [(78, .bool s), (8, .pointer r4), (9, .pointer r6), (10, .pointer r8)]) (fun (s : Bool) h => law24_VoteMeets_g3 r4 r6 r8 s k (fun s h' => I1 s h' ∧ μ1 s h' < μ1 t11_1 h_1) (fun s h' => I2 s h' ∧ μ2 s h' < μ2 t12_2 h_2) h) ?_ ?_
          ·
            rintro t78_3 h_3 H
            replace H : law24_VoteMeets_g3 r4 r6 r8 t78_3 k (fun s h' => I1 s h' ∧ μ1 s h' < μ1 t11_1 h_1) (fun s h' => I2 s h' ∧ μ2 s h' < μ2 t12_2 h_2) h_3 := H
            unfold law24_VoteMeets_g3 at H
            refine w_weak [(78, .bool t78_3), (8, .pointer r4), (9, .pointer r6), (10, .pointer r8)] ⟨rfl, rfl, rfl, rfl, trivial⟩ ?_
            refine w_end ?_
            refine x_seq ?_
            refine c_if H rfl (fun H => ?_) (fun H => ?_)
            ·
              refine c_seq ?_
              refine c_region ?_
              refine w_call law24_awake_ok (law24_awake_ref  _ _ H) rfl rfl rfl rfl ?_
              rintro _ h31 ⟨r30, rfl, H⟩
              refine w_p tok rfl rfl rfl ?_
              refine w_end ?_
              refine x_seq ?_
              refine c_ret ?_
              refine x_tr ?_
              exact x_ret _ rfl _ rfl ⟨r30, rfl, H⟩
            ·
              refine c_skip ?_
              refine x_seq ?_
              refine c_seq ?_
              refine c_region ?_
              refine w_p tok rfl rfl rfl ?_
              refine w_call vote_Ballot_Count_ok (vote_Ballot_Count_ref _ _ _ H) rfl rfl rfl rfl ?_
              rintro _ h33 ⟨r32, rfl, H⟩
              refine w_p tok rfl rfl rfl ?_
              refine w_call vote_Ballot_Count_ok (vote_Ballot_Count_ref _ _ _ H) rfl rfl rfl rfl ?_
              rintro _ h35 ⟨r34, rfl, H⟩
              refine w_p tok rfl rfl rfl ?_
              refine w_p tok rfl rfl rfl ?_
              refine w_call vote_Ballot_Count_ok (vote_Ballot_Count_ref _ _ _ H) rfl rfl rfl rfl ?_
              rintro _ h37 ⟨r36, rfl, H⟩
              refine w_p tok rfl rfl rfl ?_
              refine w_p tok rfl rfl rfl ?_
              refine w_cut 2 (α := Bool) (fun (s : Bool) => [(90, .bool s)]) (fun (s : Bool) h => law24_VoteMeets_g4 s k (fun s h' => I1 s h' ∧ μ1 s h' < μ1 t11_1 h_1) (fun s h' => I2 s h' ∧ μ2 s h' < μ2 t12_2 h_2) h) ?_ ?_
              ·
                rintro t90_4 h_4 H
                replace H : law24_VoteMeets_g4 t90_4 k (fun s h' => I1 s h' ∧ μ1 s h' < μ1 t11_1 h_1) (fun s h' => I2 s h' ∧ μ2 s h' < μ2 t12_2 h_2) h_4 := H
                unfold law24_VoteMeets_g4 at H
                refine w_weak [(90, .bool t90_4)] ⟨rfl, trivial⟩ ?_
                refine w_p tok rfl rfl rfl ?_
                refine w_end ?_
                refine x_seq ?_
                refine c_ret ?_
                exact x_ret _ rfl _ rfl ⟨t90_4, rfl, H⟩
              ·
                refine w_gif (d := 88) H rfl (fun H => ?_) (fun H => ?_)
                ·
                  refine w_call law24_awake_ok (law24_awake_ref  _ _ H) rfl rfl rfl rfl ?_
                  rintro _ h39 ⟨r38, rfl, H⟩
                  refine w_p tok rfl rfl rfl ?_
                  exact w_jn r38 H ⟨rfl, trivial⟩
                ·
                  refine w_skip rfl rfl ?_
                  refine w_p tok rfl rfl rfl ?_
                  exact w_jn false H ⟨rfl, trivial⟩
          ·
            refine w_gif (d := 74) H rfl (fun H => ?_) (fun H => ?_)
            ·
              refine w_skip rfl rfl ?_
              refine w_skip rfl rfl ?_
              refine w_skip rfl rfl ?_
              refine w_p tok rfl rfl rfl ?_
              exact w_jn true H ⟨rfl, rfl, rfl, rfl, trivial⟩
            ·
              refine w_p tok rfl rfl rfl ?_
              refine w_call vote_Ballot_Won_ok (vote_Ballot_Won_ref _ _ _ H) rfl rfl rfl rfl ?_
              rintro _ h41 ⟨r40, rfl, H⟩
              refine w_p tok rfl rfl rfl ?_
              refine w_p tok rfl rfl rfl ?_
              exact w_jn (!r40) H ⟨rfl, rfl, rfl, rfl, trivial⟩
  ·
    refine w_gs (d := 16) rfl (fun hb => ?_) (fun hb => ?_)
    ·
      refine w_skip rfl rfl ?_
      refine w_skip rfl rfl ?_
      refine w_skip rfl rfl ?_
      refine w_p tok rfl rfl rfl ?_
      refine w_jn () rfl ⟨?_, rfl, rfl, rfl, trivial⟩
      exact congrArg (fun b => some (Value.bool b)) (or_t hb)
    ·
      refine w_p tok rfl rfl rfl ?_
      refine w_p tok rfl rfl rfl ?_
      refine w_p tok rfl rfl rfl ?_
      refine w_p tok rfl rfl rfl ?_
      refine w_jn () rfl ⟨?_, rfl, rfl, rfl, trivial⟩
      exact congrArg (fun b => some (Value.bool b)) (or_f hb)
end Go.Q.Yb

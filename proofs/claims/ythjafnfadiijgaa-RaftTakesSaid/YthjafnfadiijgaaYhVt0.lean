/- A part of the proof of statements of this seat: lemmas, no statement of their own. -/
import Derived.Test.YthjafnfadiijgaaYhTab
import Derived.Test.YthjafnfadiijgaaQDraw2
import Derived.Test.YthjafnfadiijgaaQZa
-- squeezed
set_option linter.unusedVariables false
set_option maxRecDepth 100000
set_option maxHeartbeats 1000000
namespace Go.Q.Yh
/-- math bits.OnesCount64 -/
def math_bits_OnesCount64 (p0 : Int) (k : (Int) → Heap → Prop) (h : Heap) : Prop :=
 ∃ x1 : Int, x1 = (IntKind.u64.wrap ((bwAnd .u64 (shr .u64 p0 (1 : Int).toNat) 6148914691236517205) + (bwAnd .u64 p0 6148914691236517205))) ∧ (∃ x2 : Int, x2 = (IntKind.u64.wrap ((bwAnd .u64 (shr .u64 x1 (2 : Int).toNat) 3689348814741910323) + (bwAnd .u64 x1 3689348814741910323))) ∧ (∃ x3 : Int, x3 = (bwAnd .u64 (IntKind.u64.wrap ((shr .u64 x2 (4 : Int).toNat) + x2)) 1085102592571150095) ∧ (∃ x4 : Int, x4 = (IntKind.u64.wrap (x3 + (shr .u64 x3 (8 : Int).toNat))) ∧ (∃ x5 : Int, x5 = (IntKind.u64.wrap (x4 + (shr .u64 x4 (16 : Int).toNat))) ∧ (∃ x6 : Int, x6 = (IntKind.u64.wrap (x5 + (shr .u64 x5 (32 : Int).toNat))) ∧ (∃ x7 : Int, x7 = (bwAnd .i64 (IntKind.i64.wrap x6) 127) ∧ (k x7 h)))))))

/-- math bits.Len32 -/
def math_bits_Len32_j2 (t0_2 : Int) (t2_2 : Int) (k : (Int) → Heap → Prop) (h_2 : Heap) : Prop :=
 ∃ v1 : Int, (0 : Int) ≤ (IntKind.u8.wrap t0_2) ∧ StrAt (⟨#[0, 1, 2, 2, 3, 3, 3, 3, 4, 4, 4, 4, 4, 4, 4, 4, 5, 5, 5, 5, 5, 5, 5, 5, 5, 5, 5, 5, 5, 5, 5, 5, 6, 6, 6, 6, 6, 6, 6, 6, 6, 6, 6, 6, 6, 6, 6, 6, 6, 6, 6, 6, 6, 6, 6, 6, 6, 6, 6, 6, 6, 6, 6, 6, 7, 7, 7, 7, 7, 7, 7, 7, 7, 7, 7, 7, 7, 7, 7, 7, 7, 7, 7, 7, 7, 7, 7, 7, 7, 7, 7, 7, 7, 7, 7, 7, 7, 7, 7, 7, 7, 7, 7, 7, 7, 7, 7, 7, 7, 7, 7, 7, 7, 7, 7, 7, 7, 7, 7, 7, 7, 7, 7, 7, 7, 7, 7, 7, 8, 8, 8, 8, 8, 8, 8, 8, 8, 8, 8, 8, 8, 8, 8, 8, 8, 8, 8, 8, 8, 8, 8, 8, 8, 8, 8, 8, 8, 8, 8, 8, 8, 8, 8, 8, 8, 8, 8, 8, 8, 8, 8, 8, 8, 8, 8, 8, 8, 8, 8, 8, 8, 8, 8, 8, 8, 8, 8, 8, 8, 8, 8, 8, 8, 8, 8, 8, 8, 8, 8, 8, 8, 8, 8, 8, 8, 8, 8, 8, 8, 8, 8, 8, 8, 8, 8, 8, 8, 8, 8, 8, 8, 8, 8, 8, 8, 8, 8, 8, 8, 8, 8, 8, 8, 8, 8, 8, 8, 8, 8, 8, 8, 8, 8, 8, 8, 8, 8, 8, 8, 8, 8, 8, 8, 8, 8, 8]⟩ : ByteArray) (IntKind.u8.wrap t0_2) v1 ∧ (∃ x2 : Int, x2 = (IntKind.i64.wrap (t2_2 + (IntKind.i64.wrap v1))) ∧ (k x2 h_2))
def math_bits_Len32_j1 (t0_1 : Int) (t2_1 : Int) (k : (Int) → Heap → Prop) (h_1 : Heap) : Prop :=
 if (decide (t0_1 ≥ 256)) then (∃ x3 : Int, x3 = (shr .u32 t0_1 (8 : Int).toNat) ∧ (∃ x4 : Int, x4 = (IntKind.i64.wrap (t2_1 + 8)) ∧ (math_bits_Len32_j2 x3 x4 k h_1))) else (math_bits_Len32_j2 t0_1 t2_1 k h_1)
def math_bits_Len32 (p0 : Int) (k : (Int) → Heap → Prop) (h : Heap) : Prop :=
 if (decide (p0 ≥ 65536)) then (∃ x5 : Int, x5 = (shr .u32 p0 (16 : Int).toNat) ∧ (math_bits_Len32_j1 x5 16 k h)) else (math_bits_Len32_j1 p0 0 k h)

/-- math bits.Len64 -/
def math_bits_Len64_j3 (t0_3 : Int) (t2_3 : Int) (k : (Int) → Heap → Prop) (h_3 : Heap) : Prop :=
 ∃ v1 : Int, (0 : Int) ≤ (IntKind.u8.wrap t0_3) ∧ StrAt (⟨#[0, 1, 2, 2, 3, 3, 3, 3, 4, 4, 4, 4, 4, 4, 4, 4, 5, 5, 5, 5, 5, 5, 5, 5, 5, 5, 5, 5, 5, 5, 5, 5, 6, 6, 6, 6, 6, 6, 6, 6, 6, 6, 6, 6, 6, 6, 6, 6, 6, 6, 6, 6, 6, 6, 6, 6, 6, 6, 6, 6, 6, 6, 6, 6, 7, 7, 7, 7, 7, 7, 7, 7, 7, 7, 7, 7, 7, 7, 7, 7, 7, 7, 7, 7, 7, 7, 7, 7, 7, 7, 7, 7, 7, 7, 7, 7, 7, 7, 7, 7, 7, 7, 7, 7, 7, 7, 7, 7, 7, 7, 7, 7, 7, 7, 7, 7, 7, 7, 7, 7, 7, 7, 7, 7, 7, 7, 7, 7, 8, 8, 8, 8, 8, 8, 8, 8, 8, 8, 8, 8, 8, 8, 8, 8, 8, 8, 8, 8, 8, 8, 8, 8, 8, 8, 8, 8, 8, 8, 8, 8, 8, 8, 8, 8, 8, 8, 8, 8, 8, 8, 8, 8, 8, 8, 8, 8, 8, 8, 8, 8, 8, 8, 8, 8, 8, 8, 8, 8, 8, 8, 8, 8, 8, 8, 8, 8, 8, 8, 8, 8, 8, 8, 8, 8, 8, 8, 8, 8, 8, 8, 8, 8, 8, 8, 8, 8, 8, 8, 8, 8, 8, 8, 8, 8, 8, 8, 8, 8, 8, 8, 8, 8, 8, 8, 8, 8, 8, 8, 8, 8, 8, 8, 8, 8, 8, 8, 8, 8, 8, 8, 8, 8, 8, 8, 8, 8]⟩ : ByteArray) (IntKind.u8.wrap t0_3) v1 ∧ (∃ x2 : Int, x2 = (IntKind.i64.wrap (t2_3 + (IntKind.i64.wrap v1))) ∧ (k x2 h_3))
def math_bits_Len64_j2 (t0_2 : Int) (t2_2 : Int) (k : (Int) → Heap → Prop) (h_2 : Heap) : Prop :=
 if (decide (t0_2 ≥ 256)) then (∃ x3 : Int, x3 = (shr .u64 t0_2 (8 : Int).toNat) ∧ (∃ x4 : Int, x4 = (IntKind.i64.wrap (t2_2 + 8)) ∧ (math_bits_Len64_j3 x3 x4 k h_2))) else (math_bits_Len64_j3 t0_2 t2_2 k h_2)
def math_bits_Len64_j1 (t0_1 : Int) (t2_1 : Int) (k : (Int) → Heap → Prop) (h_1 : Heap) : Prop :=
 if (decide (t0_1 ≥ 65536)) then (∃ x5 : Int, x5 = (shr .u64 t0_1 (16 : Int).toNat) ∧ (∃ x6 : Int, x6 = (IntKind.i64.wrap (t2_1 + 16)) ∧ (math_bits_Len64_j2 x5 x6 k h_1))) else (math_bits_Len64_j2 t0_1 t2_1 k h_1)
def math_bits_Len64 (p0 : Int) (k : (Int) → Heap → Prop) (h : Heap) : Prop :=
 if (decide (p0 ≥ 4294967296)) then (∃ x7 : Int, x7 = (shr .u64 p0 (32 : Int).toNat) ∧ (math_bits_Len64_j1 x7 32 k h)) else (math_bits_Len64_j1 p0 0 k h)

/-- math bits.Len -/
def math_bits_Len (p0 : Int) (k : (Int) → Heap → Prop) (h : Heap) : Prop :=
 if false then (math_bits_Len32 (IntKind.u32.wrap p0) (fun (r1 : Int) h2 => k r1 h2) h) else (math_bits_Len64 p0 (fun (r3 : Int) h4 => k r3 h4) h)

/-- cmp.isNaN uint64  -/
def cmp_isNaN_uint64 (p0 : Int) (k : (Bool) → Heap → Prop) (h : Heap) : Prop :=
 k (p0 != p0) h

/-- cmp.Less uint64  -/
def cmp_Less_uint64_g1 (t0_1 : Int) (t1_1 : Int) (t11_1 : Bool) (k : (Bool) → Heap → Prop) (h_1 : Heap) : Prop :=
 k (t11_1 || (decide (t0_1 < t1_1))) h_1
def cmp_Less_uint64 (p0 : Int) (p1 : Int) (k : (Bool) → Heap → Prop) (h : Heap) : Prop :=
 cmp_isNaN_uint64 p0 (fun (r1 : Bool) h2 => if r1 then (cmp_isNaN_uint64 p1 (fun (r3 : Bool) h4 => cmp_Less_uint64_g1 p0 p1 (!r3) k h4) h2) else (cmp_Less_uint64_g1 p0 p1 false k h2)) h

/-- slices.insertionSortOrdered uint64  -/
def slices_insertionSortOrdered_uint64_j3 (t0_3 : Slc) (t1_3 : Int) (t2_3 : Int) (t6_3 : Int) (t7_3 : Int) (t30_3 : Bool) (k : (Unit) → Heap → Prop) (nx1 : (Int) → Heap → Prop) (nx2 : (Int) → Heap → Prop) (h_3 : Heap) : Prop :=
 if t30_3 then (∃ a2 : Addr, t0_3.a = some a2 ∧ (0 : Int) ≤ (IntKind.i64.wrap (t7_3 - 1)) ∧ (IntKind.i64.wrap (t7_3 - 1)) < (t0_3.len : Int) ∧ (∃ v3 : Int, cellH h_3 (a2.add ((IntKind.i64.wrap (t7_3 - 1)).toNat * 1)) = some (.int .u64 v3) ∧ (∃ a4 : Addr, t0_3.a = some a4 ∧ (0 : Int) ≤ t7_3 ∧ t7_3 < (t0_3.len : Int) ∧ (∃ v5 : Int, cellH h_3 (a4.add (t7_3.toNat * 1)) = some (.int .u64 v5) ∧ (∃ a6 : Addr, t0_3.a = some a6 ∧ (0 : Int) ≤ t7_3 ∧ t7_3 < (t0_3.len : Int) ∧ (∃ h7 : Heap, WrH h_3 (a6.add (t7_3.toNat * 1)) ∧ h7 = setH h_3 (a6.add (t7_3.toNat * 1)) (.int .u64 v3) ∧ (∃ a8 : Addr, t0_3.a = some a8 ∧ (0 : Int) ≤ (IntKind.i64.wrap (t7_3 - 1)) ∧ (IntKind.i64.wrap (t7_3 - 1)) < (t0_3.len : Int) ∧ (∃ h9 : Heap, WrH h7 (a8.add ((IntKind.i64.wrap (t7_3 - 1)).toNat * 1)) ∧ h9 = setH h7 (a8.add ((IntKind.i64.wrap (t7_3 - 1)).toNat * 1)) (.int .u64 v5) ∧ (∃ x10 : Int, x10 = (IntKind.i64.wrap (t7_3 - 1)) ∧ (nx2 x10 h9)))))))))) else (∃ x11 : Int, x11 = (IntKind.i64.wrap (t6_3 + 1)) ∧ (nx1 x11 h_3))
def slices_insertionSortOrdered_uint64_l2b (t0_2 : Slc) (t1_2 : Int) (t2_2 : Int) (t6_2 : Int) (t7_2 : Int) (k : (Unit) → Heap → Prop) (nx1 : (Int) → Heap → Prop) (nx2 : (Int) → Heap → Prop) (h_2 : Heap) : Prop :=
 if (decide (t7_2 > t1_2)) then (∃ a12 : Addr, t0_2.a = some a12 ∧ (0 : Int) ≤ t7_2 ∧ t7_2 < (t0_2.len : Int) ∧ (∃ v13 : Int, cellH h_2 (a12.add (t7_2.toNat * 1)) = some (.int .u64 v13) ∧ (∃ a14 : Addr, t0_2.a = some a14 ∧ (0 : Int) ≤ (IntKind.i64.wrap (t7_2 - 1)) ∧ (IntKind.i64.wrap (t7_2 - 1)) < (t0_2.len : Int) ∧ (∃ v15 : Int, cellH h_2 (a14.add ((IntKind.i64.wrap (t7_2 - 1)).toNat * 1)) = some (.int .u64 v15) ∧ (cmp_Less_uint64 v13 v15 (fun (r16 : Bool) h17 => slices_insertionSortOrdered_uint64_j3 t0_2 t1_2 t2_2 t6_2 t7_2 r16 k nx1 nx2 h17) h_2))))) else (slices_insertionSortOrdered_uint64_j3 t0_2 t1_2 t2_2 t6_2 t7_2 false k nx1 nx2 h_2)
def slices_insertionSortOrdered_uint64_l2 (t0_2 : Slc) (t1_2 : Int) (t2_2 : Int) (t6_2 : Int) (i7 : Int) (k : (Unit) → Heap → Prop) (nx1 : (Int) → Heap → Prop) (h : Heap) : Prop :=
 ∃ (I : Int → Heap → Prop) (μ : Int → Heap → Nat), I i7 h ∧ ∀ (t7_2 : Int) (h : Heap), I t7_2 h → slices_insertionSortOrdered_uint64_l2b t0_2 t1_2 t2_2 t6_2 t7_2 k nx1 (fun s h' => I s h' ∧ μ s h' < μ t7_2 h) h
def slices_insertionSortOrdered_uint64_l1b (t0_1 : Slc) (t1_1 : Int) (t2_1 : Int) (t6_1 : Int) (k : (Unit) → Heap → Prop) (nx1 : (Int) → Heap → Prop) (h_1 : Heap) : Prop :=
 if (decide (t6_1 < t2_1)) then (slices_insertionSortOrdered_uint64_l2 t0_1 t1_1 t2_1 t6_1 t6_1 k nx1 h_1) else (k () h_1)
def slices_insertionSortOrdered_uint64_l1 (t0_1 : Slc) (t1_1 : Int) (t2_1 : Int) (i6 : Int) (k : (Unit) → Heap → Prop) (h : Heap) : Prop :=
 ∃ (I : Int → Heap → Prop) (μ : Int → Heap → Nat), I i6 h ∧ ∀ (t6_1 : Int) (h : Heap), I t6_1 h → slices_insertionSortOrdered_uint64_l1b t0_1 t1_1 t2_1 t6_1 k (fun s h' => I s h' ∧ μ s h' < μ t6_1 h) h
def slices_insertionSortOrdered_uint64 (p0 : Slc) (p1 : Int) (p2 : Int) (k : (Unit) → Heap → Prop) (h : Heap) : Prop :=
 ∃ x1 : Int, x1 = (IntKind.i64.wrap (p1 + 1)) ∧ (slices_insertionSortOrdered_uint64_l1 p0 p1 p2 x1 k h)

/-- quaestor vote.Half -/
def vote_Half (p0 : Int) (k : (Int) → Heap → Prop) (h : Heap) : Prop :=
 ∃ x1 : Int, x1 = (IntKind.i64.wrap ((shr .i64 (if 0 > p0 then 0 else p0) (1 : Int).toNat) + 1)) ∧ (k x1 h)

/-- quaestor vote.New -/
def vote_New (p0 : Int) (k : (Option Addr) → Heap → Prop) (h : Heap) : Prop :=
 ∃ (b1 : Nat) (h2 : Heap), b1 = h.size ∧ h2 = h.push (.cells (S_vote_Ballot.cs (⟨(if (if 32 < p0 then 32 else p0) > 0 then (if 32 < p0 then 32 else p0) else 0), 0⟩ : S_vote_Ballot)).toArray 123) ∧ (k (some (⟨b1, 0, none⟩ : Addr)) h2)

/-- (*quaestor vote.Ballot).Yes -/
def vote_Ballot_Yes_g2 (t0_2 : Option Addr) (t1_2 : Int) (t29_2 : Bool) (k : (Bool) → Heap → Prop) (h_2 : Heap) : Prop :=
 if t29_2 then (k false h_2) else (∃ a1 : Addr, t0_2 = some a1 ∧ (∃ v2 : Int, cellH h_2 (a1.add 1) = some (.int .u64 v2) ∧ ((0 : Int) ≤ (IntKind.u64.wrap t1_2) ∧ (∃ h4 : Heap, WrH h_2 (a1.add 1) ∧ h4 = setH h_2 (a1.add 1) (.int .u64 (bwOr .u64 v2 (shl .u64 1 (IntKind.u64.wrap t1_2).toNat))) ∧ (k true h4)))))
def vote_Ballot_Yes_g1 (t0_1 : Option Addr) (t1_1 : Int) (t18_1 : Bool) (k : (Bool) → Heap → Prop) (h_1 : Heap) : Prop :=
 if t18_1 then (vote_Ballot_Yes_g2 t0_1 t1_1 true k h_1) else (∃ a5 : Addr, t0_1 = some a5 ∧ (∃ v6 : Int, cellH h_1 (a5.add 1) = some (.int .u64 v6) ∧ ((0 : Int) ≤ (IntKind.u64.wrap t1_1) ∧ (vote_Ballot_Yes_g2 t0_1 t1_1 ((bwAnd .u64 (shr .u64 v6 (IntKind.u64.wrap t1_1).toNat) 1) == 1) k h_1))))
def vote_Ballot_Yes (p0 : Option Addr) (p1 : Int) (k : (Bool) → Heap → Prop) (h : Heap) : Prop :=
 if ((p0.isNone) || (decide (p1 < 0))) then (vote_Ballot_Yes_g1 p0 p1 true k h) else (∃ a8 : Addr, p0 = some a8 ∧ (∃ v9 : Int, cellH h a8 = some (.int .i64 v9) ∧ (vote_Ballot_Yes_g1 p0 p1 (decide (p1 ≥ v9)) k h)))

/-- (*quaestor vote.Ballot).Count -/
def vote_Ballot_Count (p0 : Option Addr) (k : (Int) → Heap → Prop) (h : Heap) : Prop :=
 if (p0.isNone) then (k 0 h) else (∃ a1 : Addr, p0 = some a1 ∧ (∃ v2 : Int, cellH h (a1.add 1) = some (.int .u64 v2) ∧ (math_bits_OnesCount64 v2 (fun (r3 : Int) h4 => k r3 h4) h)))

/-- (*quaestor vote.Ballot).Won -/
def vote_Ballot_Won_j1 (t2_1 : Bool) (k : (Bool) → Heap → Prop) (h_1 : Heap) : Prop :=
 k t2_1 h_1
def vote_Ballot_Won (p0 : Option Addr) (k : (Bool) → Heap → Prop) (h : Heap) : Prop :=
 if (!p0.isNone) then (∃ a1 : Addr, p0 = some a1 ∧ (∃ v2 : Int, cellH h a1 = some (.int .i64 v2) ∧ (vote_Ballot_Count p0 (fun (r3 : Int) h4 => cellH h4 a1 = some (.int .i64 v2) ∧ (vote_Half v2 (fun (r6 : Int) h7 => vote_Ballot_Won_j1 (decide (r3 ≥ r6)) k h7) h4)) h))) else (vote_Ballot_Won_j1 false k h)

theorem math_bits_OnesCount64_ok : CallOk Go.Proofs.Try.prog 85 := ⟨_, Go.Proofs.Try.func85, by kernel_rfl, by kernel_rfl⟩
theorem math_bits_OnesCount64_ref (p0 : Int) (k : (Int) → Heap → Prop) (h : Heap) (H : math_bits_OnesCount64 p0 k h) : CallsH Go.Proofs.Try.prog 85 #[.int .u64 p0] h (fun v h' => ∃ r : Int, v = .int .i64 r ∧ k r h') := by
 refine f_enter (N := 35) Go.Proofs.Try.func85 rfl rfl rfl (fun w0 => ?_)
 unfold math_bits_OnesCount64 at H
 refine c_weak [(0, .int .u64 p0)] ⟨rfl, trivial⟩ ?_
 refine c_seq (c_region ?_)
 refine wP tok ?_
 refine w_end (x_seq ?_)
 refine c_seq (c_region ?_)
 iterate 6 refine wP tok ?_
 obtain ⟨x1, ex1, H⟩ := H
 refine w_pe tok rfl (congrArg (fun z => (.int .u64 z : Value)) ex1) rfl rfl ?_
 refine w_end (x_seq ?_)
 refine c_weak [(0, .int .u64 x1)] ⟨rfl, trivial⟩ ?_
 refine c_seq (c_region ?_)
 iterate 6 refine wP tok ?_
 obtain ⟨x2, ex2, H⟩ := H
 refine w_pe tok rfl (congrArg (fun z => (.int .u64 z : Value)) ex2) rfl rfl ?_
 refine w_end (x_seq ?_)
 refine c_seq (c_region ?_)
 iterate 5 refine wP tok ?_
 obtain ⟨x3, ex3, H⟩ := H
 refine w_pe tok rfl (congrArg (fun z => (.int .u64 z : Value)) ex3) rfl rfl ?_
 refine w_end (x_seq ?_)
 refine c_weak [(0, .int .u64 x3)] ⟨rfl, trivial⟩ ?_
 refine c_seq (c_region ?_)
 iterate 4 refine wP tok ?_
 obtain ⟨x4, ex4, H⟩ := H
 refine w_pe tok rfl (congrArg (fun z => (.int .u64 z : Value)) ex4) rfl rfl ?_
 refine w_end (x_seq ?_)
 refine c_seq (c_region ?_)
 iterate 4 refine wP tok ?_
 obtain ⟨x5, ex5, H⟩ := H
 refine w_pe tok rfl (congrArg (fun z => (.int .u64 z : Value)) ex5) rfl rfl ?_
 refine w_end (x_seq ?_)
 refine c_weak [(0, .int .u64 x5)] ⟨rfl, trivial⟩ ?_
 refine c_seq (c_region ?_)
 iterate 4 refine wP tok ?_
 obtain ⟨x6, ex6, H⟩ := H
 refine w_pe tok rfl (congrArg (fun z => (.int .u64 z : Value)) ex6) rfl rfl ?_
 refine w_end (x_seq ?_)
 refine c_seq (c_region ?_)
 iterate 3 refine wP tok ?_
 obtain ⟨x7, ex7, H⟩ := H
 refine w_pe tok rfl (congrArg (fun z => (.int .i64 z : Value)) ex7) rfl rfl ?_
 refine w_end (x_seq ?_)
 refine c_weak [(2, .int .i64 x7)] ⟨rfl, trivial⟩ ?_
 refine c_ret ?_
 exact x_ret _ rfl _ rfl ⟨x7, rfl, H⟩

theorem math_bits_Len32_ok : CallOk Go.Proofs.Try.prog 106 := ⟨_, Go.Proofs.Try.func106, by kernel_rfl, by kernel_rfl⟩
theorem math_bits_Len32_ref (p0 : Int) (k : (Int) → Heap → Prop) (h : Heap) (H : math_bits_Len32 p0 k h) : CallsH Go.Proofs.Try.prog 106 #[.int .u32 p0] h (fun v h' => ∃ r : Int, v = .int .i64 r ∧ k r h') := by
 refine f_enter (N := 19) Go.Proofs.Try.func106 rfl rfl rfl (fun w0 => ?_)
 unfold math_bits_Len32 at H
 refine c_weak [(0, .int .u32 p0)] ⟨rfl, trivial⟩ ?_
 refine c_seq (c_region ?_)
 refine wP tok ?_
 refine w_end (x_seq ?_)
 refine c_seqJ (α := Int × Int) (fun (s : Int × Int) => [(0, .int .u32 s.1), (2, .int .i64 s.2)]) (fun (s : Int × Int) h => math_bits_Len32_j1 s.1 s.2 k h) ?_ ?_
 ·
  rintro ⟨t0_1, t2_1⟩ h_1 H
  replace H : math_bits_Len32_j1 t0_1 t2_1 k h_1 := H
  unfold math_bits_Len32_j1 at H
  refine c_weak [(0, .int .u32 t0_1), (2, .int .i64 t2_1)] ⟨rfl, rfl, trivial⟩ ?_
  refine c_seqJ (α := Int × Int) (fun (s : Int × Int) => [(0, .int .u32 s.1), (2, .int .i64 s.2)]) (fun (s : Int × Int) h => math_bits_Len32_j2 s.1 s.2 k h) ?_ ?_
  ·
   rintro ⟨t0_2, t2_2⟩ h_2 H
   replace H : math_bits_Len32_j2 t0_2 t2_2 k h_2 := H
   unfold math_bits_Len32_j2 at H
   refine c_weak [(0, .int .u32 t0_2), (2, .int .i64 t2_2)] ⟨rfl, rfl, trivial⟩ ?_
   refine c_seq (c_region ?_)
   iterate 3 refine wP tok ?_
   obtain ⟨v1, lv1, hv1, H⟩ := H
   refine w_y (y_ixs' tok rfl rfl rfl rfl lv1 hv1) rfl rfl ?_
   iterate 2 refine wP tok ?_
   obtain ⟨x2, ex2, H⟩ := H
   refine w_pe tok rfl (congrArg (fun z => (.int .i64 z : Value)) ex2) rfl rfl ?_
   refine w_end (x_seq ?_)
   refine c_weak [(2, .int .i64 x2)] ⟨rfl, trivial⟩ ?_
   refine c_ret ?_
   exact x_ret _ rfl _ rfl ⟨x2, rfl, H⟩
  ·
   refine c_seq (c_region ?_)
   iterate 2 refine wP tok ?_
   refine w_end (x_seq ?_)
   refine c_if H rfl (fun H => ?_) (fun H => ?_)
   ·
    refine c_seq (c_region ?_)
    iterate 2 refine wP tok ?_
    obtain ⟨x3, ex3, H⟩ := H
    refine w_pe tok rfl (congrArg (fun z => (.int .u32 z : Value)) ex3) rfl rfl ?_
    refine w_end (x_seq (c_region ?_))
    iterate 2 refine wP tok ?_
    obtain ⟨x4, ex4, H⟩ := H
    refine w_pe tok rfl (congrArg (fun z => (.int .i64 z : Value)) ex4) rfl rfl ?_
    refine w_end ?_
    exact x_join (x3, x4) H ⟨rfl, rfl, trivial⟩
   ·
    refine c_skip ?_
    exact x_join (t0_1, t2_1) H ⟨rfl, rfl, trivial⟩
 ·
  refine c_seq (c_region ?_)
  iterate 2 refine wP tok ?_
  refine w_end (x_seq ?_)
  refine c_if H rfl (fun H => ?_) (fun H => ?_)
  ·
   refine c_seq (c_region ?_)
   iterate 2 refine wP tok ?_
   obtain ⟨x5, ex5, H⟩ := H
   refine w_pe tok rfl (congrArg (fun z => (.int .u32 z : Value)) ex5) rfl rfl ?_
   refine w_end (x_seq (c_region ?_))
   refine wP tok ?_
   refine w_end ?_
   exact x_join (x5, 16) H ⟨rfl, rfl, trivial⟩
  ·
   refine c_skip ?_
   exact x_join (p0, 0) H ⟨rfl, rfl, trivial⟩

theorem math_bits_Len64_ok : CallOk Go.Proofs.Try.prog 107 := ⟨_, Go.Proofs.Try.func107, by kernel_rfl, by kernel_rfl⟩
theorem math_bits_Len64_ref (p0 : Int) (k : (Int) → Heap → Prop) (h : Heap) (H : math_bits_Len64 p0 k h) : CallsH Go.Proofs.Try.prog 107 #[.int .u64 p0] h (fun v h' => ∃ r : Int, v = .int .i64 r ∧ k r h') := by
 refine f_enter (N := 25) Go.Proofs.Try.func107 rfl rfl rfl (fun w0 => ?_)
 unfold math_bits_Len64 at H
 refine c_weak [(0, .int .u64 p0)] ⟨rfl, trivial⟩ ?_
 refine c_seq (c_region ?_)
 refine wP tok ?_
 refine w_end (x_seq ?_)
 refine c_seqJ (α := Int × Int) (fun (s : Int × Int) => [(0, .int .u64 s.1), (2, .int .i64 s.2)]) (fun (s : Int × Int) h => math_bits_Len64_j1 s.1 s.2 k h) ?_ ?_
 ·
  rintro ⟨t0_1, t2_1⟩ h_1 H
  replace H : math_bits_Len64_j1 t0_1 t2_1 k h_1 := H
  unfold math_bits_Len64_j1 at H
  refine c_weak [(0, .int .u64 t0_1), (2, .int .i64 t2_1)] ⟨rfl, rfl, trivial⟩ ?_
  refine c_seqJ (α := Int × Int) (fun (s : Int × Int) => [(0, .int .u64 s.1), (2, .int .i64 s.2)]) (fun (s : Int × Int) h => math_bits_Len64_j2 s.1 s.2 k h) ?_ ?_
  ·
   rintro ⟨t0_2, t2_2⟩ h_2 H
   replace H : math_bits_Len64_j2 t0_2 t2_2 k h_2 := H
   unfold math_bits_Len64_j2 at H
   refine c_weak [(0, .int .u64 t0_2), (2, .int .i64 t2_2)] ⟨rfl, rfl, trivial⟩ ?_
   refine c_seqJ (α := Int × Int) (fun (s : Int × Int) => [(0, .int .u64 s.1), (2, .int .i64 s.2)]) (fun (s : Int × Int) h => math_bits_Len64_j3 s.1 s.2 k h) ?_ ?_
   ·
    rintro ⟨t0_3, t2_3⟩ h_3 H
    replace H : math_bits_Len64_j3 t0_3 t2_3 k h_3 := H
    unfold math_bits_Len64_j3 at H
    refine c_weak [(0, .int .u64 t0_3), (2, .int .i64 t2_3)] ⟨rfl, rfl, trivial⟩ ?_
    refine c_seq (c_region ?_)
    iterate 3 refine wP tok ?_
    obtain ⟨v1, lv1, hv1, H⟩ := H
    refine w_y (y_ixs' tok rfl rfl rfl rfl lv1 hv1) rfl rfl ?_
    iterate 2 refine wP tok ?_
    obtain ⟨x2, ex2, H⟩ := H
    refine w_pe tok rfl (congrArg (fun z => (.int .i64 z : Value)) ex2) rfl rfl ?_
    refine w_end (x_seq ?_)
    refine c_weak [(2, .int .i64 x2)] ⟨rfl, trivial⟩ ?_
    refine c_ret ?_
    exact x_ret _ rfl _ rfl ⟨x2, rfl, H⟩
   ·
    refine c_seq (c_region ?_)
    iterate 2 refine wP tok ?_
    refine w_end (x_seq ?_)
    refine c_if H rfl (fun H => ?_) (fun H => ?_)
    ·
     refine c_seq (c_region ?_)
     iterate 2 refine wP tok ?_
     obtain ⟨x3, ex3, H⟩ := H
     refine w_pe tok rfl (congrArg (fun z => (.int .u64 z : Value)) ex3) rfl rfl ?_
     refine w_end (x_seq (c_region ?_))
     iterate 2 refine wP tok ?_
     obtain ⟨x4, ex4, H⟩ := H
     refine w_pe tok rfl (congrArg (fun z => (.int .i64 z : Value)) ex4) rfl rfl ?_
     refine w_end ?_
     exact x_join (x3, x4) H ⟨rfl, rfl, trivial⟩
    ·
     refine c_skip ?_
     exact x_join (t0_2, t2_2) H ⟨rfl, rfl, trivial⟩
  ·
   refine c_seq (c_region ?_)
   iterate 2 refine wP tok ?_
   refine w_end (x_seq ?_)
   refine c_if H rfl (fun H => ?_) (fun H => ?_)
   ·
    refine c_seq (c_region ?_)
    iterate 2 refine wP tok ?_
    obtain ⟨x5, ex5, H⟩ := H
    refine w_pe tok rfl (congrArg (fun z => (.int .u64 z : Value)) ex5) rfl rfl ?_
    refine w_end (x_seq (c_region ?_))
    iterate 2 refine wP tok ?_
    obtain ⟨x6, ex6, H⟩ := H
    refine w_pe tok rfl (congrArg (fun z => (.int .i64 z : Value)) ex6) rfl rfl ?_
    refine w_end ?_
    exact x_join (x5, x6) H ⟨rfl, rfl, trivial⟩
   ·
    refine c_skip ?_
    exact x_join (t0_1, t2_1) H ⟨rfl, rfl, trivial⟩
 ·
  refine c_seq (c_region ?_)
  iterate 2 refine wP tok ?_
  refine w_end (x_seq ?_)
  refine c_if H rfl (fun H => ?_) (fun H => ?_)
  ·
   refine c_seq (c_region ?_)
   iterate 2 refine wP tok ?_
   obtain ⟨x7, ex7, H⟩ := H
   refine w_pe tok rfl (congrArg (fun z => (.int .u64 z : Value)) ex7) rfl rfl ?_
   refine w_end (x_seq (c_region ?_))
   refine wP tok ?_
   refine w_end ?_
   exact x_join (x7, 32) H ⟨rfl, rfl, trivial⟩
  ·
   refine c_skip ?_
   exact x_join (p0, 0) H ⟨rfl, rfl, trivial⟩

theorem math_bits_Len_ok : CallOk Go.Proofs.Try.prog 96 := ⟨_, Go.Proofs.Try.func96, by kernel_rfl, by kernel_rfl⟩
theorem math_bits_Len_ref (p0 : Int) (k : (Int) → Heap → Prop) (h : Heap) (H : math_bits_Len p0 k h) : CallsH Go.Proofs.Try.prog 96 #[.int .u64 p0] h (fun v h' => ∃ r : Int, v = .int .i64 r ∧ k r h') := by
 refine f_enter (N := 8) Go.Proofs.Try.func96 rfl rfl rfl (fun w0 => ?_)
 unfold math_bits_Len at H
 refine c_weak [(0, .int .u64 p0)] ⟨rfl, trivial⟩ ?_
 refine c_seq (c_region ?_)
 refine wP tok ?_
 refine w_end (x_seq (c_seq ?_))
 refine c_if H rfl (fun H => ?_) (fun H => ?_)
 ·
  refine c_seq (c_region ?_)
  iterate 2 refine wP tok ?_
  refine w_call math_bits_Len32_ok (math_bits_Len32_ref _ _ _ H) rfl rfl rfl rfl ?_
  rintro _ h2 ⟨r1, rfl, H⟩
  refine wP tok ?_
  refine w_end (x_seq ?_)
  refine c_ret (x_tr ?_)
  exact x_ret _ rfl _ rfl ⟨r1, rfl, H⟩
 ·
  refine c_skip (x_seq ?_)
  refine c_seq (c_region ?_)
  refine wP tok ?_
  refine w_call math_bits_Len64_ok (math_bits_Len64_ref _ _ _ H) rfl rfl rfl rfl ?_
  rintro _ h4 ⟨r3, rfl, H⟩
  refine wP tok ?_
  refine w_end (x_seq (c_ret ?_))
  exact x_ret _ rfl _ rfl ⟨r3, rfl, H⟩

theorem cmp_isNaN_uint64_ok : CallOk Go.Proofs.Try.prog 113 := ⟨_, Go.Proofs.Try.func113, by kernel_rfl, by kernel_rfl⟩
theorem cmp_isNaN_uint64_ref (p0 : Int) (k : (Bool) → Heap → Prop) (h : Heap) (H : cmp_isNaN_uint64 p0 k h) : CallsH Go.Proofs.Try.prog 113 #[.int .u64 p0] h (fun v h' => ∃ r : Bool, v = .bool r ∧ k r h') := by
 refine f_enter (N := 6) Go.Proofs.Try.func113 rfl rfl rfl (fun w0 => ?_)
 unfold cmp_isNaN_uint64 at H
 refine c_weak [(0, .int .u64 p0)] ⟨rfl, trivial⟩ ?_
 refine c_seq (c_region ?_)
 refine wP tok ?_
 refine w_end (x_seq ?_)
 refine c_seq (c_region ?_)
 iterate 4 refine wP tok ?_
 refine w_end (x_seq (c_ret ?_))
 exact x_ret _ rfl _ rfl ⟨(p0 != p0), rfl, H⟩

theorem cmp_Less_uint64_ok : CallOk Go.Proofs.Try.prog 103 := ⟨_, Go.Proofs.Try.func103, by kernel_rfl, by kernel_rfl⟩
theorem cmp_Less_uint64_ref (p0 : Int) (p1 : Int) (k : (Bool) → Heap → Prop) (h : Heap) (H : cmp_Less_uint64 p0 p1 k h) : CallsH Go.Proofs.Try.prog 103 #[.int .u64 p0, .int .u64 p1] h (fun v h' => ∃ r : Bool, v = .bool r ∧ k r h') := by
 refine f_enter (N := 17) Go.Proofs.Try.func103 rfl rfl rfl (fun w0 => ?_)
 unfold cmp_Less_uint64 at H
 refine c_weak [(0, .int .u64 p0), (1, .int .u64 p1)] ⟨rfl, rfl, trivial⟩ ?_
 refine c_seq (c_region ?_)
 refine wP tok ?_
 refine w_end (x_seq ?_)
 refine c_seq (c_region ?_)
 refine wP tok ?_
 refine w_call cmp_isNaN_uint64_ok (cmp_isNaN_uint64_ref _ _ _ H) rfl rfl rfl rfl ?_
 rintro _ h2 ⟨r1, rfl, H⟩
 refine wP tok ?_
 refine w_cut 4 (α := Bool) (fun (s : Bool) => [(11, .bool s), (0, .int .u64 p0), (1, .int .u64 p1)]) (fun (s : Bool) h => cmp_Less_uint64_g1 p0 p1 s k h) ?_ ?_
 ·
  rintro t11_1 h_1 H
  replace H : cmp_Less_uint64_g1 p0 p1 t11_1 k h_1 := H
  unfold cmp_Less_uint64_g1 at H
  refine w_weak [(11, .bool t11_1), (0, .int .u64 p0), (1, .int .u64 p1)] ⟨rfl, rfl, rfl, trivial⟩ ?_
  refine wP tok ?_
  refine w_cutU 4 [(16, .bool (t11_1 || (decide (p0 < p1))))] ?_ ?_
  ·
   refine wP tok ?_
   refine w_end (x_seq (c_ret ?_))
   exact x_ret _ rfl _ rfl ⟨(t11_1 || (decide (p0 < p1))), rfl, H⟩
  ·
   refine w_gs (d := 12) rfl (fun hb => ?_) (fun hb => ?_)
   ·
    iterate 3 refine w_skip rfl rfl ?_
    refine wP tok ?_
    refine w_jn () rfl ⟨?_, trivial⟩
    exact congrArg (fun b => some (Value.bool b)) (or_t hb)
   ·
    iterate 4 refine wP tok ?_
    refine w_jn () rfl ⟨?_, trivial⟩
    exact congrArg (fun b => some (Value.bool b)) (or_f hb)
 ·
  refine w_gif (d := 7) H rfl (fun H => ?_) (fun H => ?_)
  ·
   refine wP tok ?_
   refine w_call cmp_isNaN_uint64_ok (cmp_isNaN_uint64_ref _ _ _ H) rfl rfl rfl rfl ?_
   rintro _ h4 ⟨r3, rfl, H⟩
   iterate 2 refine wP tok ?_
   exact w_jn (!r3) H ⟨rfl, rfl, rfl, trivial⟩
  ·
   iterate 3 refine w_skip rfl rfl ?_
   refine wP tok ?_
   exact w_jn false H ⟨rfl, rfl, rfl, trivial⟩

theorem slices_insertionSortOrdered_uint64_ok : CallOk Go.Proofs.Try.prog 97 := ⟨_, Go.Proofs.Try.func97, by kernel_rfl, by kernel_rfl⟩
theorem slices_insertionSortOrdered_uint64_ref (p0 : Slc) (p1 : Int) (p2 : Int) (k : (Unit) → Heap → Prop) (h : Heap) (H : slices_insertionSortOrdered_uint64 p0 p1 p2 k h) : CallsH Go.Proofs.Try.prog 97 #[Slc.v p0, .int .i64 p1, .int .i64 p2] h (fun v h' => ∃ r : Unit, v = .tuple #[] ∧ k r h') := by
 refine f_enter (N := 49) Go.Proofs.Try.func97 rfl rfl rfl (fun w0 => ?_)
 unfold slices_insertionSortOrdered_uint64 at H
 refine c_weak [(0, Slc.v p0), (1, .int .i64 p1), (2, .int .i64 p2)] ⟨rfl, rfl, rfl, trivial⟩ ?_
 refine c_seq (c_region ?_)
 iterate 2 refine wP tok ?_
 obtain ⟨x1, ex1, H⟩ := H
 refine w_pe tok rfl (congrArg (fun z => (.int .i64 z : Value)) ex1) rfl rfl ?_
 refine w_end (x_seq (c_block ?_))
 obtain ⟨I1, μ1, H0, HI⟩ := H
 refine c_loop (σ := Int) (fun (s : Int) => [(6, .int .i64 s), (0, Slc.v p0), (1, .int .i64 p1), (2, .int .i64 p2)]) I1 μ1 x1 H0 ⟨rfl, rfl, rfl, rfl, trivial⟩ ?_
 rintro t6_1 h_1 H
 replace H := HI t6_1 h_1 H
 unfold slices_insertionSortOrdered_uint64_l1b at H
 refine c_weak [(6, .int .i64 t6_1), (0, Slc.v p0), (1, .int .i64 p1), (2, .int .i64 p2)] ⟨rfl, rfl, rfl, rfl, trivial⟩ ?_
 refine c_seq (c_seq (c_region ?_))
 iterate 3 refine wP tok ?_
 refine w_end (x_seq ?_)
 refine c_if H rfl (fun H => ?_) (fun H => ?_)
 ·
  refine c_skip (x_seq ?_)
  refine c_seq (c_block ?_)
  refine c_seq (c_region ?_)
  iterate 2 refine wP tok ?_
  refine w_end (x_seq (c_block ?_))
  obtain ⟨I2, μ2, H0, HI⟩ := H
  refine c_loop (σ := Int) (fun (s : Int) => [(7, .int .i64 s), (0, Slc.v p0), (1, .int .i64 p1), (2, .int .i64 p2), (6, .int .i64 t6_1)]) I2 μ2 t6_1 H0 ⟨rfl, rfl, rfl, rfl, rfl, trivial⟩ ?_
  rintro t7_2 h_2 H
  replace H := HI t7_2 h_2 H
  unfold slices_insertionSortOrdered_uint64_l2b at H
  refine c_weak [(7, .int .i64 t7_2), (0, Slc.v p0), (1, .int .i64 p1), (2, .int .i64 p2), (6, .int .i64 t6_1)] ⟨rfl, rfl, rfl, rfl, rfl, trivial⟩ ?_
  refine c_seq ?_
  refine c_seqJ (α := Bool) (fun (s : Bool) => [(30, .bool s), (0, Slc.v p0), (1, .int .i64 p1), (2, .int .i64 p2), (6, .int .i64 t6_1), (7, .int .i64 t7_2)]) (fun (s : Bool) h => slices_insertionSortOrdered_uint64_j3 p0 p1 p2 t6_1 t7_2 s k (fun s h' => I1 s h' ∧ μ1 s h' < μ1 t6_1 h_1) (fun s h' => I2 s h' ∧ μ2 s h' < μ2 t7_2 h_2) h) ?_ ?_
  ·
   rintro t30_3 h_3 H
   replace H : slices_insertionSortOrdered_uint64_j3 p0 p1 p2 t6_1 t7_2 t30_3 k (fun s h' => I1 s h' ∧ μ1 s h' < μ1 t6_1 h_1) (fun s h' => I2 s h' ∧ μ2 s h' < μ2 t7_2 h_2) h_3 := H
   unfold slices_insertionSortOrdered_uint64_j3 at H
   refine c_weak [(30, .bool t30_3), (0, Slc.v p0), (1, .int .i64 p1), (2, .int .i64 p2), (6, .int .i64 t6_1), (7, .int .i64 t7_2)] ⟨rfl, rfl, rfl, rfl, rfl, rfl, trivial⟩ ?_
   refine c_if H rfl (fun H => ?_) (fun H => ?_)
   ·
    refine c_skip (x_seq ?_)
    refine c_seq (c_block ?_)
    refine c_sim [(0, Slc.v p0), (1, .int .i64 p1), (2, .int .i64 p2), (6, .int .i64 t6_1), (7, .int .i64 t7_2)] (by kernel_rfl) (by kernel_rfl) ⟨rfl, rfl, rfl, rfl, rfl, trivial⟩ (fun wf => ?_)
    refine sQ 0 [(0, Slc.v p0)] (some 33) tok wf ⟨rfl, trivial⟩ (fun P_0 => ?_)
    refine sQ 1 [(7, .int .i64 t7_2)] (some 34) tok wf ⟨rfl, trivial⟩ (fun P_1 => ?_)
    refine sQ 2 [(0, Slc.v p0)] (some 35) tok wf ⟨rfl, trivial⟩ (fun P_2 => ?_)
    refine sQ 3 [(7, .int .i64 t7_2)] (some 36) tok wf ⟨rfl, trivial⟩ (fun P_3 => ?_)
    refine sQ 4 [(36, .int .i64 t7_2)] (some 37) tok wf ⟨rfl, trivial⟩ (fun P_4 => ?_)
    refine sQ 5 [(0, Slc.v p0)] (some 38) tok wf ⟨rfl, trivial⟩ (fun P_5 => ?_)
    refine sQ 6 [(7, .int .i64 t7_2)] (some 39) tok wf ⟨rfl, trivial⟩ (fun P_6 => ?_)
    refine sQ 7 [(39, .int .i64 t7_2)] (some 40) tok wf ⟨rfl, trivial⟩ (fun P_7 => ?_)
    obtain ⟨a2, ha2, la2, ua2, H⟩ := H
    refine sP 8 [(38, Slc.v p0), (40, .int .i64 (IntKind.i64.wrap (t7_2 - 1)))] (some 41) wf ⟨rfl, rfl, trivial⟩ (fun _ => pf_y rfl rfl rfl (y_ixa' tok rfl rfl ha2 rfl rfl rfl la2 ua2)) (fun P_8 => ?_)
    obtain ⟨v3, hv3, H⟩ := H
    refine sL 9 [(41, .pointer (some (a2.add ((IntKind.i64.wrap (t7_2 - 1)).toNat * 1))))] (some 42) wf ⟨rfl, trivial⟩ (pf_y rfl rfl rfl (y_ld tok rfl rfl rfl rfl hv3)) (fun P_9 => ?_)
    refine sQ 10 [(0, Slc.v p0)] (some 43) tok wf ⟨rfl, trivial⟩ (fun P_10 => ?_)
    refine sQ 11 [(7, .int .i64 t7_2)] (some 44) tok wf ⟨rfl, trivial⟩ (fun P_11 => ?_)
    obtain ⟨a4, ha4, la4, ua4, H⟩ := H
    refine sP 12 [(43, Slc.v p0), (44, .int .i64 t7_2)] (some 45) wf ⟨rfl, rfl, trivial⟩ (fun _ => pf_y rfl rfl rfl (y_ixa' tok rfl rfl ha4 rfl rfl rfl la4 ua4)) (fun P_12 => ?_)
    obtain ⟨v5, hv5, H⟩ := H
    refine sL 13 [(45, .pointer (some (a4.add (t7_2.toNat * 1))))] (some 46) wf ⟨rfl, trivial⟩ (pf_y rfl rfl rfl (y_ld tok rfl rfl rfl rfl hv5)) (fun P_13 => ?_)
    obtain ⟨a6, ha6, la6, ua6, H⟩ := H
    refine sP 14 [(33, Slc.v p0), (34, .int .i64 t7_2)] (some 47) wf ⟨rfl, rfl, trivial⟩ (fun _ => pf_y rfl rfl rfl (y_ixa' tok rfl rfl ha6 rfl rfl rfl la6 ua6)) (fun P_14 => ?_)
    obtain ⟨h7, wh7, eh7, H⟩ := H
    refine sim_h 15 [0, 1, 5, 6, 7, 8, 9, 10, 11, 12, 13, 14] [0, 1, 5, 6, 7, 8, 9, 10, 11, 12, 13, 14] (ei := [(42, .int .u64 v3), (47, .pointer (some (a6.add (t7_2.toNat * 1))))]) wf ⟨P_14 _, P_13, P_12 _, P_11 _, P_10 _, P_9, P_8 _, P_7 _, P_6 _, P_5 _, P_4 _, P_3 _, P_2 _, P_1 _, P_0 _, trivial⟩ (by kernel_rfl) ⟨rfl, rfl, trivial⟩ (by kernel_rfl) rfl rfl rfl (h_st tok rfl rfl rfl rfl rfl rfl wh7 eh7) ?_
    obtain ⟨a8, ha8, la8, ua8, H⟩ := H
    refine sP 16 [(35, Slc.v p0), (37, .int .i64 (IntKind.i64.wrap (t7_2 - 1)))] (some 48) wf ⟨rfl, rfl, trivial⟩ (fun _ => pf_y rfl rfl rfl (y_ixa' tok rfl rfl ha8 rfl rfl rfl la8 ua8)) (fun P_16 => ?_)
    obtain ⟨h9, wh9, eh9, H⟩ := H
    refine sim_h 17 [0, 1, 2, 3, 4, 5, 6, 7, 8, 9, 10, 11, 12, 13, 14, 15, 16] [0, 1, 2, 3, 4, 5, 6, 7, 8, 9, 10, 11, 12, 13, 14, 16] (ei := [(46, .int .u64 v5), (48, .pointer (some (a8.add ((IntKind.i64.wrap (t7_2 - 1)).toNat * 1))))]) wf ⟨P_16 _, trivial, trivial, trivial, trivial, trivial, trivial, trivial, trivial, trivial, trivial, P_4 _, P_3 _, P_2 _, trivial, trivial, trivial⟩ (by kernel_rfl) ⟨rfl, rfl, trivial⟩ (by kernel_rfl) rfl rfl rfl (h_st tok rfl rfl rfl rfl rfl rfl wh9 eh9) ?_
    refine sim_end wf ⟨trivial, trivial, trivial, trivial, trivial, trivial, trivial, trivial, trivial, trivial, trivial, trivial, trivial, trivial, trivial, trivial, trivial⟩ (by kernel_rfl) ?_
    clear wf P_0 P_1 P_10 P_11 P_12 P_13 P_14 P_16 P_2 P_3 P_4 P_5 P_6 P_7 P_8 P_9
    refine x_blk ?_
    refine x_seq ?_
    refine c_weak [(0, Slc.v p0), (1, .int .i64 p1), (2, .int .i64 p2), (6, .int .i64 t6_1), (7, .int .i64 t7_2)] ⟨rfl, rfl, rfl, rfl, rfl, trivial⟩ ?_
    refine c_region ?_
    iterate 2 refine wP tok ?_
    obtain ⟨x10, ex10, H⟩ := H
    refine w_pe tok rfl (congrArg (fun z => (.int .i64 z : Value)) ex10) rfl rfl ?_
    refine w_end ?_
    exact x_join x10 H ⟨rfl, rfl, rfl, rfl, rfl, trivial⟩
   ·
    refine c_exit ?_
    refine x_te (x_te ?_)
    refine x_bh ?_
    refine x_blk ?_
    refine x_seq (c_region ?_)
    iterate 2 refine wP tok ?_
    obtain ⟨x11, ex11, H⟩ := H
    refine w_pe tok rfl (congrArg (fun z => (.int .i64 z : Value)) ex11) rfl rfl ?_
    refine w_end ?_
    exact x_join x11 H ⟨rfl, rfl, rfl, rfl, trivial⟩
  ·
   refine c_sim [(0, Slc.v p0), (1, .int .i64 p1), (2, .int .i64 p2), (6, .int .i64 t6_1), (7, .int .i64 t7_2)] (by kernel_rfl) (by kernel_rfl) ⟨rfl, rfl, rfl, rfl, rfl, trivial⟩ (fun wf => ?_)
   refine sQ 0 [(7, .int .i64 t7_2)] (some 16) tok wf ⟨rfl, trivial⟩ (fun P_0 => ?_)
   refine sQ 1 [(1, .int .i64 p1)] (some 17) tok wf ⟨rfl, trivial⟩ (fun P_1 => ?_)
   refine sQ 2 [(16, .int .i64 t7_2), (17, .int .i64 p1)] (some 18) tok wf ⟨rfl, rfl, trivial⟩ (fun P_2 => ?_)
   refine sQ 3 [(18, .bool (decide (t7_2 > p1)))] (some 19) tok wf ⟨rfl, trivial⟩ (fun P_3 => ?_)
   refine sim_gif 19 H rfl (fun hb H => ?_) (fun hb H => ?_)
   ·
    refine sQ 4 [(0, Slc.v p0), (19, .bool true)] (some 20) tok wf ⟨rfl, rfl, trivial⟩ (fun P_4 => ?_)
    refine sQ 5 [(7, .int .i64 t7_2), (19, .bool true)] (some 21) tok wf ⟨rfl, rfl, trivial⟩ (fun P_5 => ?_)
    obtain ⟨a12, ha12, la12, ua12, H⟩ := H
    refine sP 6 [(19, .bool true), (20, Slc.v p0), (21, .int .i64 t7_2)] (some 22) wf ⟨rfl, rfl, rfl, trivial⟩ (fun _ => pf_y rfl rfl rfl (y_ixa' tok rfl rfl ha12 rfl rfl rfl la12 ua12)) (fun P_6 => ?_)
    obtain ⟨v13, hv13, H⟩ := H
    refine sL 7 [(19, .bool true), (22, .pointer (some (a12.add (t7_2.toNat * 1))))] (some 23) wf ⟨rfl, rfl, trivial⟩ (pf_y rfl rfl rfl (y_ld tok rfl rfl rfl rfl hv13)) (fun P_7 => ?_)
    refine sQ 8 [(0, Slc.v p0), (19, .bool true)] (some 24) tok wf ⟨rfl, rfl, trivial⟩ (fun P_8 => ?_)
    refine sQ 9 [(7, .int .i64 t7_2), (19, .bool true)] (some 25) tok wf ⟨rfl, rfl, trivial⟩ (fun P_9 => ?_)
    refine sQ 10 [(19, .bool true), (25, .int .i64 t7_2)] (some 26) tok wf ⟨rfl, rfl, trivial⟩ (fun P_10 => ?_)
    obtain ⟨a14, ha14, la14, ua14, H⟩ := H
    refine sP 11 [(19, .bool true), (24, Slc.v p0), (26, .int .i64 (IntKind.i64.wrap (t7_2 - 1)))] (some 27) wf ⟨rfl, rfl, rfl, trivial⟩ (fun _ => pf_y rfl rfl rfl (y_ixa' tok rfl rfl ha14 rfl rfl rfl la14 ua14)) (fun P_11 => ?_)
    obtain ⟨v15, hv15, H⟩ := H
    refine sL 12 [(19, .bool true), (27, .pointer (some (a14.add ((IntKind.i64.wrap (t7_2 - 1)).toNat * 1))))] (some 28) wf ⟨rfl, rfl, trivial⟩ (pf_y rfl rfl rfl (y_ld tok rfl rfl rfl rfl hv15)) (fun P_12 => ?_)
    refine sim_c 13 [0, 1, 2, 3, 4, 5, 6, 7, 8, 9, 10, 11, 12] [0, 1, 2, 3, 4, 5, 6, 7, 8, 9, 10, 11, 12] (ei := [(19, .bool true), (23, .int .u64 v13), (28, .int .u64 v15)]) cmp_Less_uint64_ok (cmp_Less_uint64_ref _ _ _ _ H) wf ⟨P_12, P_11 _, P_10 _, P_9 _, P_8 _, P_7, P_6 _, P_5 _, P_4 _, P_3 _, P_2 _, P_1 _, P_0 _, trivial⟩ (by kernel_rfl) ⟨rfl, rfl, rfl, trivial⟩ (by kernel_rfl) rfl rfl rfl rfl rfl ?_
    rintro _ h17 ⟨r16, rfl, H⟩
    refine sQ 14 [(19, .bool true), (29, .bool r16)] (some 30) tok wf ⟨rfl, rfl, trivial⟩ (fun P_14 => ?_)
    refine sim_end wf ⟨P_14 _, trivial, trivial, trivial, trivial, trivial, trivial, trivial, trivial, trivial, trivial, trivial, trivial, trivial, trivial⟩ (by kernel_rfl) ?_
    clear wf P_0 P_1 P_10 P_11 P_12 P_14 P_2 P_3 P_4 P_5 P_6 P_7 P_8 P_9
    exact x_join r16 H ⟨rfl, rfl, rfl, rfl, rfl, rfl, trivial⟩
   ·
    refine sim_p 4 (v := undef) (ei := [(0, Slc.v p0), (19, .bool false)]) (d := (some 20)) wf (by kernel_rfl) ⟨rfl, rfl, trivial⟩ (by kernel_rfl) (by kernel_rfl) (fun _ => pf_s rfl rfl rfl) (fun P_4 => ?_)
    refine sim_p 5 (v := undef) (ei := [(7, .int .i64 t7_2), (19, .bool false)]) (d := (some 21)) wf (by kernel_rfl) ⟨rfl, rfl, trivial⟩ (by kernel_rfl) (by kernel_rfl) (fun _ => pf_s rfl rfl rfl) (fun P_5 => ?_)
    refine sim_p 6 (v := undef) (ei := [(19, .bool false), (20, undef), (21, undef)]) (d := (some 22)) wf (by kernel_rfl) ⟨rfl, rfl, rfl, trivial⟩ (by kernel_rfl) (by kernel_rfl) (fun _ => pf_s rfl rfl rfl) (fun P_6 => ?_)
    refine sim_p 7 (v := undef) (ei := [(19, .bool false), (22, undef)]) (d := (some 23)) wf (by kernel_rfl) ⟨rfl, rfl, trivial⟩ (by kernel_rfl) (by kernel_rfl) (fun _ => pf_s rfl rfl rfl) (fun P_7 => ?_)
    refine sim_p 8 (v := undef) (ei := [(0, Slc.v p0), (19, .bool false)]) (d := (some 24)) wf (by kernel_rfl) ⟨rfl, rfl, trivial⟩ (by kernel_rfl) (by kernel_rfl) (fun _ => pf_s rfl rfl rfl) (fun P_8 => ?_)
    refine sim_p 9 (v := undef) (ei := [(7, .int .i64 t7_2), (19, .bool false)]) (d := (some 25)) wf (by kernel_rfl) ⟨rfl, rfl, trivial⟩ (by kernel_rfl) (by kernel_rfl) (fun _ => pf_s rfl rfl rfl) (fun P_9 => ?_)
    refine sim_p 10 (v := undef) (ei := [(19, .bool false), (25, undef)]) (d := (some 26)) wf (by kernel_rfl) ⟨rfl, rfl, trivial⟩ (by kernel_rfl) (by kernel_rfl) (fun _ => pf_s rfl rfl rfl) (fun P_10 => ?_)
    refine sim_p 11 (v := undef) (ei := [(19, .bool false), (24, undef), (26, undef)]) (d := (some 27)) wf (by kernel_rfl) ⟨rfl, rfl, rfl, trivial⟩ (by kernel_rfl) (by kernel_rfl) (fun _ => pf_s rfl rfl rfl) (fun P_11 => ?_)
    refine sim_p 12 (v := undef) (ei := [(19, .bool false), (27, undef)]) (d := (some 28)) wf (by kernel_rfl) ⟨rfl, rfl, trivial⟩ (by kernel_rfl) (by kernel_rfl) (fun _ => pf_s rfl rfl rfl) (fun P_12 => ?_)
    refine sim_p 13 (v := undef) (ei := [(19, .bool false), (23, undef), (28, undef)]) (d := (some 29)) wf (by kernel_rfl) ⟨rfl, rfl, rfl, trivial⟩ (by kernel_rfl) (by kernel_rfl) (fun _ => pf_s rfl rfl rfl) (fun P_13 => ?_)
    refine sQ 14 [(19, .bool false), (29, undef)] (some 30) tok wf ⟨rfl, rfl, trivial⟩ (fun P_14 => ?_)
    refine sim_end wf ⟨P_14 _, P_13 _, P_12 _, P_11 _, P_10 _, P_9 _, P_8 _, P_7 _, P_6 _, P_5 _, P_4 _, P_3 _, P_2 _, P_1 _, P_0 _, trivial⟩ (by kernel_rfl) ?_
    clear wf P_0 P_1 P_10 P_11 P_12 P_13 P_14 P_2 P_3 P_4 P_5 P_6 P_7 P_8 P_9
    exact x_join false H ⟨rfl, rfl, rfl, rfl, rfl, rfl, trivial⟩
 ·
  refine c_exit ?_
  refine x_te (x_te ?_)
  refine x_bh ?_
  exact x_end _ rfl _ rfl ⟨(), rfl, H⟩

theorem vote_Half_ok : CallOk Go.Proofs.Try.prog 80 := ⟨_, Go.Proofs.Try.func80, by kernel_rfl, by kernel_rfl⟩
theorem vote_Half_ref (p0 : Int) (k : (Int) → Heap → Prop) (h : Heap) (H : vote_Half p0 k h) : CallsH Go.Proofs.Try.prog 80 #[.int .i64 p0] h (fun v h' => ∃ r : Int, v = .int .i64 r ∧ k r h') := by
 refine f_enter (N := 7) Go.Proofs.Try.func80 rfl rfl rfl (fun w0 => ?_)
 unfold vote_Half at H
 refine c_weak [(0, .int .i64 p0)] ⟨rfl, trivial⟩ ?_
 refine c_seq (c_region ?_)
 refine wP tok ?_
 refine w_end (x_seq ?_)
 refine c_seq (c_region ?_)
 iterate 4 refine wP tok ?_
 obtain ⟨x1, ex1, H⟩ := H
 refine w_pe tok rfl (congrArg (fun z => (.int .i64 z : Value)) ex1) rfl rfl ?_
 refine w_end (x_seq (c_ret ?_))
 exact x_ret _ rfl _ rfl ⟨x1, rfl, H⟩

theorem vote_New_ok : CallOk Go.Proofs.Try.prog 65 := ⟨_, Go.Proofs.Try.func65, by kernel_rfl, by kernel_rfl⟩
theorem vote_New_ref (p0 : Int) (k : (Option Addr) → Heap → Prop) (h : Heap) (H : vote_New p0 k h) : CallsH Go.Proofs.Try.prog 65 #[.int .i64 p0] h (fun v h' => ∃ r : Option Addr, v = .pointer r ∧ k r h') := by
 refine f_enter (N := 8) Go.Proofs.Try.func65 rfl rfl rfl (fun w0 => ?_)
 unfold vote_New at H
 refine c_weak [(0, .int .i64 p0)] ⟨rfl, trivial⟩ ?_
 refine c_seq (c_region ?_)
 refine wP tok ?_
 refine w_end (x_seq ?_)
 refine c_seq (c_region ?_)
 iterate 3 refine wP tok ?_
 refine w_y (y_build tok rfl rfl rfl rfl rfl) rfl rfl ?_
 obtain ⟨b1, h2, eb1, eh2, H⟩ := H
 refine w_h (h_box rfl rfl eb1 eh2) rfl rfl ?_
 refine wP tok ?_
 refine w_end (x_seq (c_ret ?_))
 exact x_ret _ rfl _ rfl ⟨(some (⟨b1, 0, none⟩ : Addr)), rfl, H⟩

theorem vote_Ballot_Yes_ok : CallOk Go.Proofs.Try.prog 48 := ⟨_, Go.Proofs.Try.func48, by kernel_rfl, by kernel_rfl⟩
theorem vote_Ballot_Yes_ref (p0 : Option Addr) (p1 : Int) (k : (Bool) → Heap → Prop) (h : Heap) (H : vote_Ballot_Yes p0 p1 k h) : CallsH Go.Proofs.Try.prog 48 #[.pointer p0, .int .i64 p1] h (fun v h' => ∃ r : Bool, v = .bool r ∧ k r h') := by
 refine f_enter (N := 40) Go.Proofs.Try.func48 rfl rfl rfl (fun w0 => ?_)
 unfold vote_Ballot_Yes at H
 refine c_weak [(0, .pointer p0), (1, .int .i64 p1)] ⟨rfl, rfl, trivial⟩ ?_
 refine c_seq (c_region ?_)
 refine wP tok ?_
 refine w_end (x_seq ?_)
 refine c_seq (c_seq (c_region ?_))
 iterate 3 refine wP tok ?_
 refine w_cutU 3 [(10, .bool ((p0.isNone) || (decide (p1 < 0)))), (0, .pointer p0), (1, .int .i64 p1)] ?_ ?_
 ·
  refine wP tok ?_
  refine w_cut 7 (α := Bool) (fun (s : Bool) => [(18, .bool s), (0, .pointer p0), (1, .int .i64 p1)]) (fun (s : Bool) h => vote_Ballot_Yes_g1 p0 p1 s k h) ?_ ?_
  ·
   rintro t18_1 h_1 H
   replace H : vote_Ballot_Yes_g1 p0 p1 t18_1 k h_1 := H
   unfold vote_Ballot_Yes_g1 at H
   refine w_weak [(18, .bool t18_1), (0, .pointer p0), (1, .int .i64 p1)] ⟨rfl, rfl, rfl, trivial⟩ ?_
   refine wP tok ?_
   refine w_cut 10 (α := Bool) (fun (s : Bool) => [(29, .bool s), (0, .pointer p0), (1, .int .i64 p1)]) (fun (s : Bool) h => vote_Ballot_Yes_g2 p0 p1 s k h) ?_ ?_
   ·
    rintro t29_2 h_2 H
    replace H : vote_Ballot_Yes_g2 p0 p1 t29_2 k h_2 := H
    unfold vote_Ballot_Yes_g2 at H
    refine w_weak [(29, .bool t29_2), (0, .pointer p0), (1, .int .i64 p1)] ⟨rfl, rfl, rfl, trivial⟩ ?_
    refine w_end (x_seq ?_)
    refine c_if H rfl (fun H => ?_) (fun H => ?_)
    ·
     refine c_seq (c_region ?_)
     refine wP tok ?_
     refine w_end (x_seq ?_)
     refine c_ret (x_tr ?_)
     exact x_ret _ rfl _ rfl ⟨false, rfl, H⟩
    ·
     refine c_skip (x_seq ?_)
     refine c_seq (c_region ?_)
     refine wP tok ?_
     obtain ⟨a1, ha1, H⟩ := H
     refine w_y (y_nil' rfl rfl ha1) rfl rfl ?_
     refine wP tok ?_
     obtain ⟨v2, hv2, H⟩ := H
     refine w_y (y_ld tok rfl rfl rfl rfl hv2) rfl rfl ?_
     iterate 2 refine wP tok ?_
     obtain ⟨z3, H⟩ := H
     refine w_y (y_shl rfl rfl rfl z3) rfl rfl ?_
     refine wP tok ?_
     refine w_y (y_nil' rfl rfl ha1) rfl rfl ?_
     refine wP tok ?_
     obtain ⟨h4, wh4, eh4, H⟩ := H
     refine w_h (h_st tok rfl rfl rfl rfl rfl rfl wh4 eh4) rfl rfl ?_
     refine w_end (x_seq ?_)
     refine c_weak [] trivial ?_
     refine c_seq (c_region ?_)
     refine wP tok ?_
     refine w_end (x_seq (c_ret ?_))
     exact x_ret _ rfl _ rfl ⟨true, rfl, H⟩
   ·
    refine w_gif (d := 19) H rfl (fun H => ?_) (fun H => ?_)
    ·
     iterate 9 refine w_skip rfl rfl ?_
     refine wP tok ?_
     exact w_jn true H ⟨rfl, rfl, rfl, trivial⟩
    ·
     refine wP tok ?_
     obtain ⟨a5, ha5, H⟩ := H
     refine w_y (y_nil' rfl rfl ha5) rfl rfl ?_
     refine wP tok ?_
     obtain ⟨v6, hv6, H⟩ := H
     refine w_y (y_ld tok rfl rfl rfl rfl hv6) rfl rfl ?_
     iterate 2 refine wP tok ?_
     obtain ⟨z7, H⟩ := H
     refine w_y (y_shr rfl rfl rfl z7) rfl rfl ?_
     iterate 3 refine wP tok ?_
     exact w_jn ((bwAnd .u64 (shr .u64 v6 (IntKind.u64.wrap p1).toNat) 1) == 1) H ⟨rfl, rfl, rfl, trivial⟩
  ·
   refine w_gif (d := 11) H rfl (fun H => ?_) (fun H => ?_)
   ·
    iterate 6 refine w_skip rfl rfl ?_
    refine wP tok ?_
    exact w_jn true H ⟨rfl, rfl, rfl, trivial⟩
   ·
    iterate 2 refine wP tok ?_
    obtain ⟨a8, ha8, H⟩ := H
    refine w_y (y_nil' rfl rfl ha8) rfl rfl ?_
    refine wP tok ?_
    obtain ⟨v9, hv9, H⟩ := H
    refine w_y (y_ld tok rfl rfl rfl rfl hv9) rfl rfl ?_
    iterate 2 refine wP tok ?_
    exact w_jn (decide (p1 ≥ v9)) H ⟨rfl, rfl, rfl, trivial⟩
 ·
  refine w_gs (d := 7) rfl (fun hb => ?_) (fun hb => ?_)
  ·
   iterate 2 refine w_skip rfl rfl ?_
   refine wP tok ?_
   refine w_jn () rfl ⟨?_, rfl, rfl, trivial⟩
   exact congrArg (fun b => some (Value.bool b)) (or_t hb)
  ·
   iterate 3 refine wP tok ?_
   refine w_jn () rfl ⟨?_, rfl, rfl, trivial⟩
   exact congrArg (fun b => some (Value.bool b)) (or_f hb)

theorem vote_Ballot_Count_ok : CallOk Go.Proofs.Try.prog 79 := ⟨_, Go.Proofs.Try.func79, by kernel_rfl, by kernel_rfl⟩
theorem vote_Ballot_Count_ref (p0 : Option Addr) (k : (Int) → Heap → Prop) (h : Heap) (H : vote_Ballot_Count p0 k h) : CallsH Go.Proofs.Try.prog 79 #[.pointer p0] h (fun v h' => ∃ r : Int, v = .int .i64 r ∧ k r h') := by
 refine f_enter (N := 10) Go.Proofs.Try.func79 rfl rfl rfl (fun w0 => ?_)
 unfold vote_Ballot_Count at H
 refine c_weak [(0, .pointer p0)] ⟨rfl, trivial⟩ ?_
 refine c_seq (c_region ?_)
 refine wP tok ?_
 refine w_end (x_seq ?_)
 refine c_seq (c_seq (c_region ?_))
 iterate 2 refine wP tok ?_
 refine w_end (x_seq ?_)
 refine c_if H rfl (fun H => ?_) (fun H => ?_)
 ·
  refine c_seq (c_region ?_)
  refine wP tok ?_
  refine w_end (x_seq ?_)
  refine c_ret (x_tr ?_)
  exact x_ret _ rfl _ rfl ⟨0, rfl, H⟩
 ·
  refine c_skip (x_seq ?_)
  refine c_seq (c_region ?_)
  refine wP tok ?_
  obtain ⟨a1, ha1, H⟩ := H
  refine w_y (y_nil' rfl rfl ha1) rfl rfl ?_
  refine wP tok ?_
  obtain ⟨v2, hv2, H⟩ := H
  refine w_y (y_ld tok rfl rfl rfl rfl hv2) rfl rfl ?_
  refine w_call math_bits_OnesCount64_ok (math_bits_OnesCount64_ref _ _ _ H) rfl rfl rfl rfl ?_
  rintro _ h4 ⟨r3, rfl, H⟩
  refine wP tok ?_
  refine w_end (x_seq ?_)
  refine c_weak [(2, .int .i64 r3)] ⟨rfl, trivial⟩ ?_
  refine c_ret ?_
  exact x_ret _ rfl _ rfl ⟨r3, rfl, H⟩

theorem vote_Ballot_Won_ok : CallOk Go.Proofs.Try.prog 70 := ⟨_, Go.Proofs.Try.func70, by kernel_rfl, by kernel_rfl⟩
theorem vote_Ballot_Won_ref (p0 : Option Addr) (k : (Bool) → Heap → Prop) (h : Heap) (H : vote_Ballot_Won p0 k h) : CallsH Go.Proofs.Try.prog 70 #[.pointer p0] h (fun v h' => ∃ r : Bool, v = .bool r ∧ k r h') := by
 refine f_enter (N := 15) Go.Proofs.Try.func70 rfl rfl rfl (fun w0 => ?_)
 unfold vote_Ballot_Won at H
 refine c_weak [(0, .pointer p0)] ⟨rfl, trivial⟩ ?_
 refine c_seq (c_region ?_)
 refine wP tok ?_
 refine w_end (x_seq ?_)
 refine c_seqJ (α := Bool) (fun (s : Bool) => [(2, .bool s)]) (fun (s : Bool) h => vote_Ballot_Won_j1 s k h) ?_ ?_
 ·
  rintro t2_1 h_1 H
  replace H : vote_Ballot_Won_j1 t2_1 k h_1 := H
  unfold vote_Ballot_Won_j1 at H
  refine c_weak [(2, .bool t2_1)] ⟨rfl, trivial⟩ ?_
  refine c_ret ?_
  exact x_ret _ rfl _ rfl ⟨t2_1, rfl, H⟩
 ·
  refine c_sim [(0, .pointer p0)] (by kernel_rfl) (by kernel_rfl) ⟨rfl, trivial⟩ (fun wf => ?_)
  refine sQ 0 [(0, .pointer p0)] (some 3) tok wf ⟨rfl, trivial⟩ (fun P_0 => ?_)
  refine sQ 1 [(3, .pointer p0)] (some 4) tok wf ⟨rfl, trivial⟩ (fun P_1 => ?_)
  refine sQ 2 [(4, .bool (!p0.isNone))] (some 5) tok wf ⟨rfl, trivial⟩ (fun P_2 => ?_)
  refine sim_gif 5 H rfl (fun hb H => ?_) (fun hb H => ?_)
  ·
   refine sQ 3 [(0, .pointer p0), (5, .bool true)] (some 6) tok wf ⟨rfl, rfl, trivial⟩ (fun P_3 => ?_)
   refine sQ 5 [(0, .pointer p0), (5, .bool true)] (some 8) tok wf ⟨rfl, rfl, trivial⟩ (fun P_5 => ?_)
   obtain ⟨a1, ha1, H⟩ := H
   refine sP 6 [(5, .bool true), (8, .pointer p0)] (some 9) wf ⟨rfl, rfl, trivial⟩ (fun _ => pf_y rfl rfl rfl (y_nil' rfl rfl ha1)) (fun P_6 => ?_)
   refine sQ 7 [(5, .bool true), (9, .pointer (some a1))] (some 10) tok wf ⟨rfl, rfl, trivial⟩ (fun P_7 => ?_)
   obtain ⟨v2, hv2, H⟩ := H
   refine sL 8 [(5, .bool true), (10, .pointer (some a1))] (some 11) wf ⟨rfl, rfl, trivial⟩ (pf_y rfl rfl rfl (y_ld tok rfl rfl rfl rfl hv2)) (fun P_8 => ?_)
   refine sim_c 4 [0, 1, 2, 3] [0, 1, 2, 3] (ei := [(5, .bool true), (6, .pointer p0)]) vote_Ballot_Count_ok (vote_Ballot_Count_ref _ _ _ H) wf ⟨P_8, P_7 _, P_6 _, P_5 _, P_3 _, P_2 _, P_1 _, P_0 _, trivial⟩ (by kernel_rfl) ⟨rfl, rfl, trivial⟩ (by kernel_rfl) rfl rfl rfl rfl rfl ?_
   rintro _ h4 ⟨r3, rfl, H⟩
   obtain ⟨hy5, H⟩ := H
   refine sim_re (x := ⟨8, .int .i64 v2, [(5, .bool true), (10, .pointer (some a1))]⟩) (pf_y rfl rfl rfl (y_ld tok rfl rfl rfl rfl hy5)) (fun P_8 => ?_)
   refine sim_c 9 [0, 1, 2, 3, 4, 5, 6, 7, 8] [0, 1, 2, 3, 5, 6, 7, 8] (ei := [(5, .bool true), (11, .int .i64 v2)]) vote_Half_ok (vote_Half_ref _ _ _ H) wf ⟨P_8, P_7 _, P_6 _, P_5 _, trivial, trivial, trivial, trivial, trivial⟩ (by kernel_rfl) ⟨rfl, rfl, trivial⟩ (by kernel_rfl) rfl rfl rfl rfl rfl ?_
   rintro _ h7 ⟨r6, rfl, H⟩
   refine sQ 10 [(5, .bool true), (7, .int .i64 r3), (12, .int .i64 r6)] (some 13) tok wf ⟨rfl, rfl, rfl, trivial⟩ (fun P_10 => ?_)
   refine sQ 11 [(5, .bool true), (13, .bool (decide (r3 ≥ r6)))] (some 14) tok wf ⟨rfl, rfl, trivial⟩ (fun P_11 => ?_)
   refine sQ 12 [(14, .bool (decide (r3 ≥ r6)))] (some 2) tok wf ⟨rfl, trivial⟩ (fun P_12 => ?_)
   refine sim_end wf ⟨P_12 _, P_11 _, P_10 _, trivial, trivial, trivial, trivial, trivial, trivial, trivial, trivial, trivial⟩ (by kernel_rfl) ?_
   clear wf P_0 P_1 P_10 P_11 P_12 P_2 P_3 P_5 P_6 P_7 P_8
   exact x_join (decide (r3 ≥ r6)) H ⟨rfl, trivial⟩
  ·
   refine sim_p 3 (v := undef) (ei := [(0, .pointer p0), (5, .bool false)]) (d := (some 6)) wf (by kernel_rfl) ⟨rfl, rfl, trivial⟩ (by kernel_rfl) (by kernel_rfl) (fun _ => pf_s rfl rfl rfl) (fun P_3 => ?_)
   refine sim_p 4 (v := undef) (ei := [(5, .bool false), (6, undef)]) (d := (some 7)) wf (by kernel_rfl) ⟨rfl, rfl, trivial⟩ (by kernel_rfl) (by kernel_rfl) (fun _ => pf_s rfl rfl rfl) (fun P_4 => ?_)
   refine sim_p 5 (v := undef) (ei := [(0, .pointer p0), (5, .bool false)]) (d := (some 8)) wf (by kernel_rfl) ⟨rfl, rfl, trivial⟩ (by kernel_rfl) (by kernel_rfl) (fun _ => pf_s rfl rfl rfl) (fun P_5 => ?_)
   refine sim_p 6 (v := undef) (ei := [(5, .bool false), (8, undef)]) (d := (some 9)) wf (by kernel_rfl) ⟨rfl, rfl, trivial⟩ (by kernel_rfl) (by kernel_rfl) (fun _ => pf_s rfl rfl rfl) (fun P_6 => ?_)
   refine sim_p 7 (v := undef) (ei := [(5, .bool false), (9, undef)]) (d := (some 10)) wf (by kernel_rfl) ⟨rfl, rfl, trivial⟩ (by kernel_rfl) (by kernel_rfl) (fun _ => pf_s rfl rfl rfl) (fun P_7 => ?_)
   refine sim_p 8 (v := undef) (ei := [(5, .bool false), (10, undef)]) (d := (some 11)) wf (by kernel_rfl) ⟨rfl, rfl, trivial⟩ (by kernel_rfl) (by kernel_rfl) (fun _ => pf_s rfl rfl rfl) (fun P_8 => ?_)
   refine sim_p 9 (v := undef) (ei := [(5, .bool false), (11, undef)]) (d := (some 12)) wf (by kernel_rfl) ⟨rfl, rfl, trivial⟩ (by kernel_rfl) (by kernel_rfl) (fun _ => pf_s rfl rfl rfl) (fun P_9 => ?_)
   refine sim_p 10 (v := undef) (ei := [(5, .bool false), (7, undef), (12, undef)]) (d := (some 13)) wf (by kernel_rfl) ⟨rfl, rfl, rfl, trivial⟩ (by kernel_rfl) (by kernel_rfl) (fun _ => pf_s rfl rfl rfl) (fun P_10 => ?_)
   refine sQ 11 [(5, .bool false), (13, undef)] (some 14) tok wf ⟨rfl, rfl, trivial⟩ (fun P_11 => ?_)
   refine sQ 12 [(14, .bool false)] (some 2) tok wf ⟨rfl, trivial⟩ (fun P_12 => ?_)
   refine sim_end wf ⟨P_12 _, P_11 _, P_10 _, P_9 _, P_8 _, P_7 _, P_6 _, P_5 _, P_4 _, P_3 _, P_2 _, P_1 _, P_0 _, trivial⟩ (by kernel_rfl) ?_
   clear wf P_0 P_1 P_10 P_11 P_12 P_2 P_3 P_4 P_5 P_6 P_7 P_8 P_9
   exact x_join false H ⟨rfl, trivial⟩
end Go.Q.Yh

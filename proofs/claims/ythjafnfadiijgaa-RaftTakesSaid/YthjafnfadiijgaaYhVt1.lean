/- A part of the proof of statements of this seat: lemmas, no statement of their own. -/
import Derived.Test.YthjafnfadiijgaaYhTab
import Derived.Test.YthjafnfadiijgaaYhVt0
-- squeezed
set_option linter.unusedVariables false
set_option maxRecDepth 100000
set_option maxHeartbeats 1000000
namespace Go.Q.Yh
/-- slices.siftDownOrdered uint64  -/
def slices_siftDownOrdered_uint64_j2 (t0_2 : Slc) (t2_2 : Int) (t3_2 : Int) (t8_2 : Int) (t9_2 : Int) (k : (Unit) → Heap → Prop) (nx1 : (Int) → Heap → Prop) (h_2 : Heap) : Prop :=
 ∃ a2 : Addr, t0_2.a = some a2 ∧ (0 : Int) ≤ (IntKind.i64.wrap (t3_2 + t8_2)) ∧ (IntKind.i64.wrap (t3_2 + t8_2)) < (t0_2.len : Int) ∧ (∃ v3 : Int, cellH h_2 (a2.add ((IntKind.i64.wrap (t3_2 + t8_2)).toNat * 1)) = some (.int .u64 v3) ∧ (∃ a4 : Addr, t0_2.a = some a4 ∧ (0 : Int) ≤ (IntKind.i64.wrap (t3_2 + t9_2)) ∧ (IntKind.i64.wrap (t3_2 + t9_2)) < (t0_2.len : Int) ∧ (∃ v5 : Int, cellH h_2 (a4.add ((IntKind.i64.wrap (t3_2 + t9_2)).toNat * 1)) = some (.int .u64 v5) ∧ (cmp_Less_uint64 v3 v5 (fun (r6 : Bool) h7 => if (!r6) then (k () h7) else (∃ a8 : Addr, t0_2.a = some a8 ∧ (0 : Int) ≤ (IntKind.i64.wrap (t3_2 + t9_2)) ∧ (IntKind.i64.wrap (t3_2 + t9_2)) < (t0_2.len : Int) ∧ (∃ v9 : Int, cellH h7 (a8.add ((IntKind.i64.wrap (t3_2 + t9_2)).toNat * 1)) = some (.int .u64 v9) ∧ (∃ a10 : Addr, t0_2.a = some a10 ∧ (0 : Int) ≤ (IntKind.i64.wrap (t3_2 + t8_2)) ∧ (IntKind.i64.wrap (t3_2 + t8_2)) < (t0_2.len : Int) ∧ (∃ v11 : Int, cellH h7 (a10.add ((IntKind.i64.wrap (t3_2 + t8_2)).toNat * 1)) = some (.int .u64 v11) ∧ (∃ a12 : Addr, t0_2.a = some a12 ∧ (0 : Int) ≤ (IntKind.i64.wrap (t3_2 + t8_2)) ∧ (IntKind.i64.wrap (t3_2 + t8_2)) < (t0_2.len : Int) ∧ (∃ h13 : Heap, WrH h7 (a12.add ((IntKind.i64.wrap (t3_2 + t8_2)).toNat * 1)) ∧ h13 = setH h7 (a12.add ((IntKind.i64.wrap (t3_2 + t8_2)).toNat * 1)) (.int .u64 v9) ∧ (∃ a14 : Addr, t0_2.a = some a14 ∧ (0 : Int) ≤ (IntKind.i64.wrap (t3_2 + t9_2)) ∧ (IntKind.i64.wrap (t3_2 + t9_2)) < (t0_2.len : Int) ∧ (∃ h15 : Heap, WrH h13 (a14.add ((IntKind.i64.wrap (t3_2 + t9_2)).toNat * 1)) ∧ h15 = setH h13 (a14.add ((IntKind.i64.wrap (t3_2 + t9_2)).toNat * 1)) (.int .u64 v11) ∧ (nx1 t9_2 h15)))))))))) h_2))))
def slices_siftDownOrdered_uint64_j3 (t0_3 : Slc) (t2_3 : Int) (t3_3 : Int) (t8_3 : Int) (t9_3 : Int) (t36_3 : Bool) (k : (Unit) → Heap → Prop) (nx1 : (Int) → Heap → Prop) (h_3 : Heap) : Prop :=
 if t36_3 then (∃ x16 : Int, x16 = (IntKind.i64.wrap (t9_3 + 1)) ∧ (slices_siftDownOrdered_uint64_j2 t0_3 t2_3 t3_3 t8_3 x16 k nx1 h_3)) else (slices_siftDownOrdered_uint64_j2 t0_3 t2_3 t3_3 t8_3 t9_3 k nx1 h_3)
def slices_siftDownOrdered_uint64_l1b (t0_1 : Slc) (t2_1 : Int) (t3_1 : Int) (t8_1 : Int) (k : (Unit) → Heap → Prop) (nx1 : (Int) → Heap → Prop) (h_1 : Heap) : Prop :=
 ∃ x1 : Int, x1 = (IntKind.i64.wrap ((IntKind.i64.wrap (2 * t8_1)) + 1)) ∧ (if (decide (x1 ≥ t2_1)) then (k () h_1) else (if (decide ((IntKind.i64.wrap (x1 + 1)) < t2_1)) then (∃ a17 : Addr, t0_1.a = some a17 ∧ (0 : Int) ≤ (IntKind.i64.wrap (t3_1 + x1)) ∧ (IntKind.i64.wrap (t3_1 + x1)) < (t0_1.len : Int) ∧ (∃ v18 : Int, cellH h_1 (a17.add ((IntKind.i64.wrap (t3_1 + x1)).toNat * 1)) = some (.int .u64 v18) ∧ (∃ a19 : Addr, t0_1.a = some a19 ∧ (0 : Int) ≤ (IntKind.i64.wrap ((IntKind.i64.wrap (t3_1 + x1)) + 1)) ∧ (IntKind.i64.wrap ((IntKind.i64.wrap (t3_1 + x1)) + 1)) < (t0_1.len : Int) ∧ (∃ v20 : Int, cellH h_1 (a19.add ((IntKind.i64.wrap ((IntKind.i64.wrap (t3_1 + x1)) + 1)).toNat * 1)) = some (.int .u64 v20) ∧ (cmp_Less_uint64 v18 v20 (fun (r21 : Bool) h22 => slices_siftDownOrdered_uint64_j3 t0_1 t2_1 t3_1 t8_1 x1 r21 k nx1 h22) h_1))))) else (slices_siftDownOrdered_uint64_j3 t0_1 t2_1 t3_1 t8_1 x1 false k nx1 h_1)))
def slices_siftDownOrdered_uint64_l1 (t0_1 : Slc) (t2_1 : Int) (t3_1 : Int) (i8 : Int) (k : (Unit) → Heap → Prop) (h : Heap) : Prop :=
 ∃ (I : Int → Heap → Prop) (μ : Int → Heap → Nat), I i8 h ∧ ∀ (t8_1 : Int) (h : Heap), I t8_1 h → slices_siftDownOrdered_uint64_l1b t0_1 t2_1 t3_1 t8_1 k (fun s h' => I s h' ∧ μ s h' < μ t8_1 h) h
def slices_siftDownOrdered_uint64 (p0 : Slc) (p1 : Int) (p2 : Int) (p3 : Int) (k : (Unit) → Heap → Prop) (h : Heap) : Prop :=
 slices_siftDownOrdered_uint64_l1 p0 p2 p3 p1 k h

/-- slices.heapSortOrdered uint64  -/
def slices_heapSortOrdered_uint64_l2b (t0_2 : Slc) (t6_2 : Int) (t7_2 : Int) (t10_2 : Int) (k : (Unit) → Heap → Prop) (nx1 : (Int) → Heap → Prop) (nx2 : (Int) → Heap → Prop) (h_2 : Heap) : Prop :=
 if (decide (t10_2 ≥ 0)) then (∃ a7 : Addr, t0_2.a = some a7 ∧ (0 : Int) ≤ (IntKind.i64.wrap (t6_2 + t10_2)) ∧ (IntKind.i64.wrap (t6_2 + t10_2)) < (t0_2.len : Int) ∧ (∃ v8 : Int, cellH h_2 (a7.add ((IntKind.i64.wrap (t6_2 + t10_2)).toNat * 1)) = some (.int .u64 v8) ∧ (∃ a9 : Addr, t0_2.a = some a9 ∧ (0 : Int) ≤ t6_2 ∧ t6_2 < (t0_2.len : Int) ∧ (∃ v10 : Int, cellH h_2 (a9.add (t6_2.toNat * 1)) = some (.int .u64 v10) ∧ (∃ a11 : Addr, t0_2.a = some a11 ∧ (0 : Int) ≤ t6_2 ∧ t6_2 < (t0_2.len : Int) ∧ (∃ h12 : Heap, WrH h_2 (a11.add (t6_2.toNat * 1)) ∧ h12 = setH h_2 (a11.add (t6_2.toNat * 1)) (.int .u64 v8) ∧ (∃ a13 : Addr, t0_2.a = some a13 ∧ (0 : Int) ≤ (IntKind.i64.wrap (t6_2 + t10_2)) ∧ (IntKind.i64.wrap (t6_2 + t10_2)) < (t0_2.len : Int) ∧ (∃ h14 : Heap, WrH h12 (a13.add ((IntKind.i64.wrap (t6_2 + t10_2)).toNat * 1)) ∧ h14 = setH h12 (a13.add ((IntKind.i64.wrap (t6_2 + t10_2)).toNat * 1)) (.int .u64 v10) ∧ (slices_siftDownOrdered_uint64 t0_2 t7_2 t10_2 t6_2 (fun (r15 : Unit) h16 => ∃ x17 : Int, x17 = (IntKind.i64.wrap (t10_2 - 1)) ∧ (nx2 x17 h16)) h14))))))))) else (k () h_2)
def slices_heapSortOrdered_uint64_l2 (t0_2 : Slc) (t6_2 : Int) (t7_2 : Int) (i10 : Int) (k : (Unit) → Heap → Prop) (nx1 : (Int) → Heap → Prop) (h : Heap) : Prop :=
 ∃ (I : Int → Heap → Prop) (μ : Int → Heap → Nat), I i10 h ∧ ∀ (t10_2 : Int) (h : Heap), I t10_2 h → slices_heapSortOrdered_uint64_l2b t0_2 t6_2 t7_2 t10_2 k nx1 (fun s h' => I s h' ∧ μ s h' < μ t10_2 h) h
def slices_heapSortOrdered_uint64_l1b (t0_1 : Slc) (t6_1 : Int) (t7_1 : Int) (t8_1 : Int) (t9_1 : Int) (k : (Unit) → Heap → Prop) (nx1 : (Int) → Heap → Prop) (h_1 : Heap) : Prop :=
 if (decide (t9_1 ≥ 0)) then (slices_siftDownOrdered_uint64 t0_1 t9_1 t8_1 t6_1 (fun (r3 : Unit) h4 => ∃ x5 : Int, x5 = (IntKind.i64.wrap (t9_1 - 1)) ∧ (nx1 x5 h4)) h_1) else (∃ x6 : Int, x6 = (IntKind.i64.wrap (t8_1 - 1)) ∧ (slices_heapSortOrdered_uint64_l2 t0_1 t6_1 t7_1 x6 k nx1 h_1))
def slices_heapSortOrdered_uint64_l1 (t0_1 : Slc) (t6_1 : Int) (t7_1 : Int) (t8_1 : Int) (i9 : Int) (k : (Unit) → Heap → Prop) (h : Heap) : Prop :=
 ∃ (I : Int → Heap → Prop) (μ : Int → Heap → Nat), I i9 h ∧ ∀ (t9_1 : Int) (h : Heap), I t9_1 h → slices_heapSortOrdered_uint64_l1b t0_1 t6_1 t7_1 t8_1 t9_1 k (fun s h' => I s h' ∧ μ s h' < μ t9_1 h) h
def slices_heapSortOrdered_uint64 (p0 : Slc) (p1 : Int) (p2 : Int) (k : (Unit) → Heap → Prop) (h : Heap) : Prop :=
 ∃ x1 : Int, x1 = (IntKind.i64.wrap (p2 - p1)) ∧ (∃ x2 : Int, x2 = (IntKind.i64.wrap (Int.tdiv (IntKind.i64.wrap (x1 - 1)) 2)) ∧ (slices_heapSortOrdered_uint64_l1 p0 p1 0 x1 x2 k h))

/-- slices.nextPowerOfTwo -/
def slices_nextPowerOfTwo (p0 : Int) (k : (Int) → Heap → Prop) (h : Heap) : Prop :=
 math_bits_Len (IntKind.u64.wrap p0) (fun (r1 : Int) h2 => (0 : Int) ≤ r1 ∧ (∃ x4 : Int, x4 = (shl .u64 1 r1.toNat) ∧ (k x4 h2))) h

/-- (*slices.xorshift).Next -/
def slices_xorshift_Next (p0 : Option Addr) (k : (Int) → Heap → Prop) (h : Heap) : Prop :=
 ∃ a1 : Addr, p0 = some a1 ∧ (∃ v2 : Int, cellH h a1 = some (.int .u64 v2) ∧ (∃ v3 : Int, cellH h a1 = some (.int .u64 v3) ∧ (∃ h4 : Heap, WrH h a1 ∧ h4 = setH h a1 (.int .u64 (bwXor .u64 v2 (shl .u64 v3 (13 : Int).toNat))) ∧ (∃ v5 : Int, cellH h4 a1 = some (.int .u64 v5) ∧ (∃ v6 : Int, cellH h4 a1 = some (.int .u64 v6) ∧ (∃ h7 : Heap, WrH h4 a1 ∧ h7 = setH h4 a1 (.int .u64 (bwXor .u64 v5 (shr .u64 v6 (7 : Int).toNat))) ∧ (∃ v8 : Int, cellH h7 a1 = some (.int .u64 v8) ∧ (∃ v9 : Int, cellH h7 a1 = some (.int .u64 v9) ∧ (∃ h10 : Heap, WrH h7 a1 ∧ h10 = setH h7 a1 (.int .u64 (bwXor .u64 v8 (shl .u64 v9 (17 : Int).toNat))) ∧ (∃ v11 : Int, cellH h10 a1 = some (.int .u64 v11) ∧ (k v11 h10)))))))))))

/-- slices.breakPatternsOrdered uint64  -/
def slices_breakPatternsOrdered_uint64_j2 (t0_2 : Slc) (t1_2 : Int) (t6_2 : Int) (t7_2 : Addr) (t8_2 : Int) (t9_2 : Int) (t10_2 : Int) (k : (Unit) → Heap → Prop) (nx1 : (Int) → Heap → Prop) (h_2 : Heap) : Prop :=
 ∃ a11 : Addr, t0_2.a = some a11 ∧ (0 : Int) ≤ (IntKind.i64.wrap (t1_2 + t10_2)) ∧ (IntKind.i64.wrap (t1_2 + t10_2)) < (t0_2.len : Int) ∧ (∃ v12 : Int, cellH h_2 (a11.add ((IntKind.i64.wrap (t1_2 + t10_2)).toNat * 1)) = some (.int .u64 v12) ∧ (∃ a13 : Addr, t0_2.a = some a13 ∧ (0 : Int) ≤ t9_2 ∧ t9_2 < (t0_2.len : Int) ∧ (∃ v14 : Int, cellH h_2 (a13.add (t9_2.toNat * 1)) = some (.int .u64 v14) ∧ (∃ a15 : Addr, t0_2.a = some a15 ∧ (0 : Int) ≤ t9_2 ∧ t9_2 < (t0_2.len : Int) ∧ (∃ h16 : Heap, WrH h_2 (a15.add (t9_2.toNat * 1)) ∧ h16 = setH h_2 (a15.add (t9_2.toNat * 1)) (.int .u64 v12) ∧ (∃ a17 : Addr, t0_2.a = some a17 ∧ (0 : Int) ≤ (IntKind.i64.wrap (t1_2 + t10_2)) ∧ (IntKind.i64.wrap (t1_2 + t10_2)) < (t0_2.len : Int) ∧ (∃ h18 : Heap, WrH h16 (a17.add ((IntKind.i64.wrap (t1_2 + t10_2)).toNat * 1)) ∧ h18 = setH h16 (a17.add ((IntKind.i64.wrap (t1_2 + t10_2)).toNat * 1)) (.int .u64 v14) ∧ (∃ x19 : Int, x19 = (IntKind.i64.wrap (t9_2 + 1)) ∧ (nx1 x19 h18)))))))))
def slices_breakPatternsOrdered_uint64_l1b (t0_1 : Slc) (t1_1 : Int) (t6_1 : Int) (t7_1 : Addr) (t8_1 : Int) (t9_1 : Int) (k : (Unit) → Heap → Prop) (nx1 : (Int) → Heap → Prop) (h_1 : Heap) : Prop :=
 if (decide (t9_1 ≤ (IntKind.i64.wrap ((IntKind.i64.wrap (t1_1 + (IntKind.i64.wrap ((IntKind.i64.wrap (Int.tdiv t6_1 4)) * 2)))) + 1)))) then (slices_xorshift_Next (some t7_1) (fun (r8 : Int) h9 => ∃ x10 : Int, x10 = (IntKind.i64.wrap (bwAnd .u64 r8 (IntKind.u64.wrap (t8_1 - 1)))) ∧ (if (decide (x10 ≥ t6_1)) then (∃ x20 : Int, x20 = (IntKind.i64.wrap (x10 - t6_1)) ∧ (slices_breakPatternsOrdered_uint64_j2 t0_1 t1_1 t6_1 t7_1 t8_1 t9_1 x20 k nx1 h9)) else (slices_breakPatternsOrdered_uint64_j2 t0_1 t1_1 t6_1 t7_1 t8_1 t9_1 x10 k nx1 h9))) h_1) else (k () h_1)
def slices_breakPatternsOrdered_uint64_l1 (t0_1 : Slc) (t1_1 : Int) (t6_1 : Int) (t7_1 : Addr) (t8_1 : Int) (i9 : Int) (k : (Unit) → Heap → Prop) (h : Heap) : Prop :=
 ∃ (I : Int → Heap → Prop) (μ : Int → Heap → Nat), I i9 h ∧ ∀ (t9_1 : Int) (h : Heap), I t9_1 h → slices_breakPatternsOrdered_uint64_l1b t0_1 t1_1 t6_1 t7_1 t8_1 t9_1 k (fun s h' => I s h' ∧ μ s h' < μ t9_1 h) h
def slices_breakPatternsOrdered_uint64 (p0 : Slc) (p1 : Int) (p2 : Int) (k : (Unit) → Heap → Prop) (h : Heap) : Prop :=
 ∃ x1 : Int, x1 = (IntKind.i64.wrap (p2 - p1)) ∧ (if (decide (x1 ≥ 8)) then (∃ (b2 : Nat) (h3 : Heap), b2 = h.size ∧ h3 = h.push (.cells ([.int .u64 0]).toArray 159) ∧ (∃ h4 : Heap, WrH h3 (⟨b2, 0, none⟩ : Addr) ∧ h4 = setH h3 (⟨b2, 0, none⟩ : Addr) (.int .u64 (IntKind.u64.wrap x1)) ∧ (slices_nextPowerOfTwo x1 (fun (r5 : Int) h6 => ∃ x7 : Int, x7 = (IntKind.i64.wrap ((IntKind.i64.wrap (p1 + (IntKind.i64.wrap ((IntKind.i64.wrap (Int.tdiv x1 4)) * 2)))) - 1)) ∧ (slices_breakPatternsOrdered_uint64_l1 p0 p1 x1 (⟨b2, 0, none⟩ : Addr) r5 x7 k h6)) h4))) else (k () h))

/-- slices.order2Ordered uint64  -/
def slices_order2Ordered_uint64 (p0 : Slc) (p1 : Int) (p2 : Int) (p3 : Option Addr) (k : (Int × Int) → Heap → Prop) (h : Heap) : Prop :=
 ∃ a1 : Addr, p0.a = some a1 ∧ (0 : Int) ≤ p2 ∧ p2 < (p0.len : Int) ∧ (∃ v2 : Int, cellH h (a1.add (p2.toNat * 1)) = some (.int .u64 v2) ∧ (∃ a3 : Addr, p0.a = some a3 ∧ (0 : Int) ≤ p1 ∧ p1 < (p0.len : Int) ∧ (∃ v4 : Int, cellH h (a3.add (p1.toNat * 1)) = some (.int .u64 v4) ∧ (cmp_Less_uint64 v2 v4 (fun (r5 : Bool) h6 => if r5 then (∃ a7 : Addr, p3 = some a7 ∧ (∃ v8 : Int, cellH h6 a7 = some (.int .i64 v8) ∧ (∃ h9 : Heap, WrH h6 a7 ∧ h9 = setH h6 a7 (.int .i64 (IntKind.i64.wrap (v8 + 1))) ∧ (k (p2, p1) h9)))) else (k (p1, p2) h6)) h))))

/-- slices.medianOrdered uint64  -/
def slices_medianOrdered_uint64 (p0 : Slc) (p1 : Int) (p2 : Int) (p3 : Int) (p4 : Option Addr) (k : (Int) → Heap → Prop) (h : Heap) : Prop :=
 slices_order2Ordered_uint64 p0 p1 p2 p4 (fun (r1 : Int × Int) h2 => slices_order2Ordered_uint64 p0 r1.2 p3 p4 (fun (r3 : Int × Int) h4 => slices_order2Ordered_uint64 p0 r1.1 r3.1 p4 (fun (r5 : Int × Int) h6 => k r5.2 h6) h4) h2) h

/-- slices.medianAdjacentOrdered uint64  -/
def slices_medianAdjacentOrdered_uint64 (p0 : Slc) (p1 : Int) (p2 : Option Addr) (k : (Int) → Heap → Prop) (h : Heap) : Prop :=
 slices_medianOrdered_uint64 p0 (IntKind.i64.wrap (p1 - 1)) p1 (IntKind.i64.wrap (p1 + 1)) p2 (fun (r1 : Int) h2 => k r1 h2) h

/-- slices.choosePivotOrdered uint64  -/
def slices_choosePivotOrdered_uint64_j1 (t9_1 : Addr) (t11_1 : Int) (k : (Int × Int) → Heap → Prop) (h_1 : Heap) : Prop :=
 ∃ v7 : Int, cellH h_1 t9_1 = some (.int .i64 v7) ∧ (if (v7 == 0) then (k (t11_1, 1) h_1) else (if (v7 == 12) then (k (t11_1, 2) h_1) else (k (t11_1, 0) h_1)))
def slices_choosePivotOrdered_uint64_j2 (t0_2 : Slc) (t9_2 : Addr) (t10_2 : Int) (t11_2 : Int) (t12_2 : Int) (k : (Int × Int) → Heap → Prop) (h_2 : Heap) : Prop :=
 slices_medianOrdered_uint64 t0_2 t10_2 t11_2 t12_2 (some t9_2) (fun (r8 : Int) h9 => slices_choosePivotOrdered_uint64_j1 t9_2 r8 k h9) h_2
def slices_choosePivotOrdered_uint64 (p0 : Slc) (p1 : Int) (p2 : Int) (k : (Int × Int) → Heap → Prop) (h : Heap) : Prop :=
 ∃ x1 : Int, x1 = (IntKind.i64.wrap (p2 - p1)) ∧ (∃ (b2 : Nat) (h3 : Heap), b2 = h.size ∧ h3 = h.push (.cells ([.int .i64 0]).toArray 3) ∧ (∃ x4 : Int, x4 = (IntKind.i64.wrap (p1 + (IntKind.i64.wrap ((IntKind.i64.wrap (Int.tdiv x1 4)) * 1)))) ∧ (∃ x5 : Int, x5 = (IntKind.i64.wrap (p1 + (IntKind.i64.wrap ((IntKind.i64.wrap (Int.tdiv x1 4)) * 2)))) ∧ (∃ x6 : Int, x6 = (IntKind.i64.wrap (p1 + (IntKind.i64.wrap ((IntKind.i64.wrap (Int.tdiv x1 4)) * 3)))) ∧ (if (decide (x1 ≥ 8)) then (if (decide (x1 ≥ 50)) then (slices_medianAdjacentOrdered_uint64 p0 x4 (some (⟨b2, 0, none⟩ : Addr)) (fun (r10 : Int) h11 => slices_medianAdjacentOrdered_uint64 p0 x5 (some (⟨b2, 0, none⟩ : Addr)) (fun (r12 : Int) h13 => slices_medianAdjacentOrdered_uint64 p0 x6 (some (⟨b2, 0, none⟩ : Addr)) (fun (r14 : Int) h15 => slices_choosePivotOrdered_uint64_j2 p0 (⟨b2, 0, none⟩ : Addr) r10 r12 r14 k h15) h13) h11) h3) else (slices_choosePivotOrdered_uint64_j2 p0 (⟨b2, 0, none⟩ : Addr) x4 x5 x6 k h3)) else (slices_choosePivotOrdered_uint64_j1 (⟨b2, 0, none⟩ : Addr) x5 k h3))))))

/-- slices.reverseRangeOrdered uint64  -/
def slices_reverseRangeOrdered_uint64_l1b (t0_1 : Slc) (t6_1 : Int) (t7_1 : Int) (k : (Unit) → Heap → Prop) (nx1 : (Int × Int) → Heap → Prop) (h_1 : Heap) : Prop :=
 if (decide (t6_1 < t7_1)) then (∃ a2 : Addr, t0_1.a = some a2 ∧ (0 : Int) ≤ t7_1 ∧ t7_1 < (t0_1.len : Int) ∧ (∃ v3 : Int, cellH h_1 (a2.add (t7_1.toNat * 1)) = some (.int .u64 v3) ∧ (∃ a4 : Addr, t0_1.a = some a4 ∧ (0 : Int) ≤ t6_1 ∧ t6_1 < (t0_1.len : Int) ∧ (∃ v5 : Int, cellH h_1 (a4.add (t6_1.toNat * 1)) = some (.int .u64 v5) ∧ (∃ a6 : Addr, t0_1.a = some a6 ∧ (0 : Int) ≤ t6_1 ∧ t6_1 < (t0_1.len : Int) ∧ (∃ h7 : Heap, WrH h_1 (a6.add (t6_1.toNat * 1)) ∧ h7 = setH h_1 (a6.add (t6_1.toNat * 1)) (.int .u64 v3) ∧ (∃ a8 : Addr, t0_1.a = some a8 ∧ (0 : Int) ≤ t7_1 ∧ t7_1 < (t0_1.len : Int) ∧ (∃ h9 : Heap, WrH h7 (a8.add (t7_1.toNat * 1)) ∧ h9 = setH h7 (a8.add (t7_1.toNat * 1)) (.int .u64 v5) ∧ (∃ x10 : Int, x10 = (IntKind.i64.wrap (t6_1 + 1)) ∧ (∃ x11 : Int, x11 = (IntKind.i64.wrap (t7_1 - 1)) ∧ (nx1 (x10, x11) h9))))))))))) else (k () h_1)
def slices_reverseRangeOrdered_uint64_l1 (t0_1 : Slc) (i6 : Int) (i7 : Int) (k : (Unit) → Heap → Prop) (h : Heap) : Prop :=
 ∃ (I : (Int × Int) → Heap → Prop) (μ : (Int × Int) → Heap → Nat), I (i6, i7) h ∧ ∀ (t6_1 : Int) (t7_1 : Int) (h : Heap), I (t6_1, t7_1) h → slices_reverseRangeOrdered_uint64_l1b t0_1 t6_1 t7_1 k (fun s h' => I s h' ∧ μ s h' < μ (t6_1, t7_1) h) h
def slices_reverseRangeOrdered_uint64 (p0 : Slc) (p1 : Int) (p2 : Int) (k : (Unit) → Heap → Prop) (h : Heap) : Prop :=
 ∃ x1 : Int, x1 = (IntKind.i64.wrap (p2 - 1)) ∧ (slices_reverseRangeOrdered_uint64_l1 p0 p1 x1 k h)

/-- slices.partialInsertionSortOrdered uint64  -/
def slices_partialInsertionSortOrdered_uint64_j2 (t0_2 : Slc) (t1_2 : Int) (t2_2 : Int) (t8_2 : Int) (t7_2 : Int) (k : (Bool) → Heap → Prop) (nx1 : (Int × Int) → Heap → Prop) (h_2 : Heap) : Prop :=
 ∃ x2 : Int, x2 = (IntKind.i64.wrap (t8_2 + 1)) ∧ (nx1 (t7_2, x2) h_2)
def slices_partialInsertionSortOrdered_uint64_l6b (t0_6 : Slc) (t1_6 : Int) (t2_6 : Int) (t7_6 : Int) (t8_6 : Int) (t10_6 : Int) (k : (Bool) → Heap → Prop) (nx1 : (Int × Int) → Heap → Prop) (nx3 : (Int) → Heap → Prop) (nx6 : (Int) → Heap → Prop) (h_6 : Heap) : Prop :=
 if (decide (t10_6 < t2_6)) then (∃ a13 : Addr, t0_6.a = some a13 ∧ (0 : Int) ≤ t10_6 ∧ t10_6 < (t0_6.len : Int) ∧ (∃ v14 : Int, cellH h_6 (a13.add (t10_6.toNat * 1)) = some (.int .u64 v14) ∧ (∃ a15 : Addr, t0_6.a = some a15 ∧ (0 : Int) ≤ (IntKind.i64.wrap (t10_6 - 1)) ∧ (IntKind.i64.wrap (t10_6 - 1)) < (t0_6.len : Int) ∧ (∃ v16 : Int, cellH h_6 (a15.add ((IntKind.i64.wrap (t10_6 - 1)).toNat * 1)) = some (.int .u64 v16) ∧ (cmp_Less_uint64 v14 v16 (fun (r17 : Bool) h18 => if (!r17) then (slices_partialInsertionSortOrdered_uint64_j2 t0_6 t1_6 t2_6 t8_6 t7_6 k nx1 h18) else (∃ a19 : Addr, t0_6.a = some a19 ∧ (0 : Int) ≤ (IntKind.i64.wrap (t10_6 - 1)) ∧ (IntKind.i64.wrap (t10_6 - 1)) < (t0_6.len : Int) ∧ (∃ v20 : Int, cellH h18 (a19.add ((IntKind.i64.wrap (t10_6 - 1)).toNat * 1)) = some (.int .u64 v20) ∧ (∃ a21 : Addr, t0_6.a = some a21 ∧ (0 : Int) ≤ t10_6 ∧ t10_6 < (t0_6.len : Int) ∧ (∃ v22 : Int, cellH h18 (a21.add (t10_6.toNat * 1)) = some (.int .u64 v22) ∧ (∃ a23 : Addr, t0_6.a = some a23 ∧ (0 : Int) ≤ t10_6 ∧ t10_6 < (t0_6.len : Int) ∧ (∃ h24 : Heap, WrH h18 (a23.add (t10_6.toNat * 1)) ∧ h24 = setH h18 (a23.add (t10_6.toNat * 1)) (.int .u64 v20) ∧ (∃ a25 : Addr, t0_6.a = some a25 ∧ (0 : Int) ≤ (IntKind.i64.wrap (t10_6 - 1)) ∧ (IntKind.i64.wrap (t10_6 - 1)) < (t0_6.len : Int) ∧ (∃ h26 : Heap, WrH h24 (a25.add ((IntKind.i64.wrap (t10_6 - 1)).toNat * 1)) ∧ h26 = setH h24 (a25.add ((IntKind.i64.wrap (t10_6 - 1)).toNat * 1)) (.int .u64 v22) ∧ (∃ x27 : Int, x27 = (IntKind.i64.wrap (t10_6 + 1)) ∧ (nx6 x27 h26))))))))))) h_6))))) else (slices_partialInsertionSortOrdered_uint64_j2 t0_6 t1_6 t2_6 t8_6 t7_6 k nx1 h_6)
def slices_partialInsertionSortOrdered_uint64_l6 (t0_6 : Slc) (t1_6 : Int) (t2_6 : Int) (t7_6 : Int) (t8_6 : Int) (i10 : Int) (k : (Bool) → Heap → Prop) (nx1 : (Int × Int) → Heap → Prop) (nx3 : (Int) → Heap → Prop) (h : Heap) : Prop :=
 ∃ (I : Int → Heap → Prop) (μ : Int → Heap → Nat), I i10 h ∧ ∀ (t10_6 : Int) (h : Heap), I t10_6 h → slices_partialInsertionSortOrdered_uint64_l6b t0_6 t1_6 t2_6 t7_6 t8_6 t10_6 k nx1 nx3 (fun s h' => I s h' ∧ μ s h' < μ t10_6 h) h
def slices_partialInsertionSortOrdered_uint64_j5 (t0_5 : Slc) (t1_5 : Int) (t2_5 : Int) (t7_5 : Int) (t8_5 : Int) (k : (Bool) → Heap → Prop) (nx1 : (Int × Int) → Heap → Prop) (nx3 : (Int) → Heap → Prop) (h_5 : Heap) : Prop :=
 if (decide ((IntKind.i64.wrap (t2_5 - t7_5)) ≥ 2)) then (∃ x12 : Int, x12 = (IntKind.i64.wrap (t7_5 + 1)) ∧ (slices_partialInsertionSortOrdered_uint64_l6 t0_5 t1_5 t2_5 t7_5 t8_5 x12 k nx1 nx3 h_5)) else (slices_partialInsertionSortOrdered_uint64_j2 t0_5 t1_5 t2_5 t8_5 t7_5 k nx1 h_5)
def slices_partialInsertionSortOrdered_uint64_l7b (t0_7 : Slc) (t1_7 : Int) (t2_7 : Int) (t7_7 : Int) (t8_7 : Int) (t9_7 : Int) (k : (Bool) → Heap → Prop) (nx1 : (Int × Int) → Heap → Prop) (nx3 : (Int) → Heap → Prop) (nx7 : (Int) → Heap → Prop) (h_7 : Heap) : Prop :=
 if (decide (t9_7 ≥ 1)) then (∃ a29 : Addr, t0_7.a = some a29 ∧ (0 : Int) ≤ t9_7 ∧ t9_7 < (t0_7.len : Int) ∧ (∃ v30 : Int, cellH h_7 (a29.add (t9_7.toNat * 1)) = some (.int .u64 v30) ∧ (∃ a31 : Addr, t0_7.a = some a31 ∧ (0 : Int) ≤ (IntKind.i64.wrap (t9_7 - 1)) ∧ (IntKind.i64.wrap (t9_7 - 1)) < (t0_7.len : Int) ∧ (∃ v32 : Int, cellH h_7 (a31.add ((IntKind.i64.wrap (t9_7 - 1)).toNat * 1)) = some (.int .u64 v32) ∧ (cmp_Less_uint64 v30 v32 (fun (r33 : Bool) h34 => if (!r33) then (slices_partialInsertionSortOrdered_uint64_j5 t0_7 t1_7 t2_7 t7_7 t8_7 k nx1 nx3 h34) else (∃ a35 : Addr, t0_7.a = some a35 ∧ (0 : Int) ≤ (IntKind.i64.wrap (t9_7 - 1)) ∧ (IntKind.i64.wrap (t9_7 - 1)) < (t0_7.len : Int) ∧ (∃ v36 : Int, cellH h34 (a35.add ((IntKind.i64.wrap (t9_7 - 1)).toNat * 1)) = some (.int .u64 v36) ∧ (∃ a37 : Addr, t0_7.a = some a37 ∧ (0 : Int) ≤ t9_7 ∧ t9_7 < (t0_7.len : Int) ∧ (∃ v38 : Int, cellH h34 (a37.add (t9_7.toNat * 1)) = some (.int .u64 v38) ∧ (∃ a39 : Addr, t0_7.a = some a39 ∧ (0 : Int) ≤ t9_7 ∧ t9_7 < (t0_7.len : Int) ∧ (∃ h40 : Heap, WrH h34 (a39.add (t9_7.toNat * 1)) ∧ h40 = setH h34 (a39.add (t9_7.toNat * 1)) (.int .u64 v36) ∧ (∃ a41 : Addr, t0_7.a = some a41 ∧ (0 : Int) ≤ (IntKind.i64.wrap (t9_7 - 1)) ∧ (IntKind.i64.wrap (t9_7 - 1)) < (t0_7.len : Int) ∧ (∃ h42 : Heap, WrH h40 (a41.add ((IntKind.i64.wrap (t9_7 - 1)).toNat * 1)) ∧ h42 = setH h40 (a41.add ((IntKind.i64.wrap (t9_7 - 1)).toNat * 1)) (.int .u64 v38) ∧ (∃ x43 : Int, x43 = (IntKind.i64.wrap (t9_7 - 1)) ∧ (nx7 x43 h42))))))))))) h_7))))) else (slices_partialInsertionSortOrdered_uint64_j5 t0_7 t1_7 t2_7 t7_7 t8_7 k nx1 nx3 h_7)
def slices_partialInsertionSortOrdered_uint64_l7 (t0_7 : Slc) (t1_7 : Int) (t2_7 : Int) (t7_7 : Int) (t8_7 : Int) (i9 : Int) (k : (Bool) → Heap → Prop) (nx1 : (Int × Int) → Heap → Prop) (nx3 : (Int) → Heap → Prop) (h : Heap) : Prop :=
 ∃ (I : Int → Heap → Prop) (μ : Int → Heap → Nat), I i9 h ∧ ∀ (t9_7 : Int) (h : Heap), I t9_7 h → slices_partialInsertionSortOrdered_uint64_l7b t0_7 t1_7 t2_7 t7_7 t8_7 t9_7 k nx1 nx3 (fun s h' => I s h' ∧ μ s h' < μ t9_7 h) h
def slices_partialInsertionSortOrdered_uint64_j4 (t0_4 : Slc) (t1_4 : Int) (t2_4 : Int) (t7_4 : Int) (t8_4 : Int) (t32_4 : Bool) (k : (Bool) → Heap → Prop) (nx1 : (Int × Int) → Heap → Prop) (nx3 : (Int) → Heap → Prop) (h_4 : Heap) : Prop :=
 if t32_4 then (∃ x3 : Int, x3 = (IntKind.i64.wrap (t7_4 + 1)) ∧ (nx3 x3 h_4)) else (if (t7_4 == t2_4) then (k true h_4) else (if (decide ((IntKind.i64.wrap (t2_4 - t1_4)) < 50)) then (k false h_4) else (∃ a4 : Addr, t0_4.a = some a4 ∧ (0 : Int) ≤ (IntKind.i64.wrap (t7_4 - 1)) ∧ (IntKind.i64.wrap (t7_4 - 1)) < (t0_4.len : Int) ∧ (∃ v5 : Int, cellH h_4 (a4.add ((IntKind.i64.wrap (t7_4 - 1)).toNat * 1)) = some (.int .u64 v5) ∧ (∃ a6 : Addr, t0_4.a = some a6 ∧ (0 : Int) ≤ t7_4 ∧ t7_4 < (t0_4.len : Int) ∧ (∃ v7 : Int, cellH h_4 (a6.add (t7_4.toNat * 1)) = some (.int .u64 v7) ∧ (∃ a8 : Addr, t0_4.a = some a8 ∧ (0 : Int) ≤ t7_4 ∧ t7_4 < (t0_4.len : Int) ∧ (∃ h9 : Heap, WrH h_4 (a8.add (t7_4.toNat * 1)) ∧ h9 = setH h_4 (a8.add (t7_4.toNat * 1)) (.int .u64 v5) ∧ (∃ a10 : Addr, t0_4.a = some a10 ∧ (0 : Int) ≤ (IntKind.i64.wrap (t7_4 - 1)) ∧ (IntKind.i64.wrap (t7_4 - 1)) < (t0_4.len : Int) ∧ (∃ h11 : Heap, WrH h9 (a10.add ((IntKind.i64.wrap (t7_4 - 1)).toNat * 1)) ∧ h11 = setH h9 (a10.add ((IntKind.i64.wrap (t7_4 - 1)).toNat * 1)) (.int .u64 v7) ∧ (if (decide ((IntKind.i64.wrap (t7_4 - t1_4)) ≥ 2)) then (∃ x28 : Int, x28 = (IntKind.i64.wrap (t7_4 - 1)) ∧ (slices_partialInsertionSortOrdered_uint64_l7 t0_4 t1_4 t2_4 t7_4 t8_4 x28 k nx1 nx3 h11)) else (slices_partialInsertionSortOrdered_uint64_j5 t0_4 t1_4 t2_4 t7_4 t8_4 k nx1 nx3 h11))))))))))))
def slices_partialInsertionSortOrdered_uint64_l3b (t0_3 : Slc) (t1_3 : Int) (t2_3 : Int) (t8_3 : Int) (t7_3 : Int) (k : (Bool) → Heap → Prop) (nx1 : (Int × Int) → Heap → Prop) (nx3 : (Int) → Heap → Prop) (h_3 : Heap) : Prop :=
 if (decide (t7_3 < t2_3)) then (∃ a44 : Addr, t0_3.a = some a44 ∧ (0 : Int) ≤ t7_3 ∧ t7_3 < (t0_3.len : Int) ∧ (∃ v45 : Int, cellH h_3 (a44.add (t7_3.toNat * 1)) = some (.int .u64 v45) ∧ (∃ a46 : Addr, t0_3.a = some a46 ∧ (0 : Int) ≤ (IntKind.i64.wrap (t7_3 - 1)) ∧ (IntKind.i64.wrap (t7_3 - 1)) < (t0_3.len : Int) ∧ (∃ v47 : Int, cellH h_3 (a46.add ((IntKind.i64.wrap (t7_3 - 1)).toNat * 1)) = some (.int .u64 v47) ∧ (cmp_Less_uint64 v45 v47 (fun (r48 : Bool) h49 => slices_partialInsertionSortOrdered_uint64_j4 t0_3 t1_3 t2_3 t7_3 t8_3 (!r48) k nx1 nx3 h49) h_3))))) else (slices_partialInsertionSortOrdered_uint64_j4 t0_3 t1_3 t2_3 t7_3 t8_3 false k nx1 nx3 h_3)
def slices_partialInsertionSortOrdered_uint64_l3 (t0_3 : Slc) (t1_3 : Int) (t2_3 : Int) (t8_3 : Int) (i7 : Int) (k : (Bool) → Heap → Prop) (nx1 : (Int × Int) → Heap → Prop) (h : Heap) : Prop :=
 ∃ (I : Int → Heap → Prop) (μ : Int → Heap → Nat), I i7 h ∧ ∀ (t7_3 : Int) (h : Heap), I t7_3 h → slices_partialInsertionSortOrdered_uint64_l3b t0_3 t1_3 t2_3 t8_3 t7_3 k nx1 (fun s h' => I s h' ∧ μ s h' < μ t7_3 h) h
def slices_partialInsertionSortOrdered_uint64_l1b (t0_1 : Slc) (t1_1 : Int) (t2_1 : Int) (t7_1 : Int) (t8_1 : Int) (k : (Bool) → Heap → Prop) (nx1 : (Int × Int) → Heap → Prop) (h_1 : Heap) : Prop :=
 if (decide (t8_1 < 5)) then (slices_partialInsertionSortOrdered_uint64_l3 t0_1 t1_1 t2_1 t8_1 t7_1 k nx1 h_1) else (k false h_1)
def slices_partialInsertionSortOrdered_uint64_l1 (t0_1 : Slc) (t1_1 : Int) (t2_1 : Int) (i7 : Int) (i8 : Int) (k : (Bool) → Heap → Prop) (h : Heap) : Prop :=
 ∃ (I : (Int × Int) → Heap → Prop) (μ : (Int × Int) → Heap → Nat), I (i7, i8) h ∧ ∀ (t7_1 : Int) (t8_1 : Int) (h : Heap), I (t7_1, t8_1) h → slices_partialInsertionSortOrdered_uint64_l1b t0_1 t1_1 t2_1 t7_1 t8_1 k (fun s h' => I s h' ∧ μ s h' < μ (t7_1, t8_1) h) h
def slices_partialInsertionSortOrdered_uint64 (p0 : Slc) (p1 : Int) (p2 : Int) (k : (Bool) → Heap → Prop) (h : Heap) : Prop :=
 ∃ x1 : Int, x1 = (IntKind.i64.wrap (p1 + 1)) ∧ (slices_partialInsertionSortOrdered_uint64_l1 p0 p1 p2 x1 0 k h)

/-- slices.partitionEqualOrdered uint64  -/
def slices_partitionEqualOrdered_uint64_j5 (t0_5 : Slc) (t1_5 : Int) (t9_5 : Int) (t10_5 : Int) (t59_5 : Bool) (k : (Int) → Heap → Prop) (nx1 : (Int × Int) → Heap → Prop) (nx2 : (Int) → Heap → Prop) (nx4 : (Int) → Heap → Prop) (h_5 : Heap) : Prop :=
 if t59_5 then (∃ x12 : Int, x12 = (IntKind.i64.wrap (t10_5 - 1)) ∧ (nx4 x12 h_5)) else (if (decide (t9_5 > t10_5)) then (k t9_5 h_5) else (∃ a13 : Addr, t0_5.a = some a13 ∧ (0 : Int) ≤ t10_5 ∧ t10_5 < (t0_5.len : Int) ∧ (∃ v14 : Int, cellH h_5 (a13.add (t10_5.toNat * 1)) = some (.int .u64 v14) ∧ (∃ a15 : Addr, t0_5.a = some a15 ∧ (0 : Int) ≤ t9_5 ∧ t9_5 < (t0_5.len : Int) ∧ (∃ v16 : Int, cellH h_5 (a15.add (t9_5.toNat * 1)) = some (.int .u64 v16) ∧ (∃ a17 : Addr, t0_5.a = some a17 ∧ (0 : Int) ≤ t9_5 ∧ t9_5 < (t0_5.len : Int) ∧ (∃ h18 : Heap, WrH h_5 (a17.add (t9_5.toNat * 1)) ∧ h18 = setH h_5 (a17.add (t9_5.toNat * 1)) (.int .u64 v14) ∧ (∃ a19 : Addr, t0_5.a = some a19 ∧ (0 : Int) ≤ t10_5 ∧ t10_5 < (t0_5.len : Int) ∧ (∃ h20 : Heap, WrH h18 (a19.add (t10_5.toNat * 1)) ∧ h20 = setH h18 (a19.add (t10_5.toNat * 1)) (.int .u64 v16) ∧ (∃ x21 : Int, x21 = (IntKind.i64.wrap (t9_5 + 1)) ∧ (∃ x22 : Int, x22 = (IntKind.i64.wrap (t10_5 - 1)) ∧ (nx1 (x21, x22) h20))))))))))))
def slices_partitionEqualOrdered_uint64_l4b (t0_4 : Slc) (t1_4 : Int) (t9_4 : Int) (t10_4 : Int) (k : (Int) → Heap → Prop) (nx1 : (Int × Int) → Heap → Prop) (nx2 : (Int) → Heap → Prop) (nx4 : (Int) → Heap → Prop) (h_4 : Heap) : Prop :=
 if (decide (t9_4 ≤ t10_4)) then (∃ a23 : Addr, t0_4.a = some a23 ∧ (0 : Int) ≤ t1_4 ∧ t1_4 < (t0_4.len : Int) ∧ (∃ v24 : Int, cellH h_4 (a23.add (t1_4.toNat * 1)) = some (.int .u64 v24) ∧ (∃ a25 : Addr, t0_4.a = some a25 ∧ (0 : Int) ≤ t10_4 ∧ t10_4 < (t0_4.len : Int) ∧ (∃ v26 : Int, cellH h_4 (a25.add (t10_4.toNat * 1)) = some (.int .u64 v26) ∧ (cmp_Less_uint64 v24 v26 (fun (r27 : Bool) h28 => slices_partitionEqualOrdered_uint64_j5 t0_4 t1_4 t9_4 t10_4 r27 k nx1 nx2 nx4 h28) h_4))))) else (slices_partitionEqualOrdered_uint64_j5 t0_4 t1_4 t9_4 t10_4 false k nx1 nx2 nx4 h_4)
def slices_partitionEqualOrdered_uint64_l4 (t0_4 : Slc) (t1_4 : Int) (t9_4 : Int) (i10 : Int) (k : (Int) → Heap → Prop) (nx1 : (Int × Int) → Heap → Prop) (nx2 : (Int) → Heap → Prop) (h : Heap) : Prop :=
 ∃ (I : Int → Heap → Prop) (μ : Int → Heap → Nat), I i10 h ∧ ∀ (t10_4 : Int) (h : Heap), I t10_4 h → slices_partitionEqualOrdered_uint64_l4b t0_4 t1_4 t9_4 t10_4 k nx1 nx2 (fun s h' => I s h' ∧ μ s h' < μ t10_4 h) h
def slices_partitionEqualOrdered_uint64_j3 (t0_3 : Slc) (t1_3 : Int) (t9_3 : Int) (t10_3 : Int) (t43_3 : Bool) (k : (Int) → Heap → Prop) (nx1 : (Int × Int) → Heap → Prop) (nx2 : (Int) → Heap → Prop) (h_3 : Heap) : Prop :=
 if t43_3 then (∃ x11 : Int, x11 = (IntKind.i64.wrap (t9_3 + 1)) ∧ (nx2 x11 h_3)) else (slices_partitionEqualOrdered_uint64_l4 t0_3 t1_3 t9_3 t10_3 k nx1 nx2 h_3)
def slices_partitionEqualOrdered_uint64_l2b (t0_2 : Slc) (t1_2 : Int) (t10_2 : Int) (t9_2 : Int) (k : (Int) → Heap → Prop) (nx1 : (Int × Int) → Heap → Prop) (nx2 : (Int) → Heap → Prop) (h_2 : Heap) : Prop :=
 if (decide (t9_2 ≤ t10_2)) then (∃ a29 : Addr, t0_2.a = some a29 ∧ (0 : Int) ≤ t1_2 ∧ t1_2 < (t0_2.len : Int) ∧ (∃ v30 : Int, cellH h_2 (a29.add (t1_2.toNat * 1)) = some (.int .u64 v30) ∧ (∃ a31 : Addr, t0_2.a = some a31 ∧ (0 : Int) ≤ t9_2 ∧ t9_2 < (t0_2.len : Int) ∧ (∃ v32 : Int, cellH h_2 (a31.add (t9_2.toNat * 1)) = some (.int .u64 v32) ∧ (cmp_Less_uint64 v30 v32 (fun (r33 : Bool) h34 => slices_partitionEqualOrdered_uint64_j3 t0_2 t1_2 t9_2 t10_2 (!r33) k nx1 nx2 h34) h_2))))) else (slices_partitionEqualOrdered_uint64_j3 t0_2 t1_2 t9_2 t10_2 false k nx1 nx2 h_2)
def slices_partitionEqualOrdered_uint64_l2 (t0_2 : Slc) (t1_2 : Int) (t10_2 : Int) (i9 : Int) (k : (Int) → Heap → Prop) (nx1 : (Int × Int) → Heap → Prop) (h : Heap) : Prop :=
 ∃ (I : Int → Heap → Prop) (μ : Int → Heap → Nat), I i9 h ∧ ∀ (t9_2 : Int) (h : Heap), I t9_2 h → slices_partitionEqualOrdered_uint64_l2b t0_2 t1_2 t10_2 t9_2 k nx1 (fun s h' => I s h' ∧ μ s h' < μ t9_2 h) h
def slices_partitionEqualOrdered_uint64_l1b (t0_1 : Slc) (t1_1 : Int) (t9_1 : Int) (t10_1 : Int) (k : (Int) → Heap → Prop) (nx1 : (Int × Int) → Heap → Prop) (h_1 : Heap) : Prop :=
 slices_partitionEqualOrdered_uint64_l2 t0_1 t1_1 t10_1 t9_1 k nx1 h_1
def slices_partitionEqualOrdered_uint64_l1 (t0_1 : Slc) (t1_1 : Int) (i9 : Int) (i10 : Int) (k : (Int) → Heap → Prop) (h : Heap) : Prop :=
 ∃ (I : (Int × Int) → Heap → Prop) (μ : (Int × Int) → Heap → Nat), I (i9, i10) h ∧ ∀ (t9_1 : Int) (t10_1 : Int) (h : Heap), I (t9_1, t10_1) h → slices_partitionEqualOrdered_uint64_l1b t0_1 t1_1 t9_1 t10_1 k (fun s h' => I s h' ∧ μ s h' < μ (t9_1, t10_1) h) h
def slices_partitionEqualOrdered_uint64 (p0 : Slc) (p1 : Int) (p2 : Int) (p3 : Int) (k : (Int) → Heap → Prop) (h : Heap) : Prop :=
 ∃ a1 : Addr, p0.a = some a1 ∧ (0 : Int) ≤ p3 ∧ p3 < (p0.len : Int) ∧ (∃ v2 : Int, cellH h (a1.add (p3.toNat * 1)) = some (.int .u64 v2) ∧ (∃ a3 : Addr, p0.a = some a3 ∧ (0 : Int) ≤ p1 ∧ p1 < (p0.len : Int) ∧ (∃ v4 : Int, cellH h (a3.add (p1.toNat * 1)) = some (.int .u64 v4) ∧ (∃ a5 : Addr, p0.a = some a5 ∧ (0 : Int) ≤ p1 ∧ p1 < (p0.len : Int) ∧ (∃ h6 : Heap, WrH h (a5.add (p1.toNat * 1)) ∧ h6 = setH h (a5.add (p1.toNat * 1)) (.int .u64 v2) ∧ (∃ a7 : Addr, p0.a = some a7 ∧ (0 : Int) ≤ p3 ∧ p3 < (p0.len : Int) ∧ (∃ h8 : Heap, WrH h6 (a7.add (p3.toNat * 1)) ∧ h8 = setH h6 (a7.add (p3.toNat * 1)) (.int .u64 v4) ∧ (∃ x9 : Int, x9 = (IntKind.i64.wrap (p1 + 1)) ∧ (∃ x10 : Int, x10 = (IntKind.i64.wrap (p2 - 1)) ∧ (slices_partitionEqualOrdered_uint64_l1 p0 p1 x9 x10 k h8))))))))))

/-- slices.partitionOrdered uint64  -/
def slices_partitionOrdered_uint64_j9 (t0_9 : Slc) (t1_9 : Int) (t10_9 : Int) (t11_9 : Int) (t129_9 : Bool) (k : (Int × Bool) → Heap → Prop) (nx1 : (Int) → Heap → Prop) (nx3 : (Int) → Heap → Prop) (nx5 : (Int × Int) → Heap → Prop) (nx6 : (Int) → Heap → Prop) (nx8 : (Int) → Heap → Prop) (h_9 : Heap) : Prop :=
 if t129_9 then (∃ x32 : Int, x32 = (IntKind.i64.wrap (t11_9 - 1)) ∧ (nx8 x32 h_9)) else (if (decide (t10_9 > t11_9)) then (∃ a33 : Addr, t0_9.a = some a33 ∧ (0 : Int) ≤ t1_9 ∧ t1_9 < (t0_9.len : Int) ∧ (∃ v34 : Int, cellH h_9 (a33.add (t1_9.toNat * 1)) = some (.int .u64 v34) ∧ (∃ a35 : Addr, t0_9.a = some a35 ∧ (0 : Int) ≤ t11_9 ∧ t11_9 < (t0_9.len : Int) ∧ (∃ v36 : Int, cellH h_9 (a35.add (t11_9.toNat * 1)) = some (.int .u64 v36) ∧ (∃ a37 : Addr, t0_9.a = some a37 ∧ (0 : Int) ≤ t11_9 ∧ t11_9 < (t0_9.len : Int) ∧ (∃ h38 : Heap, WrH h_9 (a37.add (t11_9.toNat * 1)) ∧ h38 = setH h_9 (a37.add (t11_9.toNat * 1)) (.int .u64 v34) ∧ (∃ a39 : Addr, t0_9.a = some a39 ∧ (0 : Int) ≤ t1_9 ∧ t1_9 < (t0_9.len : Int) ∧ (∃ h40 : Heap, WrH h38 (a39.add (t1_9.toNat * 1)) ∧ h40 = setH h38 (a39.add (t1_9.toNat * 1)) (.int .u64 v36) ∧ (k (t11_9, false) h40))))))))) else (∃ a41 : Addr, t0_9.a = some a41 ∧ (0 : Int) ≤ t11_9 ∧ t11_9 < (t0_9.len : Int) ∧ (∃ v42 : Int, cellH h_9 (a41.add (t11_9.toNat * 1)) = some (.int .u64 v42) ∧ (∃ a43 : Addr, t0_9.a = some a43 ∧ (0 : Int) ≤ t10_9 ∧ t10_9 < (t0_9.len : Int) ∧ (∃ v44 : Int, cellH h_9 (a43.add (t10_9.toNat * 1)) = some (.int .u64 v44) ∧ (∃ a45 : Addr, t0_9.a = some a45 ∧ (0 : Int) ≤ t10_9 ∧ t10_9 < (t0_9.len : Int) ∧ (∃ h46 : Heap, WrH h_9 (a45.add (t10_9.toNat * 1)) ∧ h46 = setH h_9 (a45.add (t10_9.toNat * 1)) (.int .u64 v42) ∧ (∃ a47 : Addr, t0_9.a = some a47 ∧ (0 : Int) ≤ t11_9 ∧ t11_9 < (t0_9.len : Int) ∧ (∃ h48 : Heap, WrH h46 (a47.add (t11_9.toNat * 1)) ∧ h48 = setH h46 (a47.add (t11_9.toNat * 1)) (.int .u64 v44) ∧ (∃ x49 : Int, x49 = (IntKind.i64.wrap (t10_9 + 1)) ∧ (∃ x50 : Int, x50 = (IntKind.i64.wrap (t11_9 - 1)) ∧ (nx5 (x49, x50) h48))))))))))))
def slices_partitionOrdered_uint64_l8b (t0_8 : Slc) (t1_8 : Int) (t10_8 : Int) (t11_8 : Int) (k : (Int × Bool) → Heap → Prop) (nx1 : (Int) → Heap → Prop) (nx3 : (Int) → Heap → Prop) (nx5 : (Int × Int) → Heap → Prop) (nx6 : (Int) → Heap → Prop) (nx8 : (Int) → Heap → Prop) (h_8 : Heap) : Prop :=
 if (decide (t10_8 ≤ t11_8)) then (∃ a51 : Addr, t0_8.a = some a51 ∧ (0 : Int) ≤ t11_8 ∧ t11_8 < (t0_8.len : Int) ∧ (∃ v52 : Int, cellH h_8 (a51.add (t11_8.toNat * 1)) = some (.int .u64 v52) ∧ (∃ a53 : Addr, t0_8.a = some a53 ∧ (0 : Int) ≤ t1_8 ∧ t1_8 < (t0_8.len : Int) ∧ (∃ v54 : Int, cellH h_8 (a53.add (t1_8.toNat * 1)) = some (.int .u64 v54) ∧ (cmp_Less_uint64 v52 v54 (fun (r55 : Bool) h56 => slices_partitionOrdered_uint64_j9 t0_8 t1_8 t10_8 t11_8 (!r55) k nx1 nx3 nx5 nx6 nx8 h56) h_8))))) else (slices_partitionOrdered_uint64_j9 t0_8 t1_8 t10_8 t11_8 false k nx1 nx3 nx5 nx6 nx8 h_8)
def slices_partitionOrdered_uint64_l8 (t0_8 : Slc) (t1_8 : Int) (t10_8 : Int) (i11 : Int) (k : (Int × Bool) → Heap → Prop) (nx1 : (Int) → Heap → Prop) (nx3 : (Int) → Heap → Prop) (nx5 : (Int × Int) → Heap → Prop) (nx6 : (Int) → Heap → Prop) (h : Heap) : Prop :=
 ∃ (I : Int → Heap → Prop) (μ : Int → Heap → Nat), I i11 h ∧ ∀ (t11_8 : Int) (h : Heap), I t11_8 h → slices_partitionOrdered_uint64_l8b t0_8 t1_8 t10_8 t11_8 k nx1 nx3 nx5 nx6 (fun s h' => I s h' ∧ μ s h' < μ t11_8 h) h
def slices_partitionOrdered_uint64_j7 (t0_7 : Slc) (t1_7 : Int) (t10_7 : Int) (t11_7 : Int) (t112_7 : Bool) (k : (Int × Bool) → Heap → Prop) (nx1 : (Int) → Heap → Prop) (nx3 : (Int) → Heap → Prop) (nx5 : (Int × Int) → Heap → Prop) (nx6 : (Int) → Heap → Prop) (h_7 : Heap) : Prop :=
 if t112_7 then (∃ x31 : Int, x31 = (IntKind.i64.wrap (t10_7 + 1)) ∧ (nx6 x31 h_7)) else (slices_partitionOrdered_uint64_l8 t0_7 t1_7 t10_7 t11_7 k nx1 nx3 nx5 nx6 h_7)
def slices_partitionOrdered_uint64_l6b (t0_6 : Slc) (t1_6 : Int) (t11_6 : Int) (t10_6 : Int) (k : (Int × Bool) → Heap → Prop) (nx1 : (Int) → Heap → Prop) (nx3 : (Int) → Heap → Prop) (nx5 : (Int × Int) → Heap → Prop) (nx6 : (Int) → Heap → Prop) (h_6 : Heap) : Prop :=
 if (decide (t10_6 ≤ t11_6)) then (∃ a57 : Addr, t0_6.a = some a57 ∧ (0 : Int) ≤ t10_6 ∧ t10_6 < (t0_6.len : Int) ∧ (∃ v58 : Int, cellH h_6 (a57.add (t10_6.toNat * 1)) = some (.int .u64 v58) ∧ (∃ a59 : Addr, t0_6.a = some a59 ∧ (0 : Int) ≤ t1_6 ∧ t1_6 < (t0_6.len : Int) ∧ (∃ v60 : Int, cellH h_6 (a59.add (t1_6.toNat * 1)) = some (.int .u64 v60) ∧ (cmp_Less_uint64 v58 v60 (fun (r61 : Bool) h62 => slices_partitionOrdered_uint64_j7 t0_6 t1_6 t10_6 t11_6 r61 k nx1 nx3 nx5 nx6 h62) h_6))))) else (slices_partitionOrdered_uint64_j7 t0_6 t1_6 t10_6 t11_6 false k nx1 nx3 nx5 nx6 h_6)
def slices_partitionOrdered_uint64_l6 (t0_6 : Slc) (t1_6 : Int) (t11_6 : Int) (i10 : Int) (k : (Int × Bool) → Heap → Prop) (nx1 : (Int) → Heap → Prop) (nx3 : (Int) → Heap → Prop) (nx5 : (Int × Int) → Heap → Prop) (h : Heap) : Prop :=
 ∃ (I : Int → Heap → Prop) (μ : Int → Heap → Nat), I i10 h ∧ ∀ (t10_6 : Int) (h : Heap), I t10_6 h → slices_partitionOrdered_uint64_l6b t0_6 t1_6 t11_6 t10_6 k nx1 nx3 nx5 (fun s h' => I s h' ∧ μ s h' < μ t10_6 h) h
def slices_partitionOrdered_uint64_l5b (t0_5 : Slc) (t1_5 : Int) (t10_5 : Int) (t11_5 : Int) (k : (Int × Bool) → Heap → Prop) (nx1 : (Int) → Heap → Prop) (nx3 : (Int) → Heap → Prop) (nx5 : (Int × Int) → Heap → Prop) (h_5 : Heap) : Prop :=
 slices_partitionOrdered_uint64_l6 t0_5 t1_5 t11_5 t10_5 k nx1 nx3 nx5 h_5
def slices_partitionOrdered_uint64_l5 (t0_5 : Slc) (t1_5 : Int) (i10 : Int) (i11 : Int) (k : (Int × Bool) → Heap → Prop) (nx1 : (Int) → Heap → Prop) (nx3 : (Int) → Heap → Prop) (h : Heap) : Prop :=
 ∃ (I : (Int × Int) → Heap → Prop) (μ : (Int × Int) → Heap → Nat), I (i10, i11) h ∧ ∀ (t10_5 : Int) (t11_5 : Int) (h : Heap), I (t10_5, t11_5) h → slices_partitionOrdered_uint64_l5b t0_5 t1_5 t10_5 t11_5 k nx1 nx3 (fun s h' => I s h' ∧ μ s h' < μ (t10_5, t11_5) h) h
def slices_partitionOrdered_uint64_j4 (t0_4 : Slc) (t1_4 : Int) (t10_4 : Int) (t11_4 : Int) (t60_4 : Bool) (k : (Int × Bool) → Heap → Prop) (nx1 : (Int) → Heap → Prop) (nx3 : (Int) → Heap → Prop) (h_4 : Heap) : Prop :=
 if t60_4 then (∃ x12 : Int, x12 = (IntKind.i64.wrap (t11_4 - 1)) ∧ (nx3 x12 h_4)) else (if (decide (t10_4 > t11_4)) then (∃ a13 : Addr, t0_4.a = some a13 ∧ (0 : Int) ≤ t1_4 ∧ t1_4 < (t0_4.len : Int) ∧ (∃ v14 : Int, cellH h_4 (a13.add (t1_4.toNat * 1)) = some (.int .u64 v14) ∧ (∃ a15 : Addr, t0_4.a = some a15 ∧ (0 : Int) ≤ t11_4 ∧ t11_4 < (t0_4.len : Int) ∧ (∃ v16 : Int, cellH h_4 (a15.add (t11_4.toNat * 1)) = some (.int .u64 v16) ∧ (∃ a17 : Addr, t0_4.a = some a17 ∧ (0 : Int) ≤ t11_4 ∧ t11_4 < (t0_4.len : Int) ∧ (∃ h18 : Heap, WrH h_4 (a17.add (t11_4.toNat * 1)) ∧ h18 = setH h_4 (a17.add (t11_4.toNat * 1)) (.int .u64 v14) ∧ (∃ a19 : Addr, t0_4.a = some a19 ∧ (0 : Int) ≤ t1_4 ∧ t1_4 < (t0_4.len : Int) ∧ (∃ h20 : Heap, WrH h18 (a19.add (t1_4.toNat * 1)) ∧ h20 = setH h18 (a19.add (t1_4.toNat * 1)) (.int .u64 v16) ∧ (k (t11_4, true) h20))))))))) else (∃ a21 : Addr, t0_4.a = some a21 ∧ (0 : Int) ≤ t11_4 ∧ t11_4 < (t0_4.len : Int) ∧ (∃ v22 : Int, cellH h_4 (a21.add (t11_4.toNat * 1)) = some (.int .u64 v22) ∧ (∃ a23 : Addr, t0_4.a = some a23 ∧ (0 : Int) ≤ t10_4 ∧ t10_4 < (t0_4.len : Int) ∧ (∃ v24 : Int, cellH h_4 (a23.add (t10_4.toNat * 1)) = some (.int .u64 v24) ∧ (∃ a25 : Addr, t0_4.a = some a25 ∧ (0 : Int) ≤ t10_4 ∧ t10_4 < (t0_4.len : Int) ∧ (∃ h26 : Heap, WrH h_4 (a25.add (t10_4.toNat * 1)) ∧ h26 = setH h_4 (a25.add (t10_4.toNat * 1)) (.int .u64 v22) ∧ (∃ a27 : Addr, t0_4.a = some a27 ∧ (0 : Int) ≤ t11_4 ∧ t11_4 < (t0_4.len : Int) ∧ (∃ h28 : Heap, WrH h26 (a27.add (t11_4.toNat * 1)) ∧ h28 = setH h26 (a27.add (t11_4.toNat * 1)) (.int .u64 v24) ∧ (∃ x29 : Int, x29 = (IntKind.i64.wrap (t10_4 + 1)) ∧ (∃ x30 : Int, x30 = (IntKind.i64.wrap (t11_4 - 1)) ∧ (slices_partitionOrdered_uint64_l5 t0_4 t1_4 x29 x30 k nx1 nx3 h28))))))))))))
def slices_partitionOrdered_uint64_l3b (t0_3 : Slc) (t1_3 : Int) (t10_3 : Int) (t11_3 : Int) (k : (Int × Bool) → Heap → Prop) (nx1 : (Int) → Heap → Prop) (nx3 : (Int) → Heap → Prop) (h_3 : Heap) : Prop :=
 if (decide (t10_3 ≤ t11_3)) then (∃ a63 : Addr, t0_3.a = some a63 ∧ (0 : Int) ≤ t11_3 ∧ t11_3 < (t0_3.len : Int) ∧ (∃ v64 : Int, cellH h_3 (a63.add (t11_3.toNat * 1)) = some (.int .u64 v64) ∧ (∃ a65 : Addr, t0_3.a = some a65 ∧ (0 : Int) ≤ t1_3 ∧ t1_3 < (t0_3.len : Int) ∧ (∃ v66 : Int, cellH h_3 (a65.add (t1_3.toNat * 1)) = some (.int .u64 v66) ∧ (cmp_Less_uint64 v64 v66 (fun (r67 : Bool) h68 => slices_partitionOrdered_uint64_j4 t0_3 t1_3 t10_3 t11_3 (!r67) k nx1 nx3 h68) h_3))))) else (slices_partitionOrdered_uint64_j4 t0_3 t1_3 t10_3 t11_3 false k nx1 nx3 h_3)
def slices_partitionOrdered_uint64_l3 (t0_3 : Slc) (t1_3 : Int) (t10_3 : Int) (i11 : Int) (k : (Int × Bool) → Heap → Prop) (nx1 : (Int) → Heap → Prop) (h : Heap) : Prop :=
 ∃ (I : Int → Heap → Prop) (μ : Int → Heap → Nat), I i11 h ∧ ∀ (t11_3 : Int) (h : Heap), I t11_3 h → slices_partitionOrdered_uint64_l3b t0_3 t1_3 t10_3 t11_3 k nx1 (fun s h' => I s h' ∧ μ s h' < μ t11_3 h) h
def slices_partitionOrdered_uint64_j2 (t0_2 : Slc) (t1_2 : Int) (t10_2 : Int) (t11_2 : Int) (t43_2 : Bool) (k : (Int × Bool) → Heap → Prop) (nx1 : (Int) → Heap → Prop) (h_2 : Heap) : Prop :=
 if t43_2 then (∃ x11 : Int, x11 = (IntKind.i64.wrap (t10_2 + 1)) ∧ (nx1 x11 h_2)) else (slices_partitionOrdered_uint64_l3 t0_2 t1_2 t10_2 t11_2 k nx1 h_2)
def slices_partitionOrdered_uint64_l1b (t0_1 : Slc) (t1_1 : Int) (t11_1 : Int) (t10_1 : Int) (k : (Int × Bool) → Heap → Prop) (nx1 : (Int) → Heap → Prop) (h_1 : Heap) : Prop :=
 if (decide (t10_1 ≤ t11_1)) then (∃ a69 : Addr, t0_1.a = some a69 ∧ (0 : Int) ≤ t10_1 ∧ t10_1 < (t0_1.len : Int) ∧ (∃ v70 : Int, cellH h_1 (a69.add (t10_1.toNat * 1)) = some (.int .u64 v70) ∧ (∃ a71 : Addr, t0_1.a = some a71 ∧ (0 : Int) ≤ t1_1 ∧ t1_1 < (t0_1.len : Int) ∧ (∃ v72 : Int, cellH h_1 (a71.add (t1_1.toNat * 1)) = some (.int .u64 v72) ∧ (cmp_Less_uint64 v70 v72 (fun (r73 : Bool) h74 => slices_partitionOrdered_uint64_j2 t0_1 t1_1 t10_1 t11_1 r73 k nx1 h74) h_1))))) else (slices_partitionOrdered_uint64_j2 t0_1 t1_1 t10_1 t11_1 false k nx1 h_1)
def slices_partitionOrdered_uint64_l1 (t0_1 : Slc) (t1_1 : Int) (t11_1 : Int) (i10 : Int) (k : (Int × Bool) → Heap → Prop) (h : Heap) : Prop :=
 ∃ (I : Int → Heap → Prop) (μ : Int → Heap → Nat), I i10 h ∧ ∀ (t10_1 : Int) (h : Heap), I t10_1 h → slices_partitionOrdered_uint64_l1b t0_1 t1_1 t11_1 t10_1 k (fun s h' => I s h' ∧ μ s h' < μ t10_1 h) h
def slices_partitionOrdered_uint64 (p0 : Slc) (p1 : Int) (p2 : Int) (p3 : Int) (k : (Int × Bool) → Heap → Prop) (h : Heap) : Prop :=
 ∃ a1 : Addr, p0.a = some a1 ∧ (0 : Int) ≤ p3 ∧ p3 < (p0.len : Int) ∧ (∃ v2 : Int, cellH h (a1.add (p3.toNat * 1)) = some (.int .u64 v2) ∧ (∃ a3 : Addr, p0.a = some a3 ∧ (0 : Int) ≤ p1 ∧ p1 < (p0.len : Int) ∧ (∃ v4 : Int, cellH h (a3.add (p1.toNat * 1)) = some (.int .u64 v4) ∧ (∃ a5 : Addr, p0.a = some a5 ∧ (0 : Int) ≤ p1 ∧ p1 < (p0.len : Int) ∧ (∃ h6 : Heap, WrH h (a5.add (p1.toNat * 1)) ∧ h6 = setH h (a5.add (p1.toNat * 1)) (.int .u64 v2) ∧ (∃ a7 : Addr, p0.a = some a7 ∧ (0 : Int) ≤ p3 ∧ p3 < (p0.len : Int) ∧ (∃ h8 : Heap, WrH h6 (a7.add (p3.toNat * 1)) ∧ h8 = setH h6 (a7.add (p3.toNat * 1)) (.int .u64 v4) ∧ (∃ x9 : Int, x9 = (IntKind.i64.wrap (p1 + 1)) ∧ (∃ x10 : Int, x10 = (IntKind.i64.wrap (p2 - 1)) ∧ (slices_partitionOrdered_uint64_l1 p0 p1 x10 x9 k h8))))))))))

theorem slices_siftDownOrdered_uint64_ok : CallOk Go.Proofs.Try.prog 108 := ⟨_, Go.Proofs.Try.func108, by kernel_rfl, by kernel_rfl⟩
theorem slices_siftDownOrdered_uint64_ref (p0 : Slc) (p1 : Int) (p2 : Int) (p3 : Int) (k : (Unit) → Heap → Prop) (h : Heap) (H : slices_siftDownOrdered_uint64 p0 p1 p2 p3 k h) : CallsH Go.Proofs.Try.prog 108 #[Slc.v p0, .int .i64 p1, .int .i64 p2, .int .i64 p3] h (fun v h' => ∃ r : Unit, v = .tuple #[] ∧ k r h') := by
 refine f_enter (N := 76) Go.Proofs.Try.func108 rfl rfl rfl (fun w0 => ?_)
 unfold slices_siftDownOrdered_uint64 at H
 refine c_weak [(0, Slc.v p0), (1, .int .i64 p1), (2, .int .i64 p2), (3, .int .i64 p3)] ⟨rfl, rfl, rfl, rfl, trivial⟩ ?_
 refine c_seq (c_region ?_)
 iterate 2 refine wP tok ?_
 refine w_end (x_seq (c_block ?_))
 obtain ⟨I1, μ1, H0, HI⟩ := H
 refine c_loop (σ := Int) (fun (s : Int) => [(8, .int .i64 s), (0, Slc.v p0), (2, .int .i64 p2), (3, .int .i64 p3)]) I1 μ1 p1 H0 ⟨rfl, rfl, rfl, rfl, trivial⟩ ?_
 rintro t8_1 h_1 H
 replace H := HI t8_1 h_1 H
 unfold slices_siftDownOrdered_uint64_l1b at H
 refine c_weak [(8, .int .i64 t8_1), (0, Slc.v p0), (2, .int .i64 p2), (3, .int .i64 p3)] ⟨rfl, rfl, rfl, rfl, trivial⟩ ?_
 refine c_block (c_seq (c_region ?_))
 iterate 3 refine wP tok ?_
 obtain ⟨x1, ex1, H⟩ := H
 refine w_pe tok rfl (congrArg (fun z => (.int .i64 z : Value)) ex1) rfl rfl ?_
 refine w_end (x_seq ?_)
 refine c_seq (c_seq (c_region ?_))
 iterate 3 refine wP tok ?_
 refine w_end (x_seq ?_)
 refine c_if H rfl (fun H => ?_) (fun H => ?_)
 ·
  refine c_exit ?_
  refine x_te ?_
  refine x_bm rfl ?_
  refine x_te ?_
  refine x_bh ?_
  exact x_end _ rfl _ rfl ⟨(), rfl, H⟩
 ·
  refine c_skip (x_seq ?_)
  refine c_seqJ (α := Int) (fun (s : Int) => [(9, .int .i64 s), (0, Slc.v p0), (2, .int .i64 p2), (3, .int .i64 p3), (8, .int .i64 t8_1)]) (fun (s : Int) h => slices_siftDownOrdered_uint64_j2 p0 p2 p3 t8_1 s k (fun s h' => I1 s h' ∧ μ1 s h' < μ1 t8_1 h_1) h) ?_ ?_
  ·
   rintro t9_2 h_2 H
   replace H : slices_siftDownOrdered_uint64_j2 p0 p2 p3 t8_1 t9_2 k (fun s h' => I1 s h' ∧ μ1 s h' < μ1 t8_1 h_1) h_2 := H
   unfold slices_siftDownOrdered_uint64_j2 at H
   refine c_weak [(9, .int .i64 t9_2), (0, Slc.v p0), (2, .int .i64 p2), (3, .int .i64 p3), (8, .int .i64 t8_1)] ⟨rfl, rfl, rfl, rfl, rfl, trivial⟩ ?_
   refine c_seq (c_seq ?_)
   refine c_sim [(0, Slc.v p0), (2, .int .i64 p2), (3, .int .i64 p3), (8, .int .i64 t8_1), (9, .int .i64 t9_2)] (by kernel_rfl) (by kernel_rfl) ⟨rfl, rfl, rfl, rfl, rfl, trivial⟩ (fun wf => ?_)
   refine sQ 0 [(0, Slc.v p0)] (some 39) tok wf ⟨rfl, trivial⟩ (fun P_0 => ?_)
   refine sQ 1 [(3, .int .i64 p3)] (some 40) tok wf ⟨rfl, trivial⟩ (fun P_1 => ?_)
   refine sQ 2 [(8, .int .i64 t8_1)] (some 41) tok wf ⟨rfl, trivial⟩ (fun P_2 => ?_)
   refine sQ 3 [(40, .int .i64 p3), (41, .int .i64 t8_1)] (some 42) tok wf ⟨rfl, rfl, trivial⟩ (fun P_3 => ?_)
   obtain ⟨a2, ha2, la2, ua2, H⟩ := H
   refine sP 4 [(39, Slc.v p0), (42, .int .i64 (IntKind.i64.wrap (p3 + t8_1)))] (some 43) wf ⟨rfl, rfl, trivial⟩ (fun _ => pf_y rfl rfl rfl (y_ixa' tok rfl rfl ha2 rfl rfl rfl la2 ua2)) (fun P_4 => ?_)
   obtain ⟨v3, hv3, H⟩ := H
   refine sL 5 [(43, .pointer (some (a2.add ((IntKind.i64.wrap (p3 + t8_1)).toNat * 1))))] (some 44) wf ⟨rfl, trivial⟩ (pf_y rfl rfl rfl (y_ld tok rfl rfl rfl rfl hv3)) (fun P_5 => ?_)
   refine sQ 6 [(0, Slc.v p0)] (some 45) tok wf ⟨rfl, trivial⟩ (fun P_6 => ?_)
   refine sQ 7 [(3, .int .i64 p3)] (some 46) tok wf ⟨rfl, trivial⟩ (fun P_7 => ?_)
   refine sQ 8 [(9, .int .i64 t9_2)] (some 47) tok wf ⟨rfl, trivial⟩ (fun P_8 => ?_)
   refine sQ 9 [(46, .int .i64 p3), (47, .int .i64 t9_2)] (some 48) tok wf ⟨rfl, rfl, trivial⟩ (fun P_9 => ?_)
   obtain ⟨a4, ha4, la4, ua4, H⟩ := H
   refine sP 10 [(45, Slc.v p0), (48, .int .i64 (IntKind.i64.wrap (p3 + t9_2)))] (some 49) wf ⟨rfl, rfl, trivial⟩ (fun _ => pf_y rfl rfl rfl (y_ixa' tok rfl rfl ha4 rfl rfl rfl la4 ua4)) (fun P_10 => ?_)
   obtain ⟨v5, hv5, H⟩ := H
   refine sL 11 [(49, .pointer (some (a4.add ((IntKind.i64.wrap (p3 + t9_2)).toNat * 1))))] (some 50) wf ⟨rfl, trivial⟩ (pf_y rfl rfl rfl (y_ld tok rfl rfl rfl rfl hv5)) (fun P_11 => ?_)
   refine sim_c 12 [0, 1, 2, 3, 4, 5, 6, 7, 8, 9, 10, 11] [0, 1, 2, 3, 4, 5, 6, 7, 8, 9, 10, 11] (ei := [(44, .int .u64 v3), (50, .int .u64 v5)]) cmp_Less_uint64_ok (cmp_Less_uint64_ref _ _ _ _ H) wf ⟨P_11, P_10 _, P_9 _, P_8 _, P_7 _, P_6 _, P_5, P_4 _, P_3 _, P_2 _, P_1 _, P_0 _, trivial⟩ (by kernel_rfl) ⟨rfl, rfl, trivial⟩ (by kernel_rfl) rfl rfl rfl rfl rfl ?_
   rintro _ h7 ⟨r6, rfl, H⟩
   refine sQ 13 [(51, .bool r6)] (some 52) tok wf ⟨rfl, trivial⟩ (fun P_13 => ?_)
   refine sim_end wf ⟨P_13 _, trivial, trivial, trivial, trivial, trivial, trivial, trivial, trivial, trivial, trivial, trivial, trivial, trivial⟩ (by kernel_rfl) ?_
   clear wf P_0 P_1 P_10 P_11 P_13 P_2 P_3 P_4 P_5 P_6 P_7 P_8 P_9
   refine x_seq ?_
   refine c_weak [(0, Slc.v p0), (2, .int .i64 p2), (3, .int .i64 p3), (8, .int .i64 t8_1), (9, .int .i64 t9_2), (52, .bool (!r6))] ⟨rfl, rfl, rfl, rfl, rfl, rfl, trivial⟩ ?_
   refine c_if H rfl (fun H => ?_) (fun H => ?_)
   ·
    refine c_ret (x_tr ?_)
    refine x_br ?_
    refine x_tr ?_
    refine x_br ?_
    exact x_ret _ rfl _ rfl ⟨(), rfl, H⟩
   ·
    refine c_skip (x_seq (c_seq ?_))
    refine c_sim [(0, Slc.v p0), (2, .int .i64 p2), (3, .int .i64 p3), (8, .int .i64 t8_1), (9, .int .i64 t9_2)] (by kernel_rfl) (by kernel_rfl) ⟨rfl, rfl, rfl, rfl, rfl, trivial⟩ (fun wf => ?_)
    refine sQ 0 [(0, Slc.v p0)] (some 53) tok wf ⟨rfl, trivial⟩ (fun P_0 => ?_)
    refine sQ 1 [(3, .int .i64 p3)] (some 54) tok wf ⟨rfl, trivial⟩ (fun P_1 => ?_)
    refine sQ 2 [(8, .int .i64 t8_1)] (some 55) tok wf ⟨rfl, trivial⟩ (fun P_2 => ?_)
    refine sQ 3 [(54, .int .i64 p3), (55, .int .i64 t8_1)] (some 56) tok wf ⟨rfl, rfl, trivial⟩ (fun P_3 => ?_)
    refine sQ 4 [(0, Slc.v p0)] (some 57) tok wf ⟨rfl, trivial⟩ (fun P_4 => ?_)
    refine sQ 5 [(3, .int .i64 p3)] (some 58) tok wf ⟨rfl, trivial⟩ (fun P_5 => ?_)
    refine sQ 6 [(9, .int .i64 t9_2)] (some 59) tok wf ⟨rfl, trivial⟩ (fun P_6 => ?_)
    refine sQ 7 [(58, .int .i64 p3), (59, .int .i64 t9_2)] (some 60) tok wf ⟨rfl, rfl, trivial⟩ (fun P_7 => ?_)
    refine sQ 8 [(0, Slc.v p0)] (some 61) tok wf ⟨rfl, trivial⟩ (fun P_8 => ?_)
    refine sQ 9 [(3, .int .i64 p3)] (some 62) tok wf ⟨rfl, trivial⟩ (fun P_9 => ?_)
    refine sQ 10 [(9, .int .i64 t9_2)] (some 63) tok wf ⟨rfl, trivial⟩ (fun P_10 => ?_)
    refine sQ 11 [(62, .int .i64 p3), (63, .int .i64 t9_2)] (some 64) tok wf ⟨rfl, rfl, trivial⟩ (fun P_11 => ?_)
    obtain ⟨a8, ha8, la8, ua8, H⟩ := H
    refine sP 12 [(61, Slc.v p0), (64, .int .i64 (IntKind.i64.wrap (p3 + t9_2)))] (some 65) wf ⟨rfl, rfl, trivial⟩ (fun _ => pf_y rfl rfl rfl (y_ixa' tok rfl rfl ha8 rfl rfl rfl la8 ua8)) (fun P_12 => ?_)
    obtain ⟨v9, hv9, H⟩ := H
    refine sL 13 [(65, .pointer (some (a8.add ((IntKind.i64.wrap (p3 + t9_2)).toNat * 1))))] (some 66) wf ⟨rfl, trivial⟩ (pf_y rfl rfl rfl (y_ld tok rfl rfl rfl rfl hv9)) (fun P_13 => ?_)
    refine sQ 14 [(0, Slc.v p0)] (some 67) tok wf ⟨rfl, trivial⟩ (fun P_14 => ?_)
    refine sQ 15 [(3, .int .i64 p3)] (some 68) tok wf ⟨rfl, trivial⟩ (fun P_15 => ?_)
    refine sQ 16 [(8, .int .i64 t8_1)] (some 69) tok wf ⟨rfl, trivial⟩ (fun P_16 => ?_)
    refine sQ 17 [(68, .int .i64 p3), (69, .int .i64 t8_1)] (some 70) tok wf ⟨rfl, rfl, trivial⟩ (fun P_17 => ?_)
    obtain ⟨a10, ha10, la10, ua10, H⟩ := H
    refine sP 18 [(67, Slc.v p0), (70, .int .i64 (IntKind.i64.wrap (p3 + t8_1)))] (some 71) wf ⟨rfl, rfl, trivial⟩ (fun _ => pf_y rfl rfl rfl (y_ixa' tok rfl rfl ha10 rfl rfl rfl la10 ua10)) (fun P_18 => ?_)
    obtain ⟨v11, hv11, H⟩ := H
    refine sL 19 [(71, .pointer (some (a10.add ((IntKind.i64.wrap (p3 + t8_1)).toNat * 1))))] (some 72) wf ⟨rfl, trivial⟩ (pf_y rfl rfl rfl (y_ld tok rfl rfl rfl rfl hv11)) (fun P_19 => ?_)
    obtain ⟨a12, ha12, la12, ua12, H⟩ := H
    refine sP 20 [(53, Slc.v p0), (56, .int .i64 (IntKind.i64.wrap (p3 + t8_1)))] (some 73) wf ⟨rfl, rfl, trivial⟩ (fun _ => pf_y rfl rfl rfl (y_ixa' tok rfl rfl ha12 rfl rfl rfl la12 ua12)) (fun P_20 => ?_)
    obtain ⟨h13, wh13, eh13, H⟩ := H
    refine sim_h 21 [0, 1, 2, 3, 8, 9, 10, 11, 12, 13, 14, 15, 16, 17, 18, 19, 20] [0, 1, 2, 3, 8, 9, 10, 11, 12, 13, 14, 15, 16, 17, 18, 19, 20] (ei := [(66, .int .u64 v9), (73, .pointer (some (a12.add ((IntKind.i64.wrap (p3 + t8_1)).toNat * 1))))]) wf ⟨P_20 _, P_19, P_18 _, P_17 _, P_16 _, P_15 _, P_14 _, P_13, P_12 _, P_11 _, P_10 _, P_9 _, P_8 _, P_7 _, P_6 _, P_5 _, P_4 _, P_3 _, P_2 _, P_1 _, P_0 _, trivial⟩ (by kernel_rfl) ⟨rfl, rfl, trivial⟩ (by kernel_rfl) rfl rfl rfl (h_st tok rfl rfl rfl rfl rfl rfl wh13 eh13) ?_
    obtain ⟨a14, ha14, la14, ua14, H⟩ := H
    refine sP 22 [(57, Slc.v p0), (60, .int .i64 (IntKind.i64.wrap (p3 + t9_2)))] (some 74) wf ⟨rfl, rfl, trivial⟩ (fun _ => pf_y rfl rfl rfl (y_ixa' tok rfl rfl ha14 rfl rfl rfl la14 ua14)) (fun P_22 => ?_)
    obtain ⟨h15, wh15, eh15, H⟩ := H
    refine sim_h 23 [0, 1, 2, 3, 4, 5, 6, 7, 8, 9, 10, 11, 12, 13, 14, 15, 16, 17, 18, 19, 20, 21, 22] [0, 1, 2, 3, 4, 5, 6, 7, 8, 9, 10, 11, 12, 13, 14, 15, 16, 17, 18, 19, 20, 22] (ei := [(72, .int .u64 v11), (74, .pointer (some (a14.add ((IntKind.i64.wrap (p3 + t9_2)).toNat * 1))))]) wf ⟨P_22 _, trivial, trivial, trivial, trivial, trivial, trivial, trivial, trivial, trivial, trivial, trivial, trivial, trivial, P_7 _, P_6 _, P_5 _, P_4 _, trivial, trivial, trivial, trivial, trivial⟩ (by kernel_rfl) ⟨rfl, rfl, trivial⟩ (by kernel_rfl) rfl rfl rfl (h_st tok rfl rfl rfl rfl rfl rfl wh15 eh15) ?_
    refine sim_end wf ⟨trivial, trivial, trivial, trivial, trivial, trivial, trivial, trivial, trivial, trivial, trivial, trivial, trivial, trivial, trivial, trivial, trivial, trivial, trivial, trivial, trivial, trivial, trivial⟩ (by kernel_rfl) ?_
    clear wf P_0 P_1 P_10 P_11 P_12 P_13 P_14 P_15 P_16 P_17 P_18 P_19 P_2 P_20 P_22 P_3 P_4 P_5 P_6 P_7 P_8 P_9
    refine x_seq ?_
    refine c_weak [(0, Slc.v p0), (2, .int .i64 p2), (3, .int .i64 p3), (9, .int .i64 t9_2)] ⟨rfl, rfl, rfl, rfl, trivial⟩ ?_
    refine c_region ?_
    iterate 2 refine wP tok ?_
    refine w_end ?_
    refine x_blk ?_
    exact x_join t9_2 H ⟨rfl, rfl, rfl, rfl, trivial⟩
  ·
   refine c_seqJ (α := Bool) (fun (s : Bool) => [(36, .bool s), (0, Slc.v p0), (2, .int .i64 p2), (3, .int .i64 p3), (8, .int .i64 t8_1), (9, .int .i64 x1)]) (fun (s : Bool) h => slices_siftDownOrdered_uint64_j3 p0 p2 p3 t8_1 x1 s k (fun s h' => I1 s h' ∧ μ1 s h' < μ1 t8_1 h_1) h) ?_ ?_
   ·
    rintro t36_3 h_3 H
    replace H : slices_siftDownOrdered_uint64_j3 p0 p2 p3 t8_1 x1 t36_3 k (fun s h' => I1 s h' ∧ μ1 s h' < μ1 t8_1 h_1) h_3 := H
    unfold slices_siftDownOrdered_uint64_j3 at H
    refine c_weak [(36, .bool t36_3), (0, Slc.v p0), (2, .int .i64 p2), (3, .int .i64 p3), (8, .int .i64 t8_1), (9, .int .i64 x1)] ⟨rfl, rfl, rfl, rfl, rfl, rfl, trivial⟩ ?_
    refine c_if H rfl (fun H => ?_) (fun H => ?_)
    ·
     refine c_region ?_
     iterate 2 refine wP tok ?_
     obtain ⟨x16, ex16, H⟩ := H
     refine w_pe tok rfl (congrArg (fun z => (.int .i64 z : Value)) ex16) rfl rfl ?_
     refine w_end ?_
     exact x_join x16 H ⟨rfl, rfl, rfl, rfl, rfl, trivial⟩
    ·
     refine c_skip ?_
     exact x_join x1 H ⟨rfl, rfl, rfl, rfl, rfl, trivial⟩
   ·
    refine c_sim [(0, Slc.v p0), (2, .int .i64 p2), (3, .int .i64 p3), (8, .int .i64 t8_1), (9, .int .i64 x1)] (by kernel_rfl) (by kernel_rfl) ⟨rfl, rfl, rfl, rfl, rfl, trivial⟩ (fun wf => ?_)
    refine sQ 0 [(9, .int .i64 x1)] (some 17) tok wf ⟨rfl, trivial⟩ (fun P_0 => ?_)
    refine sQ 1 [(17, .int .i64 x1)] (some 18) tok wf ⟨rfl, trivial⟩ (fun P_1 => ?_)
    refine sQ 2 [(2, .int .i64 p2)] (some 19) tok wf ⟨rfl, trivial⟩ (fun P_2 => ?_)
    refine sQ 3 [(18, .int .i64 (IntKind.i64.wrap (x1 + 1))), (19, .int .i64 p2)] (some 20) tok wf ⟨rfl, rfl, trivial⟩ (fun P_3 => ?_)
    refine sQ 4 [(20, .bool (decide ((IntKind.i64.wrap (x1 + 1)) < p2)))] (some 21) tok wf ⟨rfl, trivial⟩ (fun P_4 => ?_)
    refine sim_gif 21 H rfl (fun hb H => ?_) (fun hb H => ?_)
    ·
     refine sQ 5 [(0, Slc.v p0), (21, .bool true)] (some 22) tok wf ⟨rfl, rfl, trivial⟩ (fun P_5 => ?_)
     refine sQ 6 [(3, .int .i64 p3), (21, .bool true)] (some 23) tok wf ⟨rfl, rfl, trivial⟩ (fun P_6 => ?_)
     refine sQ 7 [(9, .int .i64 x1), (21, .bool true)] (some 24) tok wf ⟨rfl, rfl, trivial⟩ (fun P_7 => ?_)
     refine sQ 8 [(21, .bool true), (23, .int .i64 p3), (24, .int .i64 x1)] (some 25) tok wf ⟨rfl, rfl, rfl, trivial⟩ (fun P_8 => ?_)
     obtain ⟨a17, ha17, la17, ua17, H⟩ := H
     refine sP 9 [(21, .bool true), (22, Slc.v p0), (25, .int .i64 (IntKind.i64.wrap (p3 + x1)))] (some 26) wf ⟨rfl, rfl, rfl, trivial⟩ (fun _ => pf_y rfl rfl rfl (y_ixa' tok rfl rfl ha17 rfl rfl rfl la17 ua17)) (fun P_9 => ?_)
     obtain ⟨v18, hv18, H⟩ := H
     refine sL 10 [(21, .bool true), (26, .pointer (some (a17.add ((IntKind.i64.wrap (p3 + x1)).toNat * 1))))] (some 27) wf ⟨rfl, rfl, trivial⟩ (pf_y rfl rfl rfl (y_ld tok rfl rfl rfl rfl hv18)) (fun P_10 => ?_)
     refine sQ 11 [(0, Slc.v p0), (21, .bool true)] (some 28) tok wf ⟨rfl, rfl, trivial⟩ (fun P_11 => ?_)
     refine sQ 12 [(3, .int .i64 p3), (21, .bool true)] (some 29) tok wf ⟨rfl, rfl, trivial⟩ (fun P_12 => ?_)
     refine sQ 13 [(9, .int .i64 x1), (21, .bool true)] (some 30) tok wf ⟨rfl, rfl, trivial⟩ (fun P_13 => ?_)
     refine sQ 14 [(21, .bool true), (29, .int .i64 p3), (30, .int .i64 x1)] (some 31) tok wf ⟨rfl, rfl, rfl, trivial⟩ (fun P_14 => ?_)
     refine sQ 15 [(21, .bool true), (31, .int .i64 (IntKind.i64.wrap (p3 + x1)))] (some 32) tok wf ⟨rfl, rfl, trivial⟩ (fun P_15 => ?_)
     obtain ⟨a19, ha19, la19, ua19, H⟩ := H
     refine sP 16 [(21, .bool true), (28, Slc.v p0), (32, .int .i64 (IntKind.i64.wrap ((IntKind.i64.wrap (p3 + x1)) + 1)))] (some 33) wf ⟨rfl, rfl, rfl, trivial⟩ (fun _ => pf_y rfl rfl rfl (y_ixa' tok rfl rfl ha19 rfl rfl rfl la19 ua19)) (fun P_16 => ?_)
     obtain ⟨v20, hv20, H⟩ := H
     refine sL 17 [(21, .bool true), (33, .pointer (some (a19.add ((IntKind.i64.wrap ((IntKind.i64.wrap (p3 + x1)) + 1)).toNat * 1))))] (some 34) wf ⟨rfl, rfl, trivial⟩ (pf_y rfl rfl rfl (y_ld tok rfl rfl rfl rfl hv20)) (fun P_17 => ?_)
     refine sim_c 18 [0, 1, 2, 3, 4, 5, 6, 7, 8, 9, 10, 11, 12, 13, 14, 15, 16, 17] [0, 1, 2, 3, 4, 5, 6, 7, 8, 9, 10, 11, 12, 13, 14, 15, 16, 17] (ei := [(21, .bool true), (27, .int .u64 v18), (34, .int .u64 v20)]) cmp_Less_uint64_ok (cmp_Less_uint64_ref _ _ _ _ H) wf ⟨P_17, P_16 _, P_15 _, P_14 _, P_13 _, P_12 _, P_11 _, P_10, P_9 _, P_8 _, P_7 _, P_6 _, P_5 _, P_4 _, P_3 _, P_2 _, P_1 _, P_0 _, trivial⟩ (by kernel_rfl) ⟨rfl, rfl, rfl, trivial⟩ (by kernel_rfl) rfl rfl rfl rfl rfl ?_
     rintro _ h22 ⟨r21, rfl, H⟩
     refine sQ 19 [(21, .bool true), (35, .bool r21)] (some 36) tok wf ⟨rfl, rfl, trivial⟩ (fun P_19 => ?_)
     refine sim_end wf ⟨P_19 _, trivial, trivial, trivial, trivial, trivial, trivial, trivial, trivial, trivial, trivial, trivial, trivial, trivial, trivial, trivial, trivial, trivial, trivial, trivial⟩ (by kernel_rfl) ?_
     clear wf P_0 P_1 P_10 P_11 P_12 P_13 P_14 P_15 P_16 P_17 P_19 P_2 P_3 P_4 P_5 P_6 P_7 P_8 P_9
     exact x_join r21 H ⟨rfl, rfl, rfl, rfl, rfl, rfl, trivial⟩
    ·
     refine sim_p 5 (v := undef) (ei := [(0, Slc.v p0), (21, .bool false)]) (d := (some 22)) wf (by kernel_rfl) ⟨rfl, rfl, trivial⟩ (by kernel_rfl) (by kernel_rfl) (fun _ => pf_s rfl rfl rfl) (fun P_5 => ?_)
     refine sim_p 6 (v := undef) (ei := [(3, .int .i64 p3), (21, .bool false)]) (d := (some 23)) wf (by kernel_rfl) ⟨rfl, rfl, trivial⟩ (by kernel_rfl) (by kernel_rfl) (fun _ => pf_s rfl rfl rfl) (fun P_6 => ?_)
     refine sim_p 7 (v := undef) (ei := [(9, .int .i64 x1), (21, .bool false)]) (d := (some 24)) wf (by kernel_rfl) ⟨rfl, rfl, trivial⟩ (by kernel_rfl) (by kernel_rfl) (fun _ => pf_s rfl rfl rfl) (fun P_7 => ?_)
     refine sim_p 8 (v := undef) (ei := [(21, .bool false), (23, undef), (24, undef)]) (d := (some 25)) wf (by kernel_rfl) ⟨rfl, rfl, rfl, trivial⟩ (by kernel_rfl) (by kernel_rfl) (fun _ => pf_s rfl rfl rfl) (fun P_8 => ?_)
     refine sim_p 9 (v := undef) (ei := [(21, .bool false), (22, undef), (25, undef)]) (d := (some 26)) wf (by kernel_rfl) ⟨rfl, rfl, rfl, trivial⟩ (by kernel_rfl) (by kernel_rfl) (fun _ => pf_s rfl rfl rfl) (fun P_9 => ?_)
     refine sim_p 10 (v := undef) (ei := [(21, .bool false), (26, undef)]) (d := (some 27)) wf (by kernel_rfl) ⟨rfl, rfl, trivial⟩ (by kernel_rfl) (by kernel_rfl) (fun _ => pf_s rfl rfl rfl) (fun P_10 => ?_)
     refine sim_p 11 (v := undef) (ei := [(0, Slc.v p0), (21, .bool false)]) (d := (some 28)) wf (by kernel_rfl) ⟨rfl, rfl, trivial⟩ (by kernel_rfl) (by kernel_rfl) (fun _ => pf_s rfl rfl rfl) (fun P_11 => ?_)
     refine sim_p 12 (v := undef) (ei := [(3, .int .i64 p3), (21, .bool false)]) (d := (some 29)) wf (by kernel_rfl) ⟨rfl, rfl, trivial⟩ (by kernel_rfl) (by kernel_rfl) (fun _ => pf_s rfl rfl rfl) (fun P_12 => ?_)
     refine sim_p 13 (v := undef) (ei := [(9, .int .i64 x1), (21, .bool false)]) (d := (some 30)) wf (by kernel_rfl) ⟨rfl, rfl, trivial⟩ (by kernel_rfl) (by kernel_rfl) (fun _ => pf_s rfl rfl rfl) (fun P_13 => ?_)
     refine sim_p 14 (v := undef) (ei := [(21, .bool false), (29, undef), (30, undef)]) (d := (some 31)) wf (by kernel_rfl) ⟨rfl, rfl, rfl, trivial⟩ (by kernel_rfl) (by kernel_rfl) (fun _ => pf_s rfl rfl rfl) (fun P_14 => ?_)
     refine sim_p 15 (v := undef) (ei := [(21, .bool false), (31, undef)]) (d := (some 32)) wf (by kernel_rfl) ⟨rfl, rfl, trivial⟩ (by kernel_rfl) (by kernel_rfl) (fun _ => pf_s rfl rfl rfl) (fun P_15 => ?_)
     refine sim_p 16 (v := undef) (ei := [(21, .bool false), (28, undef), (32, undef)]) (d := (some 33)) wf (by kernel_rfl) ⟨rfl, rfl, rfl, trivial⟩ (by kernel_rfl) (by kernel_rfl) (fun _ => pf_s rfl rfl rfl) (fun P_16 => ?_)
     refine sim_p 17 (v := undef) (ei := [(21, .bool false), (33, undef)]) (d := (some 34)) wf (by kernel_rfl) ⟨rfl, rfl, trivial⟩ (by kernel_rfl) (by kernel_rfl) (fun _ => pf_s rfl rfl rfl) (fun P_17 => ?_)
     refine sim_p 18 (v := undef) (ei := [(21, .bool false), (27, undef), (34, undef)]) (d := (some 35)) wf (by kernel_rfl) ⟨rfl, rfl, rfl, trivial⟩ (by kernel_rfl) (by kernel_rfl) (fun _ => pf_s rfl rfl rfl) (fun P_18 => ?_)
     refine sQ 19 [(21, .bool false), (35, undef)] (some 36) tok wf ⟨rfl, rfl, trivial⟩ (fun P_19 => ?_)
     refine sim_end wf ⟨P_19 _, P_18 _, P_17 _, P_16 _, P_15 _, P_14 _, P_13 _, P_12 _, P_11 _, P_10 _, P_9 _, P_8 _, P_7 _, P_6 _, P_5 _, P_4 _, P_3 _, P_2 _, P_1 _, P_0 _, trivial⟩ (by kernel_rfl) ?_
     clear wf P_0 P_1 P_10 P_11 P_12 P_13 P_14 P_15 P_16 P_17 P_18 P_19 P_2 P_3 P_4 P_5 P_6 P_7 P_8 P_9
     exact x_join false H ⟨rfl, rfl, rfl, rfl, rfl, rfl, trivial⟩

theorem slices_heapSortOrdered_uint64_ok : CallOk Go.Proofs.Try.prog 98 := ⟨_, Go.Proofs.Try.func98, by kernel_rfl, by kernel_rfl⟩
theorem slices_heapSortOrdered_uint64_ref (p0 : Slc) (p1 : Int) (p2 : Int) (k : (Unit) → Heap → Prop) (h : Heap) (H : slices_heapSortOrdered_uint64 p0 p1 p2 k h) : CallsH Go.Proofs.Try.prog 98 #[Slc.v p0, .int .i64 p1, .int .i64 p2] h (fun v h' => ∃ r : Unit, v = .tuple #[] ∧ k r h') := by
 refine f_enter (N := 56) Go.Proofs.Try.func98 rfl rfl rfl (fun w0 => ?_)
 unfold slices_heapSortOrdered_uint64 at H
 refine c_weak [(0, Slc.v p0), (1, .int .i64 p1), (2, .int .i64 p2)] ⟨rfl, rfl, rfl, trivial⟩ ?_
 refine c_seq (c_region ?_)
 iterate 2 refine wP tok ?_
 refine w_end (x_seq ?_)
 refine c_seq (c_region ?_)
 refine wP tok ?_
 refine w_end (x_seq ?_)
 refine c_seq (c_region ?_)
 iterate 3 refine wP tok ?_
 obtain ⟨x1, ex1, H⟩ := H
 refine w_pe tok rfl (congrArg (fun z => (.int .i64 z : Value)) ex1) rfl rfl ?_
 refine w_end (x_seq ?_)
 refine c_seq (c_seq (c_region ?_))
 iterate 3 refine wP tok ?_
 obtain ⟨x2, ex2, H⟩ := H
 refine w_pe tok rfl (congrArg (fun z => (.int .i64 z : Value)) ex2) rfl rfl ?_
 refine w_end (x_seq ?_)
 refine c_weak [(0, Slc.v p0), (6, .int .i64 p1), (7, .int .i64 0), (8, .int .i64 x1), (9, .int .i64 x2)] ⟨rfl, rfl, rfl, rfl, rfl, trivial⟩ ?_
 refine c_block ?_
 obtain ⟨I1, μ1, H0, HI⟩ := H
 refine c_loop (σ := Int) (fun (s : Int) => [(9, .int .i64 s), (0, Slc.v p0), (6, .int .i64 p1), (7, .int .i64 0), (8, .int .i64 x1)]) I1 μ1 x2 H0 ⟨rfl, rfl, rfl, rfl, rfl, trivial⟩ ?_
 rintro t9_1 h_1 H
 replace H := HI t9_1 h_1 H
 unfold slices_heapSortOrdered_uint64_l1b at H
 refine c_weak [(9, .int .i64 t9_1), (0, Slc.v p0), (6, .int .i64 p1), (7, .int .i64 0), (8, .int .i64 x1)] ⟨rfl, rfl, rfl, rfl, rfl, trivial⟩ ?_
 refine c_seq (c_seq (c_region ?_))
 iterate 2 refine wP tok ?_
 refine w_end (x_seq ?_)
 refine c_if H rfl (fun H => ?_) (fun H => ?_)
 ·
  refine c_skip (x_seq ?_)
  refine c_seq (c_block (c_region ?_))
  iterate 4 refine wP tok ?_
  refine w_call slices_siftDownOrdered_uint64_ok (slices_siftDownOrdered_uint64_ref _ _ _ _ _ _ H) rfl rfl rfl rfl ?_
  rintro _ h4 ⟨r3, rfl, H⟩
  refine w_end ?_
  refine x_blk ?_
  refine x_seq ?_
  refine c_weak [(9, .int .i64 t9_1), (0, Slc.v p0), (6, .int .i64 p1), (7, .int .i64 0), (8, .int .i64 x1)] ⟨rfl, rfl, rfl, rfl, rfl, trivial⟩ ?_
  refine c_region ?_
  iterate 2 refine wP tok ?_
  obtain ⟨x5, ex5, H⟩ := H
  refine w_pe tok rfl (congrArg (fun z => (.int .i64 z : Value)) ex5) rfl rfl ?_
  refine w_end ?_
  exact x_join x5 H ⟨rfl, rfl, rfl, rfl, rfl, trivial⟩
 ·
  refine c_exit ?_
  refine x_te (x_te ?_)
  refine x_bh ?_
  refine x_seq (c_seq (c_region ?_))
  iterate 2 refine wP tok ?_
  obtain ⟨x6, ex6, H⟩ := H
  refine w_pe tok rfl (congrArg (fun z => (.int .i64 z : Value)) ex6) rfl rfl ?_
  refine w_end (x_seq (c_block ?_))
  obtain ⟨I2, μ2, H0, HI⟩ := H
  refine c_loop (σ := Int) (fun (s : Int) => [(10, .int .i64 s), (0, Slc.v p0), (6, .int .i64 p1), (7, .int .i64 0)]) I2 μ2 x6 H0 ⟨rfl, rfl, rfl, rfl, trivial⟩ ?_
  rintro t10_2 h_2 H
  replace H := HI t10_2 h_2 H
  unfold slices_heapSortOrdered_uint64_l2b at H
  refine c_weak [(10, .int .i64 t10_2), (0, Slc.v p0), (6, .int .i64 p1), (7, .int .i64 0)] ⟨rfl, rfl, rfl, rfl, trivial⟩ ?_
  refine c_seq (c_seq (c_region ?_))
  iterate 2 refine wP tok ?_
  refine w_end (x_seq ?_)
  refine c_if H rfl (fun H => ?_) (fun H => ?_)
  ·
   refine c_skip (x_seq ?_)
   refine c_seq (c_block (c_seq ?_))
   refine c_sim [(0, Slc.v p0), (6, .int .i64 p1), (7, .int .i64 0), (10, .int .i64 t10_2)] (by kernel_rfl) (by kernel_rfl) ⟨rfl, rfl, rfl, rfl, trivial⟩ (fun wf => ?_)
   refine sQ 0 [(0, Slc.v p0)] (some 33) tok wf ⟨rfl, trivial⟩ (fun P_0 => ?_)
   refine sQ 1 [(6, .int .i64 p1)] (some 34) tok wf ⟨rfl, trivial⟩ (fun P_1 => ?_)
   refine sQ 2 [(0, Slc.v p0)] (some 35) tok wf ⟨rfl, trivial⟩ (fun P_2 => ?_)
   refine sQ 3 [(6, .int .i64 p1)] (some 36) tok wf ⟨rfl, trivial⟩ (fun P_3 => ?_)
   refine sQ 4 [(10, .int .i64 t10_2)] (some 37) tok wf ⟨rfl, trivial⟩ (fun P_4 => ?_)
   refine sQ 5 [(36, .int .i64 p1), (37, .int .i64 t10_2)] (some 38) tok wf ⟨rfl, rfl, trivial⟩ (fun P_5 => ?_)
   refine sQ 6 [(0, Slc.v p0)] (some 39) tok wf ⟨rfl, trivial⟩ (fun P_6 => ?_)
   refine sQ 7 [(6, .int .i64 p1)] (some 40) tok wf ⟨rfl, trivial⟩ (fun P_7 => ?_)
   refine sQ 8 [(10, .int .i64 t10_2)] (some 41) tok wf ⟨rfl, trivial⟩ (fun P_8 => ?_)
   refine sQ 9 [(40, .int .i64 p1), (41, .int .i64 t10_2)] (some 42) tok wf ⟨rfl, rfl, trivial⟩ (fun P_9 => ?_)
   obtain ⟨a7, ha7, la7, ua7, H⟩ := H
   refine sP 10 [(39, Slc.v p0), (42, .int .i64 (IntKind.i64.wrap (p1 + t10_2)))] (some 43) wf ⟨rfl, rfl, trivial⟩ (fun _ => pf_y rfl rfl rfl (y_ixa' tok rfl rfl ha7 rfl rfl rfl la7 ua7)) (fun P_10 => ?_)
   obtain ⟨v8, hv8, H⟩ := H
   refine sL 11 [(43, .pointer (some (a7.add ((IntKind.i64.wrap (p1 + t10_2)).toNat * 1))))] (some 44) wf ⟨rfl, trivial⟩ (pf_y rfl rfl rfl (y_ld tok rfl rfl rfl rfl hv8)) (fun P_11 => ?_)
   refine sQ 12 [(0, Slc.v p0)] (some 45) tok wf ⟨rfl, trivial⟩ (fun P_12 => ?_)
   refine sQ 13 [(6, .int .i64 p1)] (some 46) tok wf ⟨rfl, trivial⟩ (fun P_13 => ?_)
   obtain ⟨a9, ha9, la9, ua9, H⟩ := H
   refine sP 14 [(45, Slc.v p0), (46, .int .i64 p1)] (some 47) wf ⟨rfl, rfl, trivial⟩ (fun _ => pf_y rfl rfl rfl (y_ixa' tok rfl rfl ha9 rfl rfl rfl la9 ua9)) (fun P_14 => ?_)
   obtain ⟨v10, hv10, H⟩ := H
   refine sL 15 [(47, .pointer (some (a9.add (p1.toNat * 1))))] (some 48) wf ⟨rfl, trivial⟩ (pf_y rfl rfl rfl (y_ld tok rfl rfl rfl rfl hv10)) (fun P_15 => ?_)
   obtain ⟨a11, ha11, la11, ua11, H⟩ := H
   refine sP 16 [(33, Slc.v p0), (34, .int .i64 p1)] (some 49) wf ⟨rfl, rfl, trivial⟩ (fun _ => pf_y rfl rfl rfl (y_ixa' tok rfl rfl ha11 rfl rfl rfl la11 ua11)) (fun P_16 => ?_)
   obtain ⟨h12, wh12, eh12, H⟩ := H
   refine sim_h 17 [0, 1, 6, 7, 8, 9, 10, 11, 12, 13, 14, 15, 16] [0, 1, 6, 7, 8, 9, 10, 11, 12, 13, 14, 15, 16] (ei := [(44, .int .u64 v8), (49, .pointer (some (a11.add (p1.toNat * 1))))]) wf ⟨P_16 _, P_15, P_14 _, P_13 _, P_12 _, P_11, P_10 _, P_9 _, P_8 _, P_7 _, P_6 _, P_5 _, P_4 _, P_3 _, P_2 _, P_1 _, P_0 _, trivial⟩ (by kernel_rfl) ⟨rfl, rfl, trivial⟩ (by kernel_rfl) rfl rfl rfl (h_st tok rfl rfl rfl rfl rfl rfl wh12 eh12) ?_
   obtain ⟨a13, ha13, la13, ua13, H⟩ := H
   refine sP 18 [(35, Slc.v p0), (38, .int .i64 (IntKind.i64.wrap (p1 + t10_2)))] (some 50) wf ⟨rfl, rfl, trivial⟩ (fun _ => pf_y rfl rfl rfl (y_ixa' tok rfl rfl ha13 rfl rfl rfl la13 ua13)) (fun P_18 => ?_)
   obtain ⟨h14, wh14, eh14, H⟩ := H
   refine sim_h 19 [0, 1, 2, 3, 4, 5, 6, 7, 8, 9, 10, 11, 12, 13, 14, 15, 16, 17, 18] [0, 1, 2, 3, 4, 5, 6, 7, 8, 9, 10, 11, 12, 13, 14, 15, 16, 18] (ei := [(48, .int .u64 v10), (50, .pointer (some (a13.add ((IntKind.i64.wrap (p1 + t10_2)).toNat * 1))))]) wf ⟨P_18 _, trivial, trivial, trivial, trivial, trivial, trivial, trivial, trivial, trivial, trivial, trivial, P_5 _, P_4 _, P_3 _, P_2 _, trivial, trivial, trivial⟩ (by kernel_rfl) ⟨rfl, rfl, trivial⟩ (by kernel_rfl) rfl rfl rfl (h_st tok rfl rfl rfl rfl rfl rfl wh14 eh14) ?_
   refine sim_end wf ⟨trivial, trivial, trivial, trivial, trivial, trivial, trivial, trivial, trivial, trivial, trivial, trivial, trivial, trivial, trivial, trivial, trivial, trivial, trivial⟩ (by kernel_rfl) ?_
   clear wf P_0 P_1 P_10 P_11 P_12 P_13 P_14 P_15 P_16 P_18 P_2 P_3 P_4 P_5 P_6 P_7 P_8 P_9
   refine x_seq ?_
   refine c_weak [(0, Slc.v p0), (6, .int .i64 p1), (7, .int .i64 0), (10, .int .i64 t10_2)] ⟨rfl, rfl, rfl, rfl, trivial⟩ ?_
   refine c_region ?_
   iterate 4 refine wP tok ?_
   refine w_call slices_siftDownOrdered_uint64_ok (slices_siftDownOrdered_uint64_ref _ _ _ _ _ _ H) rfl rfl rfl rfl ?_
   rintro _ h16 ⟨r15, rfl, H⟩
   refine w_end ?_
   refine x_blk ?_
   refine x_seq (c_region ?_)
   iterate 2 refine wP tok ?_
   obtain ⟨x17, ex17, H⟩ := H
   refine w_pe tok rfl (congrArg (fun z => (.int .i64 z : Value)) ex17) rfl rfl ?_
   refine w_end ?_
   exact x_join x17 H ⟨rfl, rfl, rfl, rfl, trivial⟩
  ·
   refine c_exit ?_
   refine x_te (x_te ?_)
   refine x_bh ?_
   exact x_end _ rfl _ rfl ⟨(), rfl, H⟩

theorem slices_nextPowerOfTwo_ok : CallOk Go.Proofs.Try.prog 109 := ⟨_, Go.Proofs.Try.func109, by kernel_rfl, by kernel_rfl⟩
theorem slices_nextPowerOfTwo_ref (p0 : Int) (k : (Int) → Heap → Prop) (h : Heap) (H : slices_nextPowerOfTwo p0 k h) : CallsH Go.Proofs.Try.prog 109 #[.int .i64 p0] h (fun v h' => ∃ r : Int, v = .int .u64 r ∧ k r h') := by
 refine f_enter (N := 7) Go.Proofs.Try.func109 rfl rfl rfl (fun w0 => ?_)
 unfold slices_nextPowerOfTwo at H
 refine c_weak [(0, .int .i64 p0)] ⟨rfl, trivial⟩ ?_
 refine c_seq (c_region ?_)
 refine wP tok ?_
 refine w_end (x_seq ?_)
 refine c_seq (c_region ?_)
 iterate 2 refine wP tok ?_
 refine w_call math_bits_Len_ok (math_bits_Len_ref _ _ _ H) rfl rfl rfl rfl ?_
 rintro _ h2 ⟨r1, rfl, H⟩
 obtain ⟨z3, H⟩ := H
 refine w_y (y_shl rfl rfl rfl z3) rfl rfl ?_
 obtain ⟨x4, ex4, H⟩ := H
 refine w_pe tok rfl (congrArg (fun z => (.int .u64 z : Value)) ex4) rfl rfl ?_
 refine w_end (x_seq (c_ret ?_))
 exact x_ret _ rfl _ rfl ⟨x4, rfl, H⟩

theorem slices_xorshift_Next_ok : CallOk Go.Proofs.Try.prog 110 := ⟨_, Go.Proofs.Try.func110, by kernel_rfl, by kernel_rfl⟩
theorem slices_xorshift_Next_ref (p0 : Option Addr) (k : (Int) → Heap → Prop) (h : Heap) (H : slices_xorshift_Next p0 k h) : CallsH Go.Proofs.Try.prog 110 #[.pointer p0] h (fun v h' => ∃ r : Int, v = .int .u64 r ∧ k r h') := by
 refine f_enter (N := 33) Go.Proofs.Try.func110 rfl rfl rfl (fun w0 => ?_)
 unfold slices_xorshift_Next at H
 refine c_weak [(0, .pointer p0)] ⟨rfl, trivial⟩ ?_
 refine c_seq (c_region ?_)
 refine wP tok ?_
 refine w_end (x_seq (c_seq ?_))
 refine c_sim [(0, .pointer p0)] (by kernel_rfl) (by kernel_rfl) ⟨rfl, trivial⟩ (fun wf => ?_)
 refine sQ 0 [(0, .pointer p0)] (some 3) tok wf ⟨rfl, trivial⟩ (fun P_0 => ?_)
 obtain ⟨a1, ha1, H⟩ := H
 refine sP 1 [(3, .pointer p0)] (some 4) wf ⟨rfl, trivial⟩ (fun _ => pf_y rfl rfl rfl (y_nil' rfl rfl ha1)) (fun P_1 => ?_)
 obtain ⟨v2, hv2, H⟩ := H
 refine sL 2 [(4, .pointer (some a1))] (some 5) wf ⟨rfl, trivial⟩ (pf_y rfl rfl rfl (y_ld tok rfl rfl rfl rfl hv2)) (fun P_2 => ?_)
 refine sQ 3 [(0, .pointer p0)] (some 6) tok wf ⟨rfl, trivial⟩ (fun P_3 => ?_)
 refine sP 4 [(6, .pointer p0)] (some 7) wf ⟨rfl, trivial⟩ (fun _ => pf_y rfl rfl rfl (y_nil' rfl rfl ha1)) (fun P_4 => ?_)
 obtain ⟨v3, hv3, H⟩ := H
 refine sL 5 [(7, .pointer (some a1))] (some 8) wf ⟨rfl, trivial⟩ (pf_y rfl rfl rfl (y_ld tok rfl rfl rfl rfl hv3)) (fun P_5 => ?_)
 refine sQ 6 [(8, .int .u64 v3)] (some 9) tok wf ⟨rfl, trivial⟩ (fun P_6 => ?_)
 refine sQ 7 [(5, .int .u64 v2), (9, .int .u64 (shl .u64 v3 (13 : Int).toNat))] (some 10) tok wf ⟨rfl, rfl, trivial⟩ (fun P_7 => ?_)
 refine sP 8 [(3, .pointer p0)] (some 11) wf ⟨rfl, trivial⟩ (fun _ => pf_y rfl rfl rfl (y_nil' rfl rfl ha1)) (fun P_8 => ?_)
 obtain ⟨h4, wh4, eh4, H⟩ := H
 refine sim_h 9 [0, 1, 2, 3, 4, 5, 6, 7, 8] [0, 1, 2, 3, 4, 5, 6, 7, 8] (ei := [(10, .int .u64 (bwXor .u64 v2 (shl .u64 v3 (13 : Int).toNat))), (11, .pointer (some a1))]) wf ⟨P_8 _, P_7 _, P_6 _, P_5, P_4 _, P_3 _, P_2, P_1 _, P_0 _, trivial⟩ (by kernel_rfl) ⟨rfl, rfl, trivial⟩ (by kernel_rfl) rfl rfl rfl (h_st tok rfl rfl rfl rfl rfl rfl wh4 eh4) ?_
 refine sim_end wf ⟨trivial, trivial, trivial, trivial, trivial, trivial, trivial, trivial, trivial, trivial⟩ (by kernel_rfl) ?_
 clear wf P_0 P_1 P_2 P_3 P_4 P_5 P_6 P_7 P_8
 refine x_seq ?_
 refine c_weak [(0, .pointer p0)] ⟨rfl, trivial⟩ ?_
 refine c_seq ?_
 refine c_sim [(0, .pointer p0)] (by kernel_rfl) (by kernel_rfl) ⟨rfl, trivial⟩ (fun wf => ?_)
 refine sQ 0 [(0, .pointer p0)] (some 12) tok wf ⟨rfl, trivial⟩ (fun P_0 => ?_)
 refine sP 1 [(12, .pointer p0)] (some 13) wf ⟨rfl, trivial⟩ (fun _ => pf_y rfl rfl rfl (y_nil' rfl rfl ha1)) (fun P_1 => ?_)
 obtain ⟨v5, hv5, H⟩ := H
 refine sL 2 [(13, .pointer (some a1))] (some 14) wf ⟨rfl, trivial⟩ (pf_y rfl rfl rfl (y_ld tok rfl rfl rfl rfl hv5)) (fun P_2 => ?_)
 refine sQ 3 [(0, .pointer p0)] (some 15) tok wf ⟨rfl, trivial⟩ (fun P_3 => ?_)
 refine sP 4 [(15, .pointer p0)] (some 16) wf ⟨rfl, trivial⟩ (fun _ => pf_y rfl rfl rfl (y_nil' rfl rfl ha1)) (fun P_4 => ?_)
 obtain ⟨v6, hv6, H⟩ := H
 refine sL 5 [(16, .pointer (some a1))] (some 17) wf ⟨rfl, trivial⟩ (pf_y rfl rfl rfl (y_ld tok rfl rfl rfl rfl hv6)) (fun P_5 => ?_)
 refine sQ 6 [(17, .int .u64 v6)] (some 18) tok wf ⟨rfl, trivial⟩ (fun P_6 => ?_)
 refine sQ 7 [(14, .int .u64 v5), (18, .int .u64 (shr .u64 v6 (7 : Int).toNat))] (some 19) tok wf ⟨rfl, rfl, trivial⟩ (fun P_7 => ?_)
 refine sP 8 [(12, .pointer p0)] (some 20) wf ⟨rfl, trivial⟩ (fun _ => pf_y rfl rfl rfl (y_nil' rfl rfl ha1)) (fun P_8 => ?_)
 obtain ⟨h7, wh7, eh7, H⟩ := H
 refine sim_h 9 [0, 1, 2, 3, 4, 5, 6, 7, 8] [0, 1, 2, 3, 4, 5, 6, 7, 8] (ei := [(19, .int .u64 (bwXor .u64 v5 (shr .u64 v6 (7 : Int).toNat))), (20, .pointer (some a1))]) wf ⟨P_8 _, P_7 _, P_6 _, P_5, P_4 _, P_3 _, P_2, P_1 _, P_0 _, trivial⟩ (by kernel_rfl) ⟨rfl, rfl, trivial⟩ (by kernel_rfl) rfl rfl rfl (h_st tok rfl rfl rfl rfl rfl rfl wh7 eh7) ?_
 refine sim_end wf ⟨trivial, trivial, trivial, trivial, trivial, trivial, trivial, trivial, trivial, trivial⟩ (by kernel_rfl) ?_
 clear wf P_0 P_1 P_2 P_3 P_4 P_5 P_6 P_7 P_8
 refine x_seq ?_
 refine c_weak [(0, .pointer p0)] ⟨rfl, trivial⟩ ?_
 refine c_seq ?_
 refine c_sim [(0, .pointer p0)] (by kernel_rfl) (by kernel_rfl) ⟨rfl, trivial⟩ (fun wf => ?_)
 refine sQ 0 [(0, .pointer p0)] (some 21) tok wf ⟨rfl, trivial⟩ (fun P_0 => ?_)
 refine sP 1 [(21, .pointer p0)] (some 22) wf ⟨rfl, trivial⟩ (fun _ => pf_y rfl rfl rfl (y_nil' rfl rfl ha1)) (fun P_1 => ?_)
 obtain ⟨v8, hv8, H⟩ := H
 refine sL 2 [(22, .pointer (some a1))] (some 23) wf ⟨rfl, trivial⟩ (pf_y rfl rfl rfl (y_ld tok rfl rfl rfl rfl hv8)) (fun P_2 => ?_)
 refine sQ 3 [(0, .pointer p0)] (some 24) tok wf ⟨rfl, trivial⟩ (fun P_3 => ?_)
 refine sP 4 [(24, .pointer p0)] (some 25) wf ⟨rfl, trivial⟩ (fun _ => pf_y rfl rfl rfl (y_nil' rfl rfl ha1)) (fun P_4 => ?_)
 obtain ⟨v9, hv9, H⟩ := H
 refine sL 5 [(25, .pointer (some a1))] (some 26) wf ⟨rfl, trivial⟩ (pf_y rfl rfl rfl (y_ld tok rfl rfl rfl rfl hv9)) (fun P_5 => ?_)
 refine sQ 6 [(26, .int .u64 v9)] (some 27) tok wf ⟨rfl, trivial⟩ (fun P_6 => ?_)
 refine sQ 7 [(23, .int .u64 v8), (27, .int .u64 (shl .u64 v9 (17 : Int).toNat))] (some 28) tok wf ⟨rfl, rfl, trivial⟩ (fun P_7 => ?_)
 refine sP 8 [(21, .pointer p0)] (some 29) wf ⟨rfl, trivial⟩ (fun _ => pf_y rfl rfl rfl (y_nil' rfl rfl ha1)) (fun P_8 => ?_)
 obtain ⟨h10, wh10, eh10, H⟩ := H
 refine sim_h 9 [0, 1, 2, 3, 4, 5, 6, 7, 8] [0, 1, 2, 3, 4, 5, 6, 7, 8] (ei := [(28, .int .u64 (bwXor .u64 v8 (shl .u64 v9 (17 : Int).toNat))), (29, .pointer (some a1))]) wf ⟨P_8 _, P_7 _, P_6 _, P_5, P_4 _, P_3 _, P_2, P_1 _, P_0 _, trivial⟩ (by kernel_rfl) ⟨rfl, rfl, trivial⟩ (by kernel_rfl) rfl rfl rfl (h_st tok rfl rfl rfl rfl rfl rfl wh10 eh10) ?_
 refine sim_end wf ⟨trivial, trivial, trivial, trivial, trivial, trivial, trivial, trivial, trivial, trivial⟩ (by kernel_rfl) ?_
 clear wf P_0 P_1 P_2 P_3 P_4 P_5 P_6 P_7 P_8
 refine x_seq ?_
 refine c_weak [(0, .pointer p0)] ⟨rfl, trivial⟩ ?_
 refine c_seq (c_region ?_)
 refine wP tok ?_
 refine w_y (y_nil' rfl rfl ha1) rfl rfl ?_
 obtain ⟨v11, hv11, H⟩ := H
 refine w_y (y_ld tok rfl rfl rfl rfl hv11) rfl rfl ?_
 refine wP tok ?_
 refine w_end (x_seq (c_ret ?_))
 exact x_ret _ rfl _ rfl ⟨v11, rfl, H⟩

theorem slices_breakPatternsOrdered_uint64_ok : CallOk Go.Proofs.Try.prog 99 := ⟨_, Go.Proofs.Try.func99, by kernel_rfl, by kernel_rfl⟩
theorem slices_breakPatternsOrdered_uint64_ref (p0 : Slc) (p1 : Int) (p2 : Int) (k : (Unit) → Heap → Prop) (h : Heap) (H : slices_breakPatternsOrdered_uint64 p0 p1 p2 k h) : CallsH Go.Proofs.Try.prog 99 #[Slc.v p0, .int .i64 p1, .int .i64 p2] h (fun v h' => ∃ r : Unit, v = .tuple #[] ∧ k r h') := by
 refine f_enter (N := 65) Go.Proofs.Try.func99 rfl rfl rfl (fun w0 => ?_)
 unfold slices_breakPatternsOrdered_uint64 at H
 refine c_weak [(0, Slc.v p0), (1, .int .i64 p1), (2, .int .i64 p2)] ⟨rfl, rfl, rfl, trivial⟩ ?_
 refine c_seq (c_region ?_)
 iterate 3 refine wP tok ?_
 obtain ⟨x1, ex1, H⟩ := H
 refine w_pe tok rfl (congrArg (fun z => (.int .i64 z : Value)) ex1) rfl rfl ?_
 refine w_end (x_seq ?_)
 refine c_seq (c_region ?_)
 iterate 2 refine wP tok ?_
 refine w_end (x_seq ?_)
 refine c_if H rfl (fun H => ?_) (fun H => ?_)
 ·
  refine c_seq (c_region ?_)
  iterate 2 refine wP tok ?_
  obtain ⟨b2, h3, eb2, eh3, H⟩ := H
  refine w_h (h_alloc tok rfl rfl eb2 eh3) rfl rfl ?_
  obtain ⟨h4, wh4, eh4, H⟩ := H
  refine w_h (h_st tok rfl rfl rfl rfl rfl rfl wh4 eh4) rfl rfl ?_
  refine w_end (x_seq ?_)
  refine c_weak [(0, Slc.v p0), (1, .int .i64 p1), (6, .int .i64 x1), (7, .pointer (some (⟨b2, 0, none⟩ : Addr)))] ⟨rfl, rfl, rfl, rfl, trivial⟩ ?_
  refine c_seq (c_region ?_)
  refine wP tok ?_
  refine w_call slices_nextPowerOfTwo_ok (slices_nextPowerOfTwo_ref _ _ _ H) rfl rfl rfl rfl ?_
  rintro _ h6 ⟨r5, rfl, H⟩
  refine wP tok ?_
  refine w_end (x_seq ?_)
  refine c_seq (c_region ?_)
  iterate 6 refine wP tok ?_
  obtain ⟨x7, ex7, H⟩ := H
  refine w_pe tok rfl (congrArg (fun z => (.int .i64 z : Value)) ex7) rfl rfl ?_
  refine w_end (x_seq ?_)
  refine c_weak [(0, Slc.v p0), (1, .int .i64 p1), (6, .int .i64 x1), (7, .pointer (some (⟨b2, 0, none⟩ : Addr))), (8, .int .u64 r5), (9, .int .i64 x7)] ⟨rfl, rfl, rfl, rfl, rfl, rfl, trivial⟩ ?_
  refine c_block ?_
  obtain ⟨I1, μ1, H0, HI⟩ := H
  refine c_loop (σ := Int) (fun (s : Int) => [(9, .int .i64 s), (0, Slc.v p0), (1, .int .i64 p1), (6, .int .i64 x1), (7, .pointer (some (⟨b2, 0, none⟩ : Addr))), (8, .int .u64 r5)]) I1 μ1 x7 H0 ⟨rfl, rfl, rfl, rfl, rfl, rfl, trivial⟩ ?_
  rintro t9_1 h_1 H
  replace H := HI t9_1 h_1 H
  unfold slices_breakPatternsOrdered_uint64_l1b at H
  refine c_weak [(9, .int .i64 t9_1), (0, Slc.v p0), (1, .int .i64 p1), (6, .int .i64 x1), (7, .pointer (some (⟨b2, 0, none⟩ : Addr))), (8, .int .u64 r5)] ⟨rfl, rfl, rfl, rfl, rfl, rfl, trivial⟩ ?_
  refine c_seq (c_seq (c_region ?_))
  iterate 8 refine wP tok ?_
  refine w_end (x_seq ?_)
  refine c_weak [(9, .int .i64 t9_1), (0, Slc.v p0), (1, .int .i64 p1), (6, .int .i64 x1), (7, .pointer (some (⟨b2, 0, none⟩ : Addr))), (8, .int .u64 r5), (33, .bool (decide (t9_1 ≤ (IntKind.i64.wrap ((IntKind.i64.wrap (p1 + (IntKind.i64.wrap ((IntKind.i64.wrap (Int.tdiv x1 4)) * 2)))) + 1)))))] ⟨rfl, rfl, rfl, rfl, rfl, rfl, rfl, trivial⟩ ?_
  refine c_if H rfl (fun H => ?_) (fun H => ?_)
  ·
   refine c_skip (x_seq ?_)
   refine c_seq (c_block ?_)
   refine c_seq (c_region ?_)
   refine w_call slices_xorshift_Next_ok (slices_xorshift_Next_ref _ _ _ H) rfl rfl rfl rfl ?_
   rintro _ h9 ⟨r8, rfl, H⟩
   iterate 4 refine wP tok ?_
   obtain ⟨x10, ex10, H⟩ := H
   refine w_pe tok rfl (congrArg (fun z => (.int .i64 z : Value)) ex10) rfl rfl ?_
   refine w_end (x_seq ?_)
   refine c_seqJ (α := Int) (fun (s : Int) => [(10, .int .i64 s), (0, Slc.v p0), (1, .int .i64 p1), (6, .int .i64 x1), (7, .pointer (some (⟨b2, 0, none⟩ : Addr))), (8, .int .u64 r5), (9, .int .i64 t9_1)]) (fun (s : Int) h => slices_breakPatternsOrdered_uint64_j2 p0 p1 x1 (⟨b2, 0, none⟩ : Addr) r5 t9_1 s k (fun s h' => I1 s h' ∧ μ1 s h' < μ1 t9_1 h_1) h) ?_ ?_
   ·
    rintro t10_2 h_2 H
    replace H : slices_breakPatternsOrdered_uint64_j2 p0 p1 x1 (⟨b2, 0, none⟩ : Addr) r5 t9_1 t10_2 k (fun s h' => I1 s h' ∧ μ1 s h' < μ1 t9_1 h_1) h_2 := H
    unfold slices_breakPatternsOrdered_uint64_j2 at H
    refine c_weak [(10, .int .i64 t10_2), (0, Slc.v p0), (1, .int .i64 p1), (6, .int .i64 x1), (7, .pointer (some (⟨b2, 0, none⟩ : Addr))), (8, .int .u64 r5), (9, .int .i64 t9_1)] ⟨rfl, rfl, rfl, rfl, rfl, rfl, rfl, trivial⟩ ?_
    refine c_sim [(0, Slc.v p0), (1, .int .i64 p1), (6, .int .i64 x1), (7, .pointer (some (⟨b2, 0, none⟩ : Addr))), (8, .int .u64 r5), (9, .int .i64 t9_1), (10, .int .i64 t10_2)] (by kernel_rfl) (by kernel_rfl) ⟨rfl, rfl, rfl, rfl, rfl, rfl, rfl, trivial⟩ (fun wf => ?_)
    refine sQ 0 [(0, Slc.v p0)] (some 47) tok wf ⟨rfl, trivial⟩ (fun P_0 => ?_)
    refine sQ 1 [(9, .int .i64 t9_1)] (some 48) tok wf ⟨rfl, trivial⟩ (fun P_1 => ?_)
    refine sQ 2 [(0, Slc.v p0)] (some 49) tok wf ⟨rfl, trivial⟩ (fun P_2 => ?_)
    refine sQ 3 [(1, .int .i64 p1)] (some 50) tok wf ⟨rfl, trivial⟩ (fun P_3 => ?_)
    refine sQ 4 [(10, .int .i64 t10_2)] (some 51) tok wf ⟨rfl, trivial⟩ (fun P_4 => ?_)
    refine sQ 5 [(50, .int .i64 p1), (51, .int .i64 t10_2)] (some 52) tok wf ⟨rfl, rfl, trivial⟩ (fun P_5 => ?_)
    refine sQ 6 [(0, Slc.v p0)] (some 53) tok wf ⟨rfl, trivial⟩ (fun P_6 => ?_)
    refine sQ 7 [(1, .int .i64 p1)] (some 54) tok wf ⟨rfl, trivial⟩ (fun P_7 => ?_)
    refine sQ 8 [(10, .int .i64 t10_2)] (some 55) tok wf ⟨rfl, trivial⟩ (fun P_8 => ?_)
    refine sQ 9 [(54, .int .i64 p1), (55, .int .i64 t10_2)] (some 56) tok wf ⟨rfl, rfl, trivial⟩ (fun P_9 => ?_)
    obtain ⟨a11, ha11, la11, ua11, H⟩ := H
    refine sP 10 [(53, Slc.v p0), (56, .int .i64 (IntKind.i64.wrap (p1 + t10_2)))] (some 57) wf ⟨rfl, rfl, trivial⟩ (fun _ => pf_y rfl rfl rfl (y_ixa' tok rfl rfl ha11 rfl rfl rfl la11 ua11)) (fun P_10 => ?_)
    obtain ⟨v12, hv12, H⟩ := H
    refine sL 11 [(57, .pointer (some (a11.add ((IntKind.i64.wrap (p1 + t10_2)).toNat * 1))))] (some 58) wf ⟨rfl, trivial⟩ (pf_y rfl rfl rfl (y_ld tok rfl rfl rfl rfl hv12)) (fun P_11 => ?_)
    refine sQ 12 [(0, Slc.v p0)] (some 59) tok wf ⟨rfl, trivial⟩ (fun P_12 => ?_)
    refine sQ 13 [(9, .int .i64 t9_1)] (some 60) tok wf ⟨rfl, trivial⟩ (fun P_13 => ?_)
    obtain ⟨a13, ha13, la13, ua13, H⟩ := H
    refine sP 14 [(59, Slc.v p0), (60, .int .i64 t9_1)] (some 61) wf ⟨rfl, rfl, trivial⟩ (fun _ => pf_y rfl rfl rfl (y_ixa' tok rfl rfl ha13 rfl rfl rfl la13 ua13)) (fun P_14 => ?_)
    obtain ⟨v14, hv14, H⟩ := H
    refine sL 15 [(61, .pointer (some (a13.add (t9_1.toNat * 1))))] (some 62) wf ⟨rfl, trivial⟩ (pf_y rfl rfl rfl (y_ld tok rfl rfl rfl rfl hv14)) (fun P_15 => ?_)
    obtain ⟨a15, ha15, la15, ua15, H⟩ := H
    refine sP 16 [(47, Slc.v p0), (48, .int .i64 t9_1)] (some 63) wf ⟨rfl, rfl, trivial⟩ (fun _ => pf_y rfl rfl rfl (y_ixa' tok rfl rfl ha15 rfl rfl rfl la15 ua15)) (fun P_16 => ?_)
    obtain ⟨h16, wh16, eh16, H⟩ := H
    refine sim_h 17 [0, 1, 6, 7, 8, 9, 10, 11, 12, 13, 14, 15, 16] [0, 1, 6, 7, 8, 9, 10, 11, 12, 13, 14, 15, 16] (ei := [(58, .int .u64 v12), (63, .pointer (some (a15.add (t9_1.toNat * 1))))]) wf ⟨P_16 _, P_15, P_14 _, P_13 _, P_12 _, P_11, P_10 _, P_9 _, P_8 _, P_7 _, P_6 _, P_5 _, P_4 _, P_3 _, P_2 _, P_1 _, P_0 _, trivial⟩ (by kernel_rfl) ⟨rfl, rfl, trivial⟩ (by kernel_rfl) rfl rfl rfl (h_st tok rfl rfl rfl rfl rfl rfl wh16 eh16) ?_
    obtain ⟨a17, ha17, la17, ua17, H⟩ := H
    refine sP 18 [(49, Slc.v p0), (52, .int .i64 (IntKind.i64.wrap (p1 + t10_2)))] (some 64) wf ⟨rfl, rfl, trivial⟩ (fun _ => pf_y rfl rfl rfl (y_ixa' tok rfl rfl ha17 rfl rfl rfl la17 ua17)) (fun P_18 => ?_)
    obtain ⟨h18, wh18, eh18, H⟩ := H
    refine sim_h 19 [0, 1, 2, 3, 4, 5, 6, 7, 8, 9, 10, 11, 12, 13, 14, 15, 16, 17, 18] [0, 1, 2, 3, 4, 5, 6, 7, 8, 9, 10, 11, 12, 13, 14, 15, 16, 18] (ei := [(62, .int .u64 v14), (64, .pointer (some (a17.add ((IntKind.i64.wrap (p1 + t10_2)).toNat * 1))))]) wf ⟨P_18 _, trivial, trivial, trivial, trivial, trivial, trivial, trivial, trivial, trivial, trivial, trivial, P_5 _, P_4 _, P_3 _, P_2 _, trivial, trivial, trivial⟩ (by kernel_rfl) ⟨rfl, rfl, trivial⟩ (by kernel_rfl) rfl rfl rfl (h_st tok rfl rfl rfl rfl rfl rfl wh18 eh18) ?_
    refine sim_end wf ⟨trivial, trivial, trivial, trivial, trivial, trivial, trivial, trivial, trivial, trivial, trivial, trivial, trivial, trivial, trivial, trivial, trivial, trivial, trivial⟩ (by kernel_rfl) ?_
    clear wf P_0 P_1 P_10 P_11 P_12 P_13 P_14 P_15 P_16 P_18 P_2 P_3 P_4 P_5 P_6 P_7 P_8 P_9
    refine x_blk ?_
    refine x_seq ?_
    refine c_weak [(0, Slc.v p0), (1, .int .i64 p1), (6, .int .i64 x1), (7, .pointer (some (⟨b2, 0, none⟩ : Addr))), (8, .int .u64 r5), (9, .int .i64 t9_1)] ⟨rfl, rfl, rfl, rfl, rfl, rfl, trivial⟩ ?_
    refine c_region ?_
    iterate 2 refine wP tok ?_
    obtain ⟨x19, ex19, H⟩ := H
    refine w_pe tok rfl (congrArg (fun z => (.int .i64 z : Value)) ex19) rfl rfl ?_
    refine w_end ?_
    exact x_join x19 H ⟨rfl, rfl, rfl, rfl, rfl, rfl, trivial⟩
   ·
    refine c_seq (c_region ?_)
    iterate 3 refine wP tok ?_
    refine w_end (x_seq ?_)
    refine c_weak [(9, .int .i64 t9_1), (0, Slc.v p0), (1, .int .i64 p1), (6, .int .i64 x1), (7, .pointer (some (⟨b2, 0, none⟩ : Addr))), (8, .int .u64 r5), (10, .int .i64 x10), (43, .bool (decide (x10 ≥ x1)))] ⟨rfl, rfl, rfl, rfl, rfl, rfl, rfl, rfl, trivial⟩ ?_
    refine c_if H rfl (fun H => ?_) (fun H => ?_)
    ·
     refine c_region ?_
     iterate 3 refine wP tok ?_
     obtain ⟨x20, ex20, H⟩ := H
     refine w_pe tok rfl (congrArg (fun z => (.int .i64 z : Value)) ex20) rfl rfl ?_
     refine w_end ?_
     exact x_join x20 H ⟨rfl, rfl, rfl, rfl, rfl, rfl, rfl, trivial⟩
    ·
     refine c_skip ?_
     exact x_join x10 H ⟨rfl, rfl, rfl, rfl, rfl, rfl, rfl, trivial⟩
  ·
   refine c_exit ?_
   refine x_te (x_te ?_)
   refine x_bh ?_
   exact x_end _ rfl _ rfl ⟨(), rfl, H⟩
 ·
  refine c_skip ?_
  exact x_end _ rfl _ rfl ⟨(), rfl, H⟩

theorem slices_order2Ordered_uint64_ok : CallOk Go.Proofs.Try.prog 114 := ⟨_, Go.Proofs.Try.func114, by kernel_rfl, by kernel_rfl⟩
theorem slices_order2Ordered_uint64_ref (p0 : Slc) (p1 : Int) (p2 : Int) (p3 : Option Addr) (k : (Int × Int) → Heap → Prop) (h : Heap) (H : slices_order2Ordered_uint64 p0 p1 p2 p3 k h) : CallsH Go.Proofs.Try.prog 114 #[Slc.v p0, .int .i64 p1, .int .i64 p2, .pointer p3] h (fun v h' => ∃ r : Int × Int, v = .tuple #[.int .i64 r.1, .int .i64 r.2] ∧ k r h') := by
 refine f_enter (N := 28) Go.Proofs.Try.func114 rfl rfl rfl (fun w0 => ?_)
 unfold slices_order2Ordered_uint64 at H
 refine c_weak [(0, Slc.v p0), (1, .int .i64 p1), (2, .int .i64 p2), (3, .pointer p3)] ⟨rfl, rfl, rfl, rfl, trivial⟩ ?_
 refine c_seq (c_region ?_)
 iterate 2 refine wP tok ?_
 refine w_end (x_seq ?_)
 refine c_seq (c_seq ?_)
 refine c_sim [(0, Slc.v p0), (1, .int .i64 p1), (2, .int .i64 p2), (3, .pointer p3)] (by kernel_rfl) (by kernel_rfl) ⟨rfl, rfl, rfl, rfl, trivial⟩ (fun wf => ?_)
 refine sQ 0 [(0, Slc.v p0)] (some 10) tok wf ⟨rfl, trivial⟩ (fun P_0 => ?_)
 refine sQ 1 [(2, .int .i64 p2)] (some 11) tok wf ⟨rfl, trivial⟩ (fun P_1 => ?_)
 obtain ⟨a1, ha1, la1, ua1, H⟩ := H
 refine sP 2 [(10, Slc.v p0), (11, .int .i64 p2)] (some 12) wf ⟨rfl, rfl, trivial⟩ (fun _ => pf_y rfl rfl rfl (y_ixa' tok rfl rfl ha1 rfl rfl rfl la1 ua1)) (fun P_2 => ?_)
 obtain ⟨v2, hv2, H⟩ := H
 refine sL 3 [(12, .pointer (some (a1.add (p2.toNat * 1))))] (some 13) wf ⟨rfl, trivial⟩ (pf_y rfl rfl rfl (y_ld tok rfl rfl rfl rfl hv2)) (fun P_3 => ?_)
 refine sQ 4 [(0, Slc.v p0)] (some 14) tok wf ⟨rfl, trivial⟩ (fun P_4 => ?_)
 refine sQ 5 [(1, .int .i64 p1)] (some 15) tok wf ⟨rfl, trivial⟩ (fun P_5 => ?_)
 obtain ⟨a3, ha3, la3, ua3, H⟩ := H
 refine sP 6 [(14, Slc.v p0), (15, .int .i64 p1)] (some 16) wf ⟨rfl, rfl, trivial⟩ (fun _ => pf_y rfl rfl rfl (y_ixa' tok rfl rfl ha3 rfl rfl rfl la3 ua3)) (fun P_6 => ?_)
 obtain ⟨v4, hv4, H⟩ := H
 refine sL 7 [(16, .pointer (some (a3.add (p1.toNat * 1))))] (some 17) wf ⟨rfl, trivial⟩ (pf_y rfl rfl rfl (y_ld tok rfl rfl rfl rfl hv4)) (fun P_7 => ?_)
 refine sim_c 8 [0, 1, 2, 3, 4, 5, 6, 7] [0, 1, 2, 3, 4, 5, 6, 7] (ei := [(13, .int .u64 v2), (17, .int .u64 v4)]) cmp_Less_uint64_ok (cmp_Less_uint64_ref _ _ _ _ H) wf ⟨P_7, P_6 _, P_5 _, P_4 _, P_3, P_2 _, P_1 _, P_0 _, trivial⟩ (by kernel_rfl) ⟨rfl, rfl, trivial⟩ (by kernel_rfl) rfl rfl rfl rfl rfl ?_
 rintro _ h6 ⟨r5, rfl, H⟩
 refine sim_end wf ⟨trivial, trivial, trivial, trivial, trivial, trivial, trivial, trivial, trivial⟩ (by kernel_rfl) ?_
 clear wf P_0 P_1 P_2 P_3 P_4 P_5 P_6 P_7
 refine x_seq ?_
 refine c_weak [(1, .int .i64 p1), (2, .int .i64 p2), (3, .pointer p3), (18, .bool r5)] ⟨rfl, rfl, rfl, rfl, trivial⟩ ?_
 refine c_if H rfl (fun H => ?_) (fun H => ?_)
 ·
  refine c_seq (c_region ?_)
  refine wP tok ?_
  obtain ⟨a7, ha7, H⟩ := H
  refine w_y (y_nil' rfl rfl ha7) rfl rfl ?_
  obtain ⟨v8, hv8, H⟩ := H
  refine w_y (y_ld tok rfl rfl rfl rfl hv8) rfl rfl ?_
  refine wP tok ?_
  refine w_y (y_nil' rfl rfl ha7) rfl rfl ?_
  obtain ⟨h9, wh9, eh9, H⟩ := H
  refine w_h (h_st tok rfl rfl rfl rfl rfl rfl wh9 eh9) rfl rfl ?_
  refine w_end (x_seq ?_)
  refine c_weak [(1, .int .i64 p1), (2, .int .i64 p2)] ⟨rfl, rfl, trivial⟩ ?_
  refine c_seq (c_region ?_)
  iterate 4 refine wP tok ?_
  refine w_end (x_seq ?_)
  refine c_ret (x_tr ?_)
  exact x_ret _ rfl _ rfl ⟨(p2, p1), rfl, H⟩
 ·
  refine c_skip (x_seq ?_)
  refine c_seq (c_region ?_)
  iterate 4 refine wP tok ?_
  refine w_end (x_seq (c_ret ?_))
  exact x_ret _ rfl _ rfl ⟨(p1, p2), rfl, H⟩

theorem slices_medianOrdered_uint64_ok : CallOk Go.Proofs.Try.prog 112 := ⟨_, Go.Proofs.Try.func112, by kernel_rfl, by kernel_rfl⟩
theorem slices_medianOrdered_uint64_ref (p0 : Slc) (p1 : Int) (p2 : Int) (p3 : Int) (p4 : Option Addr) (k : (Int) → Heap → Prop) (h : Heap) (H : slices_medianOrdered_uint64 p0 p1 p2 p3 p4 k h) : CallsH Go.Proofs.Try.prog 112 #[Slc.v p0, .int .i64 p1, .int .i64 p2, .int .i64 p3, .pointer p4] h (fun v h' => ∃ r : Int, v = .int .i64 r ∧ k r h') := by
 refine f_enter (N := 36) Go.Proofs.Try.func112 rfl rfl rfl (fun w0 => ?_)
 unfold slices_medianOrdered_uint64 at H
 refine c_weak [(0, Slc.v p0), (1, .int .i64 p1), (2, .int .i64 p2), (3, .int .i64 p3), (4, .pointer p4)] ⟨rfl, rfl, rfl, rfl, rfl, trivial⟩ ?_
 refine c_seq (c_region ?_)
 refine wP tok ?_
 refine w_end (x_seq ?_)
 refine c_seq (c_region ?_)
 iterate 4 refine wP tok ?_
 refine w_call slices_order2Ordered_uint64_ok (slices_order2Ordered_uint64_ref _ _ _ _ _ _ H) rfl rfl rfl rfl ?_
 rintro _ h2 ⟨r1, rfl, H⟩
 iterate 5 refine wP tok ?_
 refine w_end (x_seq ?_)
 refine c_weak [(0, Slc.v p0), (1, .int .i64 r1.1), (2, .int .i64 r1.2), (3, .int .i64 p3), (4, .pointer p4)] ⟨rfl, rfl, rfl, rfl, rfl, trivial⟩ ?_
 refine c_seq (c_region ?_)
 iterate 4 refine wP tok ?_
 refine w_call slices_order2Ordered_uint64_ok (slices_order2Ordered_uint64_ref _ _ _ _ _ _ H) rfl rfl rfl rfl ?_
 rintro _ h4 ⟨r3, rfl, H⟩
 iterate 5 refine wP tok ?_
 refine w_end (x_seq ?_)
 refine c_weak [(0, Slc.v p0), (1, .int .i64 r1.1), (2, .int .i64 r3.1), (4, .pointer p4)] ⟨rfl, rfl, rfl, rfl, trivial⟩ ?_
 refine c_seq (c_region ?_)
 iterate 4 refine wP tok ?_
 refine w_call slices_order2Ordered_uint64_ok (slices_order2Ordered_uint64_ref _ _ _ _ _ _ H) rfl rfl rfl rfl ?_
 rintro _ h6 ⟨r5, rfl, H⟩
 iterate 5 refine wP tok ?_
 refine w_end (x_seq ?_)
 refine c_weak [(2, .int .i64 r5.2)] ⟨rfl, trivial⟩ ?_
 refine c_seq (c_region ?_)
 iterate 2 refine wP tok ?_
 refine w_end (x_seq (c_ret ?_))
 exact x_ret _ rfl _ rfl ⟨r5.2, rfl, H⟩

theorem slices_medianAdjacentOrdered_uint64_ok : CallOk Go.Proofs.Try.prog 111 := ⟨_, Go.Proofs.Try.func111, by kernel_rfl, by kernel_rfl⟩
theorem slices_medianAdjacentOrdered_uint64_ref (p0 : Slc) (p1 : Int) (p2 : Option Addr) (k : (Int) → Heap → Prop) (h : Heap) (H : slices_medianAdjacentOrdered_uint64 p0 p1 p2 k h) : CallsH Go.Proofs.Try.prog 111 #[Slc.v p0, .int .i64 p1, .pointer p2] h (fun v h' => ∃ r : Int, v = .int .i64 r ∧ k r h') := by
 refine f_enter (N := 15) Go.Proofs.Try.func111 rfl rfl rfl (fun w0 => ?_)
 unfold slices_medianAdjacentOrdered_uint64 at H
 refine c_weak [(0, Slc.v p0), (1, .int .i64 p1), (2, .pointer p2)] ⟨rfl, rfl, rfl, trivial⟩ ?_
 refine c_seq (c_region ?_)
 refine wP tok ?_
 refine w_end (x_seq ?_)
 refine c_seq (c_region ?_)
 iterate 7 refine wP tok ?_
 refine w_call slices_medianOrdered_uint64_ok (slices_medianOrdered_uint64_ref _ _ _ _ _ _ _ H) rfl rfl rfl rfl ?_
 rintro _ h2 ⟨r1, rfl, H⟩
 refine wP tok ?_
 refine w_end (x_seq ?_)
 refine c_weak [(6, .int .i64 r1)] ⟨rfl, trivial⟩ ?_
 refine c_ret ?_
 exact x_ret _ rfl _ rfl ⟨r1, rfl, H⟩

theorem slices_choosePivotOrdered_uint64_ok : CallOk Go.Proofs.Try.prog 100 := ⟨_, Go.Proofs.Try.func100, by kernel_rfl, by kernel_rfl⟩
theorem slices_choosePivotOrdered_uint64_ref (p0 : Slc) (p1 : Int) (p2 : Int) (k : (Int × Int) → Heap → Prop) (h : Heap) (H : slices_choosePivotOrdered_uint64 p0 p1 p2 k h) : CallsH Go.Proofs.Try.prog 100 #[Slc.v p0, .int .i64 p1, .int .i64 p2] h (fun v h' => ∃ r : Int × Int, v = .tuple #[.int .i64 r.1, .int .i64 r.2] ∧ k r h') := by
 refine f_enter (N := 57) Go.Proofs.Try.func100 rfl rfl rfl (fun w0 => ?_)
 unfold slices_choosePivotOrdered_uint64 at H
 refine c_weak [(0, Slc.v p0), (1, .int .i64 p1), (2, .int .i64 p2)] ⟨rfl, rfl, rfl, trivial⟩ ?_
 refine c_seq (c_region ?_)
 iterate 2 refine wP tok ?_
 refine w_end (x_seq ?_)
 refine c_seq (c_region ?_)
 iterate 3 refine wP tok ?_
 obtain ⟨x1, ex1, H⟩ := H
 refine w_pe tok rfl (congrArg (fun z => (.int .i64 z : Value)) ex1) rfl rfl ?_
 refine w_end (x_seq ?_)
 refine c_seq (c_region ?_)
 obtain ⟨b2, h3, eb2, eh3, H⟩ := H
 refine w_h (h_alloc tok rfl rfl eb2 eh3) rfl rfl ?_
 refine w_end (x_seq ?_)
 refine c_seq (c_region ?_)
 iterate 5 refine wP tok ?_
 obtain ⟨x4, ex4, H⟩ := H
 refine w_pe tok rfl (congrArg (fun z => (.int .i64 z : Value)) ex4) rfl rfl ?_
 refine w_end (x_seq ?_)
 refine c_weak [(0, Slc.v p0), (1, .int .i64 p1), (8, .int .i64 x1), (9, .pointer (some (⟨b2, 0, none⟩ : Addr))), (10, .int .i64 x4)] ⟨rfl, rfl, rfl, rfl, rfl, trivial⟩ ?_
 refine c_seq (c_region ?_)
 iterate 5 refine wP tok ?_
 obtain ⟨x5, ex5, H⟩ := H
 refine w_pe tok rfl (congrArg (fun z => (.int .i64 z : Value)) ex5) rfl rfl ?_
 refine w_end (x_seq ?_)
 refine c_seq (c_region ?_)
 iterate 5 refine wP tok ?_
 obtain ⟨x6, ex6, H⟩ := H
 refine w_pe tok rfl (congrArg (fun z => (.int .i64 z : Value)) ex6) rfl rfl ?_
 refine w_end (x_seq ?_)
 refine c_weak [(0, Slc.v p0), (8, .int .i64 x1), (9, .pointer (some (⟨b2, 0, none⟩ : Addr))), (10, .int .i64 x4), (11, .int .i64 x5), (12, .int .i64 x6)] ⟨rfl, rfl, rfl, rfl, rfl, rfl, trivial⟩ ?_
 refine c_seqJ (α := Int) (fun (s : Int) => [(11, .int .i64 s), (9, .pointer (some (⟨b2, 0, none⟩ : Addr)))]) (fun (s : Int) h => slices_choosePivotOrdered_uint64_j1 (⟨b2, 0, none⟩ : Addr) s k h) ?_ ?_
 ·
  rintro t11_1 h_1 H
  replace H : slices_choosePivotOrdered_uint64_j1 (⟨b2, 0, none⟩ : Addr) t11_1 k h_1 := H
  unfold slices_choosePivotOrdered_uint64_j1 at H
  refine c_weak [(11, .int .i64 t11_1), (9, .pointer (some (⟨b2, 0, none⟩ : Addr)))] ⟨rfl, rfl, trivial⟩ ?_
  refine c_seq (c_region ?_)
  obtain ⟨v7, hv7, H⟩ := H
  refine w_y (y_ld tok rfl rfl rfl rfl hv7) rfl rfl ?_
  refine w_end (x_seq ?_)
  refine c_block (c_seq (c_region ?_))
  iterate 2 refine wP tok ?_
  refine w_end (x_seq ?_)
  refine c_if H rfl (fun H => ?_) (fun H => ?_)
  ·
   refine c_seq (c_region ?_)
   iterate 3 refine wP tok ?_
   refine w_end (x_seq (c_ret ?_))
   refine x_br ?_
   exact x_ret _ rfl _ rfl ⟨(t11_1, 1), rfl, H⟩
  ·
   refine c_seq (c_region ?_)
   iterate 2 refine wP tok ?_
   refine w_end (x_seq ?_)
   refine c_if H rfl (fun H => ?_) (fun H => ?_)
   ·
    refine c_seq (c_region ?_)
    iterate 3 refine wP tok ?_
    refine w_end (x_seq ?_)
    refine c_weak [(6, .int .i64 t11_1), (7, .int .i64 2)] ⟨rfl, rfl, trivial⟩ ?_
    refine c_ret ?_
    refine x_br ?_
    exact x_ret _ rfl _ rfl ⟨(t11_1, 2), rfl, H⟩
   ·
    refine c_seq (c_region ?_)
    iterate 3 refine wP tok ?_
    refine w_end (x_seq ?_)
    refine c_weak [(6, .int .i64 t11_1), (7, .int .i64 0)] ⟨rfl, rfl, trivial⟩ ?_
    refine c_ret ?_
    refine x_br ?_
    exact x_ret _ rfl _ rfl ⟨(t11_1, 0), rfl, H⟩
 ·
  refine c_seq (c_region ?_)
  iterate 2 refine wP tok ?_
  refine w_end (x_seq ?_)
  refine c_if H rfl (fun H => ?_) (fun H => ?_)
  ·
   refine c_seqJ (α := Int × Int × Int) (fun (s : Int × Int × Int) => [(10, .int .i64 s.1), (11, .int .i64 s.2.1), (12, .int .i64 s.2.2), (0, Slc.v p0), (9, .pointer (some (⟨b2, 0, none⟩ : Addr)))]) (fun (s : Int × Int × Int) h => slices_choosePivotOrdered_uint64_j2 p0 (⟨b2, 0, none⟩ : Addr) s.1 s.2.1 s.2.2 k h) ?_ ?_
   ·
    rintro ⟨t10_2, t11_2, t12_2⟩ h_2 H
    replace H : slices_choosePivotOrdered_uint64_j2 p0 (⟨b2, 0, none⟩ : Addr) t10_2 t11_2 t12_2 k h_2 := H
    unfold slices_choosePivotOrdered_uint64_j2 at H
    refine c_weak [(10, .int .i64 t10_2), (11, .int .i64 t11_2), (12, .int .i64 t12_2), (0, Slc.v p0), (9, .pointer (some (⟨b2, 0, none⟩ : Addr)))] ⟨rfl, rfl, rfl, rfl, rfl, trivial⟩ ?_
    refine c_region ?_
    iterate 4 refine wP tok ?_
    refine w_call slices_medianOrdered_uint64_ok (slices_medianOrdered_uint64_ref _ _ _ _ _ _ _ H) rfl rfl rfl rfl ?_
    rintro _ h9 ⟨r8, rfl, H⟩
    refine wP tok ?_
    refine w_end ?_
    exact x_join r8 H ⟨rfl, rfl, trivial⟩
   ·
    refine c_seq (c_region ?_)
    iterate 2 refine wP tok ?_
    refine w_end (x_seq ?_)
    refine c_if H rfl (fun H => ?_) (fun H => ?_)
    ·
     refine c_seq (c_region ?_)
     iterate 2 refine wP tok ?_
     refine w_call slices_medianAdjacentOrdered_uint64_ok (slices_medianAdjacentOrdered_uint64_ref _ _ _ _ _ H) rfl rfl rfl rfl ?_
     rintro _ h11 ⟨r10, rfl, H⟩
     refine wP tok ?_
     refine w_end (x_seq ?_)
     refine c_weak [(0, Slc.v p0), (9, .pointer (some (⟨b2, 0, none⟩ : Addr))), (10, .int .i64 r10), (11, .int .i64 x5), (12, .int .i64 x6)] ⟨rfl, rfl, rfl, rfl, rfl, trivial⟩ ?_
     refine c_seq (c_region ?_)
     iterate 2 refine wP tok ?_
     refine w_call slices_medianAdjacentOrdered_uint64_ok (slices_medianAdjacentOrdered_uint64_ref _ _ _ _ _ H) rfl rfl rfl rfl ?_
     rintro _ h13 ⟨r12, rfl, H⟩
     refine wP tok ?_
     refine w_end (x_seq (c_region ?_))
     iterate 2 refine wP tok ?_
     refine w_call slices_medianAdjacentOrdered_uint64_ok (slices_medianAdjacentOrdered_uint64_ref _ _ _ _ _ H) rfl rfl rfl rfl ?_
     rintro _ h15 ⟨r14, rfl, H⟩
     refine wP tok ?_
     refine w_end ?_
     exact x_join (r10, r12, r14) H ⟨rfl, rfl, rfl, rfl, rfl, trivial⟩
    ·
     refine c_skip ?_
     exact x_join (x4, x5, x6) H ⟨rfl, rfl, rfl, rfl, rfl, trivial⟩
  ·
   refine c_skip ?_
   exact x_join x5 H ⟨rfl, rfl, trivial⟩

theorem slices_reverseRangeOrdered_uint64_ok : CallOk Go.Proofs.Try.prog 101 := ⟨_, Go.Proofs.Try.func101, by kernel_rfl, by kernel_rfl⟩
theorem slices_reverseRangeOrdered_uint64_ref (p0 : Slc) (p1 : Int) (p2 : Int) (k : (Unit) → Heap → Prop) (h : Heap) (H : slices_reverseRangeOrdered_uint64 p0 p1 p2 k h) : CallsH Go.Proofs.Try.prog 101 #[Slc.v p0, .int .i64 p1, .int .i64 p2] h (fun v h' => ∃ r : Unit, v = .tuple #[] ∧ k r h') := by
 refine f_enter (N := 32) Go.Proofs.Try.func101 rfl rfl rfl (fun w0 => ?_)
 unfold slices_reverseRangeOrdered_uint64 at H
 refine c_weak [(0, Slc.v p0), (1, .int .i64 p1), (2, .int .i64 p2)] ⟨rfl, rfl, rfl, trivial⟩ ?_
 refine c_seq (c_region ?_)
 iterate 2 refine wP tok ?_
 refine w_end (x_seq ?_)
 refine c_seq (c_region ?_)
 iterate 2 refine wP tok ?_
 obtain ⟨x1, ex1, H⟩ := H
 refine w_pe tok rfl (congrArg (fun z => (.int .i64 z : Value)) ex1) rfl rfl ?_
 refine w_end (x_seq (c_block ?_))
 obtain ⟨I1, μ1, H0, HI⟩ := H
 refine c_loop (σ := Int × Int) (fun (s : Int × Int) => [(6, .int .i64 s.1), (7, .int .i64 s.2), (0, Slc.v p0)]) I1 μ1 (p1, x1) H0 ⟨rfl, rfl, rfl, trivial⟩ ?_
 rintro ⟨t6_1, t7_1⟩ h_1 H
 replace H := HI t6_1 t7_1 h_1 H
 unfold slices_reverseRangeOrdered_uint64_l1b at H
 refine c_weak [(6, .int .i64 t6_1), (7, .int .i64 t7_1), (0, Slc.v p0)] ⟨rfl, rfl, rfl, trivial⟩ ?_
 refine c_seq (c_seq (c_region ?_))
 iterate 3 refine wP tok ?_
 refine w_end (x_seq ?_)
 refine c_if H rfl (fun H => ?_) (fun H => ?_)
 ·
  refine c_skip (x_seq ?_)
  refine c_block (c_seq ?_)
  refine c_sim [(0, Slc.v p0), (6, .int .i64 t6_1), (7, .int .i64 t7_1)] (by kernel_rfl) (by kernel_rfl) ⟨rfl, rfl, rfl, trivial⟩ (fun wf => ?_)
  refine sQ 0 [(0, Slc.v p0)] (some 14) tok wf ⟨rfl, trivial⟩ (fun P_0 => ?_)
  refine sQ 1 [(6, .int .i64 t6_1)] (some 15) tok wf ⟨rfl, trivial⟩ (fun P_1 => ?_)
  refine sQ 2 [(0, Slc.v p0)] (some 16) tok wf ⟨rfl, trivial⟩ (fun P_2 => ?_)
  refine sQ 3 [(7, .int .i64 t7_1)] (some 17) tok wf ⟨rfl, trivial⟩ (fun P_3 => ?_)
  refine sQ 4 [(0, Slc.v p0)] (some 18) tok wf ⟨rfl, trivial⟩ (fun P_4 => ?_)
  refine sQ 5 [(7, .int .i64 t7_1)] (some 19) tok wf ⟨rfl, trivial⟩ (fun P_5 => ?_)
  obtain ⟨a2, ha2, la2, ua2, H⟩ := H
  refine sP 6 [(18, Slc.v p0), (19, .int .i64 t7_1)] (some 20) wf ⟨rfl, rfl, trivial⟩ (fun _ => pf_y rfl rfl rfl (y_ixa' tok rfl rfl ha2 rfl rfl rfl la2 ua2)) (fun P_6 => ?_)
  obtain ⟨v3, hv3, H⟩ := H
  refine sL 7 [(20, .pointer (some (a2.add (t7_1.toNat * 1))))] (some 21) wf ⟨rfl, trivial⟩ (pf_y rfl rfl rfl (y_ld tok rfl rfl rfl rfl hv3)) (fun P_7 => ?_)
  refine sQ 8 [(0, Slc.v p0)] (some 22) tok wf ⟨rfl, trivial⟩ (fun P_8 => ?_)
  refine sQ 9 [(6, .int .i64 t6_1)] (some 23) tok wf ⟨rfl, trivial⟩ (fun P_9 => ?_)
  obtain ⟨a4, ha4, la4, ua4, H⟩ := H
  refine sP 10 [(22, Slc.v p0), (23, .int .i64 t6_1)] (some 24) wf ⟨rfl, rfl, trivial⟩ (fun _ => pf_y rfl rfl rfl (y_ixa' tok rfl rfl ha4 rfl rfl rfl la4 ua4)) (fun P_10 => ?_)
  obtain ⟨v5, hv5, H⟩ := H
  refine sL 11 [(24, .pointer (some (a4.add (t6_1.toNat * 1))))] (some 25) wf ⟨rfl, trivial⟩ (pf_y rfl rfl rfl (y_ld tok rfl rfl rfl rfl hv5)) (fun P_11 => ?_)
  obtain ⟨a6, ha6, la6, ua6, H⟩ := H
  refine sP 12 [(14, Slc.v p0), (15, .int .i64 t6_1)] (some 26) wf ⟨rfl, rfl, trivial⟩ (fun _ => pf_y rfl rfl rfl (y_ixa' tok rfl rfl ha6 rfl rfl rfl la6 ua6)) (fun P_12 => ?_)
  obtain ⟨h7, wh7, eh7, H⟩ := H
  refine sim_h 13 [0, 1, 4, 5, 6, 7, 8, 9, 10, 11, 12] [0, 1, 4, 5, 6, 7, 8, 9, 10, 11, 12] (ei := [(21, .int .u64 v3), (26, .pointer (some (a6.add (t6_1.toNat * 1))))]) wf ⟨P_12 _, P_11, P_10 _, P_9 _, P_8 _, P_7, P_6 _, P_5 _, P_4 _, P_3 _, P_2 _, P_1 _, P_0 _, trivial⟩ (by kernel_rfl) ⟨rfl, rfl, trivial⟩ (by kernel_rfl) rfl rfl rfl (h_st tok rfl rfl rfl rfl rfl rfl wh7 eh7) ?_
  obtain ⟨a8, ha8, la8, ua8, H⟩ := H
  refine sP 14 [(16, Slc.v p0), (17, .int .i64 t7_1)] (some 27) wf ⟨rfl, rfl, trivial⟩ (fun _ => pf_y rfl rfl rfl (y_ixa' tok rfl rfl ha8 rfl rfl rfl la8 ua8)) (fun P_14 => ?_)
  obtain ⟨h9, wh9, eh9, H⟩ := H
  refine sim_h 15 [0, 1, 2, 3, 4, 5, 6, 7, 8, 9, 10, 11, 12, 13, 14] [0, 1, 2, 3, 4, 5, 6, 7, 8, 9, 10, 11, 12, 14] (ei := [(25, .int .u64 v5), (27, .pointer (some (a8.add (t7_1.toNat * 1))))]) wf ⟨P_14 _, trivial, trivial, trivial, trivial, trivial, trivial, trivial, trivial, trivial, P_3 _, P_2 _, trivial, trivial, trivial⟩ (by kernel_rfl) ⟨rfl, rfl, trivial⟩ (by kernel_rfl) rfl rfl rfl (h_st tok rfl rfl rfl rfl rfl rfl wh9 eh9) ?_
  refine sim_end wf ⟨trivial, trivial, trivial, trivial, trivial, trivial, trivial, trivial, trivial, trivial, trivial, trivial, trivial, trivial, trivial⟩ (by kernel_rfl) ?_
  clear wf P_0 P_1 P_10 P_11 P_12 P_14 P_2 P_3 P_4 P_5 P_6 P_7 P_8 P_9
  refine x_seq ?_
  refine c_weak [(0, Slc.v p0), (6, .int .i64 t6_1), (7, .int .i64 t7_1)] ⟨rfl, rfl, rfl, trivial⟩ ?_
  refine c_seq (c_region ?_)
  iterate 2 refine wP tok ?_
  obtain ⟨x10, ex10, H⟩ := H
  refine w_pe tok rfl (congrArg (fun z => (.int .i64 z : Value)) ex10) rfl rfl ?_
  refine w_end (x_seq (c_region ?_))
  iterate 2 refine wP tok ?_
  obtain ⟨x11, ex11, H⟩ := H
  refine w_pe tok rfl (congrArg (fun z => (.int .i64 z : Value)) ex11) rfl rfl ?_
  refine w_end ?_
  refine x_blk ?_
  exact x_join (x10, x11) H ⟨rfl, rfl, rfl, trivial⟩
 ·
  refine c_exit ?_
  refine x_te (x_te ?_)
  refine x_bh ?_
  exact x_end _ rfl _ rfl ⟨(), rfl, H⟩

theorem slices_partialInsertionSortOrdered_uint64_ok : CallOk Go.Proofs.Try.prog 102 := ⟨_, Go.Proofs.Try.func102, by kernel_rfl, by kernel_rfl⟩
theorem slices_partialInsertionSortOrdered_uint64_ref (p0 : Slc) (p1 : Int) (p2 : Int) (k : (Bool) → Heap → Prop) (h : Heap) (H : slices_partialInsertionSortOrdered_uint64 p0 p1 p2 k h) : CallsH Go.Proofs.Try.prog 102 #[Slc.v p0, .int .i64 p1, .int .i64 p2] h (fun v h' => ∃ r : Bool, v = .bool r ∧ k r h') := by
 refine f_enter (N := 133) Go.Proofs.Try.func102 rfl rfl rfl (fun w0 => ?_)
 unfold slices_partialInsertionSortOrdered_uint64 at H
 refine c_weak [(0, Slc.v p0), (1, .int .i64 p1), (2, .int .i64 p2)] ⟨rfl, rfl, rfl, trivial⟩ ?_
 refine c_seq (c_region ?_)
 refine wP tok ?_
 refine w_end (x_seq ?_)
 refine c_seq (c_region ?_)
 iterate 2 refine wP tok ?_
 obtain ⟨x1, ex1, H⟩ := H
 refine w_pe tok rfl (congrArg (fun z => (.int .i64 z : Value)) ex1) rfl rfl ?_
 refine w_end (x_seq ?_)
 refine c_seq (c_seq (c_region ?_))
 refine wP tok ?_
 refine w_end (x_seq (c_block ?_))
 obtain ⟨I1, μ1, H0, HI⟩ := H
 refine c_loop (σ := Int × Int) (fun (s : Int × Int) => [(7, .int .i64 s.1), (8, .int .i64 s.2), (0, Slc.v p0), (1, .int .i64 p1), (2, .int .i64 p2)]) I1 μ1 (x1, 0) H0 ⟨rfl, rfl, rfl, rfl, rfl, trivial⟩ ?_
 rintro ⟨t7_1, t8_1⟩ h_1 H
 replace H := HI t7_1 t8_1 h_1 H
 unfold slices_partialInsertionSortOrdered_uint64_l1b at H
 refine c_weak [(7, .int .i64 t7_1), (8, .int .i64 t8_1), (0, Slc.v p0), (1, .int .i64 p1), (2, .int .i64 p2)] ⟨rfl, rfl, rfl, rfl, rfl, trivial⟩ ?_
 refine c_seq (c_seq (c_region ?_))
 iterate 2 refine wP tok ?_
 refine w_end (x_seq ?_)
 refine c_if H rfl (fun H => ?_) (fun H => ?_)
 ·
  refine c_skip (x_seq ?_)
  refine c_seqJ (α := Int) (fun (s : Int) => [(7, .int .i64 s), (0, Slc.v p0), (1, .int .i64 p1), (2, .int .i64 p2), (8, .int .i64 t8_1)]) (fun (s : Int) h => slices_partialInsertionSortOrdered_uint64_j2 p0 p1 p2 t8_1 s k (fun s h' => I1 s h' ∧ μ1 s h' < μ1 (t7_1, t8_1) h_1) h) ?_ ?_
  ·
   rintro t7_2 h_2 H
   replace H : slices_partialInsertionSortOrdered_uint64_j2 p0 p1 p2 t8_1 t7_2 k (fun s h' => I1 s h' ∧ μ1 s h' < μ1 (t7_1, t8_1) h_1) h_2 := H
   unfold slices_partialInsertionSortOrdered_uint64_j2 at H
   refine c_weak [(7, .int .i64 t7_2), (0, Slc.v p0), (1, .int .i64 p1), (2, .int .i64 p2), (8, .int .i64 t8_1)] ⟨rfl, rfl, rfl, rfl, rfl, trivial⟩ ?_
   refine c_region ?_
   iterate 2 refine wP tok ?_
   obtain ⟨x2, ex2, H⟩ := H
   refine w_pe tok rfl (congrArg (fun z => (.int .i64 z : Value)) ex2) rfl rfl ?_
   refine w_end ?_
   exact x_join (t7_2, x2) H ⟨rfl, rfl, rfl, rfl, rfl, trivial⟩
  ·
   refine c_block (c_seq (c_block ?_))
   obtain ⟨I3, μ3, H0, HI⟩ := H
   refine c_loop (σ := Int) (fun (s : Int) => [(7, .int .i64 s), (0, Slc.v p0), (1, .int .i64 p1), (2, .int .i64 p2), (8, .int .i64 t8_1)]) I3 μ3 t7_1 H0 ⟨rfl, rfl, rfl, rfl, rfl, trivial⟩ ?_
   rintro t7_3 h_3 H
   replace H := HI t7_3 h_3 H
   unfold slices_partialInsertionSortOrdered_uint64_l3b at H
   refine c_weak [(7, .int .i64 t7_3), (0, Slc.v p0), (1, .int .i64 p1), (2, .int .i64 p2), (8, .int .i64 t8_1)] ⟨rfl, rfl, rfl, rfl, rfl, trivial⟩ ?_
   refine c_seq ?_
   refine c_seqJ (α := Bool) (fun (s : Bool) => [(32, .bool s), (0, Slc.v p0), (1, .int .i64 p1), (2, .int .i64 p2), (7, .int .i64 t7_3), (8, .int .i64 t8_1)]) (fun (s : Bool) h => slices_partialInsertionSortOrdered_uint64_j4 p0 p1 p2 t7_3 t8_1 s k (fun s h' => I1 s h' ∧ μ1 s h' < μ1 (t7_1, t8_1) h_1) (fun s h' => I3 s h' ∧ μ3 s h' < μ3 t7_3 h_3) h) ?_ ?_
   ·
    rintro t32_4 h_4 H
    replace H : slices_partialInsertionSortOrdered_uint64_j4 p0 p1 p2 t7_3 t8_1 t32_4 k (fun s h' => I1 s h' ∧ μ1 s h' < μ1 (t7_1, t8_1) h_1) (fun s h' => I3 s h' ∧ μ3 s h' < μ3 t7_3 h_3) h_4 := H
    unfold slices_partialInsertionSortOrdered_uint64_j4 at H
    refine c_weak [(32, .bool t32_4), (0, Slc.v p0), (1, .int .i64 p1), (2, .int .i64 p2), (7, .int .i64 t7_3), (8, .int .i64 t8_1)] ⟨rfl, rfl, rfl, rfl, rfl, rfl, trivial⟩ ?_
    refine c_if H rfl (fun H => ?_) (fun H => ?_)
    ·
     refine c_skip (x_seq ?_)
     refine c_block (c_region ?_)
     iterate 2 refine wP tok ?_
     obtain ⟨x3, ex3, H⟩ := H
     refine w_pe tok rfl (congrArg (fun z => (.int .i64 z : Value)) ex3) rfl rfl ?_
     refine w_end ?_
     refine x_blk ?_
     exact x_join x3 H ⟨rfl, rfl, rfl, rfl, rfl, trivial⟩
    ·
     refine c_exit ?_
     refine x_te (x_te ?_)
     refine x_bh ?_
     refine x_seq (c_seq ?_)
     refine c_seq (c_region ?_)
     iterate 3 refine wP tok ?_
     refine w_end (x_seq ?_)
     refine c_if H rfl (fun H => ?_) (fun H => ?_)
     ·
      refine c_seq (c_region ?_)
      refine wP tok ?_
      refine w_end (x_seq ?_)
      refine c_weak [(6, .bool true)] ⟨rfl, trivial⟩ ?_
      refine c_ret (x_tr ?_)
      refine x_br ?_
      refine x_tr (x_tr ?_)
      refine x_br ?_
      refine x_tr ?_
      exact x_ret _ rfl _ rfl ⟨true, rfl, H⟩
     ·
      refine c_skip (x_seq ?_)
      refine c_seq (c_seq (c_region ?_))
      iterate 4 refine wP tok ?_
      refine w_end (x_seq ?_)
      refine c_weak [(0, Slc.v p0), (1, .int .i64 p1), (2, .int .i64 p2), (7, .int .i64 t7_3), (8, .int .i64 t8_1), (41, .bool (decide ((IntKind.i64.wrap (p2 - p1)) < 50)))] ⟨rfl, rfl, rfl, rfl, rfl, rfl, trivial⟩ ?_
      refine c_if H rfl (fun H => ?_) (fun H => ?_)
      ·
       refine c_seq (c_region ?_)
       refine wP tok ?_
       refine w_end (x_seq ?_)
       refine c_ret (x_tr ?_)
       refine x_br ?_
       refine x_tr (x_tr ?_)
       refine x_br ?_
       refine x_tr ?_
       exact x_ret _ rfl _ rfl ⟨false, rfl, H⟩
      ·
       refine c_skip (x_seq (c_seq ?_))
       refine c_sim [(0, Slc.v p0), (1, .int .i64 p1), (2, .int .i64 p2), (7, .int .i64 t7_3), (8, .int .i64 t8_1)] (by kernel_rfl) (by kernel_rfl) ⟨rfl, rfl, rfl, rfl, rfl, trivial⟩ (fun wf => ?_)
       refine sQ 0 [(0, Slc.v p0)] (some 42) tok wf ⟨rfl, trivial⟩ (fun P_0 => ?_)
       refine sQ 1 [(7, .int .i64 t7_3)] (some 43) tok wf ⟨rfl, trivial⟩ (fun P_1 => ?_)
       refine sQ 2 [(0, Slc.v p0)] (some 44) tok wf ⟨rfl, trivial⟩ (fun P_2 => ?_)
       refine sQ 3 [(7, .int .i64 t7_3)] (some 45) tok wf ⟨rfl, trivial⟩ (fun P_3 => ?_)
       refine sQ 4 [(45, .int .i64 t7_3)] (some 46) tok wf ⟨rfl, trivial⟩ (fun P_4 => ?_)
       refine sQ 5 [(0, Slc.v p0)] (some 47) tok wf ⟨rfl, trivial⟩ (fun P_5 => ?_)
       refine sQ 6 [(7, .int .i64 t7_3)] (some 48) tok wf ⟨rfl, trivial⟩ (fun P_6 => ?_)
       refine sQ 7 [(48, .int .i64 t7_3)] (some 49) tok wf ⟨rfl, trivial⟩ (fun P_7 => ?_)
       obtain ⟨a4, ha4, la4, ua4, H⟩ := H
       refine sP 8 [(47, Slc.v p0), (49, .int .i64 (IntKind.i64.wrap (t7_3 - 1)))] (some 50) wf ⟨rfl, rfl, trivial⟩ (fun _ => pf_y rfl rfl rfl (y_ixa' tok rfl rfl ha4 rfl rfl rfl la4 ua4)) (fun P_8 => ?_)
       obtain ⟨v5, hv5, H⟩ := H
       refine sL 9 [(50, .pointer (some (a4.add ((IntKind.i64.wrap (t7_3 - 1)).toNat * 1))))] (some 51) wf ⟨rfl, trivial⟩ (pf_y rfl rfl rfl (y_ld tok rfl rfl rfl rfl hv5)) (fun P_9 => ?_)
       refine sQ 10 [(0, Slc.v p0)] (some 52) tok wf ⟨rfl, trivial⟩ (fun P_10 => ?_)
       refine sQ 11 [(7, .int .i64 t7_3)] (some 53) tok wf ⟨rfl, trivial⟩ (fun P_11 => ?_)
       obtain ⟨a6, ha6, la6, ua6, H⟩ := H
       refine sP 12 [(52, Slc.v p0), (53, .int .i64 t7_3)] (some 54) wf ⟨rfl, rfl, trivial⟩ (fun _ => pf_y rfl rfl rfl (y_ixa' tok rfl rfl ha6 rfl rfl rfl la6 ua6)) (fun P_12 => ?_)
       obtain ⟨v7, hv7, H⟩ := H
       refine sL 13 [(54, .pointer (some (a6.add (t7_3.toNat * 1))))] (some 55) wf ⟨rfl, trivial⟩ (pf_y rfl rfl rfl (y_ld tok rfl rfl rfl rfl hv7)) (fun P_13 => ?_)
       obtain ⟨a8, ha8, la8, ua8, H⟩ := H
       refine sP 14 [(42, Slc.v p0), (43, .int .i64 t7_3)] (some 56) wf ⟨rfl, rfl, trivial⟩ (fun _ => pf_y rfl rfl rfl (y_ixa' tok rfl rfl ha8 rfl rfl rfl la8 ua8)) (fun P_14 => ?_)
       obtain ⟨h9, wh9, eh9, H⟩ := H
       refine sim_h 15 [0, 1, 5, 6, 7, 8, 9, 10, 11, 12, 13, 14] [0, 1, 5, 6, 7, 8, 9, 10, 11, 12, 13, 14] (ei := [(51, .int .u64 v5), (56, .pointer (some (a8.add (t7_3.toNat * 1))))]) wf ⟨P_14 _, P_13, P_12 _, P_11 _, P_10 _, P_9, P_8 _, P_7 _, P_6 _, P_5 _, P_4 _, P_3 _, P_2 _, P_1 _, P_0 _, trivial⟩ (by kernel_rfl) ⟨rfl, rfl, trivial⟩ (by kernel_rfl) rfl rfl rfl (h_st tok rfl rfl rfl rfl rfl rfl wh9 eh9) ?_
       obtain ⟨a10, ha10, la10, ua10, H⟩ := H
       refine sP 16 [(44, Slc.v p0), (46, .int .i64 (IntKind.i64.wrap (t7_3 - 1)))] (some 57) wf ⟨rfl, rfl, trivial⟩ (fun _ => pf_y rfl rfl rfl (y_ixa' tok rfl rfl ha10 rfl rfl rfl la10 ua10)) (fun P_16 => ?_)
       obtain ⟨h11, wh11, eh11, H⟩ := H
       refine sim_h 17 [0, 1, 2, 3, 4, 5, 6, 7, 8, 9, 10, 11, 12, 13, 14, 15, 16] [0, 1, 2, 3, 4, 5, 6, 7, 8, 9, 10, 11, 12, 13, 14, 16] (ei := [(55, .int .u64 v7), (57, .pointer (some (a10.add ((IntKind.i64.wrap (t7_3 - 1)).toNat * 1))))]) wf ⟨P_16 _, trivial, trivial, trivial, trivial, trivial, trivial, trivial, trivial, trivial, trivial, P_4 _, P_3 _, P_2 _, trivial, trivial, trivial⟩ (by kernel_rfl) ⟨rfl, rfl, trivial⟩ (by kernel_rfl) rfl rfl rfl (h_st tok rfl rfl rfl rfl rfl rfl wh11 eh11) ?_
       refine sim_end wf ⟨trivial, trivial, trivial, trivial, trivial, trivial, trivial, trivial, trivial, trivial, trivial, trivial, trivial, trivial, trivial, trivial, trivial⟩ (by kernel_rfl) ?_
       clear wf P_0 P_1 P_10 P_11 P_12 P_13 P_14 P_16 P_2 P_3 P_4 P_5 P_6 P_7 P_8 P_9
       refine x_seq ?_
       refine c_weak [(0, Slc.v p0), (1, .int .i64 p1), (2, .int .i64 p2), (7, .int .i64 t7_3), (8, .int .i64 t8_1)] ⟨rfl, rfl, rfl, rfl, rfl, trivial⟩ ?_
       refine c_seqJ (α := Unit) (fun (s : Unit) => [(0, Slc.v p0), (1, .int .i64 p1), (2, .int .i64 p2), (7, .int .i64 t7_3), (8, .int .i64 t8_1)]) (fun (s : Unit) h => slices_partialInsertionSortOrdered_uint64_j5 p0 p1 p2 t7_3 t8_1 k (fun s h' => I1 s h' ∧ μ1 s h' < μ1 (t7_1, t8_1) h_1) (fun s h' => I3 s h' ∧ μ3 s h' < μ3 t7_3 h_3) h) ?_ ?_
       ·
        rintro _ h_5 H
        replace H : slices_partialInsertionSortOrdered_uint64_j5 p0 p1 p2 t7_3 t8_1 k (fun s h' => I1 s h' ∧ μ1 s h' < μ1 (t7_1, t8_1) h_1) (fun s h' => I3 s h' ∧ μ3 s h' < μ3 t7_3 h_3) h_5 := H
        unfold slices_partialInsertionSortOrdered_uint64_j5 at H
        refine c_weak [(0, Slc.v p0), (1, .int .i64 p1), (2, .int .i64 p2), (7, .int .i64 t7_3), (8, .int .i64 t8_1)] ⟨rfl, rfl, rfl, rfl, rfl, trivial⟩ ?_
        refine c_seq (c_region ?_)
        iterate 4 refine wP tok ?_
        refine w_end (x_seq ?_)
        refine c_if H rfl (fun H => ?_) (fun H => ?_)
        ·
         refine c_seq (c_region ?_)
         iterate 2 refine wP tok ?_
         obtain ⟨x12, ex12, H⟩ := H
         refine w_pe tok rfl (congrArg (fun z => (.int .i64 z : Value)) ex12) rfl rfl ?_
         refine w_end (x_seq (c_block ?_))
         obtain ⟨I6, μ6, H0, HI⟩ := H
         refine c_loop (σ := Int) (fun (s : Int) => [(10, .int .i64 s), (0, Slc.v p0), (1, .int .i64 p1), (2, .int .i64 p2), (7, .int .i64 t7_3), (8, .int .i64 t8_1)]) I6 μ6 x12 H0 ⟨rfl, rfl, rfl, rfl, rfl, rfl, trivial⟩ ?_
         rintro t10_6 h_6 H
         replace H := HI t10_6 h_6 H
         unfold slices_partialInsertionSortOrdered_uint64_l6b at H
         refine c_weak [(10, .int .i64 t10_6), (0, Slc.v p0), (1, .int .i64 p1), (2, .int .i64 p2), (7, .int .i64 t7_3), (8, .int .i64 t8_1)] ⟨rfl, rfl, rfl, rfl, rfl, rfl, trivial⟩ ?_
         refine c_seq (c_seq (c_region ?_))
         iterate 3 refine wP tok ?_
         refine w_end (x_seq ?_)
         refine c_if H rfl (fun H => ?_) (fun H => ?_)
         ·
          refine c_skip (x_seq ?_)
          refine c_seq (c_block ?_)
          refine c_seq (c_seq ?_)
          refine c_sim [(0, Slc.v p0), (1, .int .i64 p1), (2, .int .i64 p2), (7, .int .i64 t7_3), (8, .int .i64 t8_1), (10, .int .i64 t10_6)] (by kernel_rfl) (by kernel_rfl) ⟨rfl, rfl, rfl, rfl, rfl, rfl, trivial⟩ (fun wf => ?_)
          refine sQ 0 [(0, Slc.v p0)] (some 106) tok wf ⟨rfl, trivial⟩ (fun P_0 => ?_)
          refine sQ 1 [(10, .int .i64 t10_6)] (some 107) tok wf ⟨rfl, trivial⟩ (fun P_1 => ?_)
          obtain ⟨a13, ha13, la13, ua13, H⟩ := H
          refine sP 2 [(106, Slc.v p0), (107, .int .i64 t10_6)] (some 108) wf ⟨rfl, rfl, trivial⟩ (fun _ => pf_y rfl rfl rfl (y_ixa' tok rfl rfl ha13 rfl rfl rfl la13 ua13)) (fun P_2 => ?_)
          obtain ⟨v14, hv14, H⟩ := H
          refine sL 3 [(108, .pointer (some (a13.add (t10_6.toNat * 1))))] (some 109) wf ⟨rfl, trivial⟩ (pf_y rfl rfl rfl (y_ld tok rfl rfl rfl rfl hv14)) (fun P_3 => ?_)
          refine sQ 4 [(0, Slc.v p0)] (some 110) tok wf ⟨rfl, trivial⟩ (fun P_4 => ?_)
          refine sQ 5 [(10, .int .i64 t10_6)] (some 111) tok wf ⟨rfl, trivial⟩ (fun P_5 => ?_)
          refine sQ 6 [(111, .int .i64 t10_6)] (some 112) tok wf ⟨rfl, trivial⟩ (fun P_6 => ?_)
          obtain ⟨a15, ha15, la15, ua15, H⟩ := H
          refine sP 7 [(110, Slc.v p0), (112, .int .i64 (IntKind.i64.wrap (t10_6 - 1)))] (some 113) wf ⟨rfl, rfl, trivial⟩ (fun _ => pf_y rfl rfl rfl (y_ixa' tok rfl rfl ha15 rfl rfl rfl la15 ua15)) (fun P_7 => ?_)
          obtain ⟨v16, hv16, H⟩ := H
          refine sL 8 [(113, .pointer (some (a15.add ((IntKind.i64.wrap (t10_6 - 1)).toNat * 1))))] (some 114) wf ⟨rfl, trivial⟩ (pf_y rfl rfl rfl (y_ld tok rfl rfl rfl rfl hv16)) (fun P_8 => ?_)
          refine sim_c 9 [0, 1, 2, 3, 4, 5, 6, 7, 8] [0, 1, 2, 3, 4, 5, 6, 7, 8] (ei := [(109, .int .u64 v14), (114, .int .u64 v16)]) cmp_Less_uint64_ok (cmp_Less_uint64_ref _ _ _ _ H) wf ⟨P_8, P_7 _, P_6 _, P_5 _, P_4 _, P_3, P_2 _, P_1 _, P_0 _, trivial⟩ (by kernel_rfl) ⟨rfl, rfl, trivial⟩ (by kernel_rfl) rfl rfl rfl rfl rfl ?_
          rintro _ h18 ⟨r17, rfl, H⟩
          refine sQ 10 [(115, .bool r17)] (some 116) tok wf ⟨rfl, trivial⟩ (fun P_10 => ?_)
          refine sim_end wf ⟨P_10 _, trivial, trivial, trivial, trivial, trivial, trivial, trivial, trivial, trivial, trivial⟩ (by kernel_rfl) ?_
          clear wf P_0 P_1 P_10 P_2 P_3 P_4 P_5 P_6 P_7 P_8
          refine x_seq ?_
          refine c_weak [(0, Slc.v p0), (1, .int .i64 p1), (2, .int .i64 p2), (7, .int .i64 t7_3), (8, .int .i64 t8_1), (10, .int .i64 t10_6), (116, .bool (!r17))] ⟨rfl, rfl, rfl, rfl, rfl, rfl, rfl, trivial⟩ ?_
          refine c_if H rfl (fun H => ?_) (fun H => ?_)
          ·
           refine c_exit ?_
           refine x_te ?_
           refine x_bm rfl ?_
           refine x_te (x_te ?_)
           refine x_bh ?_
           refine x_blk ?_
           exact x_join t7_3 H ⟨rfl, rfl, rfl, rfl, rfl, trivial⟩
          ·
           refine c_skip (x_seq ?_)
           refine c_sim [(0, Slc.v p0), (1, .int .i64 p1), (2, .int .i64 p2), (7, .int .i64 t7_3), (8, .int .i64 t8_1), (10, .int .i64 t10_6)] (by kernel_rfl) (by kernel_rfl) ⟨rfl, rfl, rfl, rfl, rfl, rfl, trivial⟩ (fun wf => ?_)
           refine sQ 0 [(0, Slc.v p0)] (some 117) tok wf ⟨rfl, trivial⟩ (fun P_0 => ?_)
           refine sQ 1 [(10, .int .i64 t10_6)] (some 118) tok wf ⟨rfl, trivial⟩ (fun P_1 => ?_)
           refine sQ 2 [(0, Slc.v p0)] (some 119) tok wf ⟨rfl, trivial⟩ (fun P_2 => ?_)
           refine sQ 3 [(10, .int .i64 t10_6)] (some 120) tok wf ⟨rfl, trivial⟩ (fun P_3 => ?_)
           refine sQ 4 [(120, .int .i64 t10_6)] (some 121) tok wf ⟨rfl, trivial⟩ (fun P_4 => ?_)
           refine sQ 5 [(0, Slc.v p0)] (some 122) tok wf ⟨rfl, trivial⟩ (fun P_5 => ?_)
           refine sQ 6 [(10, .int .i64 t10_6)] (some 123) tok wf ⟨rfl, trivial⟩ (fun P_6 => ?_)
           refine sQ 7 [(123, .int .i64 t10_6)] (some 124) tok wf ⟨rfl, trivial⟩ (fun P_7 => ?_)
           obtain ⟨a19, ha19, la19, ua19, H⟩ := H
           refine sP 8 [(122, Slc.v p0), (124, .int .i64 (IntKind.i64.wrap (t10_6 - 1)))] (some 125) wf ⟨rfl, rfl, trivial⟩ (fun _ => pf_y rfl rfl rfl (y_ixa' tok rfl rfl ha19 rfl rfl rfl la19 ua19)) (fun P_8 => ?_)
           obtain ⟨v20, hv20, H⟩ := H
           refine sL 9 [(125, .pointer (some (a19.add ((IntKind.i64.wrap (t10_6 - 1)).toNat * 1))))] (some 126) wf ⟨rfl, trivial⟩ (pf_y rfl rfl rfl (y_ld tok rfl rfl rfl rfl hv20)) (fun P_9 => ?_)
           refine sQ 10 [(0, Slc.v p0)] (some 127) tok wf ⟨rfl, trivial⟩ (fun P_10 => ?_)
           refine sQ 11 [(10, .int .i64 t10_6)] (some 128) tok wf ⟨rfl, trivial⟩ (fun P_11 => ?_)
           obtain ⟨a21, ha21, la21, ua21, H⟩ := H
           refine sP 12 [(127, Slc.v p0), (128, .int .i64 t10_6)] (some 129) wf ⟨rfl, rfl, trivial⟩ (fun _ => pf_y rfl rfl rfl (y_ixa' tok rfl rfl ha21 rfl rfl rfl la21 ua21)) (fun P_12 => ?_)
           obtain ⟨v22, hv22, H⟩ := H
           refine sL 13 [(129, .pointer (some (a21.add (t10_6.toNat * 1))))] (some 130) wf ⟨rfl, trivial⟩ (pf_y rfl rfl rfl (y_ld tok rfl rfl rfl rfl hv22)) (fun P_13 => ?_)
           obtain ⟨a23, ha23, la23, ua23, H⟩ := H
           refine sP 14 [(117, Slc.v p0), (118, .int .i64 t10_6)] (some 131) wf ⟨rfl, rfl, trivial⟩ (fun _ => pf_y rfl rfl rfl (y_ixa' tok rfl rfl ha23 rfl rfl rfl la23 ua23)) (fun P_14 => ?_)
           obtain ⟨h24, wh24, eh24, H⟩ := H
           refine sim_h 15 [0, 1, 5, 6, 7, 8, 9, 10, 11, 12, 13, 14] [0, 1, 5, 6, 7, 8, 9, 10, 11, 12, 13, 14] (ei := [(126, .int .u64 v20), (131, .pointer (some (a23.add (t10_6.toNat * 1))))]) wf ⟨P_14 _, P_13, P_12 _, P_11 _, P_10 _, P_9, P_8 _, P_7 _, P_6 _, P_5 _, P_4 _, P_3 _, P_2 _, P_1 _, P_0 _, trivial⟩ (by kernel_rfl) ⟨rfl, rfl, trivial⟩ (by kernel_rfl) rfl rfl rfl (h_st tok rfl rfl rfl rfl rfl rfl wh24 eh24) ?_
           obtain ⟨a25, ha25, la25, ua25, H⟩ := H
           refine sP 16 [(119, Slc.v p0), (121, .int .i64 (IntKind.i64.wrap (t10_6 - 1)))] (some 132) wf ⟨rfl, rfl, trivial⟩ (fun _ => pf_y rfl rfl rfl (y_ixa' tok rfl rfl ha25 rfl rfl rfl la25 ua25)) (fun P_16 => ?_)
           obtain ⟨h26, wh26, eh26, H⟩ := H
           refine sim_h 17 [0, 1, 2, 3, 4, 5, 6, 7, 8, 9, 10, 11, 12, 13, 14, 15, 16] [0, 1, 2, 3, 4, 5, 6, 7, 8, 9, 10, 11, 12, 13, 14, 16] (ei := [(130, .int .u64 v22), (132, .pointer (some (a25.add ((IntKind.i64.wrap (t10_6 - 1)).toNat * 1))))]) wf ⟨P_16 _, trivial, trivial, trivial, trivial, trivial, trivial, trivial, trivial, trivial, trivial, P_4 _, P_3 _, P_2 _, trivial, trivial, trivial⟩ (by kernel_rfl) ⟨rfl, rfl, trivial⟩ (by kernel_rfl) rfl rfl rfl (h_st tok rfl rfl rfl rfl rfl rfl wh26 eh26) ?_
           refine sim_end wf ⟨trivial, trivial, trivial, trivial, trivial, trivial, trivial, trivial, trivial, trivial, trivial, trivial, trivial, trivial, trivial, trivial, trivial⟩ (by kernel_rfl) ?_
           clear wf P_0 P_1 P_10 P_11 P_12 P_13 P_14 P_16 P_2 P_3 P_4 P_5 P_6 P_7 P_8 P_9
           refine x_blk ?_
           refine x_seq ?_
           refine c_weak [(0, Slc.v p0), (1, .int .i64 p1), (2, .int .i64 p2), (7, .int .i64 t7_3), (8, .int .i64 t8_1), (10, .int .i64 t10_6)] ⟨rfl, rfl, rfl, rfl, rfl, rfl, trivial⟩ ?_
           refine c_region ?_
           iterate 2 refine wP tok ?_
           obtain ⟨x27, ex27, H⟩ := H
           refine w_pe tok rfl (congrArg (fun z => (.int .i64 z : Value)) ex27) rfl rfl ?_
           refine w_end ?_
           exact x_join x27 H ⟨rfl, rfl, rfl, rfl, rfl, rfl, trivial⟩
         ·
          refine c_exit ?_
          refine x_te (x_te ?_)
          refine x_bh ?_
          refine x_blk ?_
          exact x_join t7_3 H ⟨rfl, rfl, rfl, rfl, rfl, trivial⟩
        ·
         refine c_skip ?_
         refine x_blk ?_
         exact x_join t7_3 H ⟨rfl, rfl, rfl, rfl, rfl, trivial⟩
       ·
        refine c_seq (c_region ?_)
        iterate 4 refine wP tok ?_
        refine w_end (x_seq ?_)
        refine c_if H rfl (fun H => ?_) (fun H => ?_)
        ·
         refine c_seq (c_region ?_)
         iterate 2 refine wP tok ?_
         obtain ⟨x28, ex28, H⟩ := H
         refine w_pe tok rfl (congrArg (fun z => (.int .i64 z : Value)) ex28) rfl rfl ?_
         refine w_end (x_seq (c_block ?_))
         obtain ⟨I7, μ7, H0, HI⟩ := H
         refine c_loop (σ := Int) (fun (s : Int) => [(9, .int .i64 s), (0, Slc.v p0), (1, .int .i64 p1), (2, .int .i64 p2), (7, .int .i64 t7_3), (8, .int .i64 t8_1)]) I7 μ7 x28 H0 ⟨rfl, rfl, rfl, rfl, rfl, rfl, trivial⟩ ?_
         rintro t9_7 h_7 H
         replace H := HI t9_7 h_7 H
         unfold slices_partialInsertionSortOrdered_uint64_l7b at H
         refine c_weak [(9, .int .i64 t9_7), (0, Slc.v p0), (1, .int .i64 p1), (2, .int .i64 p2), (7, .int .i64 t7_3), (8, .int .i64 t8_1)] ⟨rfl, rfl, rfl, rfl, rfl, rfl, trivial⟩ ?_
         refine c_seq (c_seq (c_region ?_))
         iterate 2 refine wP tok ?_
         refine w_end (x_seq ?_)
         refine c_if H rfl (fun H => ?_) (fun H => ?_)
         ·
          refine c_skip (x_seq ?_)
          refine c_seq (c_block ?_)
          refine c_seq (c_seq ?_)
          refine c_sim [(0, Slc.v p0), (1, .int .i64 p1), (2, .int .i64 p2), (7, .int .i64 t7_3), (8, .int .i64 t8_1), (9, .int .i64 t9_7)] (by kernel_rfl) (by kernel_rfl) ⟨rfl, rfl, rfl, rfl, rfl, rfl, trivial⟩ (fun wf => ?_)
          refine sQ 0 [(0, Slc.v p0)] (some 68) tok wf ⟨rfl, trivial⟩ (fun P_0 => ?_)
          refine sQ 1 [(9, .int .i64 t9_7)] (some 69) tok wf ⟨rfl, trivial⟩ (fun P_1 => ?_)
          obtain ⟨a29, ha29, la29, ua29, H⟩ := H
          refine sP 2 [(68, Slc.v p0), (69, .int .i64 t9_7)] (some 70) wf ⟨rfl, rfl, trivial⟩ (fun _ => pf_y rfl rfl rfl (y_ixa' tok rfl rfl ha29 rfl rfl rfl la29 ua29)) (fun P_2 => ?_)
          obtain ⟨v30, hv30, H⟩ := H
          refine sL 3 [(70, .pointer (some (a29.add (t9_7.toNat * 1))))] (some 71) wf ⟨rfl, trivial⟩ (pf_y rfl rfl rfl (y_ld tok rfl rfl rfl rfl hv30)) (fun P_3 => ?_)
          refine sQ 4 [(0, Slc.v p0)] (some 72) tok wf ⟨rfl, trivial⟩ (fun P_4 => ?_)
          refine sQ 5 [(9, .int .i64 t9_7)] (some 73) tok wf ⟨rfl, trivial⟩ (fun P_5 => ?_)
          refine sQ 6 [(73, .int .i64 t9_7)] (some 74) tok wf ⟨rfl, trivial⟩ (fun P_6 => ?_)
          obtain ⟨a31, ha31, la31, ua31, H⟩ := H
          refine sP 7 [(72, Slc.v p0), (74, .int .i64 (IntKind.i64.wrap (t9_7 - 1)))] (some 75) wf ⟨rfl, rfl, trivial⟩ (fun _ => pf_y rfl rfl rfl (y_ixa' tok rfl rfl ha31 rfl rfl rfl la31 ua31)) (fun P_7 => ?_)
          obtain ⟨v32, hv32, H⟩ := H
          refine sL 8 [(75, .pointer (some (a31.add ((IntKind.i64.wrap (t9_7 - 1)).toNat * 1))))] (some 76) wf ⟨rfl, trivial⟩ (pf_y rfl rfl rfl (y_ld tok rfl rfl rfl rfl hv32)) (fun P_8 => ?_)
          refine sim_c 9 [0, 1, 2, 3, 4, 5, 6, 7, 8] [0, 1, 2, 3, 4, 5, 6, 7, 8] (ei := [(71, .int .u64 v30), (76, .int .u64 v32)]) cmp_Less_uint64_ok (cmp_Less_uint64_ref _ _ _ _ H) wf ⟨P_8, P_7 _, P_6 _, P_5 _, P_4 _, P_3, P_2 _, P_1 _, P_0 _, trivial⟩ (by kernel_rfl) ⟨rfl, rfl, trivial⟩ (by kernel_rfl) rfl rfl rfl rfl rfl ?_
          rintro _ h34 ⟨r33, rfl, H⟩
          refine sQ 10 [(77, .bool r33)] (some 78) tok wf ⟨rfl, trivial⟩ (fun P_10 => ?_)
          refine sim_end wf ⟨P_10 _, trivial, trivial, trivial, trivial, trivial, trivial, trivial, trivial, trivial, trivial⟩ (by kernel_rfl) ?_
          clear wf P_0 P_1 P_10 P_2 P_3 P_4 P_5 P_6 P_7 P_8
          refine x_seq ?_
          refine c_weak [(0, Slc.v p0), (1, .int .i64 p1), (2, .int .i64 p2), (7, .int .i64 t7_3), (8, .int .i64 t8_1), (9, .int .i64 t9_7), (78, .bool (!r33))] ⟨rfl, rfl, rfl, rfl, rfl, rfl, rfl, trivial⟩ ?_
          refine c_if H rfl (fun H => ?_) (fun H => ?_)
          ·
           refine c_exit ?_
           refine x_te ?_
           refine x_bm rfl ?_
           refine x_te (x_te ?_)
           refine x_bh ?_
           exact x_join () H ⟨rfl, rfl, rfl, rfl, rfl, trivial⟩
          ·
           refine c_skip (x_seq ?_)
           refine c_sim [(0, Slc.v p0), (1, .int .i64 p1), (2, .int .i64 p2), (7, .int .i64 t7_3), (8, .int .i64 t8_1), (9, .int .i64 t9_7)] (by kernel_rfl) (by kernel_rfl) ⟨rfl, rfl, rfl, rfl, rfl, rfl, trivial⟩ (fun wf => ?_)
           refine sQ 0 [(0, Slc.v p0)] (some 79) tok wf ⟨rfl, trivial⟩ (fun P_0 => ?_)
           refine sQ 1 [(9, .int .i64 t9_7)] (some 80) tok wf ⟨rfl, trivial⟩ (fun P_1 => ?_)
           refine sQ 2 [(0, Slc.v p0)] (some 81) tok wf ⟨rfl, trivial⟩ (fun P_2 => ?_)
           refine sQ 3 [(9, .int .i64 t9_7)] (some 82) tok wf ⟨rfl, trivial⟩ (fun P_3 => ?_)
           refine sQ 4 [(82, .int .i64 t9_7)] (some 83) tok wf ⟨rfl, trivial⟩ (fun P_4 => ?_)
           refine sQ 5 [(0, Slc.v p0)] (some 84) tok wf ⟨rfl, trivial⟩ (fun P_5 => ?_)
           refine sQ 6 [(9, .int .i64 t9_7)] (some 85) tok wf ⟨rfl, trivial⟩ (fun P_6 => ?_)
           refine sQ 7 [(85, .int .i64 t9_7)] (some 86) tok wf ⟨rfl, trivial⟩ (fun P_7 => ?_)
           obtain ⟨a35, ha35, la35, ua35, H⟩ := H
           refine sP 8 [(84, Slc.v p0), (86, .int .i64 (IntKind.i64.wrap (t9_7 - 1)))] (some 87) wf ⟨rfl, rfl, trivial⟩ (fun _ => pf_y rfl rfl rfl (y_ixa' tok rfl rfl ha35 rfl rfl rfl la35 ua35)) (fun P_8 => ?_)
           obtain ⟨v36, hv36, H⟩ := H
           refine sL 9 [(87, .pointer (some (a35.add ((IntKind.i64.wrap (t9_7 - 1)).toNat * 1))))] (some 88) wf ⟨rfl, trivial⟩ (pf_y rfl rfl rfl (y_ld tok rfl rfl rfl rfl hv36)) (fun P_9 => ?_)
           refine sQ 10 [(0, Slc.v p0)] (some 89) tok wf ⟨rfl, trivial⟩ (fun P_10 => ?_)
           refine sQ 11 [(9, .int .i64 t9_7)] (some 90) tok wf ⟨rfl, trivial⟩ (fun P_11 => ?_)
           obtain ⟨a37, ha37, la37, ua37, H⟩ := H
           refine sP 12 [(89, Slc.v p0), (90, .int .i64 t9_7)] (some 91) wf ⟨rfl, rfl, trivial⟩ (fun _ => pf_y rfl rfl rfl (y_ixa' tok rfl rfl ha37 rfl rfl rfl la37 ua37)) (fun P_12 => ?_)
           obtain ⟨v38, hv38, H⟩ := H
           refine sL 13 [(91, .pointer (some (a37.add (t9_7.toNat * 1))))] (some 92) wf ⟨rfl, trivial⟩ (pf_y rfl rfl rfl (y_ld tok rfl rfl rfl rfl hv38)) (fun P_13 => ?_)
           obtain ⟨a39, ha39, la39, ua39, H⟩ := H
           refine sP 14 [(79, Slc.v p0), (80, .int .i64 t9_7)] (some 93) wf ⟨rfl, rfl, trivial⟩ (fun _ => pf_y rfl rfl rfl (y_ixa' tok rfl rfl ha39 rfl rfl rfl la39 ua39)) (fun P_14 => ?_)
           obtain ⟨h40, wh40, eh40, H⟩ := H
           refine sim_h 15 [0, 1, 5, 6, 7, 8, 9, 10, 11, 12, 13, 14] [0, 1, 5, 6, 7, 8, 9, 10, 11, 12, 13, 14] (ei := [(88, .int .u64 v36), (93, .pointer (some (a39.add (t9_7.toNat * 1))))]) wf ⟨P_14 _, P_13, P_12 _, P_11 _, P_10 _, P_9, P_8 _, P_7 _, P_6 _, P_5 _, P_4 _, P_3 _, P_2 _, P_1 _, P_0 _, trivial⟩ (by kernel_rfl) ⟨rfl, rfl, trivial⟩ (by kernel_rfl) rfl rfl rfl (h_st tok rfl rfl rfl rfl rfl rfl wh40 eh40) ?_
           obtain ⟨a41, ha41, la41, ua41, H⟩ := H
           refine sP 16 [(81, Slc.v p0), (83, .int .i64 (IntKind.i64.wrap (t9_7 - 1)))] (some 94) wf ⟨rfl, rfl, trivial⟩ (fun _ => pf_y rfl rfl rfl (y_ixa' tok rfl rfl ha41 rfl rfl rfl la41 ua41)) (fun P_16 => ?_)
           obtain ⟨h42, wh42, eh42, H⟩ := H
           refine sim_h 17 [0, 1, 2, 3, 4, 5, 6, 7, 8, 9, 10, 11, 12, 13, 14, 15, 16] [0, 1, 2, 3, 4, 5, 6, 7, 8, 9, 10, 11, 12, 13, 14, 16] (ei := [(92, .int .u64 v38), (94, .pointer (some (a41.add ((IntKind.i64.wrap (t9_7 - 1)).toNat * 1))))]) wf ⟨P_16 _, trivial, trivial, trivial, trivial, trivial, trivial, trivial, trivial, trivial, trivial, P_4 _, P_3 _, P_2 _, trivial, trivial, trivial⟩ (by kernel_rfl) ⟨rfl, rfl, trivial⟩ (by kernel_rfl) rfl rfl rfl (h_st tok rfl rfl rfl rfl rfl rfl wh42 eh42) ?_
           refine sim_end wf ⟨trivial, trivial, trivial, trivial, trivial, trivial, trivial, trivial, trivial, trivial, trivial, trivial, trivial, trivial, trivial, trivial, trivial⟩ (by kernel_rfl) ?_
           clear wf P_0 P_1 P_10 P_11 P_12 P_13 P_14 P_16 P_2 P_3 P_4 P_5 P_6 P_7 P_8 P_9
           refine x_blk ?_
           refine x_seq ?_
           refine c_weak [(0, Slc.v p0), (1, .int .i64 p1), (2, .int .i64 p2), (7, .int .i64 t7_3), (8, .int .i64 t8_1), (9, .int .i64 t9_7)] ⟨rfl, rfl, rfl, rfl, rfl, rfl, trivial⟩ ?_
           refine c_region ?_
           iterate 2 refine wP tok ?_
           obtain ⟨x43, ex43, H⟩ := H
           refine w_pe tok rfl (congrArg (fun z => (.int .i64 z : Value)) ex43) rfl rfl ?_
           refine w_end ?_
           exact x_join x43 H ⟨rfl, rfl, rfl, rfl, rfl, rfl, trivial⟩
         ·
          refine c_exit ?_
          refine x_te (x_te ?_)
          refine x_bh ?_
          exact x_join () H ⟨rfl, rfl, rfl, rfl, rfl, trivial⟩
        ·
         refine c_skip ?_
         exact x_join () H ⟨rfl, rfl, rfl, rfl, rfl, trivial⟩
   ·
    refine c_sim [(0, Slc.v p0), (1, .int .i64 p1), (2, .int .i64 p2), (7, .int .i64 t7_3), (8, .int .i64 t8_1)] (by kernel_rfl) (by kernel_rfl) ⟨rfl, rfl, rfl, rfl, rfl, trivial⟩ (fun wf => ?_)
    refine sQ 0 [(7, .int .i64 t7_3)] (some 17) tok wf ⟨rfl, trivial⟩ (fun P_0 => ?_)
    refine sQ 1 [(2, .int .i64 p2)] (some 18) tok wf ⟨rfl, trivial⟩ (fun P_1 => ?_)
    refine sQ 2 [(17, .int .i64 t7_3), (18, .int .i64 p2)] (some 19) tok wf ⟨rfl, rfl, trivial⟩ (fun P_2 => ?_)
    refine sQ 3 [(19, .bool (decide (t7_3 < p2)))] (some 20) tok wf ⟨rfl, trivial⟩ (fun P_3 => ?_)
    refine sim_gif 20 H rfl (fun hb H => ?_) (fun hb H => ?_)
    ·
     refine sQ 4 [(0, Slc.v p0), (20, .bool true)] (some 21) tok wf ⟨rfl, rfl, trivial⟩ (fun P_4 => ?_)
     refine sQ 5 [(7, .int .i64 t7_3), (20, .bool true)] (some 22) tok wf ⟨rfl, rfl, trivial⟩ (fun P_5 => ?_)
     obtain ⟨a44, ha44, la44, ua44, H⟩ := H
     refine sP 6 [(20, .bool true), (21, Slc.v p0), (22, .int .i64 t7_3)] (some 23) wf ⟨rfl, rfl, rfl, trivial⟩ (fun _ => pf_y rfl rfl rfl (y_ixa' tok rfl rfl ha44 rfl rfl rfl la44 ua44)) (fun P_6 => ?_)
     obtain ⟨v45, hv45, H⟩ := H
     refine sL 7 [(20, .bool true), (23, .pointer (some (a44.add (t7_3.toNat * 1))))] (some 24) wf ⟨rfl, rfl, trivial⟩ (pf_y rfl rfl rfl (y_ld tok rfl rfl rfl rfl hv45)) (fun P_7 => ?_)
     refine sQ 8 [(0, Slc.v p0), (20, .bool true)] (some 25) tok wf ⟨rfl, rfl, trivial⟩ (fun P_8 => ?_)
     refine sQ 9 [(7, .int .i64 t7_3), (20, .bool true)] (some 26) tok wf ⟨rfl, rfl, trivial⟩ (fun P_9 => ?_)
     refine sQ 10 [(20, .bool true), (26, .int .i64 t7_3)] (some 27) tok wf ⟨rfl, rfl, trivial⟩ (fun P_10 => ?_)
     obtain ⟨a46, ha46, la46, ua46, H⟩ := H
     refine sP 11 [(20, .bool true), (25, Slc.v p0), (27, .int .i64 (IntKind.i64.wrap (t7_3 - 1)))] (some 28) wf ⟨rfl, rfl, rfl, trivial⟩ (fun _ => pf_y rfl rfl rfl (y_ixa' tok rfl rfl ha46 rfl rfl rfl la46 ua46)) (fun P_11 => ?_)
     obtain ⟨v47, hv47, H⟩ := H
     refine sL 12 [(20, .bool true), (28, .pointer (some (a46.add ((IntKind.i64.wrap (t7_3 - 1)).toNat * 1))))] (some 29) wf ⟨rfl, rfl, trivial⟩ (pf_y rfl rfl rfl (y_ld tok rfl rfl rfl rfl hv47)) (fun P_12 => ?_)
     refine sim_c 13 [0, 1, 2, 3, 4, 5, 6, 7, 8, 9, 10, 11, 12] [0, 1, 2, 3, 4, 5, 6, 7, 8, 9, 10, 11, 12] (ei := [(20, .bool true), (24, .int .u64 v45), (29, .int .u64 v47)]) cmp_Less_uint64_ok (cmp_Less_uint64_ref _ _ _ _ H) wf ⟨P_12, P_11 _, P_10 _, P_9 _, P_8 _, P_7, P_6 _, P_5 _, P_4 _, P_3 _, P_2 _, P_1 _, P_0 _, trivial⟩ (by kernel_rfl) ⟨rfl, rfl, rfl, trivial⟩ (by kernel_rfl) rfl rfl rfl rfl rfl ?_
     rintro _ h49 ⟨r48, rfl, H⟩
     refine sQ 14 [(20, .bool true), (30, .bool r48)] (some 31) tok wf ⟨rfl, rfl, trivial⟩ (fun P_14 => ?_)
     refine sQ 15 [(20, .bool true), (31, .bool (!r48))] (some 32) tok wf ⟨rfl, rfl, trivial⟩ (fun P_15 => ?_)
     refine sim_end wf ⟨P_15 _, P_14 _, trivial, trivial, trivial, trivial, trivial, trivial, trivial, trivial, trivial, trivial, trivial, trivial, trivial, trivial⟩ (by kernel_rfl) ?_
     clear wf P_0 P_1 P_10 P_11 P_12 P_14 P_15 P_2 P_3 P_4 P_5 P_6 P_7 P_8 P_9
     exact x_join (!r48) H ⟨rfl, rfl, rfl, rfl, rfl, rfl, trivial⟩
    ·
     refine sim_p 4 (v := undef) (ei := [(0, Slc.v p0), (20, .bool false)]) (d := (some 21)) wf (by kernel_rfl) ⟨rfl, rfl, trivial⟩ (by kernel_rfl) (by kernel_rfl) (fun _ => pf_s rfl rfl rfl) (fun P_4 => ?_)
     refine sim_p 5 (v := undef) (ei := [(7, .int .i64 t7_3), (20, .bool false)]) (d := (some 22)) wf (by kernel_rfl) ⟨rfl, rfl, trivial⟩ (by kernel_rfl) (by kernel_rfl) (fun _ => pf_s rfl rfl rfl) (fun P_5 => ?_)
     refine sim_p 6 (v := undef) (ei := [(20, .bool false), (21, undef), (22, undef)]) (d := (some 23)) wf (by kernel_rfl) ⟨rfl, rfl, rfl, trivial⟩ (by kernel_rfl) (by kernel_rfl) (fun _ => pf_s rfl rfl rfl) (fun P_6 => ?_)
     refine sim_p 7 (v := undef) (ei := [(20, .bool false), (23, undef)]) (d := (some 24)) wf (by kernel_rfl) ⟨rfl, rfl, trivial⟩ (by kernel_rfl) (by kernel_rfl) (fun _ => pf_s rfl rfl rfl) (fun P_7 => ?_)
     refine sim_p 8 (v := undef) (ei := [(0, Slc.v p0), (20, .bool false)]) (d := (some 25)) wf (by kernel_rfl) ⟨rfl, rfl, trivial⟩ (by kernel_rfl) (by kernel_rfl) (fun _ => pf_s rfl rfl rfl) (fun P_8 => ?_)
     refine sim_p 9 (v := undef) (ei := [(7, .int .i64 t7_3), (20, .bool false)]) (d := (some 26)) wf (by kernel_rfl) ⟨rfl, rfl, trivial⟩ (by kernel_rfl) (by kernel_rfl) (fun _ => pf_s rfl rfl rfl) (fun P_9 => ?_)
     refine sim_p 10 (v := undef) (ei := [(20, .bool false), (26, undef)]) (d := (some 27)) wf (by kernel_rfl) ⟨rfl, rfl, trivial⟩ (by kernel_rfl) (by kernel_rfl) (fun _ => pf_s rfl rfl rfl) (fun P_10 => ?_)
     refine sim_p 11 (v := undef) (ei := [(20, .bool false), (25, undef), (27, undef)]) (d := (some 28)) wf (by kernel_rfl) ⟨rfl, rfl, rfl, trivial⟩ (by kernel_rfl) (by kernel_rfl) (fun _ => pf_s rfl rfl rfl) (fun P_11 => ?_)
     refine sim_p 12 (v := undef) (ei := [(20, .bool false), (28, undef)]) (d := (some 29)) wf (by kernel_rfl) ⟨rfl, rfl, trivial⟩ (by kernel_rfl) (by kernel_rfl) (fun _ => pf_s rfl rfl rfl) (fun P_12 => ?_)
     refine sim_p 13 (v := undef) (ei := [(20, .bool false), (24, undef), (29, undef)]) (d := (some 30)) wf (by kernel_rfl) ⟨rfl, rfl, rfl, trivial⟩ (by kernel_rfl) (by kernel_rfl) (fun _ => pf_s rfl rfl rfl) (fun P_13 => ?_)
     refine sim_p 14 (v := undef) (ei := [(20, .bool false), (30, undef)]) (d := (some 31)) wf (by kernel_rfl) ⟨rfl, rfl, trivial⟩ (by kernel_rfl) (by kernel_rfl) (fun _ => pf_s rfl rfl rfl) (fun P_14 => ?_)
     refine sQ 15 [(20, .bool false), (31, undef)] (some 32) tok wf ⟨rfl, rfl, trivial⟩ (fun P_15 => ?_)
     refine sim_end wf ⟨P_15 _, P_14 _, P_13 _, P_12 _, P_11 _, P_10 _, P_9 _, P_8 _, P_7 _, P_6 _, P_5 _, P_4 _, P_3 _, P_2 _, P_1 _, P_0 _, trivial⟩ (by kernel_rfl) ?_
     clear wf P_0 P_1 P_10 P_11 P_12 P_13 P_14 P_15 P_2 P_3 P_4 P_5 P_6 P_7 P_8 P_9
     exact x_join false H ⟨rfl, rfl, rfl, rfl, rfl, rfl, trivial⟩
 ·
  refine c_exit ?_
  refine x_te (x_te ?_)
  refine x_bh ?_
  refine x_seq ?_
  refine c_weak [] trivial ?_
  refine c_seq (c_region ?_)
  refine wP tok ?_
  refine w_end (x_seq (c_ret ?_))
  exact x_ret _ rfl _ rfl ⟨false, rfl, H⟩

theorem slices_partitionEqualOrdered_uint64_ok : CallOk Go.Proofs.Try.prog 104 := ⟨_, Go.Proofs.Try.func104, by kernel_rfl, by kernel_rfl⟩
theorem slices_partitionEqualOrdered_uint64_ref (p0 : Slc) (p1 : Int) (p2 : Int) (p3 : Int) (k : (Int) → Heap → Prop) (h : Heap) (H : slices_partitionEqualOrdered_uint64 p0 p1 p2 p3 k h) : CallsH Go.Proofs.Try.prog 104 #[Slc.v p0, .int .i64 p1, .int .i64 p2, .int .i64 p3] h (fun v h' => ∃ r : Int, v = .int .i64 r ∧ k r h') := by
 refine f_enter (N := 84) Go.Proofs.Try.func104 rfl rfl rfl (fun w0 => ?_)
 unfold slices_partitionEqualOrdered_uint64 at H
 refine c_weak [(0, Slc.v p0), (1, .int .i64 p1), (2, .int .i64 p2), (3, .int .i64 p3)] ⟨rfl, rfl, rfl, rfl, trivial⟩ ?_
 refine c_seq (c_region ?_)
 refine wP tok ?_
 refine w_end (x_seq (c_seq ?_))
 refine c_sim [(0, Slc.v p0), (1, .int .i64 p1), (2, .int .i64 p2), (3, .int .i64 p3)] (by kernel_rfl) (by kernel_rfl) ⟨rfl, rfl, rfl, rfl, trivial⟩ (fun wf => ?_)
 refine sQ 0 [(0, Slc.v p0)] (some 11) tok wf ⟨rfl, trivial⟩ (fun P_0 => ?_)
 refine sQ 1 [(1, .int .i64 p1)] (some 12) tok wf ⟨rfl, trivial⟩ (fun P_1 => ?_)
 refine sQ 2 [(0, Slc.v p0)] (some 13) tok wf ⟨rfl, trivial⟩ (fun P_2 => ?_)
 refine sQ 3 [(3, .int .i64 p3)] (some 14) tok wf ⟨rfl, trivial⟩ (fun P_3 => ?_)
 refine sQ 4 [(0, Slc.v p0)] (some 15) tok wf ⟨rfl, trivial⟩ (fun P_4 => ?_)
 refine sQ 5 [(3, .int .i64 p3)] (some 16) tok wf ⟨rfl, trivial⟩ (fun P_5 => ?_)
 obtain ⟨a1, ha1, la1, ua1, H⟩ := H
 refine sP 6 [(15, Slc.v p0), (16, .int .i64 p3)] (some 17) wf ⟨rfl, rfl, trivial⟩ (fun _ => pf_y rfl rfl rfl (y_ixa' tok rfl rfl ha1 rfl rfl rfl la1 ua1)) (fun P_6 => ?_)
 obtain ⟨v2, hv2, H⟩ := H
 refine sL 7 [(17, .pointer (some (a1.add (p3.toNat * 1))))] (some 18) wf ⟨rfl, trivial⟩ (pf_y rfl rfl rfl (y_ld tok rfl rfl rfl rfl hv2)) (fun P_7 => ?_)
 refine sQ 8 [(0, Slc.v p0)] (some 19) tok wf ⟨rfl, trivial⟩ (fun P_8 => ?_)
 refine sQ 9 [(1, .int .i64 p1)] (some 20) tok wf ⟨rfl, trivial⟩ (fun P_9 => ?_)
 obtain ⟨a3, ha3, la3, ua3, H⟩ := H
 refine sP 10 [(19, Slc.v p0), (20, .int .i64 p1)] (some 21) wf ⟨rfl, rfl, trivial⟩ (fun _ => pf_y rfl rfl rfl (y_ixa' tok rfl rfl ha3 rfl rfl rfl la3 ua3)) (fun P_10 => ?_)
 obtain ⟨v4, hv4, H⟩ := H
 refine sL 11 [(21, .pointer (some (a3.add (p1.toNat * 1))))] (some 22) wf ⟨rfl, trivial⟩ (pf_y rfl rfl rfl (y_ld tok rfl rfl rfl rfl hv4)) (fun P_11 => ?_)
 obtain ⟨a5, ha5, la5, ua5, H⟩ := H
 refine sP 12 [(11, Slc.v p0), (12, .int .i64 p1)] (some 23) wf ⟨rfl, rfl, trivial⟩ (fun _ => pf_y rfl rfl rfl (y_ixa' tok rfl rfl ha5 rfl rfl rfl la5 ua5)) (fun P_12 => ?_)
 obtain ⟨h6, wh6, eh6, H⟩ := H
 refine sim_h 13 [0, 1, 4, 5, 6, 7, 8, 9, 10, 11, 12] [0, 1, 4, 5, 6, 7, 8, 9, 10, 11, 12] (ei := [(18, .int .u64 v2), (23, .pointer (some (a5.add (p1.toNat * 1))))]) wf ⟨P_12 _, P_11, P_10 _, P_9 _, P_8 _, P_7, P_6 _, P_5 _, P_4 _, P_3 _, P_2 _, P_1 _, P_0 _, trivial⟩ (by kernel_rfl) ⟨rfl, rfl, trivial⟩ (by kernel_rfl) rfl rfl rfl (h_st tok rfl rfl rfl rfl rfl rfl wh6 eh6) ?_
 obtain ⟨a7, ha7, la7, ua7, H⟩ := H
 refine sP 14 [(13, Slc.v p0), (14, .int .i64 p3)] (some 24) wf ⟨rfl, rfl, trivial⟩ (fun _ => pf_y rfl rfl rfl (y_ixa' tok rfl rfl ha7 rfl rfl rfl la7 ua7)) (fun P_14 => ?_)
 obtain ⟨h8, wh8, eh8, H⟩ := H
 refine sim_h 15 [0, 1, 2, 3, 4, 5, 6, 7, 8, 9, 10, 11, 12, 13, 14] [0, 1, 2, 3, 4, 5, 6, 7, 8, 9, 10, 11, 12, 14] (ei := [(22, .int .u64 v4), (24, .pointer (some (a7.add (p3.toNat * 1))))]) wf ⟨P_14 _, trivial, trivial, trivial, trivial, trivial, trivial, trivial, trivial, trivial, P_3 _, P_2 _, trivial, trivial, trivial⟩ (by kernel_rfl) ⟨rfl, rfl, trivial⟩ (by kernel_rfl) rfl rfl rfl (h_st tok rfl rfl rfl rfl rfl rfl wh8 eh8) ?_
 refine sim_end wf ⟨trivial, trivial, trivial, trivial, trivial, trivial, trivial, trivial, trivial, trivial, trivial, trivial, trivial, trivial, trivial⟩ (by kernel_rfl) ?_
 clear wf P_0 P_1 P_10 P_11 P_12 P_14 P_2 P_3 P_4 P_5 P_6 P_7 P_8 P_9
 refine x_seq ?_
 refine c_weak [(0, Slc.v p0), (1, .int .i64 p1), (2, .int .i64 p2)] ⟨rfl, rfl, rfl, trivial⟩ ?_
 refine c_seq (c_region ?_)
 iterate 4 refine wP tok ?_
 obtain ⟨x9, ex9, H⟩ := H
 refine w_pe tok rfl (congrArg (fun z => (.int .i64 z : Value)) ex9) rfl rfl ?_
 obtain ⟨x10, ex10, H⟩ := H
 refine w_pe tok rfl (congrArg (fun z => (.int .i64 z : Value)) ex10) rfl rfl ?_
 refine w_end (x_seq ?_)
 refine c_seq (c_block ?_)
 obtain ⟨I1, μ1, H0, HI⟩ := H
 refine c_loop (σ := Int × Int) (fun (s : Int × Int) => [(9, .int .i64 s.1), (10, .int .i64 s.2), (0, Slc.v p0), (1, .int .i64 p1)]) I1 μ1 (x9, x10) H0 ⟨rfl, rfl, rfl, rfl, trivial⟩ ?_
 rintro ⟨t9_1, t10_1⟩ h_1 H
 replace H := HI t9_1 t10_1 h_1 H
 unfold slices_partitionEqualOrdered_uint64_l1b at H
 refine c_weak [(9, .int .i64 t9_1), (10, .int .i64 t10_1), (0, Slc.v p0), (1, .int .i64 p1)] ⟨rfl, rfl, rfl, rfl, trivial⟩ ?_
 refine c_block (c_seq (c_block ?_))
 obtain ⟨I2, μ2, H0, HI⟩ := H
 refine c_loop (σ := Int) (fun (s : Int) => [(9, .int .i64 s), (0, Slc.v p0), (1, .int .i64 p1), (10, .int .i64 t10_1)]) I2 μ2 t9_1 H0 ⟨rfl, rfl, rfl, rfl, trivial⟩ ?_
 rintro t9_2 h_2 H
 replace H := HI t9_2 h_2 H
 unfold slices_partitionEqualOrdered_uint64_l2b at H
 refine c_weak [(9, .int .i64 t9_2), (0, Slc.v p0), (1, .int .i64 p1), (10, .int .i64 t10_1)] ⟨rfl, rfl, rfl, rfl, trivial⟩ ?_
 refine c_seq ?_
 refine c_seqJ (α := Bool) (fun (s : Bool) => [(43, .bool s), (0, Slc.v p0), (1, .int .i64 p1), (9, .int .i64 t9_2), (10, .int .i64 t10_1)]) (fun (s : Bool) h => slices_partitionEqualOrdered_uint64_j3 p0 p1 t9_2 t10_1 s k (fun s h' => I1 s h' ∧ μ1 s h' < μ1 (t9_1, t10_1) h_1) (fun s h' => I2 s h' ∧ μ2 s h' < μ2 t9_2 h_2) h) ?_ ?_
 ·
  rintro t43_3 h_3 H
  replace H : slices_partitionEqualOrdered_uint64_j3 p0 p1 t9_2 t10_1 t43_3 k (fun s h' => I1 s h' ∧ μ1 s h' < μ1 (t9_1, t10_1) h_1) (fun s h' => I2 s h' ∧ μ2 s h' < μ2 t9_2 h_2) h_3 := H
  unfold slices_partitionEqualOrdered_uint64_j3 at H
  refine c_weak [(43, .bool t43_3), (0, Slc.v p0), (1, .int .i64 p1), (9, .int .i64 t9_2), (10, .int .i64 t10_1)] ⟨rfl, rfl, rfl, rfl, rfl, trivial⟩ ?_
  refine c_if H rfl (fun H => ?_) (fun H => ?_)
  ·
   refine c_skip (x_seq ?_)
   refine c_block (c_region ?_)
   iterate 2 refine wP tok ?_
   obtain ⟨x11, ex11, H⟩ := H
   refine w_pe tok rfl (congrArg (fun z => (.int .i64 z : Value)) ex11) rfl rfl ?_
   refine w_end ?_
   refine x_blk ?_
   exact x_join x11 H ⟨rfl, rfl, rfl, rfl, trivial⟩
  ·
   refine c_exit ?_
   refine x_te (x_te ?_)
   refine x_bh ?_
   refine x_seq (c_seq (c_block ?_))
   obtain ⟨I4, μ4, H0, HI⟩ := H
   refine c_loop (σ := Int) (fun (s : Int) => [(10, .int .i64 s), (0, Slc.v p0), (1, .int .i64 p1), (9, .int .i64 t9_2)]) I4 μ4 t10_1 H0 ⟨rfl, rfl, rfl, rfl, trivial⟩ ?_
   rintro t10_4 h_4 H
   replace H := HI t10_4 h_4 H
   unfold slices_partitionEqualOrdered_uint64_l4b at H
   refine c_weak [(10, .int .i64 t10_4), (0, Slc.v p0), (1, .int .i64 p1), (9, .int .i64 t9_2)] ⟨rfl, rfl, rfl, rfl, trivial⟩ ?_
   refine c_seq ?_
   refine c_seqJ (α := Bool) (fun (s : Bool) => [(59, .bool s), (0, Slc.v p0), (1, .int .i64 p1), (9, .int .i64 t9_2), (10, .int .i64 t10_4)]) (fun (s : Bool) h => slices_partitionEqualOrdered_uint64_j5 p0 p1 t9_2 t10_4 s k (fun s h' => I1 s h' ∧ μ1 s h' < μ1 (t9_1, t10_1) h_1) (fun s h' => I2 s h' ∧ μ2 s h' < μ2 t9_2 h_2) (fun s h' => I4 s h' ∧ μ4 s h' < μ4 t10_4 h_4) h) ?_ ?_
   ·
    rintro t59_5 h_5 H
    replace H : slices_partitionEqualOrdered_uint64_j5 p0 p1 t9_2 t10_4 t59_5 k (fun s h' => I1 s h' ∧ μ1 s h' < μ1 (t9_1, t10_1) h_1) (fun s h' => I2 s h' ∧ μ2 s h' < μ2 t9_2 h_2) (fun s h' => I4 s h' ∧ μ4 s h' < μ4 t10_4 h_4) h_5 := H
    unfold slices_partitionEqualOrdered_uint64_j5 at H
    refine c_weak [(59, .bool t59_5), (0, Slc.v p0), (1, .int .i64 p1), (9, .int .i64 t9_2), (10, .int .i64 t10_4)] ⟨rfl, rfl, rfl, rfl, rfl, trivial⟩ ?_
    refine c_if H rfl (fun H => ?_) (fun H => ?_)
    ·
     refine c_skip (x_seq ?_)
     refine c_block (c_region ?_)
     iterate 2 refine wP tok ?_
     obtain ⟨x12, ex12, H⟩ := H
     refine w_pe tok rfl (congrArg (fun z => (.int .i64 z : Value)) ex12) rfl rfl ?_
     refine w_end ?_
     refine x_blk ?_
     exact x_join x12 H ⟨rfl, rfl, rfl, rfl, trivial⟩
    ·
     refine c_exit ?_
     refine x_te (x_te ?_)
     refine x_bh ?_
     refine x_seq (c_seq ?_)
     refine c_seq (c_region ?_)
     iterate 3 refine wP tok ?_
     refine w_end (x_seq ?_)
     refine c_if H rfl (fun H => ?_) (fun H => ?_)
     ·
      refine c_exit ?_
      refine x_te ?_
      refine x_bm rfl ?_
      refine x_te ?_
      refine x_bh ?_
      refine x_seq ?_
      refine c_weak [(9, .int .i64 t9_2)] ⟨rfl, trivial⟩ ?_
      refine c_seq (c_region ?_)
      iterate 2 refine wP tok ?_
      refine w_end (x_seq (c_ret ?_))
      exact x_ret _ rfl _ rfl ⟨t9_2, rfl, H⟩
     ·
      refine c_skip (x_seq (c_seq ?_))
      refine c_sim [(0, Slc.v p0), (1, .int .i64 p1), (9, .int .i64 t9_2), (10, .int .i64 t10_4)] (by kernel_rfl) (by kernel_rfl) ⟨rfl, rfl, rfl, rfl, trivial⟩ (fun wf => ?_)
      refine sQ 0 [(0, Slc.v p0)] (some 65) tok wf ⟨rfl, trivial⟩ (fun P_0 => ?_)
      refine sQ 1 [(9, .int .i64 t9_2)] (some 66) tok wf ⟨rfl, trivial⟩ (fun P_1 => ?_)
      refine sQ 2 [(0, Slc.v p0)] (some 67) tok wf ⟨rfl, trivial⟩ (fun P_2 => ?_)
      refine sQ 3 [(10, .int .i64 t10_4)] (some 68) tok wf ⟨rfl, trivial⟩ (fun P_3 => ?_)
      refine sQ 4 [(0, Slc.v p0)] (some 69) tok wf ⟨rfl, trivial⟩ (fun P_4 => ?_)
      refine sQ 5 [(10, .int .i64 t10_4)] (some 70) tok wf ⟨rfl, trivial⟩ (fun P_5 => ?_)
      obtain ⟨a13, ha13, la13, ua13, H⟩ := H
      refine sP 6 [(69, Slc.v p0), (70, .int .i64 t10_4)] (some 71) wf ⟨rfl, rfl, trivial⟩ (fun _ => pf_y rfl rfl rfl (y_ixa' tok rfl rfl ha13 rfl rfl rfl la13 ua13)) (fun P_6 => ?_)
      obtain ⟨v14, hv14, H⟩ := H
      refine sL 7 [(71, .pointer (some (a13.add (t10_4.toNat * 1))))] (some 72) wf ⟨rfl, trivial⟩ (pf_y rfl rfl rfl (y_ld tok rfl rfl rfl rfl hv14)) (fun P_7 => ?_)
      refine sQ 8 [(0, Slc.v p0)] (some 73) tok wf ⟨rfl, trivial⟩ (fun P_8 => ?_)
      refine sQ 9 [(9, .int .i64 t9_2)] (some 74) tok wf ⟨rfl, trivial⟩ (fun P_9 => ?_)
      obtain ⟨a15, ha15, la15, ua15, H⟩ := H
      refine sP 10 [(73, Slc.v p0), (74, .int .i64 t9_2)] (some 75) wf ⟨rfl, rfl, trivial⟩ (fun _ => pf_y rfl rfl rfl (y_ixa' tok rfl rfl ha15 rfl rfl rfl la15 ua15)) (fun P_10 => ?_)
      obtain ⟨v16, hv16, H⟩ := H
      refine sL 11 [(75, .pointer (some (a15.add (t9_2.toNat * 1))))] (some 76) wf ⟨rfl, trivial⟩ (pf_y rfl rfl rfl (y_ld tok rfl rfl rfl rfl hv16)) (fun P_11 => ?_)
      obtain ⟨a17, ha17, la17, ua17, H⟩ := H
      refine sP 12 [(65, Slc.v p0), (66, .int .i64 t9_2)] (some 77) wf ⟨rfl, rfl, trivial⟩ (fun _ => pf_y rfl rfl rfl (y_ixa' tok rfl rfl ha17 rfl rfl rfl la17 ua17)) (fun P_12 => ?_)
      obtain ⟨h18, wh18, eh18, H⟩ := H
      refine sim_h 13 [0, 1, 4, 5, 6, 7, 8, 9, 10, 11, 12] [0, 1, 4, 5, 6, 7, 8, 9, 10, 11, 12] (ei := [(72, .int .u64 v14), (77, .pointer (some (a17.add (t9_2.toNat * 1))))]) wf ⟨P_12 _, P_11, P_10 _, P_9 _, P_8 _, P_7, P_6 _, P_5 _, P_4 _, P_3 _, P_2 _, P_1 _, P_0 _, trivial⟩ (by kernel_rfl) ⟨rfl, rfl, trivial⟩ (by kernel_rfl) rfl rfl rfl (h_st tok rfl rfl rfl rfl rfl rfl wh18 eh18) ?_
      obtain ⟨a19, ha19, la19, ua19, H⟩ := H
      refine sP 14 [(67, Slc.v p0), (68, .int .i64 t10_4)] (some 78) wf ⟨rfl, rfl, trivial⟩ (fun _ => pf_y rfl rfl rfl (y_ixa' tok rfl rfl ha19 rfl rfl rfl la19 ua19)) (fun P_14 => ?_)
      obtain ⟨h20, wh20, eh20, H⟩ := H
      refine sim_h 15 [0, 1, 2, 3, 4, 5, 6, 7, 8, 9, 10, 11, 12, 13, 14] [0, 1, 2, 3, 4, 5, 6, 7, 8, 9, 10, 11, 12, 14] (ei := [(76, .int .u64 v16), (78, .pointer (some (a19.add (t10_4.toNat * 1))))]) wf ⟨P_14 _, trivial, trivial, trivial, trivial, trivial, trivial, trivial, trivial, trivial, P_3 _, P_2 _, trivial, trivial, trivial⟩ (by kernel_rfl) ⟨rfl, rfl, trivial⟩ (by kernel_rfl) rfl rfl rfl (h_st tok rfl rfl rfl rfl rfl rfl wh20 eh20) ?_
      refine sim_end wf ⟨trivial, trivial, trivial, trivial, trivial, trivial, trivial, trivial, trivial, trivial, trivial, trivial, trivial, trivial, trivial⟩ (by kernel_rfl) ?_
      clear wf P_0 P_1 P_10 P_11 P_12 P_14 P_2 P_3 P_4 P_5 P_6 P_7 P_8 P_9
      refine x_seq ?_
      refine c_weak [(0, Slc.v p0), (1, .int .i64 p1), (9, .int .i64 t9_2), (10, .int .i64 t10_4)] ⟨rfl, rfl, rfl, rfl, trivial⟩ ?_
      refine c_seq (c_region ?_)
      iterate 2 refine wP tok ?_
      obtain ⟨x21, ex21, H⟩ := H
      refine w_pe tok rfl (congrArg (fun z => (.int .i64 z : Value)) ex21) rfl rfl ?_
      refine w_end (x_seq (c_region ?_))
      iterate 2 refine wP tok ?_
      obtain ⟨x22, ex22, H⟩ := H
      refine w_pe tok rfl (congrArg (fun z => (.int .i64 z : Value)) ex22) rfl rfl ?_
      refine w_end ?_
      refine x_blk ?_
      exact x_join (x21, x22) H ⟨rfl, rfl, rfl, rfl, trivial⟩
   ·
    refine c_sim [(0, Slc.v p0), (1, .int .i64 p1), (9, .int .i64 t9_2), (10, .int .i64 t10_4)] (by kernel_rfl) (by kernel_rfl) ⟨rfl, rfl, rfl, rfl, trivial⟩ (fun wf => ?_)
    refine sQ 0 [(9, .int .i64 t9_2)] (some 46) tok wf ⟨rfl, trivial⟩ (fun P_0 => ?_)
    refine sQ 1 [(10, .int .i64 t10_4)] (some 47) tok wf ⟨rfl, trivial⟩ (fun P_1 => ?_)
    refine sQ 2 [(46, .int .i64 t9_2), (47, .int .i64 t10_4)] (some 48) tok wf ⟨rfl, rfl, trivial⟩ (fun P_2 => ?_)
    refine sQ 3 [(48, .bool (decide (t9_2 ≤ t10_4)))] (some 49) tok wf ⟨rfl, trivial⟩ (fun P_3 => ?_)
    refine sim_gif 49 H rfl (fun hb H => ?_) (fun hb H => ?_)
    ·
     refine sQ 4 [(0, Slc.v p0), (49, .bool true)] (some 50) tok wf ⟨rfl, rfl, trivial⟩ (fun P_4 => ?_)
     refine sQ 5 [(1, .int .i64 p1), (49, .bool true)] (some 51) tok wf ⟨rfl, rfl, trivial⟩ (fun P_5 => ?_)
     obtain ⟨a23, ha23, la23, ua23, H⟩ := H
     refine sP 6 [(49, .bool true), (50, Slc.v p0), (51, .int .i64 p1)] (some 52) wf ⟨rfl, rfl, rfl, trivial⟩ (fun _ => pf_y rfl rfl rfl (y_ixa' tok rfl rfl ha23 rfl rfl rfl la23 ua23)) (fun P_6 => ?_)
     obtain ⟨v24, hv24, H⟩ := H
     refine sL 7 [(49, .bool true), (52, .pointer (some (a23.add (p1.toNat * 1))))] (some 53) wf ⟨rfl, rfl, trivial⟩ (pf_y rfl rfl rfl (y_ld tok rfl rfl rfl rfl hv24)) (fun P_7 => ?_)
     refine sQ 8 [(0, Slc.v p0), (49, .bool true)] (some 54) tok wf ⟨rfl, rfl, trivial⟩ (fun P_8 => ?_)
     refine sQ 9 [(10, .int .i64 t10_4), (49, .bool true)] (some 55) tok wf ⟨rfl, rfl, trivial⟩ (fun P_9 => ?_)
     obtain ⟨a25, ha25, la25, ua25, H⟩ := H
     refine sP 10 [(49, .bool true), (54, Slc.v p0), (55, .int .i64 t10_4)] (some 56) wf ⟨rfl, rfl, rfl, trivial⟩ (fun _ => pf_y rfl rfl rfl (y_ixa' tok rfl rfl ha25 rfl rfl rfl la25 ua25)) (fun P_10 => ?_)
     obtain ⟨v26, hv26, H⟩ := H
     refine sL 11 [(49, .bool true), (56, .pointer (some (a25.add (t10_4.toNat * 1))))] (some 57) wf ⟨rfl, rfl, trivial⟩ (pf_y rfl rfl rfl (y_ld tok rfl rfl rfl rfl hv26)) (fun P_11 => ?_)
     refine sim_c 12 [0, 1, 2, 3, 4, 5, 6, 7, 8, 9, 10, 11] [0, 1, 2, 3, 4, 5, 6, 7, 8, 9, 10, 11] (ei := [(49, .bool true), (53, .int .u64 v24), (57, .int .u64 v26)]) cmp_Less_uint64_ok (cmp_Less_uint64_ref _ _ _ _ H) wf ⟨P_11, P_10 _, P_9 _, P_8 _, P_7, P_6 _, P_5 _, P_4 _, P_3 _, P_2 _, P_1 _, P_0 _, trivial⟩ (by kernel_rfl) ⟨rfl, rfl, rfl, trivial⟩ (by kernel_rfl) rfl rfl rfl rfl rfl ?_
     rintro _ h28 ⟨r27, rfl, H⟩
     refine sQ 13 [(49, .bool true), (58, .bool r27)] (some 59) tok wf ⟨rfl, rfl, trivial⟩ (fun P_13 => ?_)
     refine sim_end wf ⟨P_13 _, trivial, trivial, trivial, trivial, trivial, trivial, trivial, trivial, trivial, trivial, trivial, trivial, trivial⟩ (by kernel_rfl) ?_
     clear wf P_0 P_1 P_10 P_11 P_13 P_2 P_3 P_4 P_5 P_6 P_7 P_8 P_9
     exact x_join r27 H ⟨rfl, rfl, rfl, rfl, rfl, trivial⟩
    ·
     refine sim_p 4 (v := undef) (ei := [(0, Slc.v p0), (49, .bool false)]) (d := (some 50)) wf (by kernel_rfl) ⟨rfl, rfl, trivial⟩ (by kernel_rfl) (by kernel_rfl) (fun _ => pf_s rfl rfl rfl) (fun P_4 => ?_)
     refine sim_p 5 (v := undef) (ei := [(1, .int .i64 p1), (49, .bool false)]) (d := (some 51)) wf (by kernel_rfl) ⟨rfl, rfl, trivial⟩ (by kernel_rfl) (by kernel_rfl) (fun _ => pf_s rfl rfl rfl) (fun P_5 => ?_)
     refine sim_p 6 (v := undef) (ei := [(49, .bool false), (50, undef), (51, undef)]) (d := (some 52)) wf (by kernel_rfl) ⟨rfl, rfl, rfl, trivial⟩ (by kernel_rfl) (by kernel_rfl) (fun _ => pf_s rfl rfl rfl) (fun P_6 => ?_)
     refine sim_p 7 (v := undef) (ei := [(49, .bool false), (52, undef)]) (d := (some 53)) wf (by kernel_rfl) ⟨rfl, rfl, trivial⟩ (by kernel_rfl) (by kernel_rfl) (fun _ => pf_s rfl rfl rfl) (fun P_7 => ?_)
     refine sim_p 8 (v := undef) (ei := [(0, Slc.v p0), (49, .bool false)]) (d := (some 54)) wf (by kernel_rfl) ⟨rfl, rfl, trivial⟩ (by kernel_rfl) (by kernel_rfl) (fun _ => pf_s rfl rfl rfl) (fun P_8 => ?_)
     refine sim_p 9 (v := undef) (ei := [(10, .int .i64 t10_4), (49, .bool false)]) (d := (some 55)) wf (by kernel_rfl) ⟨rfl, rfl, trivial⟩ (by kernel_rfl) (by kernel_rfl) (fun _ => pf_s rfl rfl rfl) (fun P_9 => ?_)
     refine sim_p 10 (v := undef) (ei := [(49, .bool false), (54, undef), (55, undef)]) (d := (some 56)) wf (by kernel_rfl) ⟨rfl, rfl, rfl, trivial⟩ (by kernel_rfl) (by kernel_rfl) (fun _ => pf_s rfl rfl rfl) (fun P_10 => ?_)
     refine sim_p 11 (v := undef) (ei := [(49, .bool false), (56, undef)]) (d := (some 57)) wf (by kernel_rfl) ⟨rfl, rfl, trivial⟩ (by kernel_rfl) (by kernel_rfl) (fun _ => pf_s rfl rfl rfl) (fun P_11 => ?_)
     refine sim_p 12 (v := undef) (ei := [(49, .bool false), (53, undef), (57, undef)]) (d := (some 58)) wf (by kernel_rfl) ⟨rfl, rfl, rfl, trivial⟩ (by kernel_rfl) (by kernel_rfl) (fun _ => pf_s rfl rfl rfl) (fun P_12 => ?_)
     refine sQ 13 [(49, .bool false), (58, undef)] (some 59) tok wf ⟨rfl, rfl, trivial⟩ (fun P_13 => ?_)
     refine sim_end wf ⟨P_13 _, P_12 _, P_11 _, P_10 _, P_9 _, P_8 _, P_7 _, P_6 _, P_5 _, P_4 _, P_3 _, P_2 _, P_1 _, P_0 _, trivial⟩ (by kernel_rfl) ?_
     clear wf P_0 P_1 P_10 P_11 P_12 P_13 P_2 P_3 P_4 P_5 P_6 P_7 P_8 P_9
     exact x_join false H ⟨rfl, rfl, rfl, rfl, rfl, trivial⟩
 ·
  refine c_sim [(0, Slc.v p0), (1, .int .i64 p1), (9, .int .i64 t9_2), (10, .int .i64 t10_1)] (by kernel_rfl) (by kernel_rfl) ⟨rfl, rfl, rfl, rfl, trivial⟩ (fun wf => ?_)
  refine sQ 0 [(9, .int .i64 t9_2)] (some 29) tok wf ⟨rfl, trivial⟩ (fun P_0 => ?_)
  refine sQ 1 [(10, .int .i64 t10_1)] (some 30) tok wf ⟨rfl, trivial⟩ (fun P_1 => ?_)
  refine sQ 2 [(29, .int .i64 t9_2), (30, .int .i64 t10_1)] (some 31) tok wf ⟨rfl, rfl, trivial⟩ (fun P_2 => ?_)
  refine sQ 3 [(31, .bool (decide (t9_2 ≤ t10_1)))] (some 32) tok wf ⟨rfl, trivial⟩ (fun P_3 => ?_)
  refine sim_gif 32 H rfl (fun hb H => ?_) (fun hb H => ?_)
  ·
   refine sQ 4 [(0, Slc.v p0), (32, .bool true)] (some 33) tok wf ⟨rfl, rfl, trivial⟩ (fun P_4 => ?_)
   refine sQ 5 [(1, .int .i64 p1), (32, .bool true)] (some 34) tok wf ⟨rfl, rfl, trivial⟩ (fun P_5 => ?_)
   obtain ⟨a29, ha29, la29, ua29, H⟩ := H
   refine sP 6 [(32, .bool true), (33, Slc.v p0), (34, .int .i64 p1)] (some 35) wf ⟨rfl, rfl, rfl, trivial⟩ (fun _ => pf_y rfl rfl rfl (y_ixa' tok rfl rfl ha29 rfl rfl rfl la29 ua29)) (fun P_6 => ?_)
   obtain ⟨v30, hv30, H⟩ := H
   refine sL 7 [(32, .bool true), (35, .pointer (some (a29.add (p1.toNat * 1))))] (some 36) wf ⟨rfl, rfl, trivial⟩ (pf_y rfl rfl rfl (y_ld tok rfl rfl rfl rfl hv30)) (fun P_7 => ?_)
   refine sQ 8 [(0, Slc.v p0), (32, .bool true)] (some 37) tok wf ⟨rfl, rfl, trivial⟩ (fun P_8 => ?_)
   refine sQ 9 [(9, .int .i64 t9_2), (32, .bool true)] (some 38) tok wf ⟨rfl, rfl, trivial⟩ (fun P_9 => ?_)
   obtain ⟨a31, ha31, la31, ua31, H⟩ := H
   refine sP 10 [(32, .bool true), (37, Slc.v p0), (38, .int .i64 t9_2)] (some 39) wf ⟨rfl, rfl, rfl, trivial⟩ (fun _ => pf_y rfl rfl rfl (y_ixa' tok rfl rfl ha31 rfl rfl rfl la31 ua31)) (fun P_10 => ?_)
   obtain ⟨v32, hv32, H⟩ := H
   refine sL 11 [(32, .bool true), (39, .pointer (some (a31.add (t9_2.toNat * 1))))] (some 40) wf ⟨rfl, rfl, trivial⟩ (pf_y rfl rfl rfl (y_ld tok rfl rfl rfl rfl hv32)) (fun P_11 => ?_)
   refine sim_c 12 [0, 1, 2, 3, 4, 5, 6, 7, 8, 9, 10, 11] [0, 1, 2, 3, 4, 5, 6, 7, 8, 9, 10, 11] (ei := [(32, .bool true), (36, .int .u64 v30), (40, .int .u64 v32)]) cmp_Less_uint64_ok (cmp_Less_uint64_ref _ _ _ _ H) wf ⟨P_11, P_10 _, P_9 _, P_8 _, P_7, P_6 _, P_5 _, P_4 _, P_3 _, P_2 _, P_1 _, P_0 _, trivial⟩ (by kernel_rfl) ⟨rfl, rfl, rfl, trivial⟩ (by kernel_rfl) rfl rfl rfl rfl rfl ?_
   rintro _ h34 ⟨r33, rfl, H⟩
   refine sQ 13 [(32, .bool true), (41, .bool r33)] (some 42) tok wf ⟨rfl, rfl, trivial⟩ (fun P_13 => ?_)
   refine sQ 14 [(32, .bool true), (42, .bool (!r33))] (some 43) tok wf ⟨rfl, rfl, trivial⟩ (fun P_14 => ?_)
   refine sim_end wf ⟨P_14 _, P_13 _, trivial, trivial, trivial, trivial, trivial, trivial, trivial, trivial, trivial, trivial, trivial, trivial, trivial⟩ (by kernel_rfl) ?_
   clear wf P_0 P_1 P_10 P_11 P_13 P_14 P_2 P_3 P_4 P_5 P_6 P_7 P_8 P_9
   exact x_join (!r33) H ⟨rfl, rfl, rfl, rfl, rfl, trivial⟩
  ·
   refine sim_p 4 (v := undef) (ei := [(0, Slc.v p0), (32, .bool false)]) (d := (some 33)) wf (by kernel_rfl) ⟨rfl, rfl, trivial⟩ (by kernel_rfl) (by kernel_rfl) (fun _ => pf_s rfl rfl rfl) (fun P_4 => ?_)
   refine sim_p 5 (v := undef) (ei := [(1, .int .i64 p1), (32, .bool false)]) (d := (some 34)) wf (by kernel_rfl) ⟨rfl, rfl, trivial⟩ (by kernel_rfl) (by kernel_rfl) (fun _ => pf_s rfl rfl rfl) (fun P_5 => ?_)
   refine sim_p 6 (v := undef) (ei := [(32, .bool false), (33, undef), (34, undef)]) (d := (some 35)) wf (by kernel_rfl) ⟨rfl, rfl, rfl, trivial⟩ (by kernel_rfl) (by kernel_rfl) (fun _ => pf_s rfl rfl rfl) (fun P_6 => ?_)
   refine sim_p 7 (v := undef) (ei := [(32, .bool false), (35, undef)]) (d := (some 36)) wf (by kernel_rfl) ⟨rfl, rfl, trivial⟩ (by kernel_rfl) (by kernel_rfl) (fun _ => pf_s rfl rfl rfl) (fun P_7 => ?_)
   refine sim_p 8 (v := undef) (ei := [(0, Slc.v p0), (32, .bool false)]) (d := (some 37)) wf (by kernel_rfl) ⟨rfl, rfl, trivial⟩ (by kernel_rfl) (by kernel_rfl) (fun _ => pf_s rfl rfl rfl) (fun P_8 => ?_)
   refine sim_p 9 (v := undef) (ei := [(9, .int .i64 t9_2), (32, .bool false)]) (d := (some 38)) wf (by kernel_rfl) ⟨rfl, rfl, trivial⟩ (by kernel_rfl) (by kernel_rfl) (fun _ => pf_s rfl rfl rfl) (fun P_9 => ?_)
   refine sim_p 10 (v := undef) (ei := [(32, .bool false), (37, undef), (38, undef)]) (d := (some 39)) wf (by kernel_rfl) ⟨rfl, rfl, rfl, trivial⟩ (by kernel_rfl) (by kernel_rfl) (fun _ => pf_s rfl rfl rfl) (fun P_10 => ?_)
   refine sim_p 11 (v := undef) (ei := [(32, .bool false), (39, undef)]) (d := (some 40)) wf (by kernel_rfl) ⟨rfl, rfl, trivial⟩ (by kernel_rfl) (by kernel_rfl) (fun _ => pf_s rfl rfl rfl) (fun P_11 => ?_)
   refine sim_p 12 (v := undef) (ei := [(32, .bool false), (36, undef), (40, undef)]) (d := (some 41)) wf (by kernel_rfl) ⟨rfl, rfl, rfl, trivial⟩ (by kernel_rfl) (by kernel_rfl) (fun _ => pf_s rfl rfl rfl) (fun P_12 => ?_)
   refine sim_p 13 (v := undef) (ei := [(32, .bool false), (41, undef)]) (d := (some 42)) wf (by kernel_rfl) ⟨rfl, rfl, trivial⟩ (by kernel_rfl) (by kernel_rfl) (fun _ => pf_s rfl rfl rfl) (fun P_13 => ?_)
   refine sQ 14 [(32, .bool false), (42, undef)] (some 43) tok wf ⟨rfl, rfl, trivial⟩ (fun P_14 => ?_)
   refine sim_end wf ⟨P_14 _, P_13 _, P_12 _, P_11 _, P_10 _, P_9 _, P_8 _, P_7 _, P_6 _, P_5 _, P_4 _, P_3 _, P_2 _, P_1 _, P_0 _, trivial⟩ (by kernel_rfl) ?_
   clear wf P_0 P_1 P_10 P_11 P_12 P_13 P_14 P_2 P_3 P_4 P_5 P_6 P_7 P_8 P_9
   exact x_join false H ⟨rfl, rfl, rfl, rfl, rfl, trivial⟩

theorem slices_partitionOrdered_uint64_ok : CallOk Go.Proofs.Try.prog 105 := ⟨_, Go.Proofs.Try.func105, by kernel_rfl, by kernel_rfl⟩
theorem slices_partitionOrdered_uint64_ref (p0 : Slc) (p1 : Int) (p2 : Int) (p3 : Int) (k : (Int × Bool) → Heap → Prop) (h : Heap) (H : slices_partitionOrdered_uint64 p0 p1 p2 p3 k h) : CallsH Go.Proofs.Try.prog 105 #[Slc.v p0, .int .i64 p1, .int .i64 p2, .int .i64 p3] h (fun v h' => ∃ r : Int × Bool, v = .tuple #[.int .i64 r.1, .bool r.2] ∧ k r h') := by
 refine f_enter (N := 168) Go.Proofs.Try.func105 rfl rfl rfl (fun w0 => ?_)
 unfold slices_partitionOrdered_uint64 at H
 refine c_weak [(0, Slc.v p0), (1, .int .i64 p1), (2, .int .i64 p2), (3, .int .i64 p3)] ⟨rfl, rfl, rfl, rfl, trivial⟩ ?_
 refine c_seq (c_region ?_)
 iterate 2 refine wP tok ?_
 refine w_end (x_seq (c_seq ?_))
 refine c_sim [(0, Slc.v p0), (1, .int .i64 p1), (2, .int .i64 p2), (3, .int .i64 p3)] (by kernel_rfl) (by kernel_rfl) ⟨rfl, rfl, rfl, rfl, trivial⟩ (fun wf => ?_)
 refine sQ 0 [(0, Slc.v p0)] (some 12) tok wf ⟨rfl, trivial⟩ (fun P_0 => ?_)
 refine sQ 1 [(1, .int .i64 p1)] (some 13) tok wf ⟨rfl, trivial⟩ (fun P_1 => ?_)
 refine sQ 2 [(0, Slc.v p0)] (some 14) tok wf ⟨rfl, trivial⟩ (fun P_2 => ?_)
 refine sQ 3 [(3, .int .i64 p3)] (some 15) tok wf ⟨rfl, trivial⟩ (fun P_3 => ?_)
 refine sQ 4 [(0, Slc.v p0)] (some 16) tok wf ⟨rfl, trivial⟩ (fun P_4 => ?_)
 refine sQ 5 [(3, .int .i64 p3)] (some 17) tok wf ⟨rfl, trivial⟩ (fun P_5 => ?_)
 obtain ⟨a1, ha1, la1, ua1, H⟩ := H
 refine sP 6 [(16, Slc.v p0), (17, .int .i64 p3)] (some 18) wf ⟨rfl, rfl, trivial⟩ (fun _ => pf_y rfl rfl rfl (y_ixa' tok rfl rfl ha1 rfl rfl rfl la1 ua1)) (fun P_6 => ?_)
 obtain ⟨v2, hv2, H⟩ := H
 refine sL 7 [(18, .pointer (some (a1.add (p3.toNat * 1))))] (some 19) wf ⟨rfl, trivial⟩ (pf_y rfl rfl rfl (y_ld tok rfl rfl rfl rfl hv2)) (fun P_7 => ?_)
 refine sQ 8 [(0, Slc.v p0)] (some 20) tok wf ⟨rfl, trivial⟩ (fun P_8 => ?_)
 refine sQ 9 [(1, .int .i64 p1)] (some 21) tok wf ⟨rfl, trivial⟩ (fun P_9 => ?_)
 obtain ⟨a3, ha3, la3, ua3, H⟩ := H
 refine sP 10 [(20, Slc.v p0), (21, .int .i64 p1)] (some 22) wf ⟨rfl, rfl, trivial⟩ (fun _ => pf_y rfl rfl rfl (y_ixa' tok rfl rfl ha3 rfl rfl rfl la3 ua3)) (fun P_10 => ?_)
 obtain ⟨v4, hv4, H⟩ := H
 refine sL 11 [(22, .pointer (some (a3.add (p1.toNat * 1))))] (some 23) wf ⟨rfl, trivial⟩ (pf_y rfl rfl rfl (y_ld tok rfl rfl rfl rfl hv4)) (fun P_11 => ?_)
 obtain ⟨a5, ha5, la5, ua5, H⟩ := H
 refine sP 12 [(12, Slc.v p0), (13, .int .i64 p1)] (some 24) wf ⟨rfl, rfl, trivial⟩ (fun _ => pf_y rfl rfl rfl (y_ixa' tok rfl rfl ha5 rfl rfl rfl la5 ua5)) (fun P_12 => ?_)
 obtain ⟨h6, wh6, eh6, H⟩ := H
 refine sim_h 13 [0, 1, 4, 5, 6, 7, 8, 9, 10, 11, 12] [0, 1, 4, 5, 6, 7, 8, 9, 10, 11, 12] (ei := [(19, .int .u64 v2), (24, .pointer (some (a5.add (p1.toNat * 1))))]) wf ⟨P_12 _, P_11, P_10 _, P_9 _, P_8 _, P_7, P_6 _, P_5 _, P_4 _, P_3 _, P_2 _, P_1 _, P_0 _, trivial⟩ (by kernel_rfl) ⟨rfl, rfl, trivial⟩ (by kernel_rfl) rfl rfl rfl (h_st tok rfl rfl rfl rfl rfl rfl wh6 eh6) ?_
 obtain ⟨a7, ha7, la7, ua7, H⟩ := H
 refine sP 14 [(14, Slc.v p0), (15, .int .i64 p3)] (some 25) wf ⟨rfl, rfl, trivial⟩ (fun _ => pf_y rfl rfl rfl (y_ixa' tok rfl rfl ha7 rfl rfl rfl la7 ua7)) (fun P_14 => ?_)
 obtain ⟨h8, wh8, eh8, H⟩ := H
 refine sim_h 15 [0, 1, 2, 3, 4, 5, 6, 7, 8, 9, 10, 11, 12, 13, 14] [0, 1, 2, 3, 4, 5, 6, 7, 8, 9, 10, 11, 12, 14] (ei := [(23, .int .u64 v4), (25, .pointer (some (a7.add (p3.toNat * 1))))]) wf ⟨P_14 _, trivial, trivial, trivial, trivial, trivial, trivial, trivial, trivial, trivial, P_3 _, P_2 _, trivial, trivial, trivial⟩ (by kernel_rfl) ⟨rfl, rfl, trivial⟩ (by kernel_rfl) rfl rfl rfl (h_st tok rfl rfl rfl rfl rfl rfl wh8 eh8) ?_
 refine sim_end wf ⟨trivial, trivial, trivial, trivial, trivial, trivial, trivial, trivial, trivial, trivial, trivial, trivial, trivial, trivial, trivial⟩ (by kernel_rfl) ?_
 clear wf P_0 P_1 P_10 P_11 P_12 P_14 P_2 P_3 P_4 P_5 P_6 P_7 P_8 P_9
 refine x_seq ?_
 refine c_weak [(0, Slc.v p0), (1, .int .i64 p1), (2, .int .i64 p2)] ⟨rfl, rfl, rfl, trivial⟩ ?_
 refine c_seq (c_region ?_)
 iterate 4 refine wP tok ?_
 obtain ⟨x9, ex9, H⟩ := H
 refine w_pe tok rfl (congrArg (fun z => (.int .i64 z : Value)) ex9) rfl rfl ?_
 obtain ⟨x10, ex10, H⟩ := H
 refine w_pe tok rfl (congrArg (fun z => (.int .i64 z : Value)) ex10) rfl rfl ?_
 refine w_end (x_seq ?_)
 refine c_seq (c_block ?_)
 obtain ⟨I1, μ1, H0, HI⟩ := H
 refine c_loop (σ := Int) (fun (s : Int) => [(10, .int .i64 s), (0, Slc.v p0), (1, .int .i64 p1), (11, .int .i64 x10)]) I1 μ1 x9 H0 ⟨rfl, rfl, rfl, rfl, trivial⟩ ?_
 rintro t10_1 h_1 H
 replace H := HI t10_1 h_1 H
 unfold slices_partitionOrdered_uint64_l1b at H
 refine c_weak [(10, .int .i64 t10_1), (0, Slc.v p0), (1, .int .i64 p1), (11, .int .i64 x10)] ⟨rfl, rfl, rfl, rfl, trivial⟩ ?_
 refine c_seq ?_
 refine c_seqJ (α := Bool) (fun (s : Bool) => [(43, .bool s), (0, Slc.v p0), (1, .int .i64 p1), (10, .int .i64 t10_1), (11, .int .i64 x10)]) (fun (s : Bool) h => slices_partitionOrdered_uint64_j2 p0 p1 t10_1 x10 s k (fun s h' => I1 s h' ∧ μ1 s h' < μ1 t10_1 h_1) h) ?_ ?_
 ·
  rintro t43_2 h_2 H
  replace H : slices_partitionOrdered_uint64_j2 p0 p1 t10_1 x10 t43_2 k (fun s h' => I1 s h' ∧ μ1 s h' < μ1 t10_1 h_1) h_2 := H
  unfold slices_partitionOrdered_uint64_j2 at H
  refine c_weak [(43, .bool t43_2), (0, Slc.v p0), (1, .int .i64 p1), (10, .int .i64 t10_1), (11, .int .i64 x10)] ⟨rfl, rfl, rfl, rfl, rfl, trivial⟩ ?_
  refine c_if H rfl (fun H => ?_) (fun H => ?_)
  ·
   refine c_skip (x_seq ?_)
   refine c_block (c_region ?_)
   iterate 2 refine wP tok ?_
   obtain ⟨x11, ex11, H⟩ := H
   refine w_pe tok rfl (congrArg (fun z => (.int .i64 z : Value)) ex11) rfl rfl ?_
   refine w_end ?_
   refine x_blk ?_
   exact x_join x11 H ⟨rfl, rfl, rfl, rfl, trivial⟩
  ·
   refine c_exit ?_
   refine x_te (x_te ?_)
   refine x_bh ?_
   refine x_seq (c_seq (c_block ?_))
   obtain ⟨I3, μ3, H0, HI⟩ := H
   refine c_loop (σ := Int) (fun (s : Int) => [(11, .int .i64 s), (0, Slc.v p0), (1, .int .i64 p1), (10, .int .i64 t10_1)]) I3 μ3 x10 H0 ⟨rfl, rfl, rfl, rfl, trivial⟩ ?_
   rintro t11_3 h_3 H
   replace H := HI t11_3 h_3 H
   unfold slices_partitionOrdered_uint64_l3b at H
   refine c_weak [(11, .int .i64 t11_3), (0, Slc.v p0), (1, .int .i64 p1), (10, .int .i64 t10_1)] ⟨rfl, rfl, rfl, rfl, trivial⟩ ?_
   refine c_seq ?_
   refine c_seqJ (α := Bool) (fun (s : Bool) => [(60, .bool s), (0, Slc.v p0), (1, .int .i64 p1), (10, .int .i64 t10_1), (11, .int .i64 t11_3)]) (fun (s : Bool) h => slices_partitionOrdered_uint64_j4 p0 p1 t10_1 t11_3 s k (fun s h' => I1 s h' ∧ μ1 s h' < μ1 t10_1 h_1) (fun s h' => I3 s h' ∧ μ3 s h' < μ3 t11_3 h_3) h) ?_ ?_
   ·
    rintro t60_4 h_4 H
    replace H : slices_partitionOrdered_uint64_j4 p0 p1 t10_1 t11_3 t60_4 k (fun s h' => I1 s h' ∧ μ1 s h' < μ1 t10_1 h_1) (fun s h' => I3 s h' ∧ μ3 s h' < μ3 t11_3 h_3) h_4 := H
    unfold slices_partitionOrdered_uint64_j4 at H
    refine c_weak [(60, .bool t60_4), (0, Slc.v p0), (1, .int .i64 p1), (10, .int .i64 t10_1), (11, .int .i64 t11_3)] ⟨rfl, rfl, rfl, rfl, rfl, trivial⟩ ?_
    refine c_if H rfl (fun H => ?_) (fun H => ?_)
    ·
     refine c_skip (x_seq ?_)
     refine c_block (c_region ?_)
     iterate 2 refine wP tok ?_
     obtain ⟨x12, ex12, H⟩ := H
     refine w_pe tok rfl (congrArg (fun z => (.int .i64 z : Value)) ex12) rfl rfl ?_
     refine w_end ?_
     refine x_blk ?_
     exact x_join x12 H ⟨rfl, rfl, rfl, rfl, trivial⟩
    ·
     refine c_exit ?_
     refine x_te (x_te ?_)
     refine x_bh ?_
     refine x_seq (c_seq ?_)
     refine c_seq (c_region ?_)
     iterate 3 refine wP tok ?_
     refine w_end (x_seq ?_)
     refine c_if H rfl (fun H => ?_) (fun H => ?_)
     ·
      refine c_seq ?_
      refine c_sim [(0, Slc.v p0), (1, .int .i64 p1), (11, .int .i64 t11_3)] (by kernel_rfl) (by kernel_rfl) ⟨rfl, rfl, rfl, trivial⟩ (fun wf => ?_)
      refine sQ 0 [(0, Slc.v p0)] (some 66) tok wf ⟨rfl, trivial⟩ (fun P_0 => ?_)
      refine sQ 1 [(11, .int .i64 t11_3)] (some 67) tok wf ⟨rfl, trivial⟩ (fun P_1 => ?_)
      refine sQ 2 [(0, Slc.v p0)] (some 68) tok wf ⟨rfl, trivial⟩ (fun P_2 => ?_)
      refine sQ 3 [(1, .int .i64 p1)] (some 69) tok wf ⟨rfl, trivial⟩ (fun P_3 => ?_)
      refine sQ 4 [(0, Slc.v p0)] (some 70) tok wf ⟨rfl, trivial⟩ (fun P_4 => ?_)
      refine sQ 5 [(1, .int .i64 p1)] (some 71) tok wf ⟨rfl, trivial⟩ (fun P_5 => ?_)
      obtain ⟨a13, ha13, la13, ua13, H⟩ := H
      refine sP 6 [(70, Slc.v p0), (71, .int .i64 p1)] (some 72) wf ⟨rfl, rfl, trivial⟩ (fun _ => pf_y rfl rfl rfl (y_ixa' tok rfl rfl ha13 rfl rfl rfl la13 ua13)) (fun P_6 => ?_)
      obtain ⟨v14, hv14, H⟩ := H
      refine sL 7 [(72, .pointer (some (a13.add (p1.toNat * 1))))] (some 73) wf ⟨rfl, trivial⟩ (pf_y rfl rfl rfl (y_ld tok rfl rfl rfl rfl hv14)) (fun P_7 => ?_)
      refine sQ 8 [(0, Slc.v p0)] (some 74) tok wf ⟨rfl, trivial⟩ (fun P_8 => ?_)
      refine sQ 9 [(11, .int .i64 t11_3)] (some 75) tok wf ⟨rfl, trivial⟩ (fun P_9 => ?_)
      obtain ⟨a15, ha15, la15, ua15, H⟩ := H
      refine sP 10 [(74, Slc.v p0), (75, .int .i64 t11_3)] (some 76) wf ⟨rfl, rfl, trivial⟩ (fun _ => pf_y rfl rfl rfl (y_ixa' tok rfl rfl ha15 rfl rfl rfl la15 ua15)) (fun P_10 => ?_)
      obtain ⟨v16, hv16, H⟩ := H
      refine sL 11 [(76, .pointer (some (a15.add (t11_3.toNat * 1))))] (some 77) wf ⟨rfl, trivial⟩ (pf_y rfl rfl rfl (y_ld tok rfl rfl rfl rfl hv16)) (fun P_11 => ?_)
      obtain ⟨a17, ha17, la17, ua17, H⟩ := H
      refine sP 12 [(66, Slc.v p0), (67, .int .i64 t11_3)] (some 78) wf ⟨rfl, rfl, trivial⟩ (fun _ => pf_y rfl rfl rfl (y_ixa' tok rfl rfl ha17 rfl rfl rfl la17 ua17)) (fun P_12 => ?_)
      obtain ⟨h18, wh18, eh18, H⟩ := H
      refine sim_h 13 [0, 1, 4, 5, 6, 7, 8, 9, 10, 11, 12] [0, 1, 4, 5, 6, 7, 8, 9, 10, 11, 12] (ei := [(73, .int .u64 v14), (78, .pointer (some (a17.add (t11_3.toNat * 1))))]) wf ⟨P_12 _, P_11, P_10 _, P_9 _, P_8 _, P_7, P_6 _, P_5 _, P_4 _, P_3 _, P_2 _, P_1 _, P_0 _, trivial⟩ (by kernel_rfl) ⟨rfl, rfl, trivial⟩ (by kernel_rfl) rfl rfl rfl (h_st tok rfl rfl rfl rfl rfl rfl wh18 eh18) ?_
      obtain ⟨a19, ha19, la19, ua19, H⟩ := H
      refine sP 14 [(68, Slc.v p0), (69, .int .i64 p1)] (some 79) wf ⟨rfl, rfl, trivial⟩ (fun _ => pf_y rfl rfl rfl (y_ixa' tok rfl rfl ha19 rfl rfl rfl la19 ua19)) (fun P_14 => ?_)
      obtain ⟨h20, wh20, eh20, H⟩ := H
      refine sim_h 15 [0, 1, 2, 3, 4, 5, 6, 7, 8, 9, 10, 11, 12, 13, 14] [0, 1, 2, 3, 4, 5, 6, 7, 8, 9, 10, 11, 12, 14] (ei := [(77, .int .u64 v16), (79, .pointer (some (a19.add (p1.toNat * 1))))]) wf ⟨P_14 _, trivial, trivial, trivial, trivial, trivial, trivial, trivial, trivial, trivial, P_3 _, P_2 _, trivial, trivial, trivial⟩ (by kernel_rfl) ⟨rfl, rfl, trivial⟩ (by kernel_rfl) rfl rfl rfl (h_st tok rfl rfl rfl rfl rfl rfl wh20 eh20) ?_
      refine sim_end wf ⟨trivial, trivial, trivial, trivial, trivial, trivial, trivial, trivial, trivial, trivial, trivial, trivial, trivial, trivial, trivial⟩ (by kernel_rfl) ?_
      clear wf P_0 P_1 P_10 P_11 P_12 P_14 P_2 P_3 P_4 P_5 P_6 P_7 P_8 P_9
      refine x_seq ?_
      refine c_weak [(11, .int .i64 t11_3)] ⟨rfl, trivial⟩ ?_
      refine c_seq (c_region ?_)
      iterate 3 refine wP tok ?_
      refine w_end (x_seq ?_)
      refine c_ret (x_tr ?_)
      exact x_ret _ rfl _ rfl ⟨(t11_3, true), rfl, H⟩
     ·
      refine c_skip (x_seq (c_seq ?_))
      refine c_sim [(0, Slc.v p0), (1, .int .i64 p1), (10, .int .i64 t10_1), (11, .int .i64 t11_3)] (by kernel_rfl) (by kernel_rfl) ⟨rfl, rfl, rfl, rfl, trivial⟩ (fun wf => ?_)
      refine sQ 0 [(0, Slc.v p0)] (some 81) tok wf ⟨rfl, trivial⟩ (fun P_0 => ?_)
      refine sQ 1 [(10, .int .i64 t10_1)] (some 82) tok wf ⟨rfl, trivial⟩ (fun P_1 => ?_)
      refine sQ 2 [(0, Slc.v p0)] (some 83) tok wf ⟨rfl, trivial⟩ (fun P_2 => ?_)
      refine sQ 3 [(11, .int .i64 t11_3)] (some 84) tok wf ⟨rfl, trivial⟩ (fun P_3 => ?_)
      refine sQ 4 [(0, Slc.v p0)] (some 85) tok wf ⟨rfl, trivial⟩ (fun P_4 => ?_)
      refine sQ 5 [(11, .int .i64 t11_3)] (some 86) tok wf ⟨rfl, trivial⟩ (fun P_5 => ?_)
      obtain ⟨a21, ha21, la21, ua21, H⟩ := H
      refine sP 6 [(85, Slc.v p0), (86, .int .i64 t11_3)] (some 87) wf ⟨rfl, rfl, trivial⟩ (fun _ => pf_y rfl rfl rfl (y_ixa' tok rfl rfl ha21 rfl rfl rfl la21 ua21)) (fun P_6 => ?_)
      obtain ⟨v22, hv22, H⟩ := H
      refine sL 7 [(87, .pointer (some (a21.add (t11_3.toNat * 1))))] (some 88) wf ⟨rfl, trivial⟩ (pf_y rfl rfl rfl (y_ld tok rfl rfl rfl rfl hv22)) (fun P_7 => ?_)
      refine sQ 8 [(0, Slc.v p0)] (some 89) tok wf ⟨rfl, trivial⟩ (fun P_8 => ?_)
      refine sQ 9 [(10, .int .i64 t10_1)] (some 90) tok wf ⟨rfl, trivial⟩ (fun P_9 => ?_)
      obtain ⟨a23, ha23, la23, ua23, H⟩ := H
      refine sP 10 [(89, Slc.v p0), (90, .int .i64 t10_1)] (some 91) wf ⟨rfl, rfl, trivial⟩ (fun _ => pf_y rfl rfl rfl (y_ixa' tok rfl rfl ha23 rfl rfl rfl la23 ua23)) (fun P_10 => ?_)
      obtain ⟨v24, hv24, H⟩ := H
      refine sL 11 [(91, .pointer (some (a23.add (t10_1.toNat * 1))))] (some 92) wf ⟨rfl, trivial⟩ (pf_y rfl rfl rfl (y_ld tok rfl rfl rfl rfl hv24)) (fun P_11 => ?_)
      obtain ⟨a25, ha25, la25, ua25, H⟩ := H
      refine sP 12 [(81, Slc.v p0), (82, .int .i64 t10_1)] (some 93) wf ⟨rfl, rfl, trivial⟩ (fun _ => pf_y rfl rfl rfl (y_ixa' tok rfl rfl ha25 rfl rfl rfl la25 ua25)) (fun P_12 => ?_)
      obtain ⟨h26, wh26, eh26, H⟩ := H
      refine sim_h 13 [0, 1, 4, 5, 6, 7, 8, 9, 10, 11, 12] [0, 1, 4, 5, 6, 7, 8, 9, 10, 11, 12] (ei := [(88, .int .u64 v22), (93, .pointer (some (a25.add (t10_1.toNat * 1))))]) wf ⟨P_12 _, P_11, P_10 _, P_9 _, P_8 _, P_7, P_6 _, P_5 _, P_4 _, P_3 _, P_2 _, P_1 _, P_0 _, trivial⟩ (by kernel_rfl) ⟨rfl, rfl, trivial⟩ (by kernel_rfl) rfl rfl rfl (h_st tok rfl rfl rfl rfl rfl rfl wh26 eh26) ?_
      obtain ⟨a27, ha27, la27, ua27, H⟩ := H
      refine sP 14 [(83, Slc.v p0), (84, .int .i64 t11_3)] (some 94) wf ⟨rfl, rfl, trivial⟩ (fun _ => pf_y rfl rfl rfl (y_ixa' tok rfl rfl ha27 rfl rfl rfl la27 ua27)) (fun P_14 => ?_)
      obtain ⟨h28, wh28, eh28, H⟩ := H
      refine sim_h 15 [0, 1, 2, 3, 4, 5, 6, 7, 8, 9, 10, 11, 12, 13, 14] [0, 1, 2, 3, 4, 5, 6, 7, 8, 9, 10, 11, 12, 14] (ei := [(92, .int .u64 v24), (94, .pointer (some (a27.add (t11_3.toNat * 1))))]) wf ⟨P_14 _, trivial, trivial, trivial, trivial, trivial, trivial, trivial, trivial, trivial, P_3 _, P_2 _, trivial, trivial, trivial⟩ (by kernel_rfl) ⟨rfl, rfl, trivial⟩ (by kernel_rfl) rfl rfl rfl (h_st tok rfl rfl rfl rfl rfl rfl wh28 eh28) ?_
      refine sim_end wf ⟨trivial, trivial, trivial, trivial, trivial, trivial, trivial, trivial, trivial, trivial, trivial, trivial, trivial, trivial, trivial⟩ (by kernel_rfl) ?_
      clear wf P_0 P_1 P_10 P_11 P_12 P_14 P_2 P_3 P_4 P_5 P_6 P_7 P_8 P_9
      refine x_seq ?_
      refine c_weak [(0, Slc.v p0), (1, .int .i64 p1), (10, .int .i64 t10_1), (11, .int .i64 t11_3)] ⟨rfl, rfl, rfl, rfl, trivial⟩ ?_
      refine c_seq (c_region ?_)
      iterate 2 refine wP tok ?_
      obtain ⟨x29, ex29, H⟩ := H
      refine w_pe tok rfl (congrArg (fun z => (.int .i64 z : Value)) ex29) rfl rfl ?_
      refine w_end (x_seq ?_)
      refine c_seq (c_region ?_)
      iterate 2 refine wP tok ?_
      obtain ⟨x30, ex30, H⟩ := H
      refine w_pe tok rfl (congrArg (fun z => (.int .i64 z : Value)) ex30) rfl rfl ?_
      refine w_end (x_seq ?_)
      refine c_seq (c_block ?_)
      obtain ⟨I5, μ5, H0, HI⟩ := H
      refine c_loop (σ := Int × Int) (fun (s : Int × Int) => [(10, .int .i64 s.1), (11, .int .i64 s.2), (0, Slc.v p0), (1, .int .i64 p1)]) I5 μ5 (x29, x30) H0 ⟨rfl, rfl, rfl, rfl, trivial⟩ ?_
      rintro ⟨t10_5, t11_5⟩ h_5 H
      replace H := HI t10_5 t11_5 h_5 H
      unfold slices_partitionOrdered_uint64_l5b at H
      refine c_weak [(10, .int .i64 t10_5), (11, .int .i64 t11_5), (0, Slc.v p0), (1, .int .i64 p1)] ⟨rfl, rfl, rfl, rfl, trivial⟩ ?_
      refine c_block (c_seq (c_block ?_))
      obtain ⟨I6, μ6, H0, HI⟩ := H
      refine c_loop (σ := Int) (fun (s : Int) => [(10, .int .i64 s), (0, Slc.v p0), (1, .int .i64 p1), (11, .int .i64 t11_5)]) I6 μ6 t10_5 H0 ⟨rfl, rfl, rfl, rfl, trivial⟩ ?_
      rintro t10_6 h_6 H
      replace H := HI t10_6 h_6 H
      unfold slices_partitionOrdered_uint64_l6b at H
      refine c_weak [(10, .int .i64 t10_6), (0, Slc.v p0), (1, .int .i64 p1), (11, .int .i64 t11_5)] ⟨rfl, rfl, rfl, rfl, trivial⟩ ?_
      refine c_seq ?_
      refine c_seqJ (α := Bool) (fun (s : Bool) => [(112, .bool s), (0, Slc.v p0), (1, .int .i64 p1), (10, .int .i64 t10_6), (11, .int .i64 t11_5)]) (fun (s : Bool) h => slices_partitionOrdered_uint64_j7 p0 p1 t10_6 t11_5 s k (fun s h' => I1 s h' ∧ μ1 s h' < μ1 t10_1 h_1) (fun s h' => I3 s h' ∧ μ3 s h' < μ3 t11_3 h_3) (fun s h' => I5 s h' ∧ μ5 s h' < μ5 (t10_5, t11_5) h_5) (fun s h' => I6 s h' ∧ μ6 s h' < μ6 t10_6 h_6) h) ?_ ?_
      ·
       rintro t112_7 h_7 H
       replace H : slices_partitionOrdered_uint64_j7 p0 p1 t10_6 t11_5 t112_7 k (fun s h' => I1 s h' ∧ μ1 s h' < μ1 t10_1 h_1) (fun s h' => I3 s h' ∧ μ3 s h' < μ3 t11_3 h_3) (fun s h' => I5 s h' ∧ μ5 s h' < μ5 (t10_5, t11_5) h_5) (fun s h' => I6 s h' ∧ μ6 s h' < μ6 t10_6 h_6) h_7 := H
       unfold slices_partitionOrdered_uint64_j7 at H
       refine c_weak [(112, .bool t112_7), (0, Slc.v p0), (1, .int .i64 p1), (10, .int .i64 t10_6), (11, .int .i64 t11_5)] ⟨rfl, rfl, rfl, rfl, rfl, trivial⟩ ?_
       refine c_if H rfl (fun H => ?_) (fun H => ?_)
       ·
        refine c_skip (x_seq ?_)
        refine c_block (c_region ?_)
        iterate 2 refine wP tok ?_
        obtain ⟨x31, ex31, H⟩ := H
        refine w_pe tok rfl (congrArg (fun z => (.int .i64 z : Value)) ex31) rfl rfl ?_
        refine w_end ?_
        refine x_blk ?_
        exact x_join x31 H ⟨rfl, rfl, rfl, rfl, trivial⟩
       ·
        refine c_exit ?_
        refine x_te (x_te ?_)
        refine x_bh ?_
        refine x_seq (c_seq (c_block ?_))
        obtain ⟨I8, μ8, H0, HI⟩ := H
        refine c_loop (σ := Int) (fun (s : Int) => [(11, .int .i64 s), (0, Slc.v p0), (1, .int .i64 p1), (10, .int .i64 t10_6)]) I8 μ8 t11_5 H0 ⟨rfl, rfl, rfl, rfl, trivial⟩ ?_
        rintro t11_8 h_8 H
        replace H := HI t11_8 h_8 H
        unfold slices_partitionOrdered_uint64_l8b at H
        refine c_weak [(11, .int .i64 t11_8), (0, Slc.v p0), (1, .int .i64 p1), (10, .int .i64 t10_6)] ⟨rfl, rfl, rfl, rfl, trivial⟩ ?_
        refine c_seq ?_
        refine c_seqJ (α := Bool) (fun (s : Bool) => [(129, .bool s), (0, Slc.v p0), (1, .int .i64 p1), (10, .int .i64 t10_6), (11, .int .i64 t11_8)]) (fun (s : Bool) h => slices_partitionOrdered_uint64_j9 p0 p1 t10_6 t11_8 s k (fun s h' => I1 s h' ∧ μ1 s h' < μ1 t10_1 h_1) (fun s h' => I3 s h' ∧ μ3 s h' < μ3 t11_3 h_3) (fun s h' => I5 s h' ∧ μ5 s h' < μ5 (t10_5, t11_5) h_5) (fun s h' => I6 s h' ∧ μ6 s h' < μ6 t10_6 h_6) (fun s h' => I8 s h' ∧ μ8 s h' < μ8 t11_8 h_8) h) ?_ ?_
        ·
         rintro t129_9 h_9 H
         replace H : slices_partitionOrdered_uint64_j9 p0 p1 t10_6 t11_8 t129_9 k (fun s h' => I1 s h' ∧ μ1 s h' < μ1 t10_1 h_1) (fun s h' => I3 s h' ∧ μ3 s h' < μ3 t11_3 h_3) (fun s h' => I5 s h' ∧ μ5 s h' < μ5 (t10_5, t11_5) h_5) (fun s h' => I6 s h' ∧ μ6 s h' < μ6 t10_6 h_6) (fun s h' => I8 s h' ∧ μ8 s h' < μ8 t11_8 h_8) h_9 := H
         unfold slices_partitionOrdered_uint64_j9 at H
         refine c_weak [(129, .bool t129_9), (0, Slc.v p0), (1, .int .i64 p1), (10, .int .i64 t10_6), (11, .int .i64 t11_8)] ⟨rfl, rfl, rfl, rfl, rfl, trivial⟩ ?_
         refine c_if H rfl (fun H => ?_) (fun H => ?_)
         ·
          refine c_skip (x_seq ?_)
          refine c_block (c_region ?_)
          iterate 2 refine wP tok ?_
          obtain ⟨x32, ex32, H⟩ := H
          refine w_pe tok rfl (congrArg (fun z => (.int .i64 z : Value)) ex32) rfl rfl ?_
          refine w_end ?_
          refine x_blk ?_
          exact x_join x32 H ⟨rfl, rfl, rfl, rfl, trivial⟩
         ·
          refine c_exit ?_
          refine x_te (x_te ?_)
          refine x_bh ?_
          refine x_seq (c_seq ?_)
          refine c_seq (c_region ?_)
          iterate 3 refine wP tok ?_
          refine w_end (x_seq ?_)
          refine c_if H rfl (fun H => ?_) (fun H => ?_)
          ·
           refine c_exit ?_
           refine x_te ?_
           refine x_bm rfl ?_
           refine x_te ?_
           refine x_bh ?_
           refine x_seq (c_seq ?_)
           refine c_sim [(0, Slc.v p0), (1, .int .i64 p1), (11, .int .i64 t11_8)] (by kernel_rfl) (by kernel_rfl) ⟨rfl, rfl, rfl, trivial⟩ (fun wf => ?_)
           refine sQ 0 [(0, Slc.v p0)] (some 153) tok wf ⟨rfl, trivial⟩ (fun P_0 => ?_)
           refine sQ 1 [(11, .int .i64 t11_8)] (some 154) tok wf ⟨rfl, trivial⟩ (fun P_1 => ?_)
           refine sQ 2 [(0, Slc.v p0)] (some 155) tok wf ⟨rfl, trivial⟩ (fun P_2 => ?_)
           refine sQ 3 [(1, .int .i64 p1)] (some 156) tok wf ⟨rfl, trivial⟩ (fun P_3 => ?_)
           refine sQ 4 [(0, Slc.v p0)] (some 157) tok wf ⟨rfl, trivial⟩ (fun P_4 => ?_)
           refine sQ 5 [(1, .int .i64 p1)] (some 158) tok wf ⟨rfl, trivial⟩ (fun P_5 => ?_)
           obtain ⟨a33, ha33, la33, ua33, H⟩ := H
           refine sP 6 [(157, Slc.v p0), (158, .int .i64 p1)] (some 159) wf ⟨rfl, rfl, trivial⟩ (fun _ => pf_y rfl rfl rfl (y_ixa' tok rfl rfl ha33 rfl rfl rfl la33 ua33)) (fun P_6 => ?_)
           obtain ⟨v34, hv34, H⟩ := H
           refine sL 7 [(159, .pointer (some (a33.add (p1.toNat * 1))))] (some 160) wf ⟨rfl, trivial⟩ (pf_y rfl rfl rfl (y_ld tok rfl rfl rfl rfl hv34)) (fun P_7 => ?_)
           refine sQ 8 [(0, Slc.v p0)] (some 161) tok wf ⟨rfl, trivial⟩ (fun P_8 => ?_)
           refine sQ 9 [(11, .int .i64 t11_8)] (some 162) tok wf ⟨rfl, trivial⟩ (fun P_9 => ?_)
           obtain ⟨a35, ha35, la35, ua35, H⟩ := H
           refine sP 10 [(161, Slc.v p0), (162, .int .i64 t11_8)] (some 163) wf ⟨rfl, rfl, trivial⟩ (fun _ => pf_y rfl rfl rfl (y_ixa' tok rfl rfl ha35 rfl rfl rfl la35 ua35)) (fun P_10 => ?_)
           obtain ⟨v36, hv36, H⟩ := H
           refine sL 11 [(163, .pointer (some (a35.add (t11_8.toNat * 1))))] (some 164) wf ⟨rfl, trivial⟩ (pf_y rfl rfl rfl (y_ld tok rfl rfl rfl rfl hv36)) (fun P_11 => ?_)
           obtain ⟨a37, ha37, la37, ua37, H⟩ := H
           refine sP 12 [(153, Slc.v p0), (154, .int .i64 t11_8)] (some 165) wf ⟨rfl, rfl, trivial⟩ (fun _ => pf_y rfl rfl rfl (y_ixa' tok rfl rfl ha37 rfl rfl rfl la37 ua37)) (fun P_12 => ?_)
           obtain ⟨h38, wh38, eh38, H⟩ := H
           refine sim_h 13 [0, 1, 4, 5, 6, 7, 8, 9, 10, 11, 12] [0, 1, 4, 5, 6, 7, 8, 9, 10, 11, 12] (ei := [(160, .int .u64 v34), (165, .pointer (some (a37.add (t11_8.toNat * 1))))]) wf ⟨P_12 _, P_11, P_10 _, P_9 _, P_8 _, P_7, P_6 _, P_5 _, P_4 _, P_3 _, P_2 _, P_1 _, P_0 _, trivial⟩ (by kernel_rfl) ⟨rfl, rfl, trivial⟩ (by kernel_rfl) rfl rfl rfl (h_st tok rfl rfl rfl rfl rfl rfl wh38 eh38) ?_
           obtain ⟨a39, ha39, la39, ua39, H⟩ := H
           refine sP 14 [(155, Slc.v p0), (156, .int .i64 p1)] (some 166) wf ⟨rfl, rfl, trivial⟩ (fun _ => pf_y rfl rfl rfl (y_ixa' tok rfl rfl ha39 rfl rfl rfl la39 ua39)) (fun P_14 => ?_)
           obtain ⟨h40, wh40, eh40, H⟩ := H
           refine sim_h 15 [0, 1, 2, 3, 4, 5, 6, 7, 8, 9, 10, 11, 12, 13, 14] [0, 1, 2, 3, 4, 5, 6, 7, 8, 9, 10, 11, 12, 14] (ei := [(164, .int .u64 v36), (166, .pointer (some (a39.add (p1.toNat * 1))))]) wf ⟨P_14 _, trivial, trivial, trivial, trivial, trivial, trivial, trivial, trivial, trivial, P_3 _, P_2 _, trivial, trivial, trivial⟩ (by kernel_rfl) ⟨rfl, rfl, trivial⟩ (by kernel_rfl) rfl rfl rfl (h_st tok rfl rfl rfl rfl rfl rfl wh40 eh40) ?_
           refine sim_end wf ⟨trivial, trivial, trivial, trivial, trivial, trivial, trivial, trivial, trivial, trivial, trivial, trivial, trivial, trivial, trivial⟩ (by kernel_rfl) ?_
           clear wf P_0 P_1 P_10 P_11 P_12 P_14 P_2 P_3 P_4 P_5 P_6 P_7 P_8 P_9
           refine x_seq ?_
           refine c_weak [(11, .int .i64 t11_8)] ⟨rfl, trivial⟩ ?_
           refine c_seq (c_region ?_)
           iterate 3 refine wP tok ?_
           refine w_end (x_seq (c_ret ?_))
           exact x_ret _ rfl _ rfl ⟨(t11_8, false), rfl, H⟩
          ·
           refine c_skip (x_seq (c_seq ?_))
           refine c_sim [(0, Slc.v p0), (1, .int .i64 p1), (10, .int .i64 t10_6), (11, .int .i64 t11_8)] (by kernel_rfl) (by kernel_rfl) ⟨rfl, rfl, rfl, rfl, trivial⟩ (fun wf => ?_)
           refine sQ 0 [(0, Slc.v p0)] (some 135) tok wf ⟨rfl, trivial⟩ (fun P_0 => ?_)
           refine sQ 1 [(10, .int .i64 t10_6)] (some 136) tok wf ⟨rfl, trivial⟩ (fun P_1 => ?_)
           refine sQ 2 [(0, Slc.v p0)] (some 137) tok wf ⟨rfl, trivial⟩ (fun P_2 => ?_)
           refine sQ 3 [(11, .int .i64 t11_8)] (some 138) tok wf ⟨rfl, trivial⟩ (fun P_3 => ?_)
           refine sQ 4 [(0, Slc.v p0)] (some 139) tok wf ⟨rfl, trivial⟩ (fun P_4 => ?_)
           refine sQ 5 [(11, .int .i64 t11_8)] (some 140) tok wf ⟨rfl, trivial⟩ (fun P_5 => ?_)
           obtain ⟨a41, ha41, la41, ua41, H⟩ := H
           refine sP 6 [(139, Slc.v p0), (140, .int .i64 t11_8)] (some 141) wf ⟨rfl, rfl, trivial⟩ (fun _ => pf_y rfl rfl rfl (y_ixa' tok rfl rfl ha41 rfl rfl rfl la41 ua41)) (fun P_6 => ?_)
           obtain ⟨v42, hv42, H⟩ := H
           refine sL 7 [(141, .pointer (some (a41.add (t11_8.toNat * 1))))] (some 142) wf ⟨rfl, trivial⟩ (pf_y rfl rfl rfl (y_ld tok rfl rfl rfl rfl hv42)) (fun P_7 => ?_)
           refine sQ 8 [(0, Slc.v p0)] (some 143) tok wf ⟨rfl, trivial⟩ (fun P_8 => ?_)
           refine sQ 9 [(10, .int .i64 t10_6)] (some 144) tok wf ⟨rfl, trivial⟩ (fun P_9 => ?_)
           obtain ⟨a43, ha43, la43, ua43, H⟩ := H
           refine sP 10 [(143, Slc.v p0), (144, .int .i64 t10_6)] (some 145) wf ⟨rfl, rfl, trivial⟩ (fun _ => pf_y rfl rfl rfl (y_ixa' tok rfl rfl ha43 rfl rfl rfl la43 ua43)) (fun P_10 => ?_)
           obtain ⟨v44, hv44, H⟩ := H
           refine sL 11 [(145, .pointer (some (a43.add (t10_6.toNat * 1))))] (some 146) wf ⟨rfl, trivial⟩ (pf_y rfl rfl rfl (y_ld tok rfl rfl rfl rfl hv44)) (fun P_11 => ?_)
           obtain ⟨a45, ha45, la45, ua45, H⟩ := H
           refine sP 12 [(135, Slc.v p0), (136, .int .i64 t10_6)] (some 147) wf ⟨rfl, rfl, trivial⟩ (fun _ => pf_y rfl rfl rfl (y_ixa' tok rfl rfl ha45 rfl rfl rfl la45 ua45)) (fun P_12 => ?_)
           obtain ⟨h46, wh46, eh46, H⟩ := H
           refine sim_h 13 [0, 1, 4, 5, 6, 7, 8, 9, 10, 11, 12] [0, 1, 4, 5, 6, 7, 8, 9, 10, 11, 12] (ei := [(142, .int .u64 v42), (147, .pointer (some (a45.add (t10_6.toNat * 1))))]) wf ⟨P_12 _, P_11, P_10 _, P_9 _, P_8 _, P_7, P_6 _, P_5 _, P_4 _, P_3 _, P_2 _, P_1 _, P_0 _, trivial⟩ (by kernel_rfl) ⟨rfl, rfl, trivial⟩ (by kernel_rfl) rfl rfl rfl (h_st tok rfl rfl rfl rfl rfl rfl wh46 eh46) ?_
           obtain ⟨a47, ha47, la47, ua47, H⟩ := H
           refine sP 14 [(137, Slc.v p0), (138, .int .i64 t11_8)] (some 148) wf ⟨rfl, rfl, trivial⟩ (fun _ => pf_y rfl rfl rfl (y_ixa' tok rfl rfl ha47 rfl rfl rfl la47 ua47)) (fun P_14 => ?_)
           obtain ⟨h48, wh48, eh48, H⟩ := H
           refine sim_h 15 [0, 1, 2, 3, 4, 5, 6, 7, 8, 9, 10, 11, 12, 13, 14] [0, 1, 2, 3, 4, 5, 6, 7, 8, 9, 10, 11, 12, 14] (ei := [(146, .int .u64 v44), (148, .pointer (some (a47.add (t11_8.toNat * 1))))]) wf ⟨P_14 _, trivial, trivial, trivial, trivial, trivial, trivial, trivial, trivial, trivial, P_3 _, P_2 _, trivial, trivial, trivial⟩ (by kernel_rfl) ⟨rfl, rfl, trivial⟩ (by kernel_rfl) rfl rfl rfl (h_st tok rfl rfl rfl rfl rfl rfl wh48 eh48) ?_
           refine sim_end wf ⟨trivial, trivial, trivial, trivial, trivial, trivial, trivial, trivial, trivial, trivial, trivial, trivial, trivial, trivial, trivial⟩ (by kernel_rfl) ?_
           clear wf P_0 P_1 P_10 P_11 P_12 P_14 P_2 P_3 P_4 P_5 P_6 P_7 P_8 P_9
           refine x_seq ?_
           refine c_weak [(0, Slc.v p0), (1, .int .i64 p1), (10, .int .i64 t10_6), (11, .int .i64 t11_8)] ⟨rfl, rfl, rfl, rfl, trivial⟩ ?_
           refine c_seq (c_region ?_)
           iterate 2 refine wP tok ?_
           obtain ⟨x49, ex49, H⟩ := H
           refine w_pe tok rfl (congrArg (fun z => (.int .i64 z : Value)) ex49) rfl rfl ?_
           refine w_end (x_seq (c_region ?_))
           iterate 2 refine wP tok ?_
           obtain ⟨x50, ex50, H⟩ := H
           refine w_pe tok rfl (congrArg (fun z => (.int .i64 z : Value)) ex50) rfl rfl ?_
           refine w_end ?_
           refine x_blk ?_
           exact x_join (x49, x50) H ⟨rfl, rfl, rfl, rfl, trivial⟩
        ·
         refine c_sim [(0, Slc.v p0), (1, .int .i64 p1), (10, .int .i64 t10_6), (11, .int .i64 t11_8)] (by kernel_rfl) (by kernel_rfl) ⟨rfl, rfl, rfl, rfl, trivial⟩ (fun wf => ?_)
         refine sQ 0 [(10, .int .i64 t10_6)] (some 115) tok wf ⟨rfl, trivial⟩ (fun P_0 => ?_)
         refine sQ 1 [(11, .int .i64 t11_8)] (some 116) tok wf ⟨rfl, trivial⟩ (fun P_1 => ?_)
         refine sQ 2 [(115, .int .i64 t10_6), (116, .int .i64 t11_8)] (some 117) tok wf ⟨rfl, rfl, trivial⟩ (fun P_2 => ?_)
         refine sQ 3 [(117, .bool (decide (t10_6 ≤ t11_8)))] (some 118) tok wf ⟨rfl, trivial⟩ (fun P_3 => ?_)
         refine sim_gif 118 H rfl (fun hb H => ?_) (fun hb H => ?_)
         ·
          refine sQ 4 [(0, Slc.v p0), (118, .bool true)] (some 119) tok wf ⟨rfl, rfl, trivial⟩ (fun P_4 => ?_)
          refine sQ 5 [(11, .int .i64 t11_8), (118, .bool true)] (some 120) tok wf ⟨rfl, rfl, trivial⟩ (fun P_5 => ?_)
          obtain ⟨a51, ha51, la51, ua51, H⟩ := H
          refine sP 6 [(118, .bool true), (119, Slc.v p0), (120, .int .i64 t11_8)] (some 121) wf ⟨rfl, rfl, rfl, trivial⟩ (fun _ => pf_y rfl rfl rfl (y_ixa' tok rfl rfl ha51 rfl rfl rfl la51 ua51)) (fun P_6 => ?_)
          obtain ⟨v52, hv52, H⟩ := H
          refine sL 7 [(118, .bool true), (121, .pointer (some (a51.add (t11_8.toNat * 1))))] (some 122) wf ⟨rfl, rfl, trivial⟩ (pf_y rfl rfl rfl (y_ld tok rfl rfl rfl rfl hv52)) (fun P_7 => ?_)
          refine sQ 8 [(0, Slc.v p0), (118, .bool true)] (some 123) tok wf ⟨rfl, rfl, trivial⟩ (fun P_8 => ?_)
          refine sQ 9 [(1, .int .i64 p1), (118, .bool true)] (some 124) tok wf ⟨rfl, rfl, trivial⟩ (fun P_9 => ?_)
          obtain ⟨a53, ha53, la53, ua53, H⟩ := H
          refine sP 10 [(118, .bool true), (123, Slc.v p0), (124, .int .i64 p1)] (some 125) wf ⟨rfl, rfl, rfl, trivial⟩ (fun _ => pf_y rfl rfl rfl (y_ixa' tok rfl rfl ha53 rfl rfl rfl la53 ua53)) (fun P_10 => ?_)
          obtain ⟨v54, hv54, H⟩ := H
          refine sL 11 [(118, .bool true), (125, .pointer (some (a53.add (p1.toNat * 1))))] (some 126) wf ⟨rfl, rfl, trivial⟩ (pf_y rfl rfl rfl (y_ld tok rfl rfl rfl rfl hv54)) (fun P_11 => ?_)
          refine sim_c 12 [0, 1, 2, 3, 4, 5, 6, 7, 8, 9, 10, 11] [0, 1, 2, 3, 4, 5, 6, 7, 8, 9, 10, 11] (ei := [(118, .bool true), (122, .int .u64 v52), (126, .int .u64 v54)]) cmp_Less_uint64_ok (cmp_Less_uint64_ref _ _ _ _ H) wf ⟨P_11, P_10 _, P_9 _, P_8 _, P_7, P_6 _, P_5 _, P_4 _, P_3 _, P_2 _, P_1 _, P_0 _, trivial⟩ (by kernel_rfl) ⟨rfl, rfl, rfl, trivial⟩ (by kernel_rfl) rfl rfl rfl rfl rfl ?_
          rintro _ h56 ⟨r55, rfl, H⟩
          refine sQ 13 [(118, .bool true), (127, .bool r55)] (some 128) tok wf ⟨rfl, rfl, trivial⟩ (fun P_13 => ?_)
          refine sQ 14 [(118, .bool true), (128, .bool (!r55))] (some 129) tok wf ⟨rfl, rfl, trivial⟩ (fun P_14 => ?_)
          refine sim_end wf ⟨P_14 _, P_13 _, trivial, trivial, trivial, trivial, trivial, trivial, trivial, trivial, trivial, trivial, trivial, trivial, trivial⟩ (by kernel_rfl) ?_
          clear wf P_0 P_1 P_10 P_11 P_13 P_14 P_2 P_3 P_4 P_5 P_6 P_7 P_8 P_9
          exact x_join (!r55) H ⟨rfl, rfl, rfl, rfl, rfl, trivial⟩
         ·
          refine sim_p 4 (v := undef) (ei := [(0, Slc.v p0), (118, .bool false)]) (d := (some 119)) wf (by kernel_rfl) ⟨rfl, rfl, trivial⟩ (by kernel_rfl) (by kernel_rfl) (fun _ => pf_s rfl rfl rfl) (fun P_4 => ?_)
          refine sim_p 5 (v := undef) (ei := [(11, .int .i64 t11_8), (118, .bool false)]) (d := (some 120)) wf (by kernel_rfl) ⟨rfl, rfl, trivial⟩ (by kernel_rfl) (by kernel_rfl) (fun _ => pf_s rfl rfl rfl) (fun P_5 => ?_)
          refine sim_p 6 (v := undef) (ei := [(118, .bool false), (119, undef), (120, undef)]) (d := (some 121)) wf (by kernel_rfl) ⟨rfl, rfl, rfl, trivial⟩ (by kernel_rfl) (by kernel_rfl) (fun _ => pf_s rfl rfl rfl) (fun P_6 => ?_)
          refine sim_p 7 (v := undef) (ei := [(118, .bool false), (121, undef)]) (d := (some 122)) wf (by kernel_rfl) ⟨rfl, rfl, trivial⟩ (by kernel_rfl) (by kernel_rfl) (fun _ => pf_s rfl rfl rfl) (fun P_7 => ?_)
          refine sim_p 8 (v := undef) (ei := [(0, Slc.v p0), (118, .bool false)]) (d := (some 123)) wf (by kernel_rfl) ⟨rfl, rfl, trivial⟩ (by kernel_rfl) (by kernel_rfl) (fun _ => pf_s rfl rfl rfl) (fun P_8 => ?_)
          refine sim_p 9 (v := undef) (ei := [(1, .int .i64 p1), (118, .bool false)]) (d := (some 124)) wf (by kernel_rfl) ⟨rfl, rfl, trivial⟩ (by kernel_rfl) (by kernel_rfl) (fun _ => pf_s rfl rfl rfl) (fun P_9 => ?_)
          refine sim_p 10 (v := undef) (ei := [(118, .bool false), (123, undef), (124, undef)]) (d := (some 125)) wf (by kernel_rfl) ⟨rfl, rfl, rfl, trivial⟩ (by kernel_rfl) (by kernel_rfl) (fun _ => pf_s rfl rfl rfl) (fun P_10 => ?_)
          refine sim_p 11 (v := undef) (ei := [(118, .bool false), (125, undef)]) (d := (some 126)) wf (by kernel_rfl) ⟨rfl, rfl, trivial⟩ (by kernel_rfl) (by kernel_rfl) (fun _ => pf_s rfl rfl rfl) (fun P_11 => ?_)
          refine sim_p 12 (v := undef) (ei := [(118, .bool false), (122, undef), (126, undef)]) (d := (some 127)) wf (by kernel_rfl) ⟨rfl, rfl, rfl, trivial⟩ (by kernel_rfl) (by kernel_rfl) (fun _ => pf_s rfl rfl rfl) (fun P_12 => ?_)
          refine sim_p 13 (v := undef) (ei := [(118, .bool false), (127, undef)]) (d := (some 128)) wf (by kernel_rfl) ⟨rfl, rfl, trivial⟩ (by kernel_rfl) (by kernel_rfl) (fun _ => pf_s rfl rfl rfl) (fun P_13 => ?_)
          refine sQ 14 [(118, .bool false), (128, undef)] (some 129) tok wf ⟨rfl, rfl, trivial⟩ (fun P_14 => ?_)
          refine sim_end wf ⟨P_14 _, P_13 _, P_12 _, P_11 _, P_10 _, P_9 _, P_8 _, P_7 _, P_6 _, P_5 _, P_4 _, P_3 _, P_2 _, P_1 _, P_0 _, trivial⟩ (by kernel_rfl) ?_
          clear wf P_0 P_1 P_10 P_11 P_12 P_13 P_14 P_2 P_3 P_4 P_5 P_6 P_7 P_8 P_9
          exact x_join false H ⟨rfl, rfl, rfl, rfl, rfl, trivial⟩
      ·
       refine c_sim [(0, Slc.v p0), (1, .int .i64 p1), (10, .int .i64 t10_6), (11, .int .i64 t11_5)] (by kernel_rfl) (by kernel_rfl) ⟨rfl, rfl, rfl, rfl, trivial⟩ (fun wf => ?_)
       refine sQ 0 [(10, .int .i64 t10_6)] (some 99) tok wf ⟨rfl, trivial⟩ (fun P_0 => ?_)
       refine sQ 1 [(11, .int .i64 t11_5)] (some 100) tok wf ⟨rfl, trivial⟩ (fun P_1 => ?_)
       refine sQ 2 [(99, .int .i64 t10_6), (100, .int .i64 t11_5)] (some 101) tok wf ⟨rfl, rfl, trivial⟩ (fun P_2 => ?_)
       refine sQ 3 [(101, .bool (decide (t10_6 ≤ t11_5)))] (some 102) tok wf ⟨rfl, trivial⟩ (fun P_3 => ?_)
       refine sim_gif 102 H rfl (fun hb H => ?_) (fun hb H => ?_)
       ·
        refine sQ 4 [(0, Slc.v p0), (102, .bool true)] (some 103) tok wf ⟨rfl, rfl, trivial⟩ (fun P_4 => ?_)
        refine sQ 5 [(10, .int .i64 t10_6), (102, .bool true)] (some 104) tok wf ⟨rfl, rfl, trivial⟩ (fun P_5 => ?_)
        obtain ⟨a57, ha57, la57, ua57, H⟩ := H
        refine sP 6 [(102, .bool true), (103, Slc.v p0), (104, .int .i64 t10_6)] (some 105) wf ⟨rfl, rfl, rfl, trivial⟩ (fun _ => pf_y rfl rfl rfl (y_ixa' tok rfl rfl ha57 rfl rfl rfl la57 ua57)) (fun P_6 => ?_)
        obtain ⟨v58, hv58, H⟩ := H
        refine sL 7 [(102, .bool true), (105, .pointer (some (a57.add (t10_6.toNat * 1))))] (some 106) wf ⟨rfl, rfl, trivial⟩ (pf_y rfl rfl rfl (y_ld tok rfl rfl rfl rfl hv58)) (fun P_7 => ?_)
        refine sQ 8 [(0, Slc.v p0), (102, .bool true)] (some 107) tok wf ⟨rfl, rfl, trivial⟩ (fun P_8 => ?_)
        refine sQ 9 [(1, .int .i64 p1), (102, .bool true)] (some 108) tok wf ⟨rfl, rfl, trivial⟩ (fun P_9 => ?_)
        obtain ⟨a59, ha59, la59, ua59, H⟩ := H
        refine sP 10 [(102, .bool true), (107, Slc.v p0), (108, .int .i64 p1)] (some 109) wf ⟨rfl, rfl, rfl, trivial⟩ (fun _ => pf_y rfl rfl rfl (y_ixa' tok rfl rfl ha59 rfl rfl rfl la59 ua59)) (fun P_10 => ?_)
        obtain ⟨v60, hv60, H⟩ := H
        refine sL 11 [(102, .bool true), (109, .pointer (some (a59.add (p1.toNat * 1))))] (some 110) wf ⟨rfl, rfl, trivial⟩ (pf_y rfl rfl rfl (y_ld tok rfl rfl rfl rfl hv60)) (fun P_11 => ?_)
        refine sim_c 12 [0, 1, 2, 3, 4, 5, 6, 7, 8, 9, 10, 11] [0, 1, 2, 3, 4, 5, 6, 7, 8, 9, 10, 11] (ei := [(102, .bool true), (106, .int .u64 v58), (110, .int .u64 v60)]) cmp_Less_uint64_ok (cmp_Less_uint64_ref _ _ _ _ H) wf ⟨P_11, P_10 _, P_9 _, P_8 _, P_7, P_6 _, P_5 _, P_4 _, P_3 _, P_2 _, P_1 _, P_0 _, trivial⟩ (by kernel_rfl) ⟨rfl, rfl, rfl, trivial⟩ (by kernel_rfl) rfl rfl rfl rfl rfl ?_
        rintro _ h62 ⟨r61, rfl, H⟩
        refine sQ 13 [(102, .bool true), (111, .bool r61)] (some 112) tok wf ⟨rfl, rfl, trivial⟩ (fun P_13 => ?_)
        refine sim_end wf ⟨P_13 _, trivial, trivial, trivial, trivial, trivial, trivial, trivial, trivial, trivial, trivial, trivial, trivial, trivial⟩ (by kernel_rfl) ?_
        clear wf P_0 P_1 P_10 P_11 P_13 P_2 P_3 P_4 P_5 P_6 P_7 P_8 P_9
        exact x_join r61 H ⟨rfl, rfl, rfl, rfl, rfl, trivial⟩
       ·
        refine sim_p 4 (v := undef) (ei := [(0, Slc.v p0), (102, .bool false)]) (d := (some 103)) wf (by kernel_rfl) ⟨rfl, rfl, trivial⟩ (by kernel_rfl) (by kernel_rfl) (fun _ => pf_s rfl rfl rfl) (fun P_4 => ?_)
        refine sim_p 5 (v := undef) (ei := [(10, .int .i64 t10_6), (102, .bool false)]) (d := (some 104)) wf (by kernel_rfl) ⟨rfl, rfl, trivial⟩ (by kernel_rfl) (by kernel_rfl) (fun _ => pf_s rfl rfl rfl) (fun P_5 => ?_)
        refine sim_p 6 (v := undef) (ei := [(102, .bool false), (103, undef), (104, undef)]) (d := (some 105)) wf (by kernel_rfl) ⟨rfl, rfl, rfl, trivial⟩ (by kernel_rfl) (by kernel_rfl) (fun _ => pf_s rfl rfl rfl) (fun P_6 => ?_)
        refine sim_p 7 (v := undef) (ei := [(102, .bool false), (105, undef)]) (d := (some 106)) wf (by kernel_rfl) ⟨rfl, rfl, trivial⟩ (by kernel_rfl) (by kernel_rfl) (fun _ => pf_s rfl rfl rfl) (fun P_7 => ?_)
        refine sim_p 8 (v := undef) (ei := [(0, Slc.v p0), (102, .bool false)]) (d := (some 107)) wf (by kernel_rfl) ⟨rfl, rfl, trivial⟩ (by kernel_rfl) (by kernel_rfl) (fun _ => pf_s rfl rfl rfl) (fun P_8 => ?_)
        refine sim_p 9 (v := undef) (ei := [(1, .int .i64 p1), (102, .bool false)]) (d := (some 108)) wf (by kernel_rfl) ⟨rfl, rfl, trivial⟩ (by kernel_rfl) (by kernel_rfl) (fun _ => pf_s rfl rfl rfl) (fun P_9 => ?_)
        refine sim_p 10 (v := undef) (ei := [(102, .bool false), (107, undef), (108, undef)]) (d := (some 109)) wf (by kernel_rfl) ⟨rfl, rfl, rfl, trivial⟩ (by kernel_rfl) (by kernel_rfl) (fun _ => pf_s rfl rfl rfl) (fun P_10 => ?_)
        refine sim_p 11 (v := undef) (ei := [(102, .bool false), (109, undef)]) (d := (some 110)) wf (by kernel_rfl) ⟨rfl, rfl, trivial⟩ (by kernel_rfl) (by kernel_rfl) (fun _ => pf_s rfl rfl rfl) (fun P_11 => ?_)
        refine sim_p 12 (v := undef) (ei := [(102, .bool false), (106, undef), (110, undef)]) (d := (some 111)) wf (by kernel_rfl) ⟨rfl, rfl, rfl, trivial⟩ (by kernel_rfl) (by kernel_rfl) (fun _ => pf_s rfl rfl rfl) (fun P_12 => ?_)
        refine sQ 13 [(102, .bool false), (111, undef)] (some 112) tok wf ⟨rfl, rfl, trivial⟩ (fun P_13 => ?_)
        refine sim_end wf ⟨P_13 _, P_12 _, P_11 _, P_10 _, P_9 _, P_8 _, P_7 _, P_6 _, P_5 _, P_4 _, P_3 _, P_2 _, P_1 _, P_0 _, trivial⟩ (by kernel_rfl) ?_
        clear wf P_0 P_1 P_10 P_11 P_12 P_13 P_2 P_3 P_4 P_5 P_6 P_7 P_8 P_9
        exact x_join false H ⟨rfl, rfl, rfl, rfl, rfl, trivial⟩
   ·
    refine c_sim [(0, Slc.v p0), (1, .int .i64 p1), (10, .int .i64 t10_1), (11, .int .i64 t11_3)] (by kernel_rfl) (by kernel_rfl) ⟨rfl, rfl, rfl, rfl, trivial⟩ (fun wf => ?_)
    refine sQ 0 [(10, .int .i64 t10_1)] (some 46) tok wf ⟨rfl, trivial⟩ (fun P_0 => ?_)
    refine sQ 1 [(11, .int .i64 t11_3)] (some 47) tok wf ⟨rfl, trivial⟩ (fun P_1 => ?_)
    refine sQ 2 [(46, .int .i64 t10_1), (47, .int .i64 t11_3)] (some 48) tok wf ⟨rfl, rfl, trivial⟩ (fun P_2 => ?_)
    refine sQ 3 [(48, .bool (decide (t10_1 ≤ t11_3)))] (some 49) tok wf ⟨rfl, trivial⟩ (fun P_3 => ?_)
    refine sim_gif 49 H rfl (fun hb H => ?_) (fun hb H => ?_)
    ·
     refine sQ 4 [(0, Slc.v p0), (49, .bool true)] (some 50) tok wf ⟨rfl, rfl, trivial⟩ (fun P_4 => ?_)
     refine sQ 5 [(11, .int .i64 t11_3), (49, .bool true)] (some 51) tok wf ⟨rfl, rfl, trivial⟩ (fun P_5 => ?_)
     obtain ⟨a63, ha63, la63, ua63, H⟩ := H
     refine sP 6 [(49, .bool true), (50, Slc.v p0), (51, .int .i64 t11_3)] (some 52) wf ⟨rfl, rfl, rfl, trivial⟩ (fun _ => pf_y rfl rfl rfl (y_ixa' tok rfl rfl ha63 rfl rfl rfl la63 ua63)) (fun P_6 => ?_)
     obtain ⟨v64, hv64, H⟩ := H
     refine sL 7 [(49, .bool true), (52, .pointer (some (a63.add (t11_3.toNat * 1))))] (some 53) wf ⟨rfl, rfl, trivial⟩ (pf_y rfl rfl rfl (y_ld tok rfl rfl rfl rfl hv64)) (fun P_7 => ?_)
     refine sQ 8 [(0, Slc.v p0), (49, .bool true)] (some 54) tok wf ⟨rfl, rfl, trivial⟩ (fun P_8 => ?_)
     refine sQ 9 [(1, .int .i64 p1), (49, .bool true)] (some 55) tok wf ⟨rfl, rfl, trivial⟩ (fun P_9 => ?_)
     obtain ⟨a65, ha65, la65, ua65, H⟩ := H
     refine sP 10 [(49, .bool true), (54, Slc.v p0), (55, .int .i64 p1)] (some 56) wf ⟨rfl, rfl, rfl, trivial⟩ (fun _ => pf_y rfl rfl rfl (y_ixa' tok rfl rfl ha65 rfl rfl rfl la65 ua65)) (fun P_10 => ?_)
     obtain ⟨v66, hv66, H⟩ := H
     refine sL 11 [(49, .bool true), (56, .pointer (some (a65.add (p1.toNat * 1))))] (some 57) wf ⟨rfl, rfl, trivial⟩ (pf_y rfl rfl rfl (y_ld tok rfl rfl rfl rfl hv66)) (fun P_11 => ?_)
     refine sim_c 12 [0, 1, 2, 3, 4, 5, 6, 7, 8, 9, 10, 11] [0, 1, 2, 3, 4, 5, 6, 7, 8, 9, 10, 11] (ei := [(49, .bool true), (53, .int .u64 v64), (57, .int .u64 v66)]) cmp_Less_uint64_ok (cmp_Less_uint64_ref _ _ _ _ H) wf ⟨P_11, P_10 _, P_9 _, P_8 _, P_7, P_6 _, P_5 _, P_4 _, P_3 _, P_2 _, P_1 _, P_0 _, trivial⟩ (by kernel_rfl) ⟨rfl, rfl, rfl, trivial⟩ (by kernel_rfl) rfl rfl rfl rfl rfl ?_
     rintro _ h68 ⟨r67, rfl, H⟩
     refine sQ 13 [(49, .bool true), (58, .bool r67)] (some 59) tok wf ⟨rfl, rfl, trivial⟩ (fun P_13 => ?_)
     refine sQ 14 [(49, .bool true), (59, .bool (!r67))] (some 60) tok wf ⟨rfl, rfl, trivial⟩ (fun P_14 => ?_)
     refine sim_end wf ⟨P_14 _, P_13 _, trivial, trivial, trivial, trivial, trivial, trivial, trivial, trivial, trivial, trivial, trivial, trivial, trivial⟩ (by kernel_rfl) ?_
     clear wf P_0 P_1 P_10 P_11 P_13 P_14 P_2 P_3 P_4 P_5 P_6 P_7 P_8 P_9
     exact x_join (!r67) H ⟨rfl, rfl, rfl, rfl, rfl, trivial⟩
    ·
     refine sim_p 4 (v := undef) (ei := [(0, Slc.v p0), (49, .bool false)]) (d := (some 50)) wf (by kernel_rfl) ⟨rfl, rfl, trivial⟩ (by kernel_rfl) (by kernel_rfl) (fun _ => pf_s rfl rfl rfl) (fun P_4 => ?_)
     refine sim_p 5 (v := undef) (ei := [(11, .int .i64 t11_3), (49, .bool false)]) (d := (some 51)) wf (by kernel_rfl) ⟨rfl, rfl, trivial⟩ (by kernel_rfl) (by kernel_rfl) (fun _ => pf_s rfl rfl rfl) (fun P_5 => ?_)
     refine sim_p 6 (v := undef) (ei := [(49, .bool false), (50, undef), (51, undef)]) (d := (some 52)) wf (by kernel_rfl) ⟨rfl, rfl, rfl, trivial⟩ (by kernel_rfl) (by kernel_rfl) (fun _ => pf_s rfl rfl rfl) (fun P_6 => ?_)
     refine sim_p 7 (v := undef) (ei := [(49, .bool false), (52, undef)]) (d := (some 53)) wf (by kernel_rfl) ⟨rfl, rfl, trivial⟩ (by kernel_rfl) (by kernel_rfl) (fun _ => pf_s rfl rfl rfl) (fun P_7 => ?_)
     refine sim_p 8 (v := undef) (ei := [(0, Slc.v p0), (49, .bool false)]) (d := (some 54)) wf (by kernel_rfl) ⟨rfl, rfl, trivial⟩ (by kernel_rfl) (by kernel_rfl) (fun _ => pf_s rfl rfl rfl) (fun P_8 => ?_)
     refine sim_p 9 (v := undef) (ei := [(1, .int .i64 p1), (49, .bool false)]) (d := (some 55)) wf (by kernel_rfl) ⟨rfl, rfl, trivial⟩ (by kernel_rfl) (by kernel_rfl) (fun _ => pf_s rfl rfl rfl) (fun P_9 => ?_)
     refine sim_p 10 (v := undef) (ei := [(49, .bool false), (54, undef), (55, undef)]) (d := (some 56)) wf (by kernel_rfl) ⟨rfl, rfl, rfl, trivial⟩ (by kernel_rfl) (by kernel_rfl) (fun _ => pf_s rfl rfl rfl) (fun P_10 => ?_)
     refine sim_p 11 (v := undef) (ei := [(49, .bool false), (56, undef)]) (d := (some 57)) wf (by kernel_rfl) ⟨rfl, rfl, trivial⟩ (by kernel_rfl) (by kernel_rfl) (fun _ => pf_s rfl rfl rfl) (fun P_11 => ?_)
     refine sim_p 12 (v := undef) (ei := [(49, .bool false), (53, undef), (57, undef)]) (d := (some 58)) wf (by kernel_rfl) ⟨rfl, rfl, rfl, trivial⟩ (by kernel_rfl) (by kernel_rfl) (fun _ => pf_s rfl rfl rfl) (fun P_12 => ?_)
     refine sim_p 13 (v := undef) (ei := [(49, .bool false), (58, undef)]) (d := (some 59)) wf (by kernel_rfl) ⟨rfl, rfl, trivial⟩ (by kernel_rfl) (by kernel_rfl) (fun _ => pf_s rfl rfl rfl) (fun P_13 => ?_)
     refine sQ 14 [(49, .bool false), (59, undef)] (some 60) tok wf ⟨rfl, rfl, trivial⟩ (fun P_14 => ?_)
     refine sim_end wf ⟨P_14 _, P_13 _, P_12 _, P_11 _, P_10 _, P_9 _, P_8 _, P_7 _, P_6 _, P_5 _, P_4 _, P_3 _, P_2 _, P_1 _, P_0 _, trivial⟩ (by kernel_rfl) ?_
     clear wf P_0 P_1 P_10 P_11 P_12 P_13 P_14 P_2 P_3 P_4 P_5 P_6 P_7 P_8 P_9
     exact x_join false H ⟨rfl, rfl, rfl, rfl, rfl, trivial⟩
 ·
  refine c_sim [(0, Slc.v p0), (1, .int .i64 p1), (10, .int .i64 t10_1), (11, .int .i64 x10)] (by kernel_rfl) (by kernel_rfl) ⟨rfl, rfl, rfl, rfl, trivial⟩ (fun wf => ?_)
  refine sQ 0 [(10, .int .i64 t10_1)] (some 30) tok wf ⟨rfl, trivial⟩ (fun P_0 => ?_)
  refine sQ 1 [(11, .int .i64 x10)] (some 31) tok wf ⟨rfl, trivial⟩ (fun P_1 => ?_)
  refine sQ 2 [(30, .int .i64 t10_1), (31, .int .i64 x10)] (some 32) tok wf ⟨rfl, rfl, trivial⟩ (fun P_2 => ?_)
  refine sQ 3 [(32, .bool (decide (t10_1 ≤ x10)))] (some 33) tok wf ⟨rfl, trivial⟩ (fun P_3 => ?_)
  refine sim_gif 33 H rfl (fun hb H => ?_) (fun hb H => ?_)
  ·
   refine sQ 4 [(0, Slc.v p0), (33, .bool true)] (some 34) tok wf ⟨rfl, rfl, trivial⟩ (fun P_4 => ?_)
   refine sQ 5 [(10, .int .i64 t10_1), (33, .bool true)] (some 35) tok wf ⟨rfl, rfl, trivial⟩ (fun P_5 => ?_)
   obtain ⟨a69, ha69, la69, ua69, H⟩ := H
   refine sP 6 [(33, .bool true), (34, Slc.v p0), (35, .int .i64 t10_1)] (some 36) wf ⟨rfl, rfl, rfl, trivial⟩ (fun _ => pf_y rfl rfl rfl (y_ixa' tok rfl rfl ha69 rfl rfl rfl la69 ua69)) (fun P_6 => ?_)
   obtain ⟨v70, hv70, H⟩ := H
   refine sL 7 [(33, .bool true), (36, .pointer (some (a69.add (t10_1.toNat * 1))))] (some 37) wf ⟨rfl, rfl, trivial⟩ (pf_y rfl rfl rfl (y_ld tok rfl rfl rfl rfl hv70)) (fun P_7 => ?_)
   refine sQ 8 [(0, Slc.v p0), (33, .bool true)] (some 38) tok wf ⟨rfl, rfl, trivial⟩ (fun P_8 => ?_)
   refine sQ 9 [(1, .int .i64 p1), (33, .bool true)] (some 39) tok wf ⟨rfl, rfl, trivial⟩ (fun P_9 => ?_)
   obtain ⟨a71, ha71, la71, ua71, H⟩ := H
   refine sP 10 [(33, .bool true), (38, Slc.v p0), (39, .int .i64 p1)] (some 40) wf ⟨rfl, rfl, rfl, trivial⟩ (fun _ => pf_y rfl rfl rfl (y_ixa' tok rfl rfl ha71 rfl rfl rfl la71 ua71)) (fun P_10 => ?_)
   obtain ⟨v72, hv72, H⟩ := H
   refine sL 11 [(33, .bool true), (40, .pointer (some (a71.add (p1.toNat * 1))))] (some 41) wf ⟨rfl, rfl, trivial⟩ (pf_y rfl rfl rfl (y_ld tok rfl rfl rfl rfl hv72)) (fun P_11 => ?_)
   refine sim_c 12 [0, 1, 2, 3, 4, 5, 6, 7, 8, 9, 10, 11] [0, 1, 2, 3, 4, 5, 6, 7, 8, 9, 10, 11] (ei := [(33, .bool true), (37, .int .u64 v70), (41, .int .u64 v72)]) cmp_Less_uint64_ok (cmp_Less_uint64_ref _ _ _ _ H) wf ⟨P_11, P_10 _, P_9 _, P_8 _, P_7, P_6 _, P_5 _, P_4 _, P_3 _, P_2 _, P_1 _, P_0 _, trivial⟩ (by kernel_rfl) ⟨rfl, rfl, rfl, trivial⟩ (by kernel_rfl) rfl rfl rfl rfl rfl ?_
   rintro _ h74 ⟨r73, rfl, H⟩
   refine sQ 13 [(33, .bool true), (42, .bool r73)] (some 43) tok wf ⟨rfl, rfl, trivial⟩ (fun P_13 => ?_)
   refine sim_end wf ⟨P_13 _, trivial, trivial, trivial, trivial, trivial, trivial, trivial, trivial, trivial, trivial, trivial, trivial, trivial⟩ (by kernel_rfl) ?_
   clear wf P_0 P_1 P_10 P_11 P_13 P_2 P_3 P_4 P_5 P_6 P_7 P_8 P_9
   exact x_join r73 H ⟨rfl, rfl, rfl, rfl, rfl, trivial⟩
  ·
   refine sim_p 4 (v := undef) (ei := [(0, Slc.v p0), (33, .bool false)]) (d := (some 34)) wf (by kernel_rfl) ⟨rfl, rfl, trivial⟩ (by kernel_rfl) (by kernel_rfl) (fun _ => pf_s rfl rfl rfl) (fun P_4 => ?_)
   refine sim_p 5 (v := undef) (ei := [(10, .int .i64 t10_1), (33, .bool false)]) (d := (some 35)) wf (by kernel_rfl) ⟨rfl, rfl, trivial⟩ (by kernel_rfl) (by kernel_rfl) (fun _ => pf_s rfl rfl rfl) (fun P_5 => ?_)
   refine sim_p 6 (v := undef) (ei := [(33, .bool false), (34, undef), (35, undef)]) (d := (some 36)) wf (by kernel_rfl) ⟨rfl, rfl, rfl, trivial⟩ (by kernel_rfl) (by kernel_rfl) (fun _ => pf_s rfl rfl rfl) (fun P_6 => ?_)
   refine sim_p 7 (v := undef) (ei := [(33, .bool false), (36, undef)]) (d := (some 37)) wf (by kernel_rfl) ⟨rfl, rfl, trivial⟩ (by kernel_rfl) (by kernel_rfl) (fun _ => pf_s rfl rfl rfl) (fun P_7 => ?_)
   refine sim_p 8 (v := undef) (ei := [(0, Slc.v p0), (33, .bool false)]) (d := (some 38)) wf (by kernel_rfl) ⟨rfl, rfl, trivial⟩ (by kernel_rfl) (by kernel_rfl) (fun _ => pf_s rfl rfl rfl) (fun P_8 => ?_)
   refine sim_p 9 (v := undef) (ei := [(1, .int .i64 p1), (33, .bool false)]) (d := (some 39)) wf (by kernel_rfl) ⟨rfl, rfl, trivial⟩ (by kernel_rfl) (by kernel_rfl) (fun _ => pf_s rfl rfl rfl) (fun P_9 => ?_)
   refine sim_p 10 (v := undef) (ei := [(33, .bool false), (38, undef), (39, undef)]) (d := (some 40)) wf (by kernel_rfl) ⟨rfl, rfl, rfl, trivial⟩ (by kernel_rfl) (by kernel_rfl) (fun _ => pf_s rfl rfl rfl) (fun P_10 => ?_)
   refine sim_p 11 (v := undef) (ei := [(33, .bool false), (40, undef)]) (d := (some 41)) wf (by kernel_rfl) ⟨rfl, rfl, trivial⟩ (by kernel_rfl) (by kernel_rfl) (fun _ => pf_s rfl rfl rfl) (fun P_11 => ?_)
   refine sim_p 12 (v := undef) (ei := [(33, .bool false), (37, undef), (41, undef)]) (d := (some 42)) wf (by kernel_rfl) ⟨rfl, rfl, rfl, trivial⟩ (by kernel_rfl) (by kernel_rfl) (fun _ => pf_s rfl rfl rfl) (fun P_12 => ?_)
   refine sQ 13 [(33, .bool false), (42, undef)] (some 43) tok wf ⟨rfl, rfl, trivial⟩ (fun P_13 => ?_)
   refine sim_end wf ⟨P_13 _, P_12 _, P_11 _, P_10 _, P_9 _, P_8 _, P_7 _, P_6 _, P_5 _, P_4 _, P_3 _, P_2 _, P_1 _, P_0 _, trivial⟩ (by kernel_rfl) ?_
   clear wf P_0 P_1 P_10 P_11 P_12 P_13 P_2 P_3 P_4 P_5 P_6 P_7 P_8 P_9
   exact x_join false H ⟨rfl, rfl, rfl, rfl, rfl, trivial⟩
end Go.Q.Yh

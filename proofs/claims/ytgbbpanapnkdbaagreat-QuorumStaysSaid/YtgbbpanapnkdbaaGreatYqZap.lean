/- A part of the proof of statements of this seat: lemmas, no statement of their own. -/
import Derived.Test.YtgbbpanapnkdbaaGreatYqZad
import Derived.Test.YtgbbpanapnkdbaaGreatYqZae
import Derived.Test.YtgbbpanapnkdbaaGreatYqZao
set_option linter.unusedVariables false
set_option linter.unusedSimpArgs false
section
set_option maxRecDepth 100000
set_option maxHeartbeats 1000000
namespace Go.Q.Yq
open Go.Proofs.Tryz
/-- slices.siftDownOrdered uint64  -/
def slices_siftDownOrdered_uint64_j2 (t0_2:Slc) (t2_2:Int) (t3_2:Int) (t8_2:Int) (t9_2:Int) (k:(Unit)->Heap->Prop) (nx1:(Int)->Heap->Prop) (h_2:Heap):Prop :=
  ∃ a2:Addr,t0_2.a=some a2/\(0:Int)<=(IntKind.i64.wrap (t3_2 + t8_2))/\(IntKind.i64.wrap (t3_2 + t8_2)) < (t0_2.len:Int)/\(∃ v3:Int,cellH h_2 (a2.add ((IntKind.i64.wrap (t3_2 + t8_2)).toNat * 1))=some (.int .u64 v3)/\(∃ a4:Addr,t0_2.a=some a4/\(0:Int)<=(IntKind.i64.wrap (t3_2 + t9_2))/\(IntKind.i64.wrap (t3_2 + t9_2)) < (t0_2.len:Int)/\(∃ v5:Int,cellH h_2 (a4.add ((IntKind.i64.wrap (t3_2 + t9_2)).toNat * 1))=some (.int .u64 v5)/\(cmp_Less_uint64 v3 v5 (fun (r6:Bool) h7=>if (!r6) then (k () h7) else (∃ a8:Addr,t0_2.a=some a8/\(0:Int)<=(IntKind.i64.wrap (t3_2 + t9_2))/\(IntKind.i64.wrap (t3_2 + t9_2)) < (t0_2.len:Int)/\(∃ v9:Int,cellH h7 (a8.add ((IntKind.i64.wrap (t3_2 + t9_2)).toNat * 1))=some (.int .u64 v9)/\(∃ a10:Addr,t0_2.a=some a10/\(0:Int)<=(IntKind.i64.wrap (t3_2 + t8_2))/\(IntKind.i64.wrap (t3_2 + t8_2)) < (t0_2.len:Int)/\(∃ v11:Int,cellH h7 (a10.add ((IntKind.i64.wrap (t3_2 + t8_2)).toNat * 1))=some (.int .u64 v11)/\(∃ a12:Addr,t0_2.a=some a12/\(0:Int)<=(IntKind.i64.wrap (t3_2 + t8_2))/\(IntKind.i64.wrap (t3_2 + t8_2)) < (t0_2.len:Int)/\(∃ h13:Heap,WrH h7 (a12.add ((IntKind.i64.wrap (t3_2 + t8_2)).toNat * 1))/\h13=setH h7 (a12.add ((IntKind.i64.wrap (t3_2 + t8_2)).toNat * 1)) (.int .u64 v9)/\(∃ a14:Addr,t0_2.a=some a14/\(0:Int)<=(IntKind.i64.wrap (t3_2 + t9_2))/\(IntKind.i64.wrap (t3_2 + t9_2)) < (t0_2.len:Int)/\(∃ h15:Heap,WrH h13 (a14.add ((IntKind.i64.wrap (t3_2 + t9_2)).toNat * 1))/\h15=setH h13 (a14.add ((IntKind.i64.wrap (t3_2 + t9_2)).toNat * 1)) (.int .u64 v11)/\(nx1 t9_2 h15)))))))))) h_2))))
def slices_siftDownOrdered_uint64_j3 (t0_3:Slc) (t2_3:Int) (t3_3:Int) (t8_3:Int) (t9_3:Int) (t36_3:Bool) (k:(Unit)->Heap->Prop) (nx1:(Int)->Heap->Prop) (h_3:Heap):Prop :=
  if t36_3 then (∃ x16:Int,x16=(IntKind.i64.wrap (t9_3 + 1))/\(slices_siftDownOrdered_uint64_j2 t0_3 t2_3 t3_3 t8_3 x16 k nx1 h_3)) else (slices_siftDownOrdered_uint64_j2 t0_3 t2_3 t3_3 t8_3 t9_3 k nx1 h_3)
def slices_siftDownOrdered_uint64_l1b (t0_1:Slc) (t2_1:Int) (t3_1:Int) (t8_1:Int) (k:(Unit)->Heap->Prop) (nx1:(Int)->Heap->Prop) (h_1:Heap):Prop :=
  ∃ x1:Int,x1=(IntKind.i64.wrap ((IntKind.i64.wrap (2 * t8_1)) + 1))/\(if (decide (x1>=t2_1)) then (k () h_1) else (if (decide ((IntKind.i64.wrap (x1 + 1)) < t2_1)) then (∃ a17:Addr,t0_1.a=some a17/\(0:Int)<=(IntKind.i64.wrap (t3_1 + x1))/\(IntKind.i64.wrap (t3_1 + x1)) < (t0_1.len:Int)/\(∃ v18:Int,cellH h_1 (a17.add ((IntKind.i64.wrap (t3_1 + x1)).toNat * 1))=some (.int .u64 v18)/\(∃ a19:Addr,t0_1.a=some a19/\(0:Int)<=(IntKind.i64.wrap ((IntKind.i64.wrap (t3_1 + x1)) + 1))/\(IntKind.i64.wrap ((IntKind.i64.wrap (t3_1 + x1)) + 1)) < (t0_1.len:Int)/\(∃ v20:Int,cellH h_1 (a19.add ((IntKind.i64.wrap ((IntKind.i64.wrap (t3_1 + x1)) + 1)).toNat * 1))=some (.int .u64 v20)/\(cmp_Less_uint64 v18 v20 (fun (r21:Bool) h22=>slices_siftDownOrdered_uint64_j3 t0_1 t2_1 t3_1 t8_1 x1 r21 k nx1 h22) h_1))))) else (slices_siftDownOrdered_uint64_j3 t0_1 t2_1 t3_1 t8_1 x1 false k nx1 h_1)))
def slices_siftDownOrdered_uint64_l1 (t0_1:Slc) (t2_1:Int) (t3_1:Int) (i8:Int) (k:(Unit)->Heap->Prop) (h:Heap):Prop :=
  ∃ (I:Int->Heap->Prop) (μ:Int->Heap->Nat),I i8 h/\∀ (t8_1:Int) (h:Heap),I t8_1 h->slices_siftDownOrdered_uint64_l1b t0_1 t2_1 t3_1 t8_1 k (fun s h'=>I s h'/\μ s h' < μ t8_1 h) h
def slices_siftDownOrdered_uint64 (p0:Slc) (p1:Int) (p2:Int) (p3:Int) (k:(Unit)->Heap->Prop) (h:Heap):Prop :=
  slices_siftDownOrdered_uint64_l1 p0 p2 p3 p1 k h
/-- slices.heapSortOrdered uint64  -/
def slices_heapSortOrdered_uint64_l2b (t0_2:Slc) (t6_2:Int) (t7_2:Int) (t10_2:Int) (k:(Unit)->Heap->Prop) (nx1:(Int)->Heap->Prop) (nx2:(Int)->Heap->Prop) (h_2:Heap):Prop :=
  if (decide (t10_2>=0)) then (∃ a7:Addr,t0_2.a=some a7/\(0:Int)<=(IntKind.i64.wrap (t6_2 + t10_2))/\(IntKind.i64.wrap (t6_2 + t10_2)) < (t0_2.len:Int)/\(∃ v8:Int,cellH h_2 (a7.add ((IntKind.i64.wrap (t6_2 + t10_2)).toNat * 1))=some (.int .u64 v8)/\(∃ a9:Addr,t0_2.a=some a9/\(0:Int)<=t6_2/\t6_2 < (t0_2.len:Int)/\(∃ v10:Int,cellH h_2 (a9.add (t6_2.toNat * 1))=some (.int .u64 v10)/\(∃ a11:Addr,t0_2.a=some a11/\(0:Int)<=t6_2/\t6_2 < (t0_2.len:Int)/\(∃ h12:Heap,WrH h_2 (a11.add (t6_2.toNat * 1))/\h12=setH h_2 (a11.add (t6_2.toNat * 1)) (.int .u64 v8)/\(∃ a13:Addr,t0_2.a=some a13/\(0:Int)<=(IntKind.i64.wrap (t6_2 + t10_2))/\(IntKind.i64.wrap (t6_2 + t10_2)) < (t0_2.len:Int)/\(∃ h14:Heap,WrH h12 (a13.add ((IntKind.i64.wrap (t6_2 + t10_2)).toNat * 1))/\h14=setH h12 (a13.add ((IntKind.i64.wrap (t6_2 + t10_2)).toNat * 1)) (.int .u64 v10)/\(slices_siftDownOrdered_uint64 t0_2 t7_2 t10_2 t6_2 (fun (r15:Unit) h16=>∃ x17:Int,x17=(IntKind.i64.wrap (t10_2 - 1))/\(nx2 x17 h16)) h14))))))))) else (k () h_2)
def slices_heapSortOrdered_uint64_l2 (t0_2:Slc) (t6_2:Int) (t7_2:Int) (i10:Int) (k:(Unit)->Heap->Prop) (nx1:(Int)->Heap->Prop) (h:Heap):Prop :=
  ∃ (I:Int->Heap->Prop) (μ:Int->Heap->Nat),I i10 h/\∀ (t10_2:Int) (h:Heap),I t10_2 h->slices_heapSortOrdered_uint64_l2b t0_2 t6_2 t7_2 t10_2 k nx1 (fun s h'=>I s h'/\μ s h' < μ t10_2 h) h
def slices_heapSortOrdered_uint64_l1b (t0_1:Slc) (t6_1:Int) (t7_1:Int) (t8_1:Int) (t9_1:Int) (k:(Unit)->Heap->Prop) (nx1:(Int)->Heap->Prop) (h_1:Heap):Prop :=
  if (decide (t9_1>=0)) then (slices_siftDownOrdered_uint64 t0_1 t9_1 t8_1 t6_1 (fun (r3:Unit) h4=>∃ x5:Int,x5=(IntKind.i64.wrap (t9_1 - 1))/\(nx1 x5 h4)) h_1) else (∃ x6:Int,x6=(IntKind.i64.wrap (t8_1 - 1))/\(slices_heapSortOrdered_uint64_l2 t0_1 t6_1 t7_1 x6 k nx1 h_1))
def slices_heapSortOrdered_uint64_l1 (t0_1:Slc) (t6_1:Int) (t7_1:Int) (t8_1:Int) (i9:Int) (k:(Unit)->Heap->Prop) (h:Heap):Prop :=
  ∃ (I:Int->Heap->Prop) (μ:Int->Heap->Nat),I i9 h/\∀ (t9_1:Int) (h:Heap),I t9_1 h->slices_heapSortOrdered_uint64_l1b t0_1 t6_1 t7_1 t8_1 t9_1 k (fun s h'=>I s h'/\μ s h' < μ t9_1 h) h
def slices_heapSortOrdered_uint64 (p0:Slc) (p1:Int) (p2:Int) (k:(Unit)->Heap->Prop) (h:Heap):Prop :=
  ∃ x1:Int,x1=(IntKind.i64.wrap (p2 - p1))/\(∃ x2:Int,x2=(IntKind.i64.wrap (Int.tdiv (IntKind.i64.wrap (x1 - 1)) 2))/\(slices_heapSortOrdered_uint64_l1 p0 p1 0 x1 x2 k h))
/-- slices.nextPowerOfTwo -/
def slices_nextPowerOfTwo (p0:Int) (k:(Int)->Heap->Prop) (h:Heap):Prop :=
  math_bits_Len (IntKind.u64.wrap p0) (fun (r1:Int) h2=>(0:Int)<=r1/\(∃ x4:Int,x4=(shl .u64 1 r1.toNat)/\(k x4 h2))) h
/-- (*slices.xorshift).Next -/
def slices_xorshift_Next (p0:Option Addr) (k:(Int)->Heap->Prop) (h:Heap):Prop :=
  ∃ a1:Addr,p0=some a1/\(∃ v2:Int,cellH h a1=some (.int .u64 v2)/\(∃ v3:Int,cellH h a1=some (.int .u64 v3)/\(∃ h4:Heap,WrH h a1/\h4=setH h a1 (.int .u64 (bwXor .u64 v2 (shl .u64 v3 (13:Int).toNat)))/\(∃ v5:Int,cellH h4 a1=some (.int .u64 v5)/\(∃ v6:Int,cellH h4 a1=some (.int .u64 v6)/\(∃ h7:Heap,WrH h4 a1/\h7=setH h4 a1 (.int .u64 (bwXor .u64 v5 (shr .u64 v6 (7:Int).toNat)))/\(∃ v8:Int,cellH h7 a1=some (.int .u64 v8)/\(∃ v9:Int,cellH h7 a1=some (.int .u64 v9)/\(∃ h10:Heap,WrH h7 a1/\h10=setH h7 a1 (.int .u64 (bwXor .u64 v8 (shl .u64 v9 (17:Int).toNat)))/\(∃ v11:Int,cellH h10 a1=some (.int .u64 v11)/\(k v11 h10)))))))))))
/-- slices.breakPatternsOrdered uint64  -/
def slices_breakPatternsOrdered_uint64_j2 (t0_2:Slc) (t1_2:Int) (t6_2:Int) (t7_2:Addr) (t8_2:Int) (t9_2:Int) (t10_2:Int) (k:(Unit)->Heap->Prop) (nx1:(Int)->Heap->Prop) (h_2:Heap):Prop :=
  ∃ a11:Addr,t0_2.a=some a11/\(0:Int)<=(IntKind.i64.wrap (t1_2 + t10_2))/\(IntKind.i64.wrap (t1_2 + t10_2)) < (t0_2.len:Int)/\(∃ v12:Int,cellH h_2 (a11.add ((IntKind.i64.wrap (t1_2 + t10_2)).toNat * 1))=some (.int .u64 v12)/\(∃ a13:Addr,t0_2.a=some a13/\(0:Int)<=t9_2/\t9_2 < (t0_2.len:Int)/\(∃ v14:Int,cellH h_2 (a13.add (t9_2.toNat * 1))=some (.int .u64 v14)/\(∃ a15:Addr,t0_2.a=some a15/\(0:Int)<=t9_2/\t9_2 < (t0_2.len:Int)/\(∃ h16:Heap,WrH h_2 (a15.add (t9_2.toNat * 1))/\h16=setH h_2 (a15.add (t9_2.toNat * 1)) (.int .u64 v12)/\(∃ a17:Addr,t0_2.a=some a17/\(0:Int)<=(IntKind.i64.wrap (t1_2 + t10_2))/\(IntKind.i64.wrap (t1_2 + t10_2)) < (t0_2.len:Int)/\(∃ h18:Heap,WrH h16 (a17.add ((IntKind.i64.wrap (t1_2 + t10_2)).toNat * 1))/\h18=setH h16 (a17.add ((IntKind.i64.wrap (t1_2 + t10_2)).toNat * 1)) (.int .u64 v14)/\(∃ x19:Int,x19=(IntKind.i64.wrap (t9_2 + 1))/\(nx1 x19 h18)))))))))
def slices_breakPatternsOrdered_uint64_l1b (t0_1:Slc) (t1_1:Int) (t6_1:Int) (t7_1:Addr) (t8_1:Int) (t9_1:Int) (k:(Unit)->Heap->Prop) (nx1:(Int)->Heap->Prop) (h_1:Heap):Prop :=
  if (decide (t9_1<=(IntKind.i64.wrap ((IntKind.i64.wrap (t1_1 + (IntKind.i64.wrap ((IntKind.i64.wrap (Int.tdiv t6_1 4)) * 2)))) + 1)))) then (slices_xorshift_Next (some t7_1) (fun (r8:Int) h9=>∃ x10:Int,x10=(IntKind.i64.wrap (bwAnd .u64 r8 (IntKind.u64.wrap (t8_1 - 1))))/\(if (decide (x10>=t6_1)) then (∃ x20:Int,x20=(IntKind.i64.wrap (x10 - t6_1))/\(slices_breakPatternsOrdered_uint64_j2 t0_1 t1_1 t6_1 t7_1 t8_1 t9_1 x20 k nx1 h9)) else (slices_breakPatternsOrdered_uint64_j2 t0_1 t1_1 t6_1 t7_1 t8_1 t9_1 x10 k nx1 h9))) h_1) else (k () h_1)
def slices_breakPatternsOrdered_uint64_l1 (t0_1:Slc) (t1_1:Int) (t6_1:Int) (t7_1:Addr) (t8_1:Int) (i9:Int) (k:(Unit)->Heap->Prop) (h:Heap):Prop :=
  ∃ (I:Int->Heap->Prop) (μ:Int->Heap->Nat),I i9 h/\∀ (t9_1:Int) (h:Heap),I t9_1 h->slices_breakPatternsOrdered_uint64_l1b t0_1 t1_1 t6_1 t7_1 t8_1 t9_1 k (fun s h'=>I s h'/\μ s h' < μ t9_1 h) h
def slices_breakPatternsOrdered_uint64 (p0:Slc) (p1:Int) (p2:Int) (k:(Unit)->Heap->Prop) (h:Heap):Prop :=
  ∃ x1:Int,x1=(IntKind.i64.wrap (p2 - p1))/\(if (decide (x1>=8)) then (∃ (b2:Nat) (h3:Heap),b2=h.size/\h3=h.push (.cells ([.int .u64 0]).toArray 218)/\(∃ h4:Heap,WrH h3 (⟨b2,0,none⟩:Addr)/\h4=setH h3 (⟨b2,0,none⟩:Addr) (.int .u64 (IntKind.u64.wrap x1))/\(slices_nextPowerOfTwo x1 (fun (r5:Int) h6=>∃ x7:Int,x7=(IntKind.i64.wrap ((IntKind.i64.wrap (p1 + (IntKind.i64.wrap ((IntKind.i64.wrap (Int.tdiv x1 4)) * 2)))) - 1))/\(slices_breakPatternsOrdered_uint64_l1 p0 p1 x1 (⟨b2,0,none⟩:Addr) r5 x7 k h6)) h4))) else (k () h))
/-- slices.order2Ordered uint64  -/
def slices_order2Ordered_uint64 (p0:Slc) (p1:Int) (p2:Int) (p3:Option Addr) (k:(Int × Int)->Heap->Prop) (h:Heap):Prop :=
  ∃ a1:Addr,p0.a=some a1/\(0:Int)<=p2/\p2 < (p0.len:Int)/\(∃ v2:Int,cellH h (a1.add (p2.toNat * 1))=some (.int .u64 v2)/\(∃ a3:Addr,p0.a=some a3/\(0:Int)<=p1/\p1 < (p0.len:Int)/\(∃ v4:Int,cellH h (a3.add (p1.toNat * 1))=some (.int .u64 v4)/\(cmp_Less_uint64 v2 v4 (fun (r5:Bool) h6=>if r5 then (∃ a7:Addr,p3=some a7/\(∃ v8:Int,cellH h6 a7=some (.int .i64 v8)/\(∃ h9:Heap,WrH h6 a7/\h9=setH h6 a7 (.int .i64 (IntKind.i64.wrap (v8 + 1)))/\(k (p2,p1) h9)))) else (k (p1,p2) h6)) h))))
/-- slices.medianOrdered uint64  -/
def slices_medianOrdered_uint64 (p0:Slc) (p1:Int) (p2:Int) (p3:Int) (p4:Option Addr) (k:(Int)->Heap->Prop) (h:Heap):Prop :=
  slices_order2Ordered_uint64 p0 p1 p2 p4 (fun (r1:Int × Int) h2=>slices_order2Ordered_uint64 p0 r1.2 p3 p4 (fun (r3:Int × Int) h4=>slices_order2Ordered_uint64 p0 r1.1 r3.1 p4 (fun (r5:Int × Int) h6=>k r5.2 h6) h4) h2) h
/-- slices.medianAdjacentOrdered uint64  -/
def slices_medianAdjacentOrdered_uint64 (p0:Slc) (p1:Int) (p2:Option Addr) (k:(Int)->Heap->Prop) (h:Heap):Prop :=
  slices_medianOrdered_uint64 p0 (IntKind.i64.wrap (p1 - 1)) p1 (IntKind.i64.wrap (p1 + 1)) p2 (fun (r1:Int) h2=>k r1 h2) h
/-- slices.choosePivotOrdered uint64  -/
def slices_choosePivotOrdered_uint64_j1 (t9_1:Addr) (t11_1:Int) (k:(Int × Int)->Heap->Prop) (h_1:Heap):Prop :=
  ∃ v7:Int,cellH h_1 t9_1=some (.int .i64 v7)/\(if (v7 == 0) then (k (t11_1,1) h_1) else (if (v7 == 12) then (k (t11_1,2) h_1) else (k (t11_1,0) h_1)))
def slices_choosePivotOrdered_uint64_j2 (t0_2:Slc) (t9_2:Addr) (t10_2:Int) (t11_2:Int) (t12_2:Int) (k:(Int × Int)->Heap->Prop) (h_2:Heap):Prop :=
  slices_medianOrdered_uint64 t0_2 t10_2 t11_2 t12_2 (some t9_2) (fun (r8:Int) h9=>slices_choosePivotOrdered_uint64_j1 t9_2 r8 k h9) h_2
def slices_choosePivotOrdered_uint64 (p0:Slc) (p1:Int) (p2:Int) (k:(Int × Int)->Heap->Prop) (h:Heap):Prop :=
  ∃ x1:Int,x1=(IntKind.i64.wrap (p2 - p1))/\(∃ (b2:Nat) (h3:Heap),b2=h.size/\h3=h.push (.cells ([.int .i64 0]).toArray 3)/\(∃ x4:Int,x4=(IntKind.i64.wrap (p1 + (IntKind.i64.wrap ((IntKind.i64.wrap (Int.tdiv x1 4)) * 1))))/\(∃ x5:Int,x5=(IntKind.i64.wrap (p1 + (IntKind.i64.wrap ((IntKind.i64.wrap (Int.tdiv x1 4)) * 2))))/\(∃ x6:Int,x6=(IntKind.i64.wrap (p1 + (IntKind.i64.wrap ((IntKind.i64.wrap (Int.tdiv x1 4)) * 3))))/\(if (decide (x1>=8)) then (if (decide (x1>=50)) then (slices_medianAdjacentOrdered_uint64 p0 x4 (some (⟨b2,0,none⟩:Addr)) (fun (r10:Int) h11=>slices_medianAdjacentOrdered_uint64 p0 x5 (some (⟨b2,0,none⟩:Addr)) (fun (r12:Int) h13=>slices_medianAdjacentOrdered_uint64 p0 x6 (some (⟨b2,0,none⟩:Addr)) (fun (r14:Int) h15=>slices_choosePivotOrdered_uint64_j2 p0 (⟨b2,0,none⟩:Addr) r10 r12 r14 k h15) h13) h11) h3) else (slices_choosePivotOrdered_uint64_j2 p0 (⟨b2,0,none⟩:Addr) x4 x5 x6 k h3)) else (slices_choosePivotOrdered_uint64_j1 (⟨b2,0,none⟩:Addr) x5 k h3))))))
/-- slices.reverseRangeOrdered uint64  -/
def slices_reverseRangeOrdered_uint64_l1b (t0_1:Slc) (t6_1:Int) (t7_1:Int) (k:(Unit)->Heap->Prop) (nx1:(Int × Int)->Heap->Prop) (h_1:Heap):Prop :=
  if (decide (t6_1 < t7_1)) then (∃ a2:Addr,t0_1.a=some a2/\(0:Int)<=t7_1/\t7_1 < (t0_1.len:Int)/\(∃ v3:Int,cellH h_1 (a2.add (t7_1.toNat * 1))=some (.int .u64 v3)/\(∃ a4:Addr,t0_1.a=some a4/\(0:Int)<=t6_1/\t6_1 < (t0_1.len:Int)/\(∃ v5:Int,cellH h_1 (a4.add (t6_1.toNat * 1))=some (.int .u64 v5)/\(∃ a6:Addr,t0_1.a=some a6/\(0:Int)<=t6_1/\t6_1 < (t0_1.len:Int)/\(∃ h7:Heap,WrH h_1 (a6.add (t6_1.toNat * 1))/\h7=setH h_1 (a6.add (t6_1.toNat * 1)) (.int .u64 v3)/\(∃ a8:Addr,t0_1.a=some a8/\(0:Int)<=t7_1/\t7_1 < (t0_1.len:Int)/\(∃ h9:Heap,WrH h7 (a8.add (t7_1.toNat * 1))/\h9=setH h7 (a8.add (t7_1.toNat * 1)) (.int .u64 v5)/\(∃ x10:Int,x10=(IntKind.i64.wrap (t6_1 + 1))/\(∃ x11:Int,x11=(IntKind.i64.wrap (t7_1 - 1))/\(nx1 (x10,x11) h9))))))))))) else (k () h_1)
def slices_reverseRangeOrdered_uint64_l1 (t0_1:Slc) (i6:Int) (i7:Int) (k:(Unit)->Heap->Prop) (h:Heap):Prop :=
  ∃ (I:(Int × Int)->Heap->Prop) (μ:(Int × Int)->Heap->Nat),I (i6,i7) h/\∀ (t6_1:Int) (t7_1:Int) (h:Heap),I (t6_1,t7_1) h->slices_reverseRangeOrdered_uint64_l1b t0_1 t6_1 t7_1 k (fun s h'=>I s h'/\μ s h' < μ (t6_1,t7_1) h) h
def slices_reverseRangeOrdered_uint64 (p0:Slc) (p1:Int) (p2:Int) (k:(Unit)->Heap->Prop) (h:Heap):Prop :=
  ∃ x1:Int,x1=(IntKind.i64.wrap (p2 - 1))/\(slices_reverseRangeOrdered_uint64_l1 p0 p1 x1 k h)
/-- slices.partialInsertionSortOrdered uint64  -/
def slices_partialInsertionSortOrdered_uint64_j2 (t0_2:Slc) (t1_2:Int) (t2_2:Int) (t8_2:Int) (t7_2:Int) (k:(Bool)->Heap->Prop) (nx1:(Int × Int)->Heap->Prop) (h_2:Heap):Prop :=
  ∃ x2:Int,x2=(IntKind.i64.wrap (t8_2 + 1))/\(nx1 (t7_2,x2) h_2)
def slices_partialInsertionSortOrdered_uint64_l6b (t0_6:Slc) (t1_6:Int) (t2_6:Int) (t7_6:Int) (t8_6:Int) (t10_6:Int) (k:(Bool)->Heap->Prop) (nx1:(Int × Int)->Heap->Prop) (nx3:(Int)->Heap->Prop) (nx6:(Int)->Heap->Prop) (h_6:Heap):Prop :=
  if (decide (t10_6 < t2_6)) then (∃ a13:Addr,t0_6.a=some a13/\(0:Int)<=t10_6/\t10_6 < (t0_6.len:Int)/\(∃ v14:Int,cellH h_6 (a13.add (t10_6.toNat * 1))=some (.int .u64 v14)/\(∃ a15:Addr,t0_6.a=some a15/\(0:Int)<=(IntKind.i64.wrap (t10_6 - 1))/\(IntKind.i64.wrap (t10_6 - 1)) < (t0_6.len:Int)/\(∃ v16:Int,cellH h_6 (a15.add ((IntKind.i64.wrap (t10_6 - 1)).toNat * 1))=some (.int .u64 v16)/\(cmp_Less_uint64 v14 v16 (fun (r17:Bool) h18=>if (!r17) then (slices_partialInsertionSortOrdered_uint64_j2 t0_6 t1_6 t2_6 t8_6 t7_6 k nx1 h18) else (∃ a19:Addr,t0_6.a=some a19/\(0:Int)<=(IntKind.i64.wrap (t10_6 - 1))/\(IntKind.i64.wrap (t10_6 - 1)) < (t0_6.len:Int)/\(∃ v20:Int,cellH h18 (a19.add ((IntKind.i64.wrap (t10_6 - 1)).toNat * 1))=some (.int .u64 v20)/\(∃ a21:Addr,t0_6.a=some a21/\(0:Int)<=t10_6/\t10_6 < (t0_6.len:Int)/\(∃ v22:Int,cellH h18 (a21.add (t10_6.toNat * 1))=some (.int .u64 v22)/\(∃ a23:Addr,t0_6.a=some a23/\(0:Int)<=t10_6/\t10_6 < (t0_6.len:Int)/\(∃ h24:Heap,WrH h18 (a23.add (t10_6.toNat * 1))/\h24=setH h18 (a23.add (t10_6.toNat * 1)) (.int .u64 v20)/\(∃ a25:Addr,t0_6.a=some a25/\(0:Int)<=(IntKind.i64.wrap (t10_6 - 1))/\(IntKind.i64.wrap (t10_6 - 1)) < (t0_6.len:Int)/\(∃ h26:Heap,WrH h24 (a25.add ((IntKind.i64.wrap (t10_6 - 1)).toNat * 1))/\h26=setH h24 (a25.add ((IntKind.i64.wrap (t10_6 - 1)).toNat * 1)) (.int .u64 v22)/\(∃ x27:Int,x27=(IntKind.i64.wrap (t10_6 + 1))/\(nx6 x27 h26))))))))))) h_6))))) else (slices_partialInsertionSortOrdered_uint64_j2 t0_6 t1_6 t2_6 t8_6 t7_6 k nx1 h_6)
def slices_partialInsertionSortOrdered_uint64_l6 (t0_6:Slc) (t1_6:Int) (t2_6:Int) (t7_6:Int) (t8_6:Int) (i10:Int) (k:(Bool)->Heap->Prop) (nx1:(Int × Int)->Heap->Prop) (nx3:(Int)->Heap->Prop) (h:Heap):Prop :=
  ∃ (I:Int->Heap->Prop) (μ:Int->Heap->Nat),I i10 h/\∀ (t10_6:Int) (h:Heap),I t10_6 h->slices_partialInsertionSortOrdered_uint64_l6b t0_6 t1_6 t2_6 t7_6 t8_6 t10_6 k nx1 nx3 (fun s h'=>I s h'/\μ s h' < μ t10_6 h) h
def slices_partialInsertionSortOrdered_uint64_j5 (t0_5:Slc) (t1_5:Int) (t2_5:Int) (t7_5:Int) (t8_5:Int) (k:(Bool)->Heap->Prop) (nx1:(Int × Int)->Heap->Prop) (nx3:(Int)->Heap->Prop) (h_5:Heap):Prop :=
  if (decide ((IntKind.i64.wrap (t2_5 - t7_5))>=2)) then (∃ x12:Int,x12=(IntKind.i64.wrap (t7_5 + 1))/\(slices_partialInsertionSortOrdered_uint64_l6 t0_5 t1_5 t2_5 t7_5 t8_5 x12 k nx1 nx3 h_5)) else (slices_partialInsertionSortOrdered_uint64_j2 t0_5 t1_5 t2_5 t8_5 t7_5 k nx1 h_5)
def slices_partialInsertionSortOrdered_uint64_l7b (t0_7:Slc) (t1_7:Int) (t2_7:Int) (t7_7:Int) (t8_7:Int) (t9_7:Int) (k:(Bool)->Heap->Prop) (nx1:(Int × Int)->Heap->Prop) (nx3:(Int)->Heap->Prop) (nx7:(Int)->Heap->Prop) (h_7:Heap):Prop :=
  if (decide (t9_7>=1)) then (∃ a29:Addr,t0_7.a=some a29/\(0:Int)<=t9_7/\t9_7 < (t0_7.len:Int)/\(∃ v30:Int,cellH h_7 (a29.add (t9_7.toNat * 1))=some (.int .u64 v30)/\(∃ a31:Addr,t0_7.a=some a31/\(0:Int)<=(IntKind.i64.wrap (t9_7 - 1))/\(IntKind.i64.wrap (t9_7 - 1)) < (t0_7.len:Int)/\(∃ v32:Int,cellH h_7 (a31.add ((IntKind.i64.wrap (t9_7 - 1)).toNat * 1))=some (.int .u64 v32)/\(cmp_Less_uint64 v30 v32 (fun (r33:Bool) h34=>if (!r33) then (slices_partialInsertionSortOrdered_uint64_j5 t0_7 t1_7 t2_7 t7_7 t8_7 k nx1 nx3 h34) else (∃ a35:Addr,t0_7.a=some a35/\(0:Int)<=(IntKind.i64.wrap (t9_7 - 1))/\(IntKind.i64.wrap (t9_7 - 1)) < (t0_7.len:Int)/\(∃ v36:Int,cellH h34 (a35.add ((IntKind.i64.wrap (t9_7 - 1)).toNat * 1))=some (.int .u64 v36)/\(∃ a37:Addr,t0_7.a=some a37/\(0:Int)<=t9_7/\t9_7 < (t0_7.len:Int)/\(∃ v38:Int,cellH h34 (a37.add (t9_7.toNat * 1))=some (.int .u64 v38)/\(∃ a39:Addr,t0_7.a=some a39/\(0:Int)<=t9_7/\t9_7 < (t0_7.len:Int)/\(∃ h40:Heap,WrH h34 (a39.add (t9_7.toNat * 1))/\h40=setH h34 (a39.add (t9_7.toNat * 1)) (.int .u64 v36)/\(∃ a41:Addr,t0_7.a=some a41/\(0:Int)<=(IntKind.i64.wrap (t9_7 - 1))/\(IntKind.i64.wrap (t9_7 - 1)) < (t0_7.len:Int)/\(∃ h42:Heap,WrH h40 (a41.add ((IntKind.i64.wrap (t9_7 - 1)).toNat * 1))/\h42=setH h40 (a41.add ((IntKind.i64.wrap (t9_7 - 1)).toNat * 1)) (.int .u64 v38)/\(∃ x43:Int,x43=(IntKind.i64.wrap (t9_7 - 1))/\(nx7 x43 h42))))))))))) h_7))))) else (slices_partialInsertionSortOrdered_uint64_j5 t0_7 t1_7 t2_7 t7_7 t8_7 k nx1 nx3 h_7)
def slices_partialInsertionSortOrdered_uint64_l7 (t0_7:Slc) (t1_7:Int) (t2_7:Int) (t7_7:Int) (t8_7:Int) (i9:Int) (k:(Bool)->Heap->Prop) (nx1:(Int × Int)->Heap->Prop) (nx3:(Int)->Heap->Prop) (h:Heap):Prop :=
  ∃ (I:Int->Heap->Prop) (μ:Int->Heap->Nat),I i9 h/\∀ (t9_7:Int) (h:Heap),I t9_7 h->slices_partialInsertionSortOrdered_uint64_l7b t0_7 t1_7 t2_7 t7_7 t8_7 t9_7 k nx1 nx3 (fun s h'=>I s h'/\μ s h' < μ t9_7 h) h
def slices_partialInsertionSortOrdered_uint64_j4 (t0_4:Slc) (t1_4:Int) (t2_4:Int) (t7_4:Int) (t8_4:Int) (t32_4:Bool) (k:(Bool)->Heap->Prop) (nx1:(Int × Int)->Heap->Prop) (nx3:(Int)->Heap->Prop) (h_4:Heap):Prop :=
  if t32_4 then (∃ x3:Int,x3=(IntKind.i64.wrap (t7_4 + 1))/\(nx3 x3 h_4)) else (if (t7_4 == t2_4) then (k true h_4) else (if (decide ((IntKind.i64.wrap (t2_4 - t1_4)) < 50)) then (k false h_4) else (∃ a4:Addr,t0_4.a=some a4/\(0:Int)<=(IntKind.i64.wrap (t7_4 - 1))/\(IntKind.i64.wrap (t7_4 - 1)) < (t0_4.len:Int)/\(∃ v5:Int,cellH h_4 (a4.add ((IntKind.i64.wrap (t7_4 - 1)).toNat * 1))=some (.int .u64 v5)/\(∃ a6:Addr,t0_4.a=some a6/\(0:Int)<=t7_4/\t7_4 < (t0_4.len:Int)/\(∃ v7:Int,cellH h_4 (a6.add (t7_4.toNat * 1))=some (.int .u64 v7)/\(∃ a8:Addr,t0_4.a=some a8/\(0:Int)<=t7_4/\t7_4 < (t0_4.len:Int)/\(∃ h9:Heap,WrH h_4 (a8.add (t7_4.toNat * 1))/\h9=setH h_4 (a8.add (t7_4.toNat * 1)) (.int .u64 v5)/\(∃ a10:Addr,t0_4.a=some a10/\(0:Int)<=(IntKind.i64.wrap (t7_4 - 1))/\(IntKind.i64.wrap (t7_4 - 1)) < (t0_4.len:Int)/\(∃ h11:Heap,WrH h9 (a10.add ((IntKind.i64.wrap (t7_4 - 1)).toNat * 1))/\h11=setH h9 (a10.add ((IntKind.i64.wrap (t7_4 - 1)).toNat * 1)) (.int .u64 v7)/\(if (decide ((IntKind.i64.wrap (t7_4 - t1_4))>=2)) then (∃ x28:Int,x28=(IntKind.i64.wrap (t7_4 - 1))/\(slices_partialInsertionSortOrdered_uint64_l7 t0_4 t1_4 t2_4 t7_4 t8_4 x28 k nx1 nx3 h11)) else (slices_partialInsertionSortOrdered_uint64_j5 t0_4 t1_4 t2_4 t7_4 t8_4 k nx1 nx3 h11))))))))))))
def slices_partialInsertionSortOrdered_uint64_l3b (t0_3:Slc) (t1_3:Int) (t2_3:Int) (t8_3:Int) (t7_3:Int) (k:(Bool)->Heap->Prop) (nx1:(Int × Int)->Heap->Prop) (nx3:(Int)->Heap->Prop) (h_3:Heap):Prop :=
  if (decide (t7_3 < t2_3)) then (∃ a44:Addr,t0_3.a=some a44/\(0:Int)<=t7_3/\t7_3 < (t0_3.len:Int)/\(∃ v45:Int,cellH h_3 (a44.add (t7_3.toNat * 1))=some (.int .u64 v45)/\(∃ a46:Addr,t0_3.a=some a46/\(0:Int)<=(IntKind.i64.wrap (t7_3 - 1))/\(IntKind.i64.wrap (t7_3 - 1)) < (t0_3.len:Int)/\(∃ v47:Int,cellH h_3 (a46.add ((IntKind.i64.wrap (t7_3 - 1)).toNat * 1))=some (.int .u64 v47)/\(cmp_Less_uint64 v45 v47 (fun (r48:Bool) h49=>slices_partialInsertionSortOrdered_uint64_j4 t0_3 t1_3 t2_3 t7_3 t8_3 (!r48) k nx1 nx3 h49) h_3))))) else (slices_partialInsertionSortOrdered_uint64_j4 t0_3 t1_3 t2_3 t7_3 t8_3 false k nx1 nx3 h_3)
def slices_partialInsertionSortOrdered_uint64_l3 (t0_3:Slc) (t1_3:Int) (t2_3:Int) (t8_3:Int) (i7:Int) (k:(Bool)->Heap->Prop) (nx1:(Int × Int)->Heap->Prop) (h:Heap):Prop :=
  ∃ (I:Int->Heap->Prop) (μ:Int->Heap->Nat),I i7 h/\∀ (t7_3:Int) (h:Heap),I t7_3 h->slices_partialInsertionSortOrdered_uint64_l3b t0_3 t1_3 t2_3 t8_3 t7_3 k nx1 (fun s h'=>I s h'/\μ s h' < μ t7_3 h) h
def slices_partialInsertionSortOrdered_uint64_l1b (t0_1:Slc) (t1_1:Int) (t2_1:Int) (t7_1:Int) (t8_1:Int) (k:(Bool)->Heap->Prop) (nx1:(Int × Int)->Heap->Prop) (h_1:Heap):Prop :=
  if (decide (t8_1 < 5)) then (slices_partialInsertionSortOrdered_uint64_l3 t0_1 t1_1 t2_1 t8_1 t7_1 k nx1 h_1) else (k false h_1)
def slices_partialInsertionSortOrdered_uint64_l1 (t0_1:Slc) (t1_1:Int) (t2_1:Int) (i7:Int) (i8:Int) (k:(Bool)->Heap->Prop) (h:Heap):Prop :=
  ∃ (I:(Int × Int)->Heap->Prop) (μ:(Int × Int)->Heap->Nat),I (i7,i8) h/\∀ (t7_1:Int) (t8_1:Int) (h:Heap),I (t7_1,t8_1) h->slices_partialInsertionSortOrdered_uint64_l1b t0_1 t1_1 t2_1 t7_1 t8_1 k (fun s h'=>I s h'/\μ s h' < μ (t7_1,t8_1) h) h
def slices_partialInsertionSortOrdered_uint64 (p0:Slc) (p1:Int) (p2:Int) (k:(Bool)->Heap->Prop) (h:Heap):Prop :=
  ∃ x1:Int,x1=(IntKind.i64.wrap (p1 + 1))/\(slices_partialInsertionSortOrdered_uint64_l1 p0 p1 p2 x1 0 k h)
/-- slices.partitionEqualOrdered uint64  -/
def slices_partitionEqualOrdered_uint64_j5 (t0_5:Slc) (t1_5:Int) (t9_5:Int) (t10_5:Int) (t59_5:Bool) (k:(Int)->Heap->Prop) (nx1:(Int × Int)->Heap->Prop) (nx2:(Int)->Heap->Prop) (nx4:(Int)->Heap->Prop) (h_5:Heap):Prop :=
  if t59_5 then (∃ x12:Int,x12=(IntKind.i64.wrap (t10_5 - 1))/\(nx4 x12 h_5)) else (if (decide (t9_5 > t10_5)) then (k t9_5 h_5) else (∃ a13:Addr,t0_5.a=some a13/\(0:Int)<=t10_5/\t10_5 < (t0_5.len:Int)/\(∃ v14:Int,cellH h_5 (a13.add (t10_5.toNat * 1))=some (.int .u64 v14)/\(∃ a15:Addr,t0_5.a=some a15/\(0:Int)<=t9_5/\t9_5 < (t0_5.len:Int)/\(∃ v16:Int,cellH h_5 (a15.add (t9_5.toNat * 1))=some (.int .u64 v16)/\(∃ a17:Addr,t0_5.a=some a17/\(0:Int)<=t9_5/\t9_5 < (t0_5.len:Int)/\(∃ h18:Heap,WrH h_5 (a17.add (t9_5.toNat * 1))/\h18=setH h_5 (a17.add (t9_5.toNat * 1)) (.int .u64 v14)/\(∃ a19:Addr,t0_5.a=some a19/\(0:Int)<=t10_5/\t10_5 < (t0_5.len:Int)/\(∃ h20:Heap,WrH h18 (a19.add (t10_5.toNat * 1))/\h20=setH h18 (a19.add (t10_5.toNat * 1)) (.int .u64 v16)/\(∃ x21:Int,x21=(IntKind.i64.wrap (t9_5 + 1))/\(∃ x22:Int,x22=(IntKind.i64.wrap (t10_5 - 1))/\(nx1 (x21,x22) h20))))))))))))
def slices_partitionEqualOrdered_uint64_l4b (t0_4:Slc) (t1_4:Int) (t9_4:Int) (t10_4:Int) (k:(Int)->Heap->Prop) (nx1:(Int × Int)->Heap->Prop) (nx2:(Int)->Heap->Prop) (nx4:(Int)->Heap->Prop) (h_4:Heap):Prop :=
  if (decide (t9_4<=t10_4)) then (∃ a23:Addr,t0_4.a=some a23/\(0:Int)<=t1_4/\t1_4 < (t0_4.len:Int)/\(∃ v24:Int,cellH h_4 (a23.add (t1_4.toNat * 1))=some (.int .u64 v24)/\(∃ a25:Addr,t0_4.a=some a25/\(0:Int)<=t10_4/\t10_4 < (t0_4.len:Int)/\(∃ v26:Int,cellH h_4 (a25.add (t10_4.toNat * 1))=some (.int .u64 v26)/\(cmp_Less_uint64 v24 v26 (fun (r27:Bool) h28=>slices_partitionEqualOrdered_uint64_j5 t0_4 t1_4 t9_4 t10_4 r27 k nx1 nx2 nx4 h28) h_4))))) else (slices_partitionEqualOrdered_uint64_j5 t0_4 t1_4 t9_4 t10_4 false k nx1 nx2 nx4 h_4)
def slices_partitionEqualOrdered_uint64_l4 (t0_4:Slc) (t1_4:Int) (t9_4:Int) (i10:Int) (k:(Int)->Heap->Prop) (nx1:(Int × Int)->Heap->Prop) (nx2:(Int)->Heap->Prop) (h:Heap):Prop :=
  ∃ (I:Int->Heap->Prop) (μ:Int->Heap->Nat),I i10 h/\∀ (t10_4:Int) (h:Heap),I t10_4 h->slices_partitionEqualOrdered_uint64_l4b t0_4 t1_4 t9_4 t10_4 k nx1 nx2 (fun s h'=>I s h'/\μ s h' < μ t10_4 h) h
def slices_partitionEqualOrdered_uint64_j3 (t0_3:Slc) (t1_3:Int) (t9_3:Int) (t10_3:Int) (t43_3:Bool) (k:(Int)->Heap->Prop) (nx1:(Int × Int)->Heap->Prop) (nx2:(Int)->Heap->Prop) (h_3:Heap):Prop :=
  if t43_3 then (∃ x11:Int,x11=(IntKind.i64.wrap (t9_3 + 1))/\(nx2 x11 h_3)) else (slices_partitionEqualOrdered_uint64_l4 t0_3 t1_3 t9_3 t10_3 k nx1 nx2 h_3)
def slices_partitionEqualOrdered_uint64_l2b (t0_2:Slc) (t1_2:Int) (t10_2:Int) (t9_2:Int) (k:(Int)->Heap->Prop) (nx1:(Int × Int)->Heap->Prop) (nx2:(Int)->Heap->Prop) (h_2:Heap):Prop :=
  if (decide (t9_2<=t10_2)) then (∃ a29:Addr,t0_2.a=some a29/\(0:Int)<=t1_2/\t1_2 < (t0_2.len:Int)/\(∃ v30:Int,cellH h_2 (a29.add (t1_2.toNat * 1))=some (.int .u64 v30)/\(∃ a31:Addr,t0_2.a=some a31/\(0:Int)<=t9_2/\t9_2 < (t0_2.len:Int)/\(∃ v32:Int,cellH h_2 (a31.add (t9_2.toNat * 1))=some (.int .u64 v32)/\(cmp_Less_uint64 v30 v32 (fun (r33:Bool) h34=>slices_partitionEqualOrdered_uint64_j3 t0_2 t1_2 t9_2 t10_2 (!r33) k nx1 nx2 h34) h_2))))) else (slices_partitionEqualOrdered_uint64_j3 t0_2 t1_2 t9_2 t10_2 false k nx1 nx2 h_2)
def slices_partitionEqualOrdered_uint64_l2 (t0_2:Slc) (t1_2:Int) (t10_2:Int) (i9:Int) (k:(Int)->Heap->Prop) (nx1:(Int × Int)->Heap->Prop) (h:Heap):Prop :=
  ∃ (I:Int->Heap->Prop) (μ:Int->Heap->Nat),I i9 h/\∀ (t9_2:Int) (h:Heap),I t9_2 h->slices_partitionEqualOrdered_uint64_l2b t0_2 t1_2 t10_2 t9_2 k nx1 (fun s h'=>I s h'/\μ s h' < μ t9_2 h) h
def slices_partitionEqualOrdered_uint64_l1b (t0_1:Slc) (t1_1:Int) (t9_1:Int) (t10_1:Int) (k:(Int)->Heap->Prop) (nx1:(Int × Int)->Heap->Prop) (h_1:Heap):Prop :=
  slices_partitionEqualOrdered_uint64_l2 t0_1 t1_1 t10_1 t9_1 k nx1 h_1
def slices_partitionEqualOrdered_uint64_l1 (t0_1:Slc) (t1_1:Int) (i9:Int) (i10:Int) (k:(Int)->Heap->Prop) (h:Heap):Prop :=
  ∃ (I:(Int × Int)->Heap->Prop) (μ:(Int × Int)->Heap->Nat),I (i9,i10) h/\∀ (t9_1:Int) (t10_1:Int) (h:Heap),I (t9_1,t10_1) h->slices_partitionEqualOrdered_uint64_l1b t0_1 t1_1 t9_1 t10_1 k (fun s h'=>I s h'/\μ s h' < μ (t9_1,t10_1) h) h
def slices_partitionEqualOrdered_uint64 (p0:Slc) (p1:Int) (p2:Int) (p3:Int) (k:(Int)->Heap->Prop) (h:Heap):Prop :=
  ∃ a1:Addr,p0.a=some a1/\(0:Int)<=p3/\p3 < (p0.len:Int)/\(∃ v2:Int,cellH h (a1.add (p3.toNat * 1))=some (.int .u64 v2)/\(∃ a3:Addr,p0.a=some a3/\(0:Int)<=p1/\p1 < (p0.len:Int)/\(∃ v4:Int,cellH h (a3.add (p1.toNat * 1))=some (.int .u64 v4)/\(∃ a5:Addr,p0.a=some a5/\(0:Int)<=p1/\p1 < (p0.len:Int)/\(∃ h6:Heap,WrH h (a5.add (p1.toNat * 1))/\h6=setH h (a5.add (p1.toNat * 1)) (.int .u64 v2)/\(∃ a7:Addr,p0.a=some a7/\(0:Int)<=p3/\p3 < (p0.len:Int)/\(∃ h8:Heap,WrH h6 (a7.add (p3.toNat * 1))/\h8=setH h6 (a7.add (p3.toNat * 1)) (.int .u64 v4)/\(∃ x9:Int,x9=(IntKind.i64.wrap (p1 + 1))/\(∃ x10:Int,x10=(IntKind.i64.wrap (p2 - 1))/\(slices_partitionEqualOrdered_uint64_l1 p0 p1 x9 x10 k h8))))))))))
/-- slices.partitionOrdered uint64  -/
def slices_partitionOrdered_uint64_j9 (t0_9:Slc) (t1_9:Int) (t10_9:Int) (t11_9:Int) (t129_9:Bool) (k:(Int × Bool)->Heap->Prop) (nx1:(Int)->Heap->Prop) (nx3:(Int)->Heap->Prop) (nx5:(Int × Int)->Heap->Prop) (nx6:(Int)->Heap->Prop) (nx8:(Int)->Heap->Prop) (h_9:Heap):Prop :=
  if t129_9 then (∃ x32:Int,x32=(IntKind.i64.wrap (t11_9 - 1))/\(nx8 x32 h_9)) else (if (decide (t10_9 > t11_9)) then (∃ a33:Addr,t0_9.a=some a33/\(0:Int)<=t1_9/\t1_9 < (t0_9.len:Int)/\(∃ v34:Int,cellH h_9 (a33.add (t1_9.toNat * 1))=some (.int .u64 v34)/\(∃ a35:Addr,t0_9.a=some a35/\(0:Int)<=t11_9/\t11_9 < (t0_9.len:Int)/\(∃ v36:Int,cellH h_9 (a35.add (t11_9.toNat * 1))=some (.int .u64 v36)/\(∃ a37:Addr,t0_9.a=some a37/\(0:Int)<=t11_9/\t11_9 < (t0_9.len:Int)/\(∃ h38:Heap,WrH h_9 (a37.add (t11_9.toNat * 1))/\h38=setH h_9 (a37.add (t11_9.toNat * 1)) (.int .u64 v34)/\(∃ a39:Addr,t0_9.a=some a39/\(0:Int)<=t1_9/\t1_9 < (t0_9.len:Int)/\(∃ h40:Heap,WrH h38 (a39.add (t1_9.toNat * 1))/\h40=setH h38 (a39.add (t1_9.toNat * 1)) (.int .u64 v36)/\(k (t11_9,false) h40))))))))) else (∃ a41:Addr,t0_9.a=some a41/\(0:Int)<=t11_9/\t11_9 < (t0_9.len:Int)/\(∃ v42:Int,cellH h_9 (a41.add (t11_9.toNat * 1))=some (.int .u64 v42)/\(∃ a43:Addr,t0_9.a=some a43/\(0:Int)<=t10_9/\t10_9 < (t0_9.len:Int)/\(∃ v44:Int,cellH h_9 (a43.add (t10_9.toNat * 1))=some (.int .u64 v44)/\(∃ a45:Addr,t0_9.a=some a45/\(0:Int)<=t10_9/\t10_9 < (t0_9.len:Int)/\(∃ h46:Heap,WrH h_9 (a45.add (t10_9.toNat * 1))/\h46=setH h_9 (a45.add (t10_9.toNat * 1)) (.int .u64 v42)/\(∃ a47:Addr,t0_9.a=some a47/\(0:Int)<=t11_9/\t11_9 < (t0_9.len:Int)/\(∃ h48:Heap,WrH h46 (a47.add (t11_9.toNat * 1))/\h48=setH h46 (a47.add (t11_9.toNat * 1)) (.int .u64 v44)/\(∃ x49:Int,x49=(IntKind.i64.wrap (t10_9 + 1))/\(∃ x50:Int,x50=(IntKind.i64.wrap (t11_9 - 1))/\(nx5 (x49,x50) h48))))))))))))
def slices_partitionOrdered_uint64_l8b (t0_8:Slc) (t1_8:Int) (t10_8:Int) (t11_8:Int) (k:(Int × Bool)->Heap->Prop) (nx1:(Int)->Heap->Prop) (nx3:(Int)->Heap->Prop) (nx5:(Int × Int)->Heap->Prop) (nx6:(Int)->Heap->Prop) (nx8:(Int)->Heap->Prop) (h_8:Heap):Prop :=
  if (decide (t10_8<=t11_8)) then (∃ a51:Addr,t0_8.a=some a51/\(0:Int)<=t11_8/\t11_8 < (t0_8.len:Int)/\(∃ v52:Int,cellH h_8 (a51.add (t11_8.toNat * 1))=some (.int .u64 v52)/\(∃ a53:Addr,t0_8.a=some a53/\(0:Int)<=t1_8/\t1_8 < (t0_8.len:Int)/\(∃ v54:Int,cellH h_8 (a53.add (t1_8.toNat * 1))=some (.int .u64 v54)/\(cmp_Less_uint64 v52 v54 (fun (r55:Bool) h56=>slices_partitionOrdered_uint64_j9 t0_8 t1_8 t10_8 t11_8 (!r55) k nx1 nx3 nx5 nx6 nx8 h56) h_8))))) else (slices_partitionOrdered_uint64_j9 t0_8 t1_8 t10_8 t11_8 false k nx1 nx3 nx5 nx6 nx8 h_8)
def slices_partitionOrdered_uint64_l8 (t0_8:Slc) (t1_8:Int) (t10_8:Int) (i11:Int) (k:(Int × Bool)->Heap->Prop) (nx1:(Int)->Heap->Prop) (nx3:(Int)->Heap->Prop) (nx5:(Int × Int)->Heap->Prop) (nx6:(Int)->Heap->Prop) (h:Heap):Prop :=
  ∃ (I:Int->Heap->Prop) (μ:Int->Heap->Nat),I i11 h/\∀ (t11_8:Int) (h:Heap),I t11_8 h->slices_partitionOrdered_uint64_l8b t0_8 t1_8 t10_8 t11_8 k nx1 nx3 nx5 nx6 (fun s h'=>I s h'/\μ s h' < μ t11_8 h) h
def slices_partitionOrdered_uint64_j7 (t0_7:Slc) (t1_7:Int) (t10_7:Int) (t11_7:Int) (t112_7:Bool) (k:(Int × Bool)->Heap->Prop) (nx1:(Int)->Heap->Prop) (nx3:(Int)->Heap->Prop) (nx5:(Int × Int)->Heap->Prop) (nx6:(Int)->Heap->Prop) (h_7:Heap):Prop :=
  if t112_7 then (∃ x31:Int,x31=(IntKind.i64.wrap (t10_7 + 1))/\(nx6 x31 h_7)) else (slices_partitionOrdered_uint64_l8 t0_7 t1_7 t10_7 t11_7 k nx1 nx3 nx5 nx6 h_7)
def slices_partitionOrdered_uint64_l6b (t0_6:Slc) (t1_6:Int) (t11_6:Int) (t10_6:Int) (k:(Int × Bool)->Heap->Prop) (nx1:(Int)->Heap->Prop) (nx3:(Int)->Heap->Prop) (nx5:(Int × Int)->Heap->Prop) (nx6:(Int)->Heap->Prop) (h_6:Heap):Prop :=
  if (decide (t10_6<=t11_6)) then (∃ a57:Addr,t0_6.a=some a57/\(0:Int)<=t10_6/\t10_6 < (t0_6.len:Int)/\(∃ v58:Int,cellH h_6 (a57.add (t10_6.toNat * 1))=some (.int .u64 v58)/\(∃ a59:Addr,t0_6.a=some a59/\(0:Int)<=t1_6/\t1_6 < (t0_6.len:Int)/\(∃ v60:Int,cellH h_6 (a59.add (t1_6.toNat * 1))=some (.int .u64 v60)/\(cmp_Less_uint64 v58 v60 (fun (r61:Bool) h62=>slices_partitionOrdered_uint64_j7 t0_6 t1_6 t10_6 t11_6 r61 k nx1 nx3 nx5 nx6 h62) h_6))))) else (slices_partitionOrdered_uint64_j7 t0_6 t1_6 t10_6 t11_6 false k nx1 nx3 nx5 nx6 h_6)
def slices_partitionOrdered_uint64_l6 (t0_6:Slc) (t1_6:Int) (t11_6:Int) (i10:Int) (k:(Int × Bool)->Heap->Prop) (nx1:(Int)->Heap->Prop) (nx3:(Int)->Heap->Prop) (nx5:(Int × Int)->Heap->Prop) (h:Heap):Prop :=
  ∃ (I:Int->Heap->Prop) (μ:Int->Heap->Nat),I i10 h/\∀ (t10_6:Int) (h:Heap),I t10_6 h->slices_partitionOrdered_uint64_l6b t0_6 t1_6 t11_6 t10_6 k nx1 nx3 nx5 (fun s h'=>I s h'/\μ s h' < μ t10_6 h) h
def slices_partitionOrdered_uint64_l5b (t0_5:Slc) (t1_5:Int) (t10_5:Int) (t11_5:Int) (k:(Int × Bool)->Heap->Prop) (nx1:(Int)->Heap->Prop) (nx3:(Int)->Heap->Prop) (nx5:(Int × Int)->Heap->Prop) (h_5:Heap):Prop :=
  slices_partitionOrdered_uint64_l6 t0_5 t1_5 t11_5 t10_5 k nx1 nx3 nx5 h_5
def slices_partitionOrdered_uint64_l5 (t0_5:Slc) (t1_5:Int) (i10:Int) (i11:Int) (k:(Int × Bool)->Heap->Prop) (nx1:(Int)->Heap->Prop) (nx3:(Int)->Heap->Prop) (h:Heap):Prop :=
  ∃ (I:(Int × Int)->Heap->Prop) (μ:(Int × Int)->Heap->Nat),I (i10,i11) h/\∀ (t10_5:Int) (t11_5:Int) (h:Heap),I (t10_5,t11_5) h->slices_partitionOrdered_uint64_l5b t0_5 t1_5 t10_5 t11_5 k nx1 nx3 (fun s h'=>I s h'/\μ s h' < μ (t10_5,t11_5) h) h
def slices_partitionOrdered_uint64_j4 (t0_4:Slc) (t1_4:Int) (t10_4:Int) (t11_4:Int) (t60_4:Bool) (k:(Int × Bool)->Heap->Prop) (nx1:(Int)->Heap->Prop) (nx3:(Int)->Heap->Prop) (h_4:Heap):Prop :=
  if t60_4 then (∃ x12:Int,x12=(IntKind.i64.wrap (t11_4 - 1))/\(nx3 x12 h_4)) else (if (decide (t10_4 > t11_4)) then (∃ a13:Addr,t0_4.a=some a13/\(0:Int)<=t1_4/\t1_4 < (t0_4.len:Int)/\(∃ v14:Int,cellH h_4 (a13.add (t1_4.toNat * 1))=some (.int .u64 v14)/\(∃ a15:Addr,t0_4.a=some a15/\(0:Int)<=t11_4/\t11_4 < (t0_4.len:Int)/\(∃ v16:Int,cellH h_4 (a15.add (t11_4.toNat * 1))=some (.int .u64 v16)/\(∃ a17:Addr,t0_4.a=some a17/\(0:Int)<=t11_4/\t11_4 < (t0_4.len:Int)/\(∃ h18:Heap,WrH h_4 (a17.add (t11_4.toNat * 1))/\h18=setH h_4 (a17.add (t11_4.toNat * 1)) (.int .u64 v14)/\(∃ a19:Addr,t0_4.a=some a19/\(0:Int)<=t1_4/\t1_4 < (t0_4.len:Int)/\(∃ h20:Heap,WrH h18 (a19.add (t1_4.toNat * 1))/\h20=setH h18 (a19.add (t1_4.toNat * 1)) (.int .u64 v16)/\(k (t11_4,true) h20))))))))) else (∃ a21:Addr,t0_4.a=some a21/\(0:Int)<=t11_4/\t11_4 < (t0_4.len:Int)/\(∃ v22:Int,cellH h_4 (a21.add (t11_4.toNat * 1))=some (.int .u64 v22)/\(∃ a23:Addr,t0_4.a=some a23/\(0:Int)<=t10_4/\t10_4 < (t0_4.len:Int)/\(∃ v24:Int,cellH h_4 (a23.add (t10_4.toNat * 1))=some (.int .u64 v24)/\(∃ a25:Addr,t0_4.a=some a25/\(0:Int)<=t10_4/\t10_4 < (t0_4.len:Int)/\(∃ h26:Heap,WrH h_4 (a25.add (t10_4.toNat * 1))/\h26=setH h_4 (a25.add (t10_4.toNat * 1)) (.int .u64 v22)/\(∃ a27:Addr,t0_4.a=some a27/\(0:Int)<=t11_4/\t11_4 < (t0_4.len:Int)/\(∃ h28:Heap,WrH h26 (a27.add (t11_4.toNat * 1))/\h28=setH h26 (a27.add (t11_4.toNat * 1)) (.int .u64 v24)/\(∃ x29:Int,x29=(IntKind.i64.wrap (t10_4 + 1))/\(∃ x30:Int,x30=(IntKind.i64.wrap (t11_4 - 1))/\(slices_partitionOrdered_uint64_l5 t0_4 t1_4 x29 x30 k nx1 nx3 h28))))))))))))
def slices_partitionOrdered_uint64_l3b (t0_3:Slc) (t1_3:Int) (t10_3:Int) (t11_3:Int) (k:(Int × Bool)->Heap->Prop) (nx1:(Int)->Heap->Prop) (nx3:(Int)->Heap->Prop) (h_3:Heap):Prop :=
  if (decide (t10_3<=t11_3)) then (∃ a63:Addr,t0_3.a=some a63/\(0:Int)<=t11_3/\t11_3 < (t0_3.len:Int)/\(∃ v64:Int,cellH h_3 (a63.add (t11_3.toNat * 1))=some (.int .u64 v64)/\(∃ a65:Addr,t0_3.a=some a65/\(0:Int)<=t1_3/\t1_3 < (t0_3.len:Int)/\(∃ v66:Int,cellH h_3 (a65.add (t1_3.toNat * 1))=some (.int .u64 v66)/\(cmp_Less_uint64 v64 v66 (fun (r67:Bool) h68=>slices_partitionOrdered_uint64_j4 t0_3 t1_3 t10_3 t11_3 (!r67) k nx1 nx3 h68) h_3))))) else (slices_partitionOrdered_uint64_j4 t0_3 t1_3 t10_3 t11_3 false k nx1 nx3 h_3)
def slices_partitionOrdered_uint64_l3 (t0_3:Slc) (t1_3:Int) (t10_3:Int) (i11:Int) (k:(Int × Bool)->Heap->Prop) (nx1:(Int)->Heap->Prop) (h:Heap):Prop :=
  ∃ (I:Int->Heap->Prop) (μ:Int->Heap->Nat),I i11 h/\∀ (t11_3:Int) (h:Heap),I t11_3 h->slices_partitionOrdered_uint64_l3b t0_3 t1_3 t10_3 t11_3 k nx1 (fun s h'=>I s h'/\μ s h' < μ t11_3 h) h
def slices_partitionOrdered_uint64_j2 (t0_2:Slc) (t1_2:Int) (t10_2:Int) (t11_2:Int) (t43_2:Bool) (k:(Int × Bool)->Heap->Prop) (nx1:(Int)->Heap->Prop) (h_2:Heap):Prop :=
  if t43_2 then (∃ x11:Int,x11=(IntKind.i64.wrap (t10_2 + 1))/\(nx1 x11 h_2)) else (slices_partitionOrdered_uint64_l3 t0_2 t1_2 t10_2 t11_2 k nx1 h_2)
def slices_partitionOrdered_uint64_l1b (t0_1:Slc) (t1_1:Int) (t11_1:Int) (t10_1:Int) (k:(Int × Bool)->Heap->Prop) (nx1:(Int)->Heap->Prop) (h_1:Heap):Prop :=
  if (decide (t10_1<=t11_1)) then (∃ a69:Addr,t0_1.a=some a69/\(0:Int)<=t10_1/\t10_1 < (t0_1.len:Int)/\(∃ v70:Int,cellH h_1 (a69.add (t10_1.toNat * 1))=some (.int .u64 v70)/\(∃ a71:Addr,t0_1.a=some a71/\(0:Int)<=t1_1/\t1_1 < (t0_1.len:Int)/\(∃ v72:Int,cellH h_1 (a71.add (t1_1.toNat * 1))=some (.int .u64 v72)/\(cmp_Less_uint64 v70 v72 (fun (r73:Bool) h74=>slices_partitionOrdered_uint64_j2 t0_1 t1_1 t10_1 t11_1 r73 k nx1 h74) h_1))))) else (slices_partitionOrdered_uint64_j2 t0_1 t1_1 t10_1 t11_1 false k nx1 h_1)
def slices_partitionOrdered_uint64_l1 (t0_1:Slc) (t1_1:Int) (t11_1:Int) (i10:Int) (k:(Int × Bool)->Heap->Prop) (h:Heap):Prop :=
  ∃ (I:Int->Heap->Prop) (μ:Int->Heap->Nat),I i10 h/\∀ (t10_1:Int) (h:Heap),I t10_1 h->slices_partitionOrdered_uint64_l1b t0_1 t1_1 t11_1 t10_1 k (fun s h'=>I s h'/\μ s h' < μ t10_1 h) h
def slices_partitionOrdered_uint64 (p0:Slc) (p1:Int) (p2:Int) (p3:Int) (k:(Int × Bool)->Heap->Prop) (h:Heap):Prop :=
  ∃ a1:Addr,p0.a=some a1/\(0:Int)<=p3/\p3 < (p0.len:Int)/\(∃ v2:Int,cellH h (a1.add (p3.toNat * 1))=some (.int .u64 v2)/\(∃ a3:Addr,p0.a=some a3/\(0:Int)<=p1/\p1 < (p0.len:Int)/\(∃ v4:Int,cellH h (a3.add (p1.toNat * 1))=some (.int .u64 v4)/\(∃ a5:Addr,p0.a=some a5/\(0:Int)<=p1/\p1 < (p0.len:Int)/\(∃ h6:Heap,WrH h (a5.add (p1.toNat * 1))/\h6=setH h (a5.add (p1.toNat * 1)) (.int .u64 v2)/\(∃ a7:Addr,p0.a=some a7/\(0:Int)<=p3/\p3 < (p0.len:Int)/\(∃ h8:Heap,WrH h6 (a7.add (p3.toNat * 1))/\h8=setH h6 (a7.add (p3.toNat * 1)) (.int .u64 v4)/\(∃ x9:Int,x9=(IntKind.i64.wrap (p1 + 1))/\(∃ x10:Int,x10=(IntKind.i64.wrap (p2 - 1))/\(slices_partitionOrdered_uint64_l1 p0 p1 x10 x9 k h8))))))))))
theorem O157:CallOk prog 157:=ck func157
theorem R157 (p0 p1 p2 p3 k h) (H:slices_siftDownOrdered_uint64 p0 p1 p2 p3 k h):CallsH prog 157 #[Slc.v p0,.int .i64 p1,.int .i64 p2,.int .i64 p3] h (fun v h'=>∃ r:Unit,v = .tuple #[]/\k r h'):=by
 refine fE func157 fun w0=>?_
 refine zF [0,1,2,3] (zQ ?_)
 refine w2 tok (zE (zB ?_))
 obtain ⟨I1,μ1,H0,HI⟩:=H
 refine zO (σ:=Int) [0,2,3] (fun (s:Int)=>[(8,.int .i64 s)]) I1 μ1 p1 H0 ?_
 rintro t8_1 h_1 H
 replace H:=HI t8_1 h_1 H
 refine zF [8,0,2,3] (zB (zQ ?_))
 refine w3 tok ?_
 obtain ⟨x1,ex1,H⟩:=H
 refine w_pe tok rfl (congrArg (fun z=>(.int .i64 z:Value)) ex1) rfl rfl ?_
 refine zE (zS (zQ (w3 tok (zE ?_))))
 refine zI H ?_ ?_ <;> intro H
 refine zY (yE (zM (yE (yH ?_))))
 exact x_end _ rfl _ rfl ⟨(),rfl,H⟩
 refine zK (zX ?_)
 refine zJ (α:=Int) [0,2,3,8] (fun (s:Int)=>[(9,.int .i64 s)]) (fun (s:Int) h=>slices_siftDownOrdered_uint64_j2 p0 p2 p3 t8_1 s k (fun s h'=>I1 s h'/\μ1 s h' < μ1 t8_1 h_1) h) ?_ ?_
 rintro t9_2 h_2 H
 refine zF [9,0,2,3,8] (zS (zS ?_))
 refine gB [0,2,3,8,9] ?_
 refine gT 0 [0] tok ?_
 refine gT 1 [3] tok ?_
 refine gT 2 [8] tok ?_
 refine gT 3 [40,41] tok ?_
 obtain ⟨a2,ha2,la2,ua2,H⟩:=H
 refine gY 4 [39,42] rfl (fun _=>y_ixa' tok rfl rfl ha2 rfl rfl rfl la2 ua2) ?_
 obtain ⟨v3,hv3,H⟩:=H
 refine gL 5 [43] rfl (y_ld tok rfl rfl rfl rfl hv3) ?_
 refine gT 6 [0] tok ?_
 refine gT 7 [3] tok ?_
 refine gT 8 [9] tok ?_
 refine gT 9 [46,47] tok ?_
 obtain ⟨a4,ha4,la4,ua4,H⟩:=H
 refine gY 10 [45,48] rfl (fun _=>y_ixa' tok rfl rfl ha4 rfl rfl rfl la4 ua4) ?_
 obtain ⟨v5,hv5,H⟩:=H
 refine gL 11 [49] rfl (y_ld tok rfl rfl rfl rfl hv5) ?_
 refine gC 12 [44,50] O141 (R141 _ _ _ _ H) fun r6 h7 H=>?_
 refine gT 13 [51] tok ?_
 refine gZ ?_
 refine zX (zF [0,2,3,8,9,52] ?_)
 refine zI H ?_ ?_ <;> intro H
 refine zT (yT (yB (yT (yB ?_))))
 exact x_ret _ rfl _ rfl ⟨(),rfl,H⟩
 refine zK (zX (zS ?_))
 refine gB [0,2,3,8,9] ?_
 refine gT 0 [0] tok ?_
 refine gT 1 [3] tok ?_
 refine gT 2 [8] tok ?_
 refine gT 3 [54,55] tok ?_
 refine gT 4 [0] tok ?_
 refine gT 5 [3] tok ?_
 refine gT 6 [9] tok ?_
 refine gT 7 [58,59] tok ?_
 refine gT 8 [0] tok ?_
 refine gT 9 [3] tok ?_
 refine gT 10 [9] tok ?_
 refine gT 11 [62,63] tok ?_
 obtain ⟨a8,ha8,la8,ua8,H⟩:=H
 refine gY 12 [61,64] rfl (fun _=>y_ixa' tok rfl rfl ha8 rfl rfl rfl la8 ua8) ?_
 obtain ⟨v9,hv9,H⟩:=H
 refine gL 13 [65] rfl (y_ld tok rfl rfl rfl rfl hv9) ?_
 refine gT 14 [0] tok ?_
 refine gT 15 [3] tok ?_
 refine gT 16 [8] tok ?_
 refine gT 17 [68,69] tok ?_
 obtain ⟨a10,ha10,la10,ua10,H⟩:=H
 refine gY 18 [67,70] rfl (fun _=>y_ixa' tok rfl rfl ha10 rfl rfl rfl la10 ua10) ?_
 obtain ⟨v11,hv11,H⟩:=H
 refine gL 19 [71] rfl (y_ld tok rfl rfl rfl rfl hv11) ?_
 obtain ⟨a12,ha12,la12,ua12,H⟩:=H
 refine gY 20 [53,56] rfl (fun _=>y_ixa' tok rfl rfl ha12 rfl rfl rfl la12 ua12) ?_
 obtain ⟨h13,wh13,eh13,H⟩:=H
 refine gH 21 [66,73] rfl (h_st tok rfl rfl rfl rfl rfl rfl wh13 eh13) ?_
 obtain ⟨a14,ha14,la14,ua14,H⟩:=H
 refine gY 22 [57,60] rfl (fun _=>y_ixa' tok rfl rfl ha14 rfl rfl rfl la14 ua14) ?_
 obtain ⟨h15,wh15,eh15,H⟩:=H
 refine gH 23 [72,74] rfl (h_st tok rfl rfl rfl rfl rfl rfl wh15 eh15) ?_
 refine gZ ?_
 refine zX (zF [0,2,3,9] (zR ?_))
 refine w2 tok (zL ?_)
 exact xJ t9_2 H
 refine zJ (α:=Bool) [0,2,3,8,9] (fun (s:Bool)=>[(36,.bool s)]) (fun (s:Bool) h=>slices_siftDownOrdered_uint64_j3 p0 p2 p3 t8_1 x1 s k (fun s h'=>I1 s h'/\μ1 s h' < μ1 t8_1 h_1) h) ?_ ?_
 rintro t36_3 h_3 H
 refine zF [36,0,2,3,8,9] ?_
 refine zI H ?_ ?_ <;> intro H
 refine zR (w2 tok ?_)
 obtain ⟨x16,ex16,H⟩:=H
 refine w_pe tok rfl (congrArg (fun z=>(.int .i64 z:Value)) ex16) rfl rfl ?_
 refine zW ?_
 exact xJ x16 H
 refine zK ?_
 exact xJ x1 H
 refine gB [0,2,3,8,9] ?_
 refine gT 0 [9] tok ?_
 refine gT 1 [17] tok ?_
 refine gT 2 [2] tok ?_
 refine gT 3 [18,19] tok ?_
 refine gT 4 [20] tok ?_
 refine gI 21 H (fun hb H=>?_) (fun hb H=>?_)
 refine gT 5 [0,21] tok ?_
 refine gT 6 [3,21] tok ?_
 refine gT 7 [9,21] tok ?_
 refine gT 8 [21,23,24] tok ?_
 obtain ⟨a17,ha17,la17,ua17,H⟩:=H
 refine gY 9 [21,22,25] rfl (fun _=>y_ixa' tok rfl rfl ha17 rfl rfl rfl la17 ua17) ?_
 obtain ⟨v18,hv18,H⟩:=H
 refine gL 10 [21,26] rfl (y_ld tok rfl rfl rfl rfl hv18) ?_
 refine gT 11 [0,21] tok ?_
 refine gT 12 [3,21] tok ?_
 refine gT 13 [9,21] tok ?_
 refine gT 14 [21,29,30] tok ?_
 refine gT 15 [21,31] tok ?_
 obtain ⟨a19,ha19,la19,ua19,H⟩:=H
 refine gY 16 [21,28,32] rfl (fun _=>y_ixa' tok rfl rfl ha19 rfl rfl rfl la19 ua19) ?_
 obtain ⟨v20,hv20,H⟩:=H
 refine gL 17 [21,33] rfl (y_ld tok rfl rfl rfl rfl hv20) ?_
 refine gC 18 [21,27,34] O141 (R141 _ _ _ _ H) fun r21 h22 H=>?_
 refine gT 19 [21,35] tok ?_
 refine gZ ?_
 exact xJ r21 H
 refine gS 5 [0,21] ?_
 refine gS 6 [3,21] ?_
 refine gS 7 [9,21] ?_
 refine gS 8 [21,23,24] ?_
 refine gS 9 [21,22,25] ?_
 refine gS 10 [21,26] ?_
 refine gS 11 [0,21] ?_
 refine gS 12 [3,21] ?_
 refine gS 13 [9,21] ?_
 refine gS 14 [21,29,30] ?_
 refine gS 15 [21,31] ?_
 refine gS 16 [21,28,32] ?_
 refine gS 17 [21,33] ?_
 refine gS 18 [21,27,34] ?_
 refine gT 19 [21,35] tok ?_
 refine gZ ?_
 exact xJ false H
theorem O136:CallOk prog 136:=ck func136
theorem R136 (p0 p1 p2 k h) (H:slices_heapSortOrdered_uint64 p0 p1 p2 k h):CallsH prog 136 #[Slc.v p0,.int .i64 p1,.int .i64 p2] h (fun v h'=>∃ r:Unit,v = .tuple #[]/\k r h'):=by
 refine fE func136 fun w0=>?_
 refine zF [0,1,2] (zQ ?_)
 refine w2 tok (zE (zQ ?_))
 refine w1 tok (zE (zQ ?_))
 refine w3 tok ?_
 obtain ⟨x1,ex1,H⟩:=H
 refine w_pe tok rfl (congrArg (fun z=>(.int .i64 z:Value)) ex1) rfl rfl ?_
 refine zE (zS (zQ (w3 tok ?_)))
 obtain ⟨x2,ex2,H⟩:=H
 refine w_pe tok rfl (congrArg (fun z=>(.int .i64 z:Value)) ex2) rfl rfl ?_
 refine zE (zF [0,6,7,8,9] (zB ?_))
 obtain ⟨I1,μ1,H0,HI⟩:=H
 refine zO (σ:=Int) [0,6,7,8] (fun (s:Int)=>[(9,.int .i64 s)]) I1 μ1 x2 H0 ?_
 rintro t9_1 h_1 H
 replace H:=HI t9_1 h_1 H
 refine zF [9,0,6,7,8] (zS (zQ ?_))
 refine w2 tok (zE ?_)
 refine zI H ?_ ?_ <;> intro H
 refine zK (zX (zS (zB (zR (w4 tok ?_)))))
 refine wC O157 (R157 _ _ _ _ _ _ H) fun r3 h4 H=>?_
 refine zL (zX (zF [9,0,6,7,8] (zR ?_)))
 refine w2 tok ?_
 obtain ⟨x5,ex5,H⟩:=H
 refine w_pe tok rfl (congrArg (fun z=>(.int .i64 z:Value)) ex5) rfl rfl ?_
 refine zW ?_
 exact xJ x5 H
 refine zY (yE (yE (yH (zX (zQ (w2 tok ?_))))))
 obtain ⟨x6,ex6,H⟩:=H
 refine w_pe tok rfl (congrArg (fun z=>(.int .i64 z:Value)) ex6) rfl rfl ?_
 refine zE (zB ?_)
 obtain ⟨I2,μ2,H0,HI⟩:=H
 refine zO (σ:=Int) [0,6,7] (fun (s:Int)=>[(10,.int .i64 s)]) I2 μ2 x6 H0 ?_
 rintro t10_2 h_2 H
 replace H:=HI t10_2 h_2 H
 refine zF [10,0,6,7] (zS (zQ ?_))
 refine w2 tok (zE ?_)
 refine zI H ?_ ?_ <;> intro H
 refine zK (zX (zS (zB (zS ?_))))
 refine gB [0,6,7,10] ?_
 refine gT 0 [0] tok ?_
 refine gT 1 [6] tok ?_
 refine gT 2 [0] tok ?_
 refine gT 3 [6] tok ?_
 refine gT 4 [10] tok ?_
 refine gT 5 [36,37] tok ?_
 refine gT 6 [0] tok ?_
 refine gT 7 [6] tok ?_
 refine gT 8 [10] tok ?_
 refine gT 9 [40,41] tok ?_
 obtain ⟨a7,ha7,la7,ua7,H⟩:=H
 refine gY 10 [39,42] rfl (fun _=>y_ixa' tok rfl rfl ha7 rfl rfl rfl la7 ua7) ?_
 obtain ⟨v8,hv8,H⟩:=H
 refine gL 11 [43] rfl (y_ld tok rfl rfl rfl rfl hv8) ?_
 refine gT 12 [0] tok ?_
 refine gT 13 [6] tok ?_
 obtain ⟨a9,ha9,la9,ua9,H⟩:=H
 refine gY 14 [45,46] rfl (fun _=>y_ixa' tok rfl rfl ha9 rfl rfl rfl la9 ua9) ?_
 obtain ⟨v10,hv10,H⟩:=H
 refine gL 15 [47] rfl (y_ld tok rfl rfl rfl rfl hv10) ?_
 obtain ⟨a11,ha11,la11,ua11,H⟩:=H
 refine gY 16 [33,34] rfl (fun _=>y_ixa' tok rfl rfl ha11 rfl rfl rfl la11 ua11) ?_
 obtain ⟨h12,wh12,eh12,H⟩:=H
 refine gH 17 [44,49] rfl (h_st tok rfl rfl rfl rfl rfl rfl wh12 eh12) ?_
 obtain ⟨a13,ha13,la13,ua13,H⟩:=H
 refine gY 18 [35,38] rfl (fun _=>y_ixa' tok rfl rfl ha13 rfl rfl rfl la13 ua13) ?_
 obtain ⟨h14,wh14,eh14,H⟩:=H
 refine gH 19 [48,50] rfl (h_st tok rfl rfl rfl rfl rfl rfl wh14 eh14) ?_
 refine gZ ?_
 refine zX (zF [0,6,7,10] (zR ?_))
 refine w4 tok ?_
 refine wC O157 (R157 _ _ _ _ _ _ H) fun r15 h16 H=>?_
 refine zL (zX (zR (w2 tok ?_)))
 obtain ⟨x17,ex17,H⟩:=H
 refine w_pe tok rfl (congrArg (fun z=>(.int .i64 z:Value)) ex17) rfl rfl ?_
 refine zW ?_
 exact xJ x17 H
 refine zY (yE (yE (yH ?_)))
 exact x_end _ rfl _ rfl ⟨(),rfl,H⟩
theorem O146:CallOk prog 146:=ck func146
theorem R146 (p0 k h) (H:slices_nextPowerOfTwo p0 k h):CallsH prog 146 #[.int .i64 p0] h (fun v h'=>∃ r:Int,v = .int .u64 r/\k r h'):=by
 refine fE func146 fun w0=>?_
 refine zF [0] (zQ ?_)
 refine w1 tok (zE (zQ ?_))
 refine w2 tok ?_
 refine wC O96 (R96 _ _ _ H) fun r1 h2 H=>?_
 obtain ⟨z3,H⟩:=H
 refine wY (y_shl rfl rfl rfl z3) ?_
 obtain ⟨x4,ex4,H⟩:=H
 refine w_pe tok rfl (congrArg (fun z=>(.int .u64 z:Value)) ex4) rfl rfl ?_
 refine zE (zT ?_)
 exact x_ret _ rfl _ rfl ⟨x4,rfl,H⟩
theorem O147:CallOk prog 147:=ck func147
theorem R147 (p0 k h) (H:slices_xorshift_Next p0 k h):CallsH prog 147 #[.pointer p0] h (fun v h'=>∃ r:Int,v = .int .u64 r/\k r h'):=by
 refine fE func147 fun w0=>?_
 refine zF [0] (zQ ?_)
 refine w1 tok (zE (zS ?_))
 refine gB [0] ?_
 refine gT 0 [0] tok ?_
 obtain ⟨a1,ha1,H⟩:=H
 refine gY 1 [3] rfl (fun _=>y_nil' rfl rfl ha1) ?_
 obtain ⟨v2,hv2,H⟩:=H
 refine gL 2 [4] rfl (y_ld tok rfl rfl rfl rfl hv2) ?_
 refine gT 3 [0] tok ?_
 refine gY 4 [6] rfl (fun _=>y_nil' rfl rfl ha1) ?_
 obtain ⟨v3,hv3,H⟩:=H
 refine gL 5 [7] rfl (y_ld tok rfl rfl rfl rfl hv3) ?_
 refine gT 6 [8] tok ?_
 refine gT 7 [5,9] tok ?_
 refine gY 8 [3] rfl (fun _=>y_nil' rfl rfl ha1) ?_
 obtain ⟨h4,wh4,eh4,H⟩:=H
 refine gH 9 [10,11] rfl (h_st tok rfl rfl rfl rfl rfl rfl wh4 eh4) ?_
 refine gZ ?_
 refine zX (zF [0] (zS ?_))
 refine gB [0] ?_
 refine gT 0 [0] tok ?_
 refine gY 1 [12] rfl (fun _=>y_nil' rfl rfl ha1) ?_
 obtain ⟨v5,hv5,H⟩:=H
 refine gL 2 [13] rfl (y_ld tok rfl rfl rfl rfl hv5) ?_
 refine gT 3 [0] tok ?_
 refine gY 4 [15] rfl (fun _=>y_nil' rfl rfl ha1) ?_
 obtain ⟨v6,hv6,H⟩:=H
 refine gL 5 [16] rfl (y_ld tok rfl rfl rfl rfl hv6) ?_
 refine gT 6 [17] tok ?_
 refine gT 7 [14,18] tok ?_
 refine gY 8 [12] rfl (fun _=>y_nil' rfl rfl ha1) ?_
 obtain ⟨h7,wh7,eh7,H⟩:=H
 refine gH 9 [19,20] rfl (h_st tok rfl rfl rfl rfl rfl rfl wh7 eh7) ?_
 refine gZ ?_
 refine zX (zF [0] (zS ?_))
 refine gB [0] ?_
 refine gT 0 [0] tok ?_
 refine gY 1 [21] rfl (fun _=>y_nil' rfl rfl ha1) ?_
 obtain ⟨v8,hv8,H⟩:=H
 refine gL 2 [22] rfl (y_ld tok rfl rfl rfl rfl hv8) ?_
 refine gT 3 [0] tok ?_
 refine gY 4 [24] rfl (fun _=>y_nil' rfl rfl ha1) ?_
 obtain ⟨v9,hv9,H⟩:=H
 refine gL 5 [25] rfl (y_ld tok rfl rfl rfl rfl hv9) ?_
 refine gT 6 [26] tok ?_
 refine gT 7 [23,27] tok ?_
 refine gY 8 [21] rfl (fun _=>y_nil' rfl rfl ha1) ?_
 obtain ⟨h10,wh10,eh10,H⟩:=H
 refine gH 9 [28,29] rfl (h_st tok rfl rfl rfl rfl rfl rfl wh10 eh10) ?_
 refine gZ ?_
 refine zX (zF [0] (zQ ?_))
 refine w1 tok ?_
 refine wY (y_nil' rfl rfl ha1) ?_
 refine wL tok H fun v11 H=>?_
 refine w1 tok (zE (zT ?_))
 exact x_ret _ rfl _ rfl ⟨v11,rfl,H⟩
theorem O137:CallOk prog 137:=ck func137
theorem R137 (p0 p1 p2 k h) (H:slices_breakPatternsOrdered_uint64 p0 p1 p2 k h):CallsH prog 137 #[Slc.v p0,.int .i64 p1,.int .i64 p2] h (fun v h'=>∃ r:Unit,v = .tuple #[]/\k r h'):=by
 refine fE func137 fun w0=>?_
 refine zF [0,1,2] (zQ ?_)
 refine w3 tok ?_
 obtain ⟨x1,ex1,H⟩:=H
 refine w_pe tok rfl (congrArg (fun z=>(.int .i64 z:Value)) ex1) rfl rfl ?_
 refine zE (zQ (w2 tok (zE ?_)))
 refine zI H ?_ ?_ <;> intro H
 refine zQ (w2 tok ?_)
 refine wB tok H fun b2 h3 H=>?_
 refine wT tok H fun h4 H=>?_
 refine zE (zF [0,1,6,7] (zQ ?_))
 refine w1 tok ?_
 refine wC O146 (R146 _ _ _ H) fun r5 h6 H=>?_
 refine w1 tok (zE (zQ ?_))
 refine w6 tok ?_
 obtain ⟨x7,ex7,H⟩:=H
 refine w_pe tok rfl (congrArg (fun z=>(.int .i64 z:Value)) ex7) rfl rfl ?_
 refine zE (zF [0,1,6,7,8,9] (zB ?_))
 obtain ⟨I1,μ1,H0,HI⟩:=H
 refine zO (σ:=Int) [0,1,6,7,8] (fun (s:Int)=>[(9,.int .i64 s)]) I1 μ1 x7 H0 ?_
 rintro t9_1 h_1 H
 replace H:=HI t9_1 h_1 H
 refine zF [9,0,1,6,7,8] (zS (zQ ?_))
 refine w6 tok ?_
 refine w2 tok (zE (zF [9,0,1,6,7,8,33] ?_))
 refine zI H ?_ ?_ <;> intro H
 refine zK (zX (zS (zB (zQ ?_))))
 refine wC O147 (R147 _ _ _ H) fun r8 h9 H=>?_
 refine w4 tok ?_
 obtain ⟨x10,ex10,H⟩:=H
 refine w_pe tok rfl (congrArg (fun z=>(.int .i64 z:Value)) ex10) rfl rfl ?_
 refine zE ?_
 refine zJ (α:=Int) [0,1,6,7,8,9] (fun (s:Int)=>[(10,.int .i64 s)]) (fun (s:Int) h=>slices_breakPatternsOrdered_uint64_j2 p0 p1 x1 (ad b2) r5 t9_1 s k (fun s h'=>I1 s h'/\μ1 s h' < μ1 t9_1 h_1) h) ?_ ?_
 rintro t10_2 h_2 H
 refine zF [10,0,1,6,7,8,9] ?_
 refine gB [0,1,6,7,8,9,10] ?_
 refine gT 0 [0] tok ?_
 refine gT 1 [9] tok ?_
 refine gT 2 [0] tok ?_
 refine gT 3 [1] tok ?_
 refine gT 4 [10] tok ?_
 refine gT 5 [50,51] tok ?_
 refine gT 6 [0] tok ?_
 refine gT 7 [1] tok ?_
 refine gT 8 [10] tok ?_
 refine gT 9 [54,55] tok ?_
 obtain ⟨a11,ha11,la11,ua11,H⟩:=H
 refine gY 10 [53,56] rfl (fun _=>y_ixa' tok rfl rfl ha11 rfl rfl rfl la11 ua11) ?_
 obtain ⟨v12,hv12,H⟩:=H
 refine gL 11 [57] rfl (y_ld tok rfl rfl rfl rfl hv12) ?_
 refine gT 12 [0] tok ?_
 refine gT 13 [9] tok ?_
 obtain ⟨a13,ha13,la13,ua13,H⟩:=H
 refine gY 14 [59,60] rfl (fun _=>y_ixa' tok rfl rfl ha13 rfl rfl rfl la13 ua13) ?_
 obtain ⟨v14,hv14,H⟩:=H
 refine gL 15 [61] rfl (y_ld tok rfl rfl rfl rfl hv14) ?_
 obtain ⟨a15,ha15,la15,ua15,H⟩:=H
 refine gY 16 [47,48] rfl (fun _=>y_ixa' tok rfl rfl ha15 rfl rfl rfl la15 ua15) ?_
 obtain ⟨h16,wh16,eh16,H⟩:=H
 refine gH 17 [58,63] rfl (h_st tok rfl rfl rfl rfl rfl rfl wh16 eh16) ?_
 obtain ⟨a17,ha17,la17,ua17,H⟩:=H
 refine gY 18 [49,52] rfl (fun _=>y_ixa' tok rfl rfl ha17 rfl rfl rfl la17 ua17) ?_
 obtain ⟨h18,wh18,eh18,H⟩:=H
 refine gH 19 [62,64] rfl (h_st tok rfl rfl rfl rfl rfl rfl wh18 eh18) ?_
 refine gZ ?_
 refine yL (zX (zF [0,1,6,7,8,9] (zR ?_)))
 refine w2 tok ?_
 obtain ⟨x19,ex19,H⟩:=H
 refine w_pe tok rfl (congrArg (fun z=>(.int .i64 z:Value)) ex19) rfl rfl ?_
 refine zW ?_
 exact xJ x19 H
 refine zQ (w3 tok (zE (zF [9,0,1,6,7,8,10,43] ?_)))
 refine zI H ?_ ?_ <;> intro H
 refine zR (w3 tok ?_)
 obtain ⟨x20,ex20,H⟩:=H
 refine w_pe tok rfl (congrArg (fun z=>(.int .i64 z:Value)) ex20) rfl rfl ?_
 refine zW ?_
 exact xJ x20 H
 refine zK ?_
 exact xJ x10 H
 refine zY (yE (yE (yH ?_)))
 exact x_end _ rfl _ rfl ⟨(),rfl,H⟩
 refine zK ?_
 exact x_end _ rfl _ rfl ⟨(),rfl,H⟩
theorem O165:CallOk prog 165:=ck func165
theorem R165 (p0 p1 p2 p3 k h) (H:slices_order2Ordered_uint64 p0 p1 p2 p3 k h):CallsH prog 165 #[Slc.v p0,.int .i64 p1,.int .i64 p2,.pointer p3] h (fun v h'=>∃ r:Int × Int,v = .tuple #[.int .i64 r.1,.int .i64 r.2]/\k r h'):=by
 refine fE func165 fun w0=>?_
 refine zF [0,1,2,3] (zQ ?_)
 refine w2 tok (zE (zS (zS ?_)))
 refine gB [0,1,2,3] ?_
 refine gT 0 [0] tok ?_
 refine gT 1 [2] tok ?_
 obtain ⟨a1,ha1,la1,ua1,H⟩:=H
 refine gY 2 [10,11] rfl (fun _=>y_ixa' tok rfl rfl ha1 rfl rfl rfl la1 ua1) ?_
 obtain ⟨v2,hv2,H⟩:=H
 refine gL 3 [12] rfl (y_ld tok rfl rfl rfl rfl hv2) ?_
 refine gT 4 [0] tok ?_
 refine gT 5 [1] tok ?_
 obtain ⟨a3,ha3,la3,ua3,H⟩:=H
 refine gY 6 [14,15] rfl (fun _=>y_ixa' tok rfl rfl ha3 rfl rfl rfl la3 ua3) ?_
 obtain ⟨v4,hv4,H⟩:=H
 refine gL 7 [16] rfl (y_ld tok rfl rfl rfl rfl hv4) ?_
 refine gC 8 [13,17] O141 (R141 _ _ _ _ H) fun r5 h6 H=>?_
 refine gZ ?_
 refine zX (zF [1,2,3,18] ?_)
 refine zI H ?_ ?_ <;> intro H
 refine zQ (w1 tok ?_)
 refine wN H fun a7 ha7 H=>?_
 refine wL tok H fun v8 H=>?_
 refine w1 tok ?_
 refine wY (y_nil' rfl rfl ha7) ?_
 refine wT tok H fun h9 H=>?_
 refine zE (zF [1,2] (zQ ?_))
 refine w4 tok (zE (zT (yT ?_)))
 exact x_ret _ rfl _ rfl ⟨(p2,p1),rfl,H⟩
 refine zK (zX (zQ (w4 tok (zE (zT ?_)))))
 exact x_ret _ rfl _ rfl ⟨(p1,p2),rfl,H⟩
theorem O159:CallOk prog 159:=ck func159
theorem R159 (p0 p1 p2 p3 p4 k h) (H:slices_medianOrdered_uint64 p0 p1 p2 p3 p4 k h):CallsH prog 159 #[Slc.v p0,.int .i64 p1,.int .i64 p2,.int .i64 p3,.pointer p4] h (fun v h'=>∃ r:Int,v = .int .i64 r/\k r h'):=by
 refine fE func159 fun w0=>?_
 refine zF [0,1,2,3,4] (zQ ?_)
 refine w1 tok (zE (zQ ?_))
 refine w4 tok ?_
 refine wC O165 (R165 _ _ _ _ _ _ H) fun r1 h2 H=>?_
 refine w5 tok (zE (zF [0,1,2,3,4] (zQ ?_)))
 refine w4 tok ?_
 refine wC O165 (R165 _ _ _ _ _ _ H) fun r3 h4 H=>?_
 refine w5 tok (zE (zF [0,1,2,4] (zQ ?_)))
 refine w4 tok ?_
 refine wC O165 (R165 _ _ _ _ _ _ H) fun r5 h6 H=>?_
 refine w5 tok (zE (zF [2] (zQ ?_)))
 refine w2 tok (zE (zT ?_))
 exact x_ret _ rfl _ rfl ⟨r5.2,rfl,H⟩
theorem O158:CallOk prog 158:=ck func158
theorem R158 (p0 p1 p2 k h) (H:slices_medianAdjacentOrdered_uint64 p0 p1 p2 k h):CallsH prog 158 #[Slc.v p0,.int .i64 p1,.pointer p2] h (fun v h'=>∃ r:Int,v = .int .i64 r/\k r h'):=by
 refine fE func158 fun w0=>?_
 refine zF [0,1,2] (zQ ?_)
 refine w1 tok (zE (zQ ?_))
 refine w6 tok ?_
 refine w1 tok ?_
 refine wC O159 (R159 _ _ _ _ _ _ _ H) fun r1 h2 H=>?_
 refine w1 tok (zE (zF [6] (zT ?_)))
 exact x_ret _ rfl _ rfl ⟨r1,rfl,H⟩
theorem O138:CallOk prog 138:=ck func138
theorem R138 (p0 p1 p2 k h) (H:slices_choosePivotOrdered_uint64 p0 p1 p2 k h):CallsH prog 138 #[Slc.v p0,.int .i64 p1,.int .i64 p2] h (fun v h'=>∃ r:Int × Int,v = .tuple #[.int .i64 r.1,.int .i64 r.2]/\k r h'):=by
 refine fE func138 fun w0=>?_
 refine zF [0,1,2] (zQ ?_)
 refine w2 tok (zE (zQ ?_))
 refine w3 tok ?_
 obtain ⟨x1,ex1,H⟩:=H
 refine w_pe tok rfl (congrArg (fun z=>(.int .i64 z:Value)) ex1) rfl rfl ?_
 refine zE (zQ ?_)
 refine wB tok H fun b2 h3 H=>?_
 refine zE (zQ (w5 tok ?_))
 obtain ⟨x4,ex4,H⟩:=H
 refine w_pe tok rfl (congrArg (fun z=>(.int .i64 z:Value)) ex4) rfl rfl ?_
 refine zE (zF [0,1,8,9,10] (zQ ?_))
 refine w5 tok ?_
 obtain ⟨x5,ex5,H⟩:=H
 refine w_pe tok rfl (congrArg (fun z=>(.int .i64 z:Value)) ex5) rfl rfl ?_
 refine zE (zQ (w5 tok ?_))
 obtain ⟨x6,ex6,H⟩:=H
 refine w_pe tok rfl (congrArg (fun z=>(.int .i64 z:Value)) ex6) rfl rfl ?_
 refine zE (zF [0,8,9,10,11,12] ?_)
 refine zJ (α:=Int) [9] (fun (s:Int)=>[(11,.int .i64 s)]) (fun (s:Int) h=>slices_choosePivotOrdered_uint64_j1 (ad b2) s k h) ?_ ?_
 rintro t11_1 h_1 H
 refine zF [11,9] (zQ ?_)
 refine wL tok H fun v7 H=>?_
 refine zE (zB (zQ (w2 tok (zE ?_))))
 refine zI H ?_ ?_ <;> intro H
 refine zQ (w3 tok (zE (zT (yB ?_))))
 exact x_ret _ rfl _ rfl ⟨(t11_1,1),rfl,H⟩
 refine zQ (w2 tok (zE ?_))
 refine zI H ?_ ?_ <;> intro H
 refine zQ (w3 tok (zE (zF [6,7] (zT (yB ?_)))))
 exact x_ret _ rfl _ rfl ⟨(t11_1,2),rfl,H⟩
 refine zQ (w3 tok (zE (zF [6,7] (zT (yB ?_)))))
 exact x_ret _ rfl _ rfl ⟨(t11_1,0),rfl,H⟩
 refine zQ (w2 tok (zE ?_))
 refine zI H ?_ ?_ <;> intro H
 refine zJ (α:=Int × Int × Int) [0,9] (fun (s:Int × Int × Int)=>[(10,.int .i64 s.1),(11,.int .i64 s.2.1),(12,.int .i64 s.2.2)]) (fun (s:Int × Int × Int) h=>slices_choosePivotOrdered_uint64_j2 p0 (ad b2) s.1 s.2.1 s.2.2 k h) ?_ ?_
 rintro ⟨t10_2,t11_2,t12_2⟩ h_2 H
 refine zF [10,11,12,0,9] (zR ?_)
 refine w4 tok ?_
 refine wC O159 (R159 _ _ _ _ _ _ _ H) fun r8 h9 H=>?_
 refine w1 tok (zW ?_)
 exact xJ r8 H
 refine zQ (w2 tok (zE ?_))
 refine zI H ?_ ?_ <;> intro H
 refine zQ (w2 tok ?_)
 refine wC O158 (R158 _ _ _ _ _ H) fun r10 h11 H=>?_
 refine w1 tok (zE (zF [0,9,10,11,12] (zQ ?_)))
 refine w2 tok ?_
 refine wC O158 (R158 _ _ _ _ _ H) fun r12 h13 H=>?_
 refine w1 tok (zE (zR ?_))
 refine w2 tok ?_
 refine wC O158 (R158 _ _ _ _ _ H) fun r14 h15 H=>?_
 refine w1 tok (zW ?_)
 exact xJ (r10,r12,r14) H
 refine zK ?_
 exact xJ (x4,x5,x6) H
 refine zK ?_
 exact xJ x5 H
theorem O139:CallOk prog 139:=ck func139
theorem R139 (p0 p1 p2 k h) (H:slices_reverseRangeOrdered_uint64 p0 p1 p2 k h):CallsH prog 139 #[Slc.v p0,.int .i64 p1,.int .i64 p2] h (fun v h'=>∃ r:Unit,v = .tuple #[]/\k r h'):=by
 refine fE func139 fun w0=>?_
 refine zF [0,1,2] (zQ ?_)
 refine w2 tok (zE (zQ ?_))
 refine w2 tok ?_
 obtain ⟨x1,ex1,H⟩:=H
 refine w_pe tok rfl (congrArg (fun z=>(.int .i64 z:Value)) ex1) rfl rfl ?_
 refine zE (zB ?_)
 obtain ⟨I1,μ1,H0,HI⟩:=H
 refine zO (σ:=Int × Int) [0] (fun (s:Int × Int)=>[(6,.int .i64 s.1),(7,.int .i64 s.2)]) I1 μ1 (p1,x1) H0 ?_
 rintro ⟨t6_1,t7_1⟩ h_1 H
 replace H:=HI t6_1 t7_1 h_1 H
 refine zF [6,7,0] (zS (zQ ?_))
 refine w3 tok (zE ?_)
 refine zI H ?_ ?_ <;> intro H
 refine zK (zX (zB (zS ?_)))
 refine gB [0,6,7] ?_
 refine gT 0 [0] tok ?_
 refine gT 1 [6] tok ?_
 refine gT 2 [0] tok ?_
 refine gT 3 [7] tok ?_
 refine gT 4 [0] tok ?_
 refine gT 5 [7] tok ?_
 obtain ⟨a2,ha2,la2,ua2,H⟩:=H
 refine gY 6 [18,19] rfl (fun _=>y_ixa' tok rfl rfl ha2 rfl rfl rfl la2 ua2) ?_
 obtain ⟨v3,hv3,H⟩:=H
 refine gL 7 [20] rfl (y_ld tok rfl rfl rfl rfl hv3) ?_
 refine gT 8 [0] tok ?_
 refine gT 9 [6] tok ?_
 obtain ⟨a4,ha4,la4,ua4,H⟩:=H
 refine gY 10 [22,23] rfl (fun _=>y_ixa' tok rfl rfl ha4 rfl rfl rfl la4 ua4) ?_
 obtain ⟨v5,hv5,H⟩:=H
 refine gL 11 [24] rfl (y_ld tok rfl rfl rfl rfl hv5) ?_
 obtain ⟨a6,ha6,la6,ua6,H⟩:=H
 refine gY 12 [14,15] rfl (fun _=>y_ixa' tok rfl rfl ha6 rfl rfl rfl la6 ua6) ?_
 obtain ⟨h7,wh7,eh7,H⟩:=H
 refine gH 13 [21,26] rfl (h_st tok rfl rfl rfl rfl rfl rfl wh7 eh7) ?_
 obtain ⟨a8,ha8,la8,ua8,H⟩:=H
 refine gY 14 [16,17] rfl (fun _=>y_ixa' tok rfl rfl ha8 rfl rfl rfl la8 ua8) ?_
 obtain ⟨h9,wh9,eh9,H⟩:=H
 refine gH 15 [25,27] rfl (h_st tok rfl rfl rfl rfl rfl rfl wh9 eh9) ?_
 refine gZ ?_
 refine zX (zF [0,6,7] (zQ ?_))
 refine w2 tok ?_
 obtain ⟨x10,ex10,H⟩:=H
 refine w_pe tok rfl (congrArg (fun z=>(.int .i64 z:Value)) ex10) rfl rfl ?_
 refine zE (zR (w2 tok ?_))
 obtain ⟨x11,ex11,H⟩:=H
 refine w_pe tok rfl (congrArg (fun z=>(.int .i64 z:Value)) ex11) rfl rfl ?_
 refine zL ?_
 exact xJ (x10,x11) H
 refine zY (yE (yE (yH ?_)))
 exact x_end _ rfl _ rfl ⟨(),rfl,H⟩
theorem O140:CallOk prog 140:=ck func140
theorem R140 (p0 p1 p2 k h) (H:slices_partialInsertionSortOrdered_uint64 p0 p1 p2 k h):CallsH prog 140 #[Slc.v p0,.int .i64 p1,.int .i64 p2] h (fun v h'=>∃ r:Bool,v = .bool r/\k r h'):=by
 refine fE func140 fun w0=>?_
 refine zF [0,1,2] (zQ ?_)
 refine w1 tok (zE (zQ ?_))
 refine w2 tok ?_
 obtain ⟨x1,ex1,H⟩:=H
 refine w_pe tok rfl (congrArg (fun z=>(.int .i64 z:Value)) ex1) rfl rfl ?_
 refine zE (zS (zQ (w1 tok (zE (zB ?_)))))
 obtain ⟨I1,μ1,H0,HI⟩:=H
 refine zO (σ:=Int × Int) [0,1,2] (fun (s:Int × Int)=>[(7,.int .i64 s.1),(8,.int .i64 s.2)]) I1 μ1 (x1,0) H0 ?_
 rintro ⟨t7_1,t8_1⟩ h_1 H
 replace H:=HI t7_1 t8_1 h_1 H
 refine zF [7,8,0,1,2] (zS (zQ ?_))
 refine w2 tok (zE ?_)
 refine zI H ?_ ?_ <;> intro H
 refine zK (zX ?_)
 refine zJ (α:=Int) [0,1,2,8] (fun (s:Int)=>[(7,.int .i64 s)]) (fun (s:Int) h=>slices_partialInsertionSortOrdered_uint64_j2 p0 p1 p2 t8_1 s k (fun s h'=>I1 s h'/\μ1 s h' < μ1 (t7_1,t8_1) h_1) h) ?_ ?_
 rintro t7_2 h_2 H
 refine zF [7,0,1,2,8] (zR ?_)
 refine w2 tok ?_
 obtain ⟨x2,ex2,H⟩:=H
 refine w_pe tok rfl (congrArg (fun z=>(.int .i64 z:Value)) ex2) rfl rfl ?_
 refine zW ?_
 exact xJ (t7_2,x2) H
 refine zB (zS (zB ?_))
 obtain ⟨I3,μ3,H0,HI⟩:=H
 refine zO (σ:=Int) [0,1,2,8] (fun (s:Int)=>[(7,.int .i64 s)]) I3 μ3 t7_1 H0 ?_
 rintro t7_3 h_3 H
 replace H:=HI t7_3 h_3 H
 refine zF [7,0,1,2,8] (zS ?_)
 refine zJ (α:=Bool) [0,1,2,7,8] (fun (s:Bool)=>[(32,.bool s)]) (fun (s:Bool) h=>slices_partialInsertionSortOrdered_uint64_j4 p0 p1 p2 t7_3 t8_1 s k (fun s h'=>I1 s h'/\μ1 s h' < μ1 (t7_1,t8_1) h_1) (fun s h'=>I3 s h'/\μ3 s h' < μ3 t7_3 h_3) h) ?_ ?_
 rintro t32_4 h_4 H
 refine zF [32,0,1,2,7,8] ?_
 refine zI H ?_ ?_ <;> intro H
 refine zK (zX (zB (zR (w2 tok ?_))))
 obtain ⟨x3,ex3,H⟩:=H
 refine w_pe tok rfl (congrArg (fun z=>(.int .i64 z:Value)) ex3) rfl rfl ?_
 refine zL ?_
 exact xJ x3 H
 refine zY (yE (yE (yH (zX (zS (zQ (w3 tok (zE ?_))))))))
 refine zI H ?_ ?_ <;> intro H
 refine zQ (w1 tok (zE (zF [6] (zT (yT (yB (yT (yT (yB (yT ?_))))))))))
 exact x_ret _ rfl _ rfl ⟨true,rfl,H⟩
 refine zK (zX (zS (zQ (w4 tok (zE (zF [0,1,2,7,8,41] ?_))))))
 refine zI H ?_ ?_ <;> intro H
 refine zQ (w1 tok (zE (zT (yT (yB (yT (yT (yB (yT ?_)))))))))
 exact x_ret _ rfl _ rfl ⟨false,rfl,H⟩
 refine zK (zX (zS ?_))
 refine gB [0,1,2,7,8] ?_
 refine gT 0 [0] tok ?_
 refine gT 1 [7] tok ?_
 refine gT 2 [0] tok ?_
 refine gT 3 [7] tok ?_
 refine gT 4 [45] tok ?_
 refine gT 5 [0] tok ?_
 refine gT 6 [7] tok ?_
 refine gT 7 [48] tok ?_
 obtain ⟨a4,ha4,la4,ua4,H⟩:=H
 refine gY 8 [47,49] rfl (fun _=>y_ixa' tok rfl rfl ha4 rfl rfl rfl la4 ua4) ?_
 obtain ⟨v5,hv5,H⟩:=H
 refine gL 9 [50] rfl (y_ld tok rfl rfl rfl rfl hv5) ?_
 refine gT 10 [0] tok ?_
 refine gT 11 [7] tok ?_
 obtain ⟨a6,ha6,la6,ua6,H⟩:=H
 refine gY 12 [52,53] rfl (fun _=>y_ixa' tok rfl rfl ha6 rfl rfl rfl la6 ua6) ?_
 obtain ⟨v7,hv7,H⟩:=H
 refine gL 13 [54] rfl (y_ld tok rfl rfl rfl rfl hv7) ?_
 obtain ⟨a8,ha8,la8,ua8,H⟩:=H
 refine gY 14 [42,43] rfl (fun _=>y_ixa' tok rfl rfl ha8 rfl rfl rfl la8 ua8) ?_
 obtain ⟨h9,wh9,eh9,H⟩:=H
 refine gH 15 [51,56] rfl (h_st tok rfl rfl rfl rfl rfl rfl wh9 eh9) ?_
 obtain ⟨a10,ha10,la10,ua10,H⟩:=H
 refine gY 16 [44,46] rfl (fun _=>y_ixa' tok rfl rfl ha10 rfl rfl rfl la10 ua10) ?_
 obtain ⟨h11,wh11,eh11,H⟩:=H
 refine gH 17 [55,57] rfl (h_st tok rfl rfl rfl rfl rfl rfl wh11 eh11) ?_
 refine gZ ?_
 refine zX (zF [0,1,2,7,8] ?_)
 refine zJ (α:=Unit) [0,1,2,7,8] (fun (s:Unit)=>[]) (fun (s:Unit) h=>slices_partialInsertionSortOrdered_uint64_j5 p0 p1 p2 t7_3 t8_1 k (fun s h'=>I1 s h'/\μ1 s h' < μ1 (t7_1,t8_1) h_1) (fun s h'=>I3 s h'/\μ3 s h' < μ3 t7_3 h_3) h) ?_ ?_
 rintro _ h_5 H
 refine zF [0,1,2,7,8] (zQ ?_)
 refine w4 tok (zE ?_)
 refine zI H ?_ ?_ <;> intro H
 refine zQ (w2 tok ?_)
 obtain ⟨x12,ex12,H⟩:=H
 refine w_pe tok rfl (congrArg (fun z=>(.int .i64 z:Value)) ex12) rfl rfl ?_
 refine zE (zB ?_)
 obtain ⟨I6,μ6,H0,HI⟩:=H
 refine zO (σ:=Int) [0,1,2,7,8] (fun (s:Int)=>[(10,.int .i64 s)]) I6 μ6 x12 H0 ?_
 rintro t10_6 h_6 H
 replace H:=HI t10_6 h_6 H
 refine zF [10,0,1,2,7,8] (zS (zQ ?_))
 refine w3 tok (zE ?_)
 refine zI H ?_ ?_ <;> intro H
 refine zK (zX (zS (zB (zS (zS ?_)))))
 refine gB [0,1,2,7,8,10] ?_
 refine gT 0 [0] tok ?_
 refine gT 1 [10] tok ?_
 obtain ⟨a13,ha13,la13,ua13,H⟩:=H
 refine gY 2 [106,107] rfl (fun _=>y_ixa' tok rfl rfl ha13 rfl rfl rfl la13 ua13) ?_
 obtain ⟨v14,hv14,H⟩:=H
 refine gL 3 [108] rfl (y_ld tok rfl rfl rfl rfl hv14) ?_
 refine gT 4 [0] tok ?_
 refine gT 5 [10] tok ?_
 refine gT 6 [111] tok ?_
 obtain ⟨a15,ha15,la15,ua15,H⟩:=H
 refine gY 7 [110,112] rfl (fun _=>y_ixa' tok rfl rfl ha15 rfl rfl rfl la15 ua15) ?_
 obtain ⟨v16,hv16,H⟩:=H
 refine gL 8 [113] rfl (y_ld tok rfl rfl rfl rfl hv16) ?_
 refine gC 9 [109,114] O141 (R141 _ _ _ _ H) fun r17 h18 H=>?_
 refine gT 10 [115] tok ?_
 refine gZ ?_
 refine zX (zF [0,1,2,7,8,10,116] ?_)
 refine zI H ?_ ?_ <;> intro H
 refine zY (yE (zM (yE (yE (yH (yL ?_))))))
 exact xJ t7_3 H
 refine zK (zX ?_)
 refine gB [0,1,2,7,8,10] ?_
 refine gT 0 [0] tok ?_
 refine gT 1 [10] tok ?_
 refine gT 2 [0] tok ?_
 refine gT 3 [10] tok ?_
 refine gT 4 [120] tok ?_
 refine gT 5 [0] tok ?_
 refine gT 6 [10] tok ?_
 refine gT 7 [123] tok ?_
 obtain ⟨a19,ha19,la19,ua19,H⟩:=H
 refine gY 8 [122,124] rfl (fun _=>y_ixa' tok rfl rfl ha19 rfl rfl rfl la19 ua19) ?_
 obtain ⟨v20,hv20,H⟩:=H
 refine gL 9 [125] rfl (y_ld tok rfl rfl rfl rfl hv20) ?_
 refine gT 10 [0] tok ?_
 refine gT 11 [10] tok ?_
 obtain ⟨a21,ha21,la21,ua21,H⟩:=H
 refine gY 12 [127,128] rfl (fun _=>y_ixa' tok rfl rfl ha21 rfl rfl rfl la21 ua21) ?_
 obtain ⟨v22,hv22,H⟩:=H
 refine gL 13 [129] rfl (y_ld tok rfl rfl rfl rfl hv22) ?_
 obtain ⟨a23,ha23,la23,ua23,H⟩:=H
 refine gY 14 [117,118] rfl (fun _=>y_ixa' tok rfl rfl ha23 rfl rfl rfl la23 ua23) ?_
 obtain ⟨h24,wh24,eh24,H⟩:=H
 refine gH 15 [126,131] rfl (h_st tok rfl rfl rfl rfl rfl rfl wh24 eh24) ?_
 obtain ⟨a25,ha25,la25,ua25,H⟩:=H
 refine gY 16 [119,121] rfl (fun _=>y_ixa' tok rfl rfl ha25 rfl rfl rfl la25 ua25) ?_
 obtain ⟨h26,wh26,eh26,H⟩:=H
 refine gH 17 [130,132] rfl (h_st tok rfl rfl rfl rfl rfl rfl wh26 eh26) ?_
 refine gZ ?_
 refine yL (zX (zF [0,1,2,7,8,10] (zR ?_)))
 refine w2 tok ?_
 obtain ⟨x27,ex27,H⟩:=H
 refine w_pe tok rfl (congrArg (fun z=>(.int .i64 z:Value)) ex27) rfl rfl ?_
 refine zW ?_
 exact xJ x27 H
 refine zY (yE (yE (yH (yL ?_))))
 exact xJ t7_3 H
 refine zK (yL ?_)
 exact xJ t7_3 H
 refine zQ (w4 tok (zE ?_))
 refine zI H ?_ ?_ <;> intro H
 refine zQ (w2 tok ?_)
 obtain ⟨x28,ex28,H⟩:=H
 refine w_pe tok rfl (congrArg (fun z=>(.int .i64 z:Value)) ex28) rfl rfl ?_
 refine zE (zB ?_)
 obtain ⟨I7,μ7,H0,HI⟩:=H
 refine zO (σ:=Int) [0,1,2,7,8] (fun (s:Int)=>[(9,.int .i64 s)]) I7 μ7 x28 H0 ?_
 rintro t9_7 h_7 H
 replace H:=HI t9_7 h_7 H
 refine zF [9,0,1,2,7,8] (zS (zQ ?_))
 refine w2 tok (zE ?_)
 refine zI H ?_ ?_ <;> intro H
 refine zK (zX (zS (zB (zS (zS ?_)))))
 refine gB [0,1,2,7,8,9] ?_
 refine gT 0 [0] tok ?_
 refine gT 1 [9] tok ?_
 obtain ⟨a29,ha29,la29,ua29,H⟩:=H
 refine gY 2 [68,69] rfl (fun _=>y_ixa' tok rfl rfl ha29 rfl rfl rfl la29 ua29) ?_
 obtain ⟨v30,hv30,H⟩:=H
 refine gL 3 [70] rfl (y_ld tok rfl rfl rfl rfl hv30) ?_
 refine gT 4 [0] tok ?_
 refine gT 5 [9] tok ?_
 refine gT 6 [73] tok ?_
 obtain ⟨a31,ha31,la31,ua31,H⟩:=H
 refine gY 7 [72,74] rfl (fun _=>y_ixa' tok rfl rfl ha31 rfl rfl rfl la31 ua31) ?_
 obtain ⟨v32,hv32,H⟩:=H
 refine gL 8 [75] rfl (y_ld tok rfl rfl rfl rfl hv32) ?_
 refine gC 9 [71,76] O141 (R141 _ _ _ _ H) fun r33 h34 H=>?_
 refine gT 10 [77] tok ?_
 refine gZ ?_
 refine zX (zF [0,1,2,7,8,9,78] ?_)
 refine zI H ?_ ?_ <;> intro H
 refine zY (yE (zM (yE (yE (yH ?_)))))
 exact xJ () H
 refine zK (zX ?_)
 refine gB [0,1,2,7,8,9] ?_
 refine gT 0 [0] tok ?_
 refine gT 1 [9] tok ?_
 refine gT 2 [0] tok ?_
 refine gT 3 [9] tok ?_
 refine gT 4 [82] tok ?_
 refine gT 5 [0] tok ?_
 refine gT 6 [9] tok ?_
 refine gT 7 [85] tok ?_
 obtain ⟨a35,ha35,la35,ua35,H⟩:=H
 refine gY 8 [84,86] rfl (fun _=>y_ixa' tok rfl rfl ha35 rfl rfl rfl la35 ua35) ?_
 obtain ⟨v36,hv36,H⟩:=H
 refine gL 9 [87] rfl (y_ld tok rfl rfl rfl rfl hv36) ?_
 refine gT 10 [0] tok ?_
 refine gT 11 [9] tok ?_
 obtain ⟨a37,ha37,la37,ua37,H⟩:=H
 refine gY 12 [89,90] rfl (fun _=>y_ixa' tok rfl rfl ha37 rfl rfl rfl la37 ua37) ?_
 obtain ⟨v38,hv38,H⟩:=H
 refine gL 13 [91] rfl (y_ld tok rfl rfl rfl rfl hv38) ?_
 obtain ⟨a39,ha39,la39,ua39,H⟩:=H
 refine gY 14 [79,80] rfl (fun _=>y_ixa' tok rfl rfl ha39 rfl rfl rfl la39 ua39) ?_
 obtain ⟨h40,wh40,eh40,H⟩:=H
 refine gH 15 [88,93] rfl (h_st tok rfl rfl rfl rfl rfl rfl wh40 eh40) ?_
 obtain ⟨a41,ha41,la41,ua41,H⟩:=H
 refine gY 16 [81,83] rfl (fun _=>y_ixa' tok rfl rfl ha41 rfl rfl rfl la41 ua41) ?_
 obtain ⟨h42,wh42,eh42,H⟩:=H
 refine gH 17 [92,94] rfl (h_st tok rfl rfl rfl rfl rfl rfl wh42 eh42) ?_
 refine gZ ?_
 refine yL (zX (zF [0,1,2,7,8,9] (zR ?_)))
 refine w2 tok ?_
 obtain ⟨x43,ex43,H⟩:=H
 refine w_pe tok rfl (congrArg (fun z=>(.int .i64 z:Value)) ex43) rfl rfl ?_
 refine zW ?_
 exact xJ x43 H
 refine zY (yE (yE (yH ?_)))
 exact xJ () H
 refine zK ?_
 exact xJ () H
 refine gB [0,1,2,7,8] ?_
 refine gT 0 [7] tok ?_
 refine gT 1 [2] tok ?_
 refine gT 2 [17,18] tok ?_
 refine gT 3 [19] tok ?_
 refine gI 20 H (fun hb H=>?_) (fun hb H=>?_)
 refine gT 4 [0,20] tok ?_
 refine gT 5 [7,20] tok ?_
 obtain ⟨a44,ha44,la44,ua44,H⟩:=H
 refine gY 6 [20,21,22] rfl (fun _=>y_ixa' tok rfl rfl ha44 rfl rfl rfl la44 ua44) ?_
 obtain ⟨v45,hv45,H⟩:=H
 refine gL 7 [20,23] rfl (y_ld tok rfl rfl rfl rfl hv45) ?_
 refine gT 8 [0,20] tok ?_
 refine gT 9 [7,20] tok ?_
 refine gT 10 [20,26] tok ?_
 obtain ⟨a46,ha46,la46,ua46,H⟩:=H
 refine gY 11 [20,25,27] rfl (fun _=>y_ixa' tok rfl rfl ha46 rfl rfl rfl la46 ua46) ?_
 obtain ⟨v47,hv47,H⟩:=H
 refine gL 12 [20,28] rfl (y_ld tok rfl rfl rfl rfl hv47) ?_
 refine gC 13 [20,24,29] O141 (R141 _ _ _ _ H) fun r48 h49 H=>?_
 refine gT 14 [20,30] tok ?_
 refine gT 15 [20,31] tok ?_
 refine gZ ?_
 exact xJ (!r48) H
 refine gS 4 [0,20] ?_
 refine gS 5 [7,20] ?_
 refine gS 6 [20,21,22] ?_
 refine gS 7 [20,23] ?_
 refine gS 8 [0,20] ?_
 refine gS 9 [7,20] ?_
 refine gS 10 [20,26] ?_
 refine gS 11 [20,25,27] ?_
 refine gS 12 [20,28] ?_
 refine gS 13 [20,24,29] ?_
 refine gS 14 [20,30] ?_
 refine gT 15 [20,31] tok ?_
 refine gZ ?_
 exact xJ false H
 refine zY (yE (yE (yH (zX (zF [] (zQ ?_))))))
 refine w1 tok (zE (zT ?_))
 exact x_ret _ rfl _ rfl ⟨false,rfl,H⟩
theorem O142:CallOk prog 142:=ck func142
theorem R142 (p0 p1 p2 p3 k h) (H:slices_partitionEqualOrdered_uint64 p0 p1 p2 p3 k h):CallsH prog 142 #[Slc.v p0,.int .i64 p1,.int .i64 p2,.int .i64 p3] h (fun v h'=>∃ r:Int,v = .int .i64 r/\k r h'):=by
 refine fE func142 fun w0=>?_
 refine zF [0,1,2,3] (zQ ?_)
 refine w1 tok (zE (zS ?_))
 refine gB [0,1,2,3] ?_
 refine gT 0 [0] tok ?_
 refine gT 1 [1] tok ?_
 refine gT 2 [0] tok ?_
 refine gT 3 [3] tok ?_
 refine gT 4 [0] tok ?_
 refine gT 5 [3] tok ?_
 obtain ⟨a1,ha1,la1,ua1,H⟩:=H
 refine gY 6 [15,16] rfl (fun _=>y_ixa' tok rfl rfl ha1 rfl rfl rfl la1 ua1) ?_
 obtain ⟨v2,hv2,H⟩:=H
 refine gL 7 [17] rfl (y_ld tok rfl rfl rfl rfl hv2) ?_
 refine gT 8 [0] tok ?_
 refine gT 9 [1] tok ?_
 obtain ⟨a3,ha3,la3,ua3,H⟩:=H
 refine gY 10 [19,20] rfl (fun _=>y_ixa' tok rfl rfl ha3 rfl rfl rfl la3 ua3) ?_
 obtain ⟨v4,hv4,H⟩:=H
 refine gL 11 [21] rfl (y_ld tok rfl rfl rfl rfl hv4) ?_
 obtain ⟨a5,ha5,la5,ua5,H⟩:=H
 refine gY 12 [11,12] rfl (fun _=>y_ixa' tok rfl rfl ha5 rfl rfl rfl la5 ua5) ?_
 obtain ⟨h6,wh6,eh6,H⟩:=H
 refine gH 13 [18,23] rfl (h_st tok rfl rfl rfl rfl rfl rfl wh6 eh6) ?_
 obtain ⟨a7,ha7,la7,ua7,H⟩:=H
 refine gY 14 [13,14] rfl (fun _=>y_ixa' tok rfl rfl ha7 rfl rfl rfl la7 ua7) ?_
 obtain ⟨h8,wh8,eh8,H⟩:=H
 refine gH 15 [22,24] rfl (h_st tok rfl rfl rfl rfl rfl rfl wh8 eh8) ?_
 refine gZ ?_
 refine zX (zF [0,1,2] (zQ ?_))
 refine w4 tok ?_
 obtain ⟨x9,ex9,H⟩:=H
 refine w_pe tok rfl (congrArg (fun z=>(.int .i64 z:Value)) ex9) rfl rfl ?_
 obtain ⟨x10,ex10,H⟩:=H
 refine w_pe tok rfl (congrArg (fun z=>(.int .i64 z:Value)) ex10) rfl rfl ?_
 refine zE (zS (zB ?_))
 obtain ⟨I1,μ1,H0,HI⟩:=H
 refine zO (σ:=Int × Int) [0,1] (fun (s:Int × Int)=>[(9,.int .i64 s.1),(10,.int .i64 s.2)]) I1 μ1 (x9,x10) H0 ?_
 rintro ⟨t9_1,t10_1⟩ h_1 H
 replace H:=HI t9_1 t10_1 h_1 H
 refine zF [9,10,0,1] (zB (zS (zB ?_)))
 obtain ⟨I2,μ2,H0,HI⟩:=H
 refine zO (σ:=Int) [0,1,10] (fun (s:Int)=>[(9,.int .i64 s)]) I2 μ2 t9_1 H0 ?_
 rintro t9_2 h_2 H
 replace H:=HI t9_2 h_2 H
 refine zF [9,0,1,10] (zS ?_)
 refine zJ (α:=Bool) [0,1,9,10] (fun (s:Bool)=>[(43,.bool s)]) (fun (s:Bool) h=>slices_partitionEqualOrdered_uint64_j3 p0 p1 t9_2 t10_1 s k (fun s h'=>I1 s h'/\μ1 s h' < μ1 (t9_1,t10_1) h_1) (fun s h'=>I2 s h'/\μ2 s h' < μ2 t9_2 h_2) h) ?_ ?_
 rintro t43_3 h_3 H
 refine zF [43,0,1,9,10] ?_
 refine zI H ?_ ?_ <;> intro H
 refine zK (zX (zB (zR (w2 tok ?_))))
 obtain ⟨x11,ex11,H⟩:=H
 refine w_pe tok rfl (congrArg (fun z=>(.int .i64 z:Value)) ex11) rfl rfl ?_
 refine zL ?_
 exact xJ x11 H
 refine zY (yE (yE (yH (zX (zS (zB ?_))))))
 obtain ⟨I4,μ4,H0,HI⟩:=H
 refine zO (σ:=Int) [0,1,9] (fun (s:Int)=>[(10,.int .i64 s)]) I4 μ4 t10_1 H0 ?_
 rintro t10_4 h_4 H
 replace H:=HI t10_4 h_4 H
 refine zF [10,0,1,9] (zS ?_)
 refine zJ (α:=Bool) [0,1,9,10] (fun (s:Bool)=>[(59,.bool s)]) (fun (s:Bool) h=>slices_partitionEqualOrdered_uint64_j5 p0 p1 t9_2 t10_4 s k (fun s h'=>I1 s h'/\μ1 s h' < μ1 (t9_1,t10_1) h_1) (fun s h'=>I2 s h'/\μ2 s h' < μ2 t9_2 h_2) (fun s h'=>I4 s h'/\μ4 s h' < μ4 t10_4 h_4) h) ?_ ?_
 rintro t59_5 h_5 H
 refine zF [59,0,1,9,10] ?_
 refine zI H ?_ ?_ <;> intro H
 refine zK (zX (zB (zR (w2 tok ?_))))
 obtain ⟨x12,ex12,H⟩:=H
 refine w_pe tok rfl (congrArg (fun z=>(.int .i64 z:Value)) ex12) rfl rfl ?_
 refine zL ?_
 exact xJ x12 H
 refine zY (yE (yE (yH (zX (zS (zQ (w3 tok (zE ?_))))))))
 refine zI H ?_ ?_ <;> intro H
 refine zY (yE (zM (yE (yH (zX (zF [9] (zQ ?_)))))))
 refine w2 tok (zE (zT ?_))
 exact x_ret _ rfl _ rfl ⟨t9_2,rfl,H⟩
 refine zK (zX (zS ?_))
 refine gB [0,1,9,10] ?_
 refine gT 0 [0] tok ?_
 refine gT 1 [9] tok ?_
 refine gT 2 [0] tok ?_
 refine gT 3 [10] tok ?_
 refine gT 4 [0] tok ?_
 refine gT 5 [10] tok ?_
 obtain ⟨a13,ha13,la13,ua13,H⟩:=H
 refine gY 6 [69,70] rfl (fun _=>y_ixa' tok rfl rfl ha13 rfl rfl rfl la13 ua13) ?_
 obtain ⟨v14,hv14,H⟩:=H
 refine gL 7 [71] rfl (y_ld tok rfl rfl rfl rfl hv14) ?_
 refine gT 8 [0] tok ?_
 refine gT 9 [9] tok ?_
 obtain ⟨a15,ha15,la15,ua15,H⟩:=H
 refine gY 10 [73,74] rfl (fun _=>y_ixa' tok rfl rfl ha15 rfl rfl rfl la15 ua15) ?_
 obtain ⟨v16,hv16,H⟩:=H
 refine gL 11 [75] rfl (y_ld tok rfl rfl rfl rfl hv16) ?_
 obtain ⟨a17,ha17,la17,ua17,H⟩:=H
 refine gY 12 [65,66] rfl (fun _=>y_ixa' tok rfl rfl ha17 rfl rfl rfl la17 ua17) ?_
 obtain ⟨h18,wh18,eh18,H⟩:=H
 refine gH 13 [72,77] rfl (h_st tok rfl rfl rfl rfl rfl rfl wh18 eh18) ?_
 obtain ⟨a19,ha19,la19,ua19,H⟩:=H
 refine gY 14 [67,68] rfl (fun _=>y_ixa' tok rfl rfl ha19 rfl rfl rfl la19 ua19) ?_
 obtain ⟨h20,wh20,eh20,H⟩:=H
 refine gH 15 [76,78] rfl (h_st tok rfl rfl rfl rfl rfl rfl wh20 eh20) ?_
 refine gZ ?_
 refine zX (zF [0,1,9,10] (zQ ?_))
 refine w2 tok ?_
 obtain ⟨x21,ex21,H⟩:=H
 refine w_pe tok rfl (congrArg (fun z=>(.int .i64 z:Value)) ex21) rfl rfl ?_
 refine zE (zR (w2 tok ?_))
 obtain ⟨x22,ex22,H⟩:=H
 refine w_pe tok rfl (congrArg (fun z=>(.int .i64 z:Value)) ex22) rfl rfl ?_
 refine zL ?_
 exact xJ (x21,x22) H
 refine gB [0,1,9,10] ?_
 refine gT 0 [9] tok ?_
 refine gT 1 [10] tok ?_
 refine gT 2 [46,47] tok ?_
 refine gT 3 [48] tok ?_
 refine gI 49 H (fun hb H=>?_) (fun hb H=>?_)
 refine gT 4 [0,49] tok ?_
 refine gT 5 [1,49] tok ?_
 obtain ⟨a23,ha23,la23,ua23,H⟩:=H
 refine gY 6 [49,50,51] rfl (fun _=>y_ixa' tok rfl rfl ha23 rfl rfl rfl la23 ua23) ?_
 obtain ⟨v24,hv24,H⟩:=H
 refine gL 7 [49,52] rfl (y_ld tok rfl rfl rfl rfl hv24) ?_
 refine gT 8 [0,49] tok ?_
 refine gT 9 [10,49] tok ?_
 obtain ⟨a25,ha25,la25,ua25,H⟩:=H
 refine gY 10 [49,54,55] rfl (fun _=>y_ixa' tok rfl rfl ha25 rfl rfl rfl la25 ua25) ?_
 obtain ⟨v26,hv26,H⟩:=H
 refine gL 11 [49,56] rfl (y_ld tok rfl rfl rfl rfl hv26) ?_
 refine gC 12 [49,53,57] O141 (R141 _ _ _ _ H) fun r27 h28 H=>?_
 refine gT 13 [49,58] tok ?_
 refine gZ ?_
 exact xJ r27 H
 refine gS 4 [0,49] ?_
 refine gS 5 [1,49] ?_
 refine gS 6 [49,50,51] ?_
 refine gS 7 [49,52] ?_
 refine gS 8 [0,49] ?_
 refine gS 9 [10,49] ?_
 refine gS 10 [49,54,55] ?_
 refine gS 11 [49,56] ?_
 refine gS 12 [49,53,57] ?_
 refine gT 13 [49,58] tok ?_
 refine gZ ?_
 exact xJ false H
 refine gB [0,1,9,10] ?_
 refine gT 0 [9] tok ?_
 refine gT 1 [10] tok ?_
 refine gT 2 [29,30] tok ?_
 refine gT 3 [31] tok ?_
 refine gI 32 H (fun hb H=>?_) (fun hb H=>?_)
 refine gT 4 [0,32] tok ?_
 refine gT 5 [1,32] tok ?_
 obtain ⟨a29,ha29,la29,ua29,H⟩:=H
 refine gY 6 [32,33,34] rfl (fun _=>y_ixa' tok rfl rfl ha29 rfl rfl rfl la29 ua29) ?_
 obtain ⟨v30,hv30,H⟩:=H
 refine gL 7 [32,35] rfl (y_ld tok rfl rfl rfl rfl hv30) ?_
 refine gT 8 [0,32] tok ?_
 refine gT 9 [9,32] tok ?_
 obtain ⟨a31,ha31,la31,ua31,H⟩:=H
 refine gY 10 [32,37,38] rfl (fun _=>y_ixa' tok rfl rfl ha31 rfl rfl rfl la31 ua31) ?_
 obtain ⟨v32,hv32,H⟩:=H
 refine gL 11 [32,39] rfl (y_ld tok rfl rfl rfl rfl hv32) ?_
 refine gC 12 [32,36,40] O141 (R141 _ _ _ _ H) fun r33 h34 H=>?_
 refine gT 13 [32,41] tok ?_
 refine gT 14 [32,42] tok ?_
 refine gZ ?_
 exact xJ (!r33) H
 refine gS 4 [0,32] ?_
 refine gS 5 [1,32] ?_
 refine gS 6 [32,33,34] ?_
 refine gS 7 [32,35] ?_
 refine gS 8 [0,32] ?_
 refine gS 9 [9,32] ?_
 refine gS 10 [32,37,38] ?_
 refine gS 11 [32,39] ?_
 refine gS 12 [32,36,40] ?_
 refine gS 13 [32,41] ?_
 refine gT 14 [32,42] tok ?_
 refine gZ ?_
 exact xJ false H
theorem O143:CallOk prog 143:=ck func143
theorem R143 (p0 p1 p2 p3 k h) (H:slices_partitionOrdered_uint64 p0 p1 p2 p3 k h):CallsH prog 143 #[Slc.v p0,.int .i64 p1,.int .i64 p2,.int .i64 p3] h (fun v h'=>∃ r:Int × Bool,v = .tuple #[.int .i64 r.1,.bool r.2]/\k r h'):=by
 refine fE func143 fun w0=>?_
 refine zF [0,1,2,3] (zQ ?_)
 refine w2 tok (zE (zS ?_))
 refine gB [0,1,2,3] ?_
 refine gT 0 [0] tok ?_
 refine gT 1 [1] tok ?_
 refine gT 2 [0] tok ?_
 refine gT 3 [3] tok ?_
 refine gT 4 [0] tok ?_
 refine gT 5 [3] tok ?_
 obtain ⟨a1,ha1,la1,ua1,H⟩:=H
 refine gY 6 [16,17] rfl (fun _=>y_ixa' tok rfl rfl ha1 rfl rfl rfl la1 ua1) ?_
 obtain ⟨v2,hv2,H⟩:=H
 refine gL 7 [18] rfl (y_ld tok rfl rfl rfl rfl hv2) ?_
 refine gT 8 [0] tok ?_
 refine gT 9 [1] tok ?_
 obtain ⟨a3,ha3,la3,ua3,H⟩:=H
 refine gY 10 [20,21] rfl (fun _=>y_ixa' tok rfl rfl ha3 rfl rfl rfl la3 ua3) ?_
 obtain ⟨v4,hv4,H⟩:=H
 refine gL 11 [22] rfl (y_ld tok rfl rfl rfl rfl hv4) ?_
 obtain ⟨a5,ha5,la5,ua5,H⟩:=H
 refine gY 12 [12,13] rfl (fun _=>y_ixa' tok rfl rfl ha5 rfl rfl rfl la5 ua5) ?_
 obtain ⟨h6,wh6,eh6,H⟩:=H
 refine gH 13 [19,24] rfl (h_st tok rfl rfl rfl rfl rfl rfl wh6 eh6) ?_
 obtain ⟨a7,ha7,la7,ua7,H⟩:=H
 refine gY 14 [14,15] rfl (fun _=>y_ixa' tok rfl rfl ha7 rfl rfl rfl la7 ua7) ?_
 obtain ⟨h8,wh8,eh8,H⟩:=H
 refine gH 15 [23,25] rfl (h_st tok rfl rfl rfl rfl rfl rfl wh8 eh8) ?_
 refine gZ ?_
 refine zX (zF [0,1,2] (zQ ?_))
 refine w4 tok ?_
 obtain ⟨x9,ex9,H⟩:=H
 refine w_pe tok rfl (congrArg (fun z=>(.int .i64 z:Value)) ex9) rfl rfl ?_
 obtain ⟨x10,ex10,H⟩:=H
 refine w_pe tok rfl (congrArg (fun z=>(.int .i64 z:Value)) ex10) rfl rfl ?_
 refine zE (zS (zB ?_))
 obtain ⟨I1,μ1,H0,HI⟩:=H
 refine zO (σ:=Int) [0,1,11] (fun (s:Int)=>[(10,.int .i64 s)]) I1 μ1 x9 H0 ?_
 rintro t10_1 h_1 H
 replace H:=HI t10_1 h_1 H
 refine zF [10,0,1,11] (zS ?_)
 refine zJ (α:=Bool) [0,1,10,11] (fun (s:Bool)=>[(43,.bool s)]) (fun (s:Bool) h=>slices_partitionOrdered_uint64_j2 p0 p1 t10_1 x10 s k (fun s h'=>I1 s h'/\μ1 s h' < μ1 t10_1 h_1) h) ?_ ?_
 rintro t43_2 h_2 H
 refine zF [43,0,1,10,11] ?_
 refine zI H ?_ ?_ <;> intro H
 refine zK (zX (zB (zR (w2 tok ?_))))
 obtain ⟨x11,ex11,H⟩:=H
 refine w_pe tok rfl (congrArg (fun z=>(.int .i64 z:Value)) ex11) rfl rfl ?_
 refine zL ?_
 exact xJ x11 H
 refine zY (yE (yE (yH (zX (zS (zB ?_))))))
 obtain ⟨I3,μ3,H0,HI⟩:=H
 refine zO (σ:=Int) [0,1,10] (fun (s:Int)=>[(11,.int .i64 s)]) I3 μ3 x10 H0 ?_
 rintro t11_3 h_3 H
 replace H:=HI t11_3 h_3 H
 refine zF [11,0,1,10] (zS ?_)
 refine zJ (α:=Bool) [0,1,10,11] (fun (s:Bool)=>[(60,.bool s)]) (fun (s:Bool) h=>slices_partitionOrdered_uint64_j4 p0 p1 t10_1 t11_3 s k (fun s h'=>I1 s h'/\μ1 s h' < μ1 t10_1 h_1) (fun s h'=>I3 s h'/\μ3 s h' < μ3 t11_3 h_3) h) ?_ ?_
 rintro t60_4 h_4 H
 refine zF [60,0,1,10,11] ?_
 refine zI H ?_ ?_ <;> intro H
 refine zK (zX (zB (zR (w2 tok ?_))))
 obtain ⟨x12,ex12,H⟩:=H
 refine w_pe tok rfl (congrArg (fun z=>(.int .i64 z:Value)) ex12) rfl rfl ?_
 refine zL ?_
 exact xJ x12 H
 refine zY (yE (yE (yH (zX (zS (zQ (w3 tok (zE ?_))))))))
 refine zI H ?_ ?_ <;> intro H
 refine zS ?_
 refine gB [0,1,11] ?_
 refine gT 0 [0] tok ?_
 refine gT 1 [11] tok ?_
 refine gT 2 [0] tok ?_
 refine gT 3 [1] tok ?_
 refine gT 4 [0] tok ?_
 refine gT 5 [1] tok ?_
 obtain ⟨a13,ha13,la13,ua13,H⟩:=H
 refine gY 6 [70,71] rfl (fun _=>y_ixa' tok rfl rfl ha13 rfl rfl rfl la13 ua13) ?_
 obtain ⟨v14,hv14,H⟩:=H
 refine gL 7 [72] rfl (y_ld tok rfl rfl rfl rfl hv14) ?_
 refine gT 8 [0] tok ?_
 refine gT 9 [11] tok ?_
 obtain ⟨a15,ha15,la15,ua15,H⟩:=H
 refine gY 10 [74,75] rfl (fun _=>y_ixa' tok rfl rfl ha15 rfl rfl rfl la15 ua15) ?_
 obtain ⟨v16,hv16,H⟩:=H
 refine gL 11 [76] rfl (y_ld tok rfl rfl rfl rfl hv16) ?_
 obtain ⟨a17,ha17,la17,ua17,H⟩:=H
 refine gY 12 [66,67] rfl (fun _=>y_ixa' tok rfl rfl ha17 rfl rfl rfl la17 ua17) ?_
 obtain ⟨h18,wh18,eh18,H⟩:=H
 refine gH 13 [73,78] rfl (h_st tok rfl rfl rfl rfl rfl rfl wh18 eh18) ?_
 obtain ⟨a19,ha19,la19,ua19,H⟩:=H
 refine gY 14 [68,69] rfl (fun _=>y_ixa' tok rfl rfl ha19 rfl rfl rfl la19 ua19) ?_
 obtain ⟨h20,wh20,eh20,H⟩:=H
 refine gH 15 [77,79] rfl (h_st tok rfl rfl rfl rfl rfl rfl wh20 eh20) ?_
 refine gZ ?_
 refine zX (zF [11] (zQ ?_))
 refine w3 tok (zE (zT (yT ?_)))
 exact x_ret _ rfl _ rfl ⟨(t11_3,true),rfl,H⟩
 refine zK (zX (zS ?_))
 refine gB [0,1,10,11] ?_
 refine gT 0 [0] tok ?_
 refine gT 1 [10] tok ?_
 refine gT 2 [0] tok ?_
 refine gT 3 [11] tok ?_
 refine gT 4 [0] tok ?_
 refine gT 5 [11] tok ?_
 obtain ⟨a21,ha21,la21,ua21,H⟩:=H
 refine gY 6 [85,86] rfl (fun _=>y_ixa' tok rfl rfl ha21 rfl rfl rfl la21 ua21) ?_
 obtain ⟨v22,hv22,H⟩:=H
 refine gL 7 [87] rfl (y_ld tok rfl rfl rfl rfl hv22) ?_
 refine gT 8 [0] tok ?_
 refine gT 9 [10] tok ?_
 obtain ⟨a23,ha23,la23,ua23,H⟩:=H
 refine gY 10 [89,90] rfl (fun _=>y_ixa' tok rfl rfl ha23 rfl rfl rfl la23 ua23) ?_
 obtain ⟨v24,hv24,H⟩:=H
 refine gL 11 [91] rfl (y_ld tok rfl rfl rfl rfl hv24) ?_
 obtain ⟨a25,ha25,la25,ua25,H⟩:=H
 refine gY 12 [81,82] rfl (fun _=>y_ixa' tok rfl rfl ha25 rfl rfl rfl la25 ua25) ?_
 obtain ⟨h26,wh26,eh26,H⟩:=H
 refine gH 13 [88,93] rfl (h_st tok rfl rfl rfl rfl rfl rfl wh26 eh26) ?_
 obtain ⟨a27,ha27,la27,ua27,H⟩:=H
 refine gY 14 [83,84] rfl (fun _=>y_ixa' tok rfl rfl ha27 rfl rfl rfl la27 ua27) ?_
 obtain ⟨h28,wh28,eh28,H⟩:=H
 refine gH 15 [92,94] rfl (h_st tok rfl rfl rfl rfl rfl rfl wh28 eh28) ?_
 refine gZ ?_
 refine zX (zF [0,1,10,11] (zQ ?_))
 refine w2 tok ?_
 obtain ⟨x29,ex29,H⟩:=H
 refine w_pe tok rfl (congrArg (fun z=>(.int .i64 z:Value)) ex29) rfl rfl ?_
 refine zE (zQ (w2 tok ?_))
 obtain ⟨x30,ex30,H⟩:=H
 refine w_pe tok rfl (congrArg (fun z=>(.int .i64 z:Value)) ex30) rfl rfl ?_
 refine zE (zS (zB ?_))
 obtain ⟨I5,μ5,H0,HI⟩:=H
 refine zO (σ:=Int × Int) [0,1] (fun (s:Int × Int)=>[(10,.int .i64 s.1),(11,.int .i64 s.2)]) I5 μ5 (x29,x30) H0 ?_
 rintro ⟨t10_5,t11_5⟩ h_5 H
 replace H:=HI t10_5 t11_5 h_5 H
 refine zF [10,11,0,1] (zB (zS (zB ?_)))
 obtain ⟨I6,μ6,H0,HI⟩:=H
 refine zO (σ:=Int) [0,1,11] (fun (s:Int)=>[(10,.int .i64 s)]) I6 μ6 t10_5 H0 ?_
 rintro t10_6 h_6 H
 replace H:=HI t10_6 h_6 H
 refine zF [10,0,1,11] (zS ?_)
 refine zJ (α:=Bool) [0,1,10,11] (fun (s:Bool)=>[(112,.bool s)]) (fun (s:Bool) h=>slices_partitionOrdered_uint64_j7 p0 p1 t10_6 t11_5 s k (fun s h'=>I1 s h'/\μ1 s h' < μ1 t10_1 h_1) (fun s h'=>I3 s h'/\μ3 s h' < μ3 t11_3 h_3) (fun s h'=>I5 s h'/\μ5 s h' < μ5 (t10_5,t11_5) h_5) (fun s h'=>I6 s h'/\μ6 s h' < μ6 t10_6 h_6) h) ?_ ?_
 rintro t112_7 h_7 H
 refine zF [112,0,1,10,11] ?_
 refine zI H ?_ ?_ <;> intro H
 refine zK (zX (zB (zR (w2 tok ?_))))
 obtain ⟨x31,ex31,H⟩:=H
 refine w_pe tok rfl (congrArg (fun z=>(.int .i64 z:Value)) ex31) rfl rfl ?_
 refine zL ?_
 exact xJ x31 H
 refine zY (yE (yE (yH (zX (zS (zB ?_))))))
 obtain ⟨I8,μ8,H0,HI⟩:=H
 refine zO (σ:=Int) [0,1,10] (fun (s:Int)=>[(11,.int .i64 s)]) I8 μ8 t11_5 H0 ?_
 rintro t11_8 h_8 H
 replace H:=HI t11_8 h_8 H
 refine zF [11,0,1,10] (zS ?_)
 refine zJ (α:=Bool) [0,1,10,11] (fun (s:Bool)=>[(129,.bool s)]) (fun (s:Bool) h=>slices_partitionOrdered_uint64_j9 p0 p1 t10_6 t11_8 s k (fun s h'=>I1 s h'/\μ1 s h' < μ1 t10_1 h_1) (fun s h'=>I3 s h'/\μ3 s h' < μ3 t11_3 h_3) (fun s h'=>I5 s h'/\μ5 s h' < μ5 (t10_5,t11_5) h_5) (fun s h'=>I6 s h'/\μ6 s h' < μ6 t10_6 h_6) (fun s h'=>I8 s h'/\μ8 s h' < μ8 t11_8 h_8) h) ?_ ?_
 rintro t129_9 h_9 H
 refine zF [129,0,1,10,11] ?_
 refine zI H ?_ ?_ <;> intro H
 refine zK (zX (zB (zR (w2 tok ?_))))
 obtain ⟨x32,ex32,H⟩:=H
 refine w_pe tok rfl (congrArg (fun z=>(.int .i64 z:Value)) ex32) rfl rfl ?_
 refine zL ?_
 exact xJ x32 H
 refine zY (yE (yE (yH (zX (zS (zQ (w3 tok (zE ?_))))))))
 refine zI H ?_ ?_ <;> intro H
 refine zY (yE (zM (yE (yH (zX (zS ?_))))))
 refine gB [0,1,11] ?_
 refine gT 0 [0] tok ?_
 refine gT 1 [11] tok ?_
 refine gT 2 [0] tok ?_
 refine gT 3 [1] tok ?_
 refine gT 4 [0] tok ?_
 refine gT 5 [1] tok ?_
 obtain ⟨a33,ha33,la33,ua33,H⟩:=H
 refine gY 6 [157,158] rfl (fun _=>y_ixa' tok rfl rfl ha33 rfl rfl rfl la33 ua33) ?_
 obtain ⟨v34,hv34,H⟩:=H
 refine gL 7 [159] rfl (y_ld tok rfl rfl rfl rfl hv34) ?_
 refine gT 8 [0] tok ?_
 refine gT 9 [11] tok ?_
 obtain ⟨a35,ha35,la35,ua35,H⟩:=H
 refine gY 10 [161,162] rfl (fun _=>y_ixa' tok rfl rfl ha35 rfl rfl rfl la35 ua35) ?_
 obtain ⟨v36,hv36,H⟩:=H
 refine gL 11 [163] rfl (y_ld tok rfl rfl rfl rfl hv36) ?_
 obtain ⟨a37,ha37,la37,ua37,H⟩:=H
 refine gY 12 [153,154] rfl (fun _=>y_ixa' tok rfl rfl ha37 rfl rfl rfl la37 ua37) ?_
 obtain ⟨h38,wh38,eh38,H⟩:=H
 refine gH 13 [160,165] rfl (h_st tok rfl rfl rfl rfl rfl rfl wh38 eh38) ?_
 obtain ⟨a39,ha39,la39,ua39,H⟩:=H
 refine gY 14 [155,156] rfl (fun _=>y_ixa' tok rfl rfl ha39 rfl rfl rfl la39 ua39) ?_
 obtain ⟨h40,wh40,eh40,H⟩:=H
 refine gH 15 [164,166] rfl (h_st tok rfl rfl rfl rfl rfl rfl wh40 eh40) ?_
 refine gZ ?_
 refine zX (zF [11] (zQ ?_))
 refine w3 tok (zE (zT ?_))
 exact x_ret _ rfl _ rfl ⟨(t11_8,false),rfl,H⟩
 refine zK (zX (zS ?_))
 refine gB [0,1,10,11] ?_
 refine gT 0 [0] tok ?_
 refine gT 1 [10] tok ?_
 refine gT 2 [0] tok ?_
 refine gT 3 [11] tok ?_
 refine gT 4 [0] tok ?_
 refine gT 5 [11] tok ?_
 obtain ⟨a41,ha41,la41,ua41,H⟩:=H
 refine gY 6 [139,140] rfl (fun _=>y_ixa' tok rfl rfl ha41 rfl rfl rfl la41 ua41) ?_
 obtain ⟨v42,hv42,H⟩:=H
 refine gL 7 [141] rfl (y_ld tok rfl rfl rfl rfl hv42) ?_
 refine gT 8 [0] tok ?_
 refine gT 9 [10] tok ?_
 obtain ⟨a43,ha43,la43,ua43,H⟩:=H
 refine gY 10 [143,144] rfl (fun _=>y_ixa' tok rfl rfl ha43 rfl rfl rfl la43 ua43) ?_
 obtain ⟨v44,hv44,H⟩:=H
 refine gL 11 [145] rfl (y_ld tok rfl rfl rfl rfl hv44) ?_
 obtain ⟨a45,ha45,la45,ua45,H⟩:=H
 refine gY 12 [135,136] rfl (fun _=>y_ixa' tok rfl rfl ha45 rfl rfl rfl la45 ua45) ?_
 obtain ⟨h46,wh46,eh46,H⟩:=H
 refine gH 13 [142,147] rfl (h_st tok rfl rfl rfl rfl rfl rfl wh46 eh46) ?_
 obtain ⟨a47,ha47,la47,ua47,H⟩:=H
 refine gY 14 [137,138] rfl (fun _=>y_ixa' tok rfl rfl ha47 rfl rfl rfl la47 ua47) ?_
 obtain ⟨h48,wh48,eh48,H⟩:=H
 refine gH 15 [146,148] rfl (h_st tok rfl rfl rfl rfl rfl rfl wh48 eh48) ?_
 refine gZ ?_
 refine zX (zF [0,1,10,11] (zQ ?_))
 refine w2 tok ?_
 obtain ⟨x49,ex49,H⟩:=H
 refine w_pe tok rfl (congrArg (fun z=>(.int .i64 z:Value)) ex49) rfl rfl ?_
 refine zE (zR (w2 tok ?_))
 obtain ⟨x50,ex50,H⟩:=H
 refine w_pe tok rfl (congrArg (fun z=>(.int .i64 z:Value)) ex50) rfl rfl ?_
 refine zL ?_
 exact xJ (x49,x50) H
 refine gB [0,1,10,11] ?_
 refine gT 0 [10] tok ?_
 refine gT 1 [11] tok ?_
 refine gT 2 [115,116] tok ?_
 refine gT 3 [117] tok ?_
 refine gI 118 H (fun hb H=>?_) (fun hb H=>?_)
 refine gT 4 [0,118] tok ?_
 refine gT 5 [11,118] tok ?_
 obtain ⟨a51,ha51,la51,ua51,H⟩:=H
 refine gY 6 [118,119,120] rfl (fun _=>y_ixa' tok rfl rfl ha51 rfl rfl rfl la51 ua51) ?_
 obtain ⟨v52,hv52,H⟩:=H
 refine gL 7 [118,121] rfl (y_ld tok rfl rfl rfl rfl hv52) ?_
 refine gT 8 [0,118] tok ?_
 refine gT 9 [1,118] tok ?_
 obtain ⟨a53,ha53,la53,ua53,H⟩:=H
 refine gY 10 [118,123,124] rfl (fun _=>y_ixa' tok rfl rfl ha53 rfl rfl rfl la53 ua53) ?_
 obtain ⟨v54,hv54,H⟩:=H
 refine gL 11 [118,125] rfl (y_ld tok rfl rfl rfl rfl hv54) ?_
 refine gC 12 [118,122,126] O141 (R141 _ _ _ _ H) fun r55 h56 H=>?_
 refine gT 13 [118,127] tok ?_
 refine gT 14 [118,128] tok ?_
 refine gZ ?_
 exact xJ (!r55) H
 refine gS 4 [0,118] ?_
 refine gS 5 [11,118] ?_
 refine gS 6 [118,119,120] ?_
 refine gS 7 [118,121] ?_
 refine gS 8 [0,118] ?_
 refine gS 9 [1,118] ?_
 refine gS 10 [118,123,124] ?_
 refine gS 11 [118,125] ?_
 refine gS 12 [118,122,126] ?_
 refine gS 13 [118,127] ?_
 refine gT 14 [118,128] tok ?_
 refine gZ ?_
 exact xJ false H
 refine gB [0,1,10,11] ?_
 refine gT 0 [10] tok ?_
 refine gT 1 [11] tok ?_
 refine gT 2 [99,100] tok ?_
 refine gT 3 [101] tok ?_
 refine gI 102 H (fun hb H=>?_) (fun hb H=>?_)
 refine gT 4 [0,102] tok ?_
 refine gT 5 [10,102] tok ?_
 obtain ⟨a57,ha57,la57,ua57,H⟩:=H
 refine gY 6 [102,103,104] rfl (fun _=>y_ixa' tok rfl rfl ha57 rfl rfl rfl la57 ua57) ?_
 obtain ⟨v58,hv58,H⟩:=H
 refine gL 7 [102,105] rfl (y_ld tok rfl rfl rfl rfl hv58) ?_
 refine gT 8 [0,102] tok ?_
 refine gT 9 [1,102] tok ?_
 obtain ⟨a59,ha59,la59,ua59,H⟩:=H
 refine gY 10 [102,107,108] rfl (fun _=>y_ixa' tok rfl rfl ha59 rfl rfl rfl la59 ua59) ?_
 obtain ⟨v60,hv60,H⟩:=H
 refine gL 11 [102,109] rfl (y_ld tok rfl rfl rfl rfl hv60) ?_
 refine gC 12 [102,106,110] O141 (R141 _ _ _ _ H) fun r61 h62 H=>?_
 refine gT 13 [102,111] tok ?_
 refine gZ ?_
 exact xJ r61 H
 refine gS 4 [0,102] ?_
 refine gS 5 [10,102] ?_
 refine gS 6 [102,103,104] ?_
 refine gS 7 [102,105] ?_
 refine gS 8 [0,102] ?_
 refine gS 9 [1,102] ?_
 refine gS 10 [102,107,108] ?_
 refine gS 11 [102,109] ?_
 refine gS 12 [102,106,110] ?_
 refine gT 13 [102,111] tok ?_
 refine gZ ?_
 exact xJ false H
 refine gB [0,1,10,11] ?_
 refine gT 0 [10] tok ?_
 refine gT 1 [11] tok ?_
 refine gT 2 [46,47] tok ?_
 refine gT 3 [48] tok ?_
 refine gI 49 H (fun hb H=>?_) (fun hb H=>?_)
 refine gT 4 [0,49] tok ?_
 refine gT 5 [11,49] tok ?_
 obtain ⟨a63,ha63,la63,ua63,H⟩:=H
 refine gY 6 [49,50,51] rfl (fun _=>y_ixa' tok rfl rfl ha63 rfl rfl rfl la63 ua63) ?_
 obtain ⟨v64,hv64,H⟩:=H
 refine gL 7 [49,52] rfl (y_ld tok rfl rfl rfl rfl hv64) ?_
 refine gT 8 [0,49] tok ?_
 refine gT 9 [1,49] tok ?_
 obtain ⟨a65,ha65,la65,ua65,H⟩:=H
 refine gY 10 [49,54,55] rfl (fun _=>y_ixa' tok rfl rfl ha65 rfl rfl rfl la65 ua65) ?_
 obtain ⟨v66,hv66,H⟩:=H
 refine gL 11 [49,56] rfl (y_ld tok rfl rfl rfl rfl hv66) ?_
 refine gC 12 [49,53,57] O141 (R141 _ _ _ _ H) fun r67 h68 H=>?_
 refine gT 13 [49,58] tok ?_
 refine gT 14 [49,59] tok ?_
 refine gZ ?_
 exact xJ (!r67) H
 refine gS 4 [0,49] ?_
 refine gS 5 [11,49] ?_
 refine gS 6 [49,50,51] ?_
 refine gS 7 [49,52] ?_
 refine gS 8 [0,49] ?_
 refine gS 9 [1,49] ?_
 refine gS 10 [49,54,55] ?_
 refine gS 11 [49,56] ?_
 refine gS 12 [49,53,57] ?_
 refine gS 13 [49,58] ?_
 refine gT 14 [49,59] tok ?_
 refine gZ ?_
 exact xJ false H
 refine gB [0,1,10,11] ?_
 refine gT 0 [10] tok ?_
 refine gT 1 [11] tok ?_
 refine gT 2 [30,31] tok ?_
 refine gT 3 [32] tok ?_
 refine gI 33 H (fun hb H=>?_) (fun hb H=>?_)
 refine gT 4 [0,33] tok ?_
 refine gT 5 [10,33] tok ?_
 obtain ⟨a69,ha69,la69,ua69,H⟩:=H
 refine gY 6 [33,34,35] rfl (fun _=>y_ixa' tok rfl rfl ha69 rfl rfl rfl la69 ua69) ?_
 obtain ⟨v70,hv70,H⟩:=H
 refine gL 7 [33,36] rfl (y_ld tok rfl rfl rfl rfl hv70) ?_
 refine gT 8 [0,33] tok ?_
 refine gT 9 [1,33] tok ?_
 obtain ⟨a71,ha71,la71,ua71,H⟩:=H
 refine gY 10 [33,38,39] rfl (fun _=>y_ixa' tok rfl rfl ha71 rfl rfl rfl la71 ua71) ?_
 obtain ⟨v72,hv72,H⟩:=H
 refine gL 11 [33,40] rfl (y_ld tok rfl rfl rfl rfl hv72) ?_
 refine gC 12 [33,37,41] O141 (R141 _ _ _ _ H) fun r73 h74 H=>?_
 refine gT 13 [33,42] tok ?_
 refine gZ ?_
 exact xJ r73 H
 refine gS 4 [0,33] ?_
 refine gS 5 [10,33] ?_
 refine gS 6 [33,34,35] ?_
 refine gS 7 [33,36] ?_
 refine gS 8 [0,33] ?_
 refine gS 9 [1,33] ?_
 refine gS 10 [33,38,39] ?_
 refine gS 11 [33,40] ?_
 refine gS 12 [33,37,41] ?_
 refine gT 13 [33,42] tok ?_
 refine gZ ?_
 exact xJ false H
end Go.Q.Yq
end

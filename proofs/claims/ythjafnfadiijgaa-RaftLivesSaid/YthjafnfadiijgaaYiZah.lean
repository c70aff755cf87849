/- A part of the proof of statements of this seat: lemmas, no statement of their own. -/
import Derived.Test.YthjafnfadiijgaaYiZad
import Derived.Test.YthjafnfadiijgaaYiZae
import Derived.Test.YthjafnfadiijgaaYiZag
set_option linter.unusedVariables false
set_option linter.unusedSimpArgs false
set_option maxRecDepth 100000
set_option maxHeartbeats 1000000
section
namespace Go.Q.Yi
open Go.Proofs.Try
/-- slices.siftDownOrdered uint64  -/
def bL (b_:Slc) (g_:Int) (a_:Int) (f_:Int) (d_:Int) (k:KP Unit) (nx1:KP Int) (h_2:Heap):Prop :=
  ∃ a2,b_.a=some a2/\(0:Int)<=(IntKind.i64.wrap (a_ + f_))/\(IntKind.i64.wrap (a_ + f_)) < (b_.len:Int)/\(∃ v3,af h_2 (a2.add ((IntKind.i64.wrap (a_ + f_)).toNat * 1))=some (.int .u64 v3)/\(∃ a4,b_.a=some a4/\(0:Int)<=(IntKind.i64.wrap (a_ + d_))/\(IntKind.i64.wrap (a_ + d_)) < (b_.len:Int)/\(∃ v5,af h_2 (a4.add ((IntKind.i64.wrap (a_ + d_)).toNat * 1))=some (.int .u64 v5)/\(aW v3 v5 (fun r6 h7=>if (!r6) then (k () h7) else (∃ a8,b_.a=some a8/\(0:Int)<=(IntKind.i64.wrap (a_ + d_))/\(IntKind.i64.wrap (a_ + d_)) < (b_.len:Int)/\(∃ v9,af h7 (a8.add ((IntKind.i64.wrap (a_ + d_)).toNat * 1))=some (.int .u64 v9)/\(∃ a10,b_.a=some a10/\(0:Int)<=(IntKind.i64.wrap (a_ + f_))/\(IntKind.i64.wrap (a_ + f_)) < (b_.len:Int)/\(∃ v11,af h7 (a10.add ((IntKind.i64.wrap (a_ + f_)).toNat * 1))=some (.int .u64 v11)/\(∃ a12,b_.a=some a12/\(0:Int)<=(IntKind.i64.wrap (a_ + f_))/\(IntKind.i64.wrap (a_ + f_)) < (b_.len:Int)/\(∃ h13,WrH h7 (a12.add ((IntKind.i64.wrap (a_ + f_)).toNat * 1))/\h13=setH h7 (a12.add ((IntKind.i64.wrap (a_ + f_)).toNat * 1)) (.int .u64 v9)/\(∃ a14,b_.a=some a14/\(0:Int)<=(IntKind.i64.wrap (a_ + d_))/\(IntKind.i64.wrap (a_ + d_)) < (b_.len:Int)/\(∃ h15,WrH h13 (a14.add ((IntKind.i64.wrap (a_ + d_)).toNat * 1))/\h15=setH h13 (a14.add ((IntKind.i64.wrap (a_ + d_)).toNat * 1)) (.int .u64 v11)/\(nx1 d_ h15)))))))))) h_2))))
def bM (a_:Slc) (b_:Int) (d_:Int) (f_:Int) (g_:Int) (h_:Bool) (k:KP Unit) (nx1:KP Int) (h_3:Heap):Prop :=
  if h_ then (∃ x16,x16=(IntKind.i64.wrap (g_ + 1))/\(bL a_ b_ d_ f_ x16 k nx1 h_3)) else (bL a_ b_ d_ f_ g_ k nx1 h_3)
def jN (b_:Slc) (d_:Int) (a_:Int) (f_:Int) (k:KP Unit) (nx1:KP Int) (h_1:Heap):Prop :=
  ∃ x1,x1=(IntKind.i64.wrap ((IntKind.i64.wrap (2 * f_)) + 1))/\(if (decide (x1>=d_)) then (k () h_1) else (if (decide ((IntKind.i64.wrap (x1 + 1)) < d_)) then (∃ a17,b_.a=some a17/\(0:Int)<=(IntKind.i64.wrap (a_ + x1))/\(IntKind.i64.wrap (a_ + x1)) < (b_.len:Int)/\(∃ v18,af h_1 (a17.add ((IntKind.i64.wrap (a_ + x1)).toNat * 1))=some (.int .u64 v18)/\(∃ a19,b_.a=some a19/\(0:Int)<=(IntKind.i64.wrap ((IntKind.i64.wrap (a_ + x1)) + 1))/\(IntKind.i64.wrap ((IntKind.i64.wrap (a_ + x1)) + 1)) < (b_.len:Int)/\(∃ v20,af h_1 (a19.add ((IntKind.i64.wrap ((IntKind.i64.wrap (a_ + x1)) + 1)).toNat * 1))=some (.int .u64 v20)/\(aW v18 v20 (fun r21 h22=>bM b_ d_ a_ f_ x1 r21 k nx1 h22) h_1))))) else (bM b_ d_ a_ f_ x1 false k nx1 h_1)))
def jU (b_:Slc) (d_:Int) (f_:Int) (i8:Int) (k:KP Unit) (h:Heap):Prop :=
  ∃ (I:KP Int) (μ:Int->Heap->Nat),I i8 h/\∀ (a_:Int) (h:Heap),I a_ h->jN b_ d_ f_ a_ k (fun s h'=>I s h'/\μ s h' < μ a_ h) h
def cK (p0:Slc) (p1:Int) (p2:Int) (p3:Int) (k:KP Unit) (h:Heap):Prop :=
  jU p0 p2 p3 p1 k h
/-- slices.heapSortOrdered uint64  -/
def jO (d_:Slc) (a_:Int) (f_:Int) (b_:Int) (k:KP Unit) (nx1:KP Int) (nx2:KP Int) (h_2:Heap):Prop :=
  if (decide (b_>=0)) then (∃ a7,d_.a=some a7/\(0:Int)<=(IntKind.i64.wrap (a_ + b_))/\(IntKind.i64.wrap (a_ + b_)) < (d_.len:Int)/\(∃ v8,af h_2 (a7.add ((IntKind.i64.wrap (a_ + b_)).toNat * 1))=some (.int .u64 v8)/\(∃ a9,d_.a=some a9/\(0:Int)<=a_/\a_ < (d_.len:Int)/\(∃ v10,af h_2 (a9.add (a_.toNat * 1))=some (.int .u64 v10)/\(∃ a11,d_.a=some a11/\(0:Int)<=a_/\a_ < (d_.len:Int)/\(∃ h12,WrH h_2 (a11.add (a_.toNat * 1))/\h12=setH h_2 (a11.add (a_.toNat * 1)) (.int .u64 v8)/\(∃ a13,d_.a=some a13/\(0:Int)<=(IntKind.i64.wrap (a_ + b_))/\(IntKind.i64.wrap (a_ + b_)) < (d_.len:Int)/\(∃ h14,WrH h12 (a13.add ((IntKind.i64.wrap (a_ + b_)).toNat * 1))/\h14=setH h12 (a13.add ((IntKind.i64.wrap (a_ + b_)).toNat * 1)) (.int .u64 v10)/\(cK d_ f_ b_ a_ (fun r15 h16=>∃ x17,x17=(IntKind.i64.wrap (b_ - 1))/\(nx2 x17 h16)) h14))))))))) else (k () h_2)
def ko (b_:Slc) (d_:Int) (f_:Int) (i10:Int) (k:KP Unit) (nx1:KP Int) (h:Heap):Prop :=
  ∃ (I:KP Int) (μ:Int->Heap->Nat),I i10 h/\∀ (a_:Int) (h:Heap),I a_ h->jO b_ d_ f_ a_ k nx1 (fun s h'=>I s h'/\μ s h' < μ a_ h) h
def jP (b_:Slc) (d_:Int) (g_:Int) (f_:Int) (a_:Int) (k:KP Unit) (nx1:KP Int) (h_1:Heap):Prop :=
  if (decide (a_>=0)) then (cK b_ a_ f_ d_ (fun r3 h4=>∃ x5,x5=(IntKind.i64.wrap (a_ - 1))/\(nx1 x5 h4)) h_1) else (∃ x6,x6=(IntKind.i64.wrap (f_ - 1))/\(ko b_ d_ g_ x6 k nx1 h_1))
def jY (b_:Slc) (d_:Int) (f_:Int) (g_:Int) (i9:Int) (k:KP Unit) (h:Heap):Prop :=
  ∃ (I:KP Int) (μ:Int->Heap->Nat),I i9 h/\∀ (a_:Int) (h:Heap),I a_ h->jP b_ d_ f_ g_ a_ k (fun s h'=>I s h'/\μ s h' < μ a_ h) h
def dW (p0:Slc) (p1:Int) (p2:Int) (k:KP Unit) (h:Heap):Prop :=
  ∃ x1,x1=(IntKind.i64.wrap (p2 - p1))/\(∃ x2,x2=(IntKind.i64.wrap (Int.tdiv (IntKind.i64.wrap (x1 - 1)) 2))/\(jY p0 p1 0 x1 x2 k h))
/-- slices.nextPowerOfTwo -/
def lZ (p0:Int) (k:KP Int) (h:Heap):Prop :=
  nN (IntKind.u64.wrap p0) (fun r1 h2=>(0:Int)<=r1/\(∃ x4,x4=(shl .u64 1 r1.toNat)/\(k x4 h2))) h
/-- (*slices.xorshift).Next -/
def kv (p0:Option Addr) (k:KP Int) (h:Heap):Prop :=
  ∃ a1,p0=some a1/\(∃ v2,af h a1=some (.int .u64 v2)/\(∃ v3,af h a1=some (.int .u64 v3)/\(∃ h4,WrH h a1/\h4=setH h a1 (.int .u64 (wV .u64 v2 (shl .u64 v3 (13:Int).toNat)))/\(∃ v5,af h4 a1=some (.int .u64 v5)/\(∃ v6,af h4 a1=some (.int .u64 v6)/\(∃ h7,WrH h4 a1/\h7=setH h4 a1 (.int .u64 (wV .u64 v5 (shr .u64 v6 (7:Int).toNat)))/\(∃ v8,af h7 a1=some (.int .u64 v8)/\(∃ v9,af h7 a1=some (.int .u64 v9)/\(∃ h10,WrH h7 a1/\h10=setH h7 a1 (.int .u64 (wV .u64 v8 (shl .u64 v9 (17:Int).toNat)))/\(∃ v11,af h10 a1=some (.int .u64 v11)/\(k v11 h10)))))))))))
/-- slices.breakPatternsOrdered uint64  -/
def bC (a_:Slc) (d_:Int) (g_:Int) (h_:Addr) (j_:Int) (b_:Int) (f_:Int) (k:KP Unit) (nx1:KP Int) (h_2:Heap):Prop :=
  ∃ a11,a_.a=some a11/\(0:Int)<=(IntKind.i64.wrap (d_ + f_))/\(IntKind.i64.wrap (d_ + f_)) < (a_.len:Int)/\(∃ v12,af h_2 (a11.add ((IntKind.i64.wrap (d_ + f_)).toNat * 1))=some (.int .u64 v12)/\(∃ a13,a_.a=some a13/\(0:Int)<=b_/\b_ < (a_.len:Int)/\(∃ v14,af h_2 (a13.add (b_.toNat * 1))=some (.int .u64 v14)/\(∃ a15,a_.a=some a15/\(0:Int)<=b_/\b_ < (a_.len:Int)/\(∃ h16,WrH h_2 (a15.add (b_.toNat * 1))/\h16=setH h_2 (a15.add (b_.toNat * 1)) (.int .u64 v12)/\(∃ a17,a_.a=some a17/\(0:Int)<=(IntKind.i64.wrap (d_ + f_))/\(IntKind.i64.wrap (d_ + f_)) < (a_.len:Int)/\(∃ h18,WrH h16 (a17.add ((IntKind.i64.wrap (d_ + f_)).toNat * 1))/\h18=setH h16 (a17.add ((IntKind.i64.wrap (d_ + f_)).toNat * 1)) (.int .u64 v14)/\(∃ x19,x19=(IntKind.i64.wrap (b_ + 1))/\(nx1 x19 h18)))))))))
def iI (h_:Slc) (b_:Int) (a_:Int) (d_:Addr) (f_:Int) (g_:Int) (k:KP Unit) (nx1:KP Int) (h_1:Heap):Prop :=
  if (decide (g_<=(IntKind.i64.wrap ((IntKind.i64.wrap (b_ + (IntKind.i64.wrap ((IntKind.i64.wrap (Int.tdiv a_ 4)) * 2)))) + 1)))) then (kv (some d_) (fun r8 h9=>∃ x10,x10=(IntKind.i64.wrap (kE .u64 r8 (IntKind.u64.wrap (f_ - 1))))/\(if (decide (x10>=a_)) then (∃ x20,x20=(IntKind.i64.wrap (x10 - a_))/\(bC h_ b_ a_ d_ f_ g_ x20 k nx1 h9)) else (bC h_ b_ a_ d_ f_ g_ x10 k nx1 h9))) h_1) else (k () h_1)
def iK (b_:Slc) (d_:Int) (f_:Int) (g_:Addr) (h_:Int) (i9:Int) (k:KP Unit) (h:Heap):Prop :=
  ∃ (I:KP Int) (μ:Int->Heap->Nat),I i9 h/\∀ (a_:Int) (h:Heap),I a_ h->iI b_ d_ f_ g_ h_ a_ k (fun s h'=>I s h'/\μ s h' < μ a_ h) h
def df (p0:Slc) (p1:Int) (p2:Int) (k:KP Unit) (h:Heap):Prop :=
  ∃ x1,x1=(IntKind.i64.wrap (p2 - p1))/\(if (decide (x1>=8)) then (∃ b2 h3,b2=h.size/\h3=h.push (.cells ([.int .u64 0]).toArray 159)/\(∃ h4,WrH h3 (ad b2)/\h4=setH h3 (ad b2) (.int .u64 (IntKind.u64.wrap x1))/\(lZ x1 (fun r5 h6=>∃ x7,x7=(IntKind.i64.wrap ((IntKind.i64.wrap (p1 + (IntKind.i64.wrap ((IntKind.i64.wrap (Int.tdiv x1 4)) * 2)))) - 1))/\(iK p0 p1 x1 (ad b2) r5 x7 k h6)) h4))) else (k () h))
/-- slices.order2Ordered uint64  -/
def bR (p0:Slc) (p1:Int) (p2:Int) (p3:Option Addr) (k:KP (Int × Int)) (h:Heap):Prop :=
  ∃ a1,p0.a=some a1/\(0:Int)<=p2/\p2 < (p0.len:Int)/\(∃ v2,af h (a1.add (p2.toNat * 1))=some (.int .u64 v2)/\(∃ a3,p0.a=some a3/\(0:Int)<=p1/\p1 < (p0.len:Int)/\(∃ v4,af h (a3.add (p1.toNat * 1))=some (.int .u64 v4)/\(aW v2 v4 (fun r5 h6=>if r5 then (∃ a7,p3=some a7/\(∃ v8,af h6 a7=some (.int .i64 v8)/\(∃ h9,WrH h6 a7/\h9=setH h6 a7 (.int .i64 (IntKind.i64.wrap (v8 + 1)))/\(k (p2,p1) h9)))) else (k (p1,p2) h6)) h))))
/-- slices.medianOrdered uint64  -/
def dF (p0:Slc) (p1:Int) (p2:Int) (p3:Int) (p4:Option Addr) (k:KP Int) (h:Heap):Prop :=
  bR p0 p1 p2 p4 (fun r1 h2=>bR p0 r1.2 p3 p4 (fun r3 h4=>bR p0 r1.1 r3.1 p4 (fun r5 h6=>k r5.2 h6) h4) h2) h
/-- slices.medianAdjacentOrdered uint64  -/
def bY (p0:Slc) (p1:Int) (p2:Option Addr) (k:KP Int) (h:Heap):Prop :=
  dF p0 (IntKind.i64.wrap (p1 - 1)) p1 (IntKind.i64.wrap (p1 + 1)) p2 (fun r1 h2=>k r1 h2) h
/-- slices.choosePivotOrdered uint64  -/
def bE (b_:Addr) (a_:Int) (k:KP (Int × Int)) (h_1:Heap):Prop :=
  ∃ v7,af h_1 b_=some (.int .i64 v7)/\(if (v7 == 0) then (k (a_,1) h_1) else (if (v7 == 12) then (k (a_,2) h_1) else (k (a_,0) h_1)))
def cB (b_:Slc) (a_:Addr) (d_:Int) (f_:Int) (g_:Int) (k:KP (Int × Int)) (h_2:Heap):Prop :=
  dF b_ d_ f_ g_ (some a_) (fun r8 h9=>bE a_ r8 k h9) h_2
def dI (p0:Slc) (p1:Int) (p2:Int) (k:KP (Int × Int)) (h:Heap):Prop :=
  ∃ x1,x1=(IntKind.i64.wrap (p2 - p1))/\(∃ b2 h3,b2=h.size/\h3=h.push (.cells ([.int .i64 0]).toArray 3)/\(∃ x4,x4=(IntKind.i64.wrap (p1 + (IntKind.i64.wrap ((IntKind.i64.wrap (Int.tdiv x1 4)) * 1))))/\(∃ x5,x5=(IntKind.i64.wrap (p1 + (IntKind.i64.wrap ((IntKind.i64.wrap (Int.tdiv x1 4)) * 2))))/\(∃ x6,x6=(IntKind.i64.wrap (p1 + (IntKind.i64.wrap ((IntKind.i64.wrap (Int.tdiv x1 4)) * 3))))/\(if (decide (x1>=8)) then (if (decide (x1>=50)) then (bY p0 x4 (some (ad b2)) (fun r10 h11=>bY p0 x5 (some (ad b2)) (fun r12 h13=>bY p0 x6 (some (ad b2)) (fun r14 h15=>cB p0 (ad b2) r10 r12 r14 k h15) h13) h11) h3) else (cB p0 (ad b2) x4 x5 x6 k h3)) else (bE (ad b2) x5 k h3))))))
/-- slices.reverseRangeOrdered uint64  -/
def iN (d_:Slc) (a_:Int) (b_:Int) (k:KP Unit) (nx1:KP (Int × Int)) (h_1:Heap):Prop :=
  if (decide (a_ < b_)) then (∃ a2,d_.a=some a2/\(0:Int)<=b_/\b_ < (d_.len:Int)/\(∃ v3,af h_1 (a2.add (b_.toNat * 1))=some (.int .u64 v3)/\(∃ a4,d_.a=some a4/\(0:Int)<=a_/\a_ < (d_.len:Int)/\(∃ v5,af h_1 (a4.add (a_.toNat * 1))=some (.int .u64 v5)/\(∃ a6,d_.a=some a6/\(0:Int)<=a_/\a_ < (d_.len:Int)/\(∃ h7,WrH h_1 (a6.add (a_.toNat * 1))/\h7=setH h_1 (a6.add (a_.toNat * 1)) (.int .u64 v3)/\(∃ a8,d_.a=some a8/\(0:Int)<=b_/\b_ < (d_.len:Int)/\(∃ h9,WrH h7 (a8.add (b_.toNat * 1))/\h9=setH h7 (a8.add (b_.toNat * 1)) (.int .u64 v5)/\(∃ x10,x10=(IntKind.i64.wrap (a_ + 1))/\(∃ x11,x11=(IntKind.i64.wrap (b_ - 1))/\(nx1 (x10,x11) h9))))))))))) else (k () h_1)
def iR (d_:Slc) (i6:Int) (i7:Int) (k:KP Unit) (h:Heap):Prop :=
  ∃ (I:KP (Int × Int)) (μ:(Int × Int)->Heap->Nat),I (i6,i7) h/\∀ (a_:Int) (b_:Int) (h:Heap),I (a_,b_) h->iN d_ a_ b_ k (fun s h'=>I s h'/\μ s h' < μ (a_,b_) h) h
def dw (p0:Slc) (p1:Int) (p2:Int) (k:KP Unit) (h:Heap):Prop :=
  ∃ x1,x1=(IntKind.i64.wrap (p2 - 1))/\(iR p0 p1 x1 k h)
/-- slices.partialInsertionSortOrdered uint64  -/
def bB (d_:Slc) (f_:Int) (g_:Int) (a_:Int) (b_:Int) (k:KP Bool) (nx1:KP (Int × Int)) (h_2:Heap):Prop :=
  ∃ x2,x2=(IntKind.i64.wrap (a_ + 1))/\(nx1 (b_,x2) h_2)
def kR (b_:Slc) (f_:Int) (d_:Int) (g_:Int) (h_:Int) (a_:Int) (k:KP Bool) (nx1:KP (Int × Int)) (nx3:KP Int) (nx6:KP Int) (h_6:Heap):Prop :=
  if (decide (a_ < d_)) then (∃ a13,b_.a=some a13/\(0:Int)<=a_/\a_ < (b_.len:Int)/\(∃ v14,af h_6 (a13.add (a_.toNat * 1))=some (.int .u64 v14)/\(∃ a15,b_.a=some a15/\(0:Int)<=(IntKind.i64.wrap (a_ - 1))/\(IntKind.i64.wrap (a_ - 1)) < (b_.len:Int)/\(∃ v16,af h_6 (a15.add ((IntKind.i64.wrap (a_ - 1)).toNat * 1))=some (.int .u64 v16)/\(aW v14 v16 (fun r17 h18=>if (!r17) then (bB b_ f_ d_ h_ g_ k nx1 h18) else (∃ a19,b_.a=some a19/\(0:Int)<=(IntKind.i64.wrap (a_ - 1))/\(IntKind.i64.wrap (a_ - 1)) < (b_.len:Int)/\(∃ v20,af h18 (a19.add ((IntKind.i64.wrap (a_ - 1)).toNat * 1))=some (.int .u64 v20)/\(∃ a21,b_.a=some a21/\(0:Int)<=a_/\a_ < (b_.len:Int)/\(∃ v22,af h18 (a21.add (a_.toNat * 1))=some (.int .u64 v22)/\(∃ a23,b_.a=some a23/\(0:Int)<=a_/\a_ < (b_.len:Int)/\(∃ h24,WrH h18 (a23.add (a_.toNat * 1))/\h24=setH h18 (a23.add (a_.toNat * 1)) (.int .u64 v20)/\(∃ a25,b_.a=some a25/\(0:Int)<=(IntKind.i64.wrap (a_ - 1))/\(IntKind.i64.wrap (a_ - 1)) < (b_.len:Int)/\(∃ h26,WrH h24 (a25.add ((IntKind.i64.wrap (a_ - 1)).toNat * 1))/\h26=setH h24 (a25.add ((IntKind.i64.wrap (a_ - 1)).toNat * 1)) (.int .u64 v22)/\(∃ x27,x27=(IntKind.i64.wrap (a_ + 1))/\(nx6 x27 h26))))))))))) h_6))))) else (bB b_ f_ d_ h_ g_ k nx1 h_6)
def lu (b_:Slc) (d_:Int) (f_:Int) (g_:Int) (h_:Int) (i10:Int) (k:KP Bool) (nx1:KP (Int × Int)) (nx3:KP Int) (h:Heap):Prop :=
  ∃ (I:KP Int) (μ:Int->Heap->Nat),I i10 h/\∀ (a_:Int) (h:Heap),I a_ h->kR b_ d_ f_ g_ h_ a_ k nx1 nx3 (fun s h'=>I s h'/\μ s h' < μ a_ h) h
def bA (d_:Slc) (f_:Int) (b_:Int) (a_:Int) (g_:Int) (k:KP Bool) (nx1:KP (Int × Int)) (nx3:KP Int) (h_5:Heap):Prop :=
  if (decide ((IntKind.i64.wrap (b_ - a_))>=2)) then (∃ x12,x12=(IntKind.i64.wrap (a_ + 1))/\(lu d_ f_ b_ a_ g_ x12 k nx1 nx3 h_5)) else (bB d_ f_ b_ g_ a_ k nx1 h_5)
def kS (b_:Slc) (d_:Int) (f_:Int) (g_:Int) (h_:Int) (a_:Int) (k:KP Bool) (nx1:KP (Int × Int)) (nx3:KP Int) (nx7:KP Int) (h_7:Heap):Prop :=
  if (decide (a_>=1)) then (∃ a29,b_.a=some a29/\(0:Int)<=a_/\a_ < (b_.len:Int)/\(∃ v30,af h_7 (a29.add (a_.toNat * 1))=some (.int .u64 v30)/\(∃ a31,b_.a=some a31/\(0:Int)<=(IntKind.i64.wrap (a_ - 1))/\(IntKind.i64.wrap (a_ - 1)) < (b_.len:Int)/\(∃ v32,af h_7 (a31.add ((IntKind.i64.wrap (a_ - 1)).toNat * 1))=some (.int .u64 v32)/\(aW v30 v32 (fun r33 h34=>if (!r33) then (bA b_ d_ f_ g_ h_ k nx1 nx3 h34) else (∃ a35,b_.a=some a35/\(0:Int)<=(IntKind.i64.wrap (a_ - 1))/\(IntKind.i64.wrap (a_ - 1)) < (b_.len:Int)/\(∃ v36,af h34 (a35.add ((IntKind.i64.wrap (a_ - 1)).toNat * 1))=some (.int .u64 v36)/\(∃ a37,b_.a=some a37/\(0:Int)<=a_/\a_ < (b_.len:Int)/\(∃ v38,af h34 (a37.add (a_.toNat * 1))=some (.int .u64 v38)/\(∃ a39,b_.a=some a39/\(0:Int)<=a_/\a_ < (b_.len:Int)/\(∃ h40,WrH h34 (a39.add (a_.toNat * 1))/\h40=setH h34 (a39.add (a_.toNat * 1)) (.int .u64 v36)/\(∃ a41,b_.a=some a41/\(0:Int)<=(IntKind.i64.wrap (a_ - 1))/\(IntKind.i64.wrap (a_ - 1)) < (b_.len:Int)/\(∃ h42,WrH h40 (a41.add ((IntKind.i64.wrap (a_ - 1)).toNat * 1))/\h42=setH h40 (a41.add ((IntKind.i64.wrap (a_ - 1)).toNat * 1)) (.int .u64 v38)/\(∃ x43,x43=(IntKind.i64.wrap (a_ - 1))/\(nx7 x43 h42))))))))))) h_7))))) else (bA b_ d_ f_ g_ h_ k nx1 nx3 h_7)
def kX (b_:Slc) (d_:Int) (f_:Int) (g_:Int) (h_:Int) (i9:Int) (k:KP Bool) (nx1:KP (Int × Int)) (nx3:KP Int) (h:Heap):Prop :=
  ∃ (I:KP Int) (μ:Int->Heap->Nat),I i9 h/\∀ (a_:Int) (h:Heap),I a_ h->kS b_ d_ f_ g_ h_ a_ k nx1 nx3 (fun s h'=>I s h'/\μ s h' < μ a_ h) h
def aO (b_:Slc) (d_:Int) (f_:Int) (a_:Int) (g_:Int) (h_:Bool) (k:KP Bool) (nx1:KP (Int × Int)) (nx3:KP Int) (h_4:Heap):Prop :=
  if h_ then (∃ x3,x3=(IntKind.i64.wrap (a_ + 1))/\(nx3 x3 h_4)) else (if (a_ == f_) then (k true h_4) else (if (decide ((IntKind.i64.wrap (f_ - d_)) < 50)) then (k false h_4) else (∃ a4,b_.a=some a4/\(0:Int)<=(IntKind.i64.wrap (a_ - 1))/\(IntKind.i64.wrap (a_ - 1)) < (b_.len:Int)/\(∃ v5,af h_4 (a4.add ((IntKind.i64.wrap (a_ - 1)).toNat * 1))=some (.int .u64 v5)/\(∃ a6,b_.a=some a6/\(0:Int)<=a_/\a_ < (b_.len:Int)/\(∃ v7,af h_4 (a6.add (a_.toNat * 1))=some (.int .u64 v7)/\(∃ a8,b_.a=some a8/\(0:Int)<=a_/\a_ < (b_.len:Int)/\(∃ h9,WrH h_4 (a8.add (a_.toNat * 1))/\h9=setH h_4 (a8.add (a_.toNat * 1)) (.int .u64 v5)/\(∃ a10,b_.a=some a10/\(0:Int)<=(IntKind.i64.wrap (a_ - 1))/\(IntKind.i64.wrap (a_ - 1)) < (b_.len:Int)/\(∃ h11,WrH h9 (a10.add ((IntKind.i64.wrap (a_ - 1)).toNat * 1))/\h11=setH h9 (a10.add ((IntKind.i64.wrap (a_ - 1)).toNat * 1)) (.int .u64 v7)/\(if (decide ((IntKind.i64.wrap (a_ - d_))>=2)) then (∃ x28,x28=(IntKind.i64.wrap (a_ - 1))/\(kX b_ d_ f_ a_ g_ x28 k nx1 nx3 h11)) else (bA b_ d_ f_ a_ g_ k nx1 nx3 h11))))))))))))
def eu (b_:Slc) (f_:Int) (d_:Int) (g_:Int) (a_:Int) (k:KP Bool) (nx1:KP (Int × Int)) (nx3:KP Int) (h_3:Heap):Prop :=
  if (decide (a_ < d_)) then (∃ a44,b_.a=some a44/\(0:Int)<=a_/\a_ < (b_.len:Int)/\(∃ v45,af h_3 (a44.add (a_.toNat * 1))=some (.int .u64 v45)/\(∃ a46,b_.a=some a46/\(0:Int)<=(IntKind.i64.wrap (a_ - 1))/\(IntKind.i64.wrap (a_ - 1)) < (b_.len:Int)/\(∃ v47,af h_3 (a46.add ((IntKind.i64.wrap (a_ - 1)).toNat * 1))=some (.int .u64 v47)/\(aW v45 v47 (fun r48 h49=>aO b_ f_ d_ a_ g_ (!r48) k nx1 nx3 h49) h_3))))) else (aO b_ f_ d_ a_ g_ false k nx1 nx3 h_3)
def eY (b_:Slc) (d_:Int) (f_:Int) (g_:Int) (i7:Int) (k:KP Bool) (nx1:KP (Int × Int)) (h:Heap):Prop :=
  ∃ (I:KP Int) (μ:Int->Heap->Nat),I i7 h/\∀ (a_:Int) (h:Heap),I a_ h->eu b_ d_ f_ g_ a_ k nx1 (fun s h'=>I s h'/\μ s h' < μ a_ h) h
def d9 (b_:Slc) (d_:Int) (f_:Int) (g_:Int) (a_:Int) (k:KP Bool) (nx1:KP (Int × Int)) (h_1:Heap):Prop :=
  if (decide (a_ < 5)) then (eY b_ d_ f_ a_ g_ k nx1 h_1) else (k false h_1)
def fA (d_:Slc) (f_:Int) (g_:Int) (i7:Int) (i8:Int) (k:KP Bool) (h:Heap):Prop :=
  ∃ (I:KP (Int × Int)) (μ:(Int × Int)->Heap->Nat),I (i7,i8) h/\∀ (a_:Int) (b_:Int) (h:Heap),I (a_,b_) h->d9 d_ f_ g_ a_ b_ k (fun s h'=>I s h'/\μ s h' < μ (a_,b_) h) h
def bG (p0:Slc) (p1:Int) (p2:Int) (k:KP Bool) (h:Heap):Prop :=
  ∃ x1,x1=(IntKind.i64.wrap (p1 + 1))/\(fA p0 p1 p2 x1 0 k h)
/-- slices.partitionEqualOrdered uint64  -/
def aR (d_:Slc) (g_:Int) (a_:Int) (b_:Int) (f_:Bool) (k:KP Int) (nx1:KP (Int × Int)) (nx2:KP Int) (nx4:KP Int) (h_5:Heap):Prop :=
  if f_ then (∃ x12,x12=(IntKind.i64.wrap (b_ - 1))/\(nx4 x12 h_5)) else (if (decide (a_ > b_)) then (k a_ h_5) else (∃ a13,d_.a=some a13/\(0:Int)<=b_/\b_ < (d_.len:Int)/\(∃ v14,af h_5 (a13.add (b_.toNat * 1))=some (.int .u64 v14)/\(∃ a15,d_.a=some a15/\(0:Int)<=a_/\a_ < (d_.len:Int)/\(∃ v16,af h_5 (a15.add (a_.toNat * 1))=some (.int .u64 v16)/\(∃ a17,d_.a=some a17/\(0:Int)<=a_/\a_ < (d_.len:Int)/\(∃ h18,WrH h_5 (a17.add (a_.toNat * 1))/\h18=setH h_5 (a17.add (a_.toNat * 1)) (.int .u64 v14)/\(∃ a19,d_.a=some a19/\(0:Int)<=b_/\b_ < (d_.len:Int)/\(∃ h20,WrH h18 (a19.add (b_.toNat * 1))/\h20=setH h18 (a19.add (b_.toNat * 1)) (.int .u64 v16)/\(∃ x21,x21=(IntKind.i64.wrap (a_ + 1))/\(∃ x22,x22=(IntKind.i64.wrap (b_ - 1))/\(nx1 (x21,x22) h20))))))))))))
def iw (a_:Slc) (d_:Int) (f_:Int) (b_:Int) (k:KP Int) (nx1:KP (Int × Int)) (nx2:KP Int) (nx4:KP Int) (h_4:Heap):Prop :=
  if (decide (f_<=b_)) then (∃ a23,a_.a=some a23/\(0:Int)<=d_/\d_ < (a_.len:Int)/\(∃ v24,af h_4 (a23.add (d_.toNat * 1))=some (.int .u64 v24)/\(∃ a25,a_.a=some a25/\(0:Int)<=b_/\b_ < (a_.len:Int)/\(∃ v26,af h_4 (a25.add (b_.toNat * 1))=some (.int .u64 v26)/\(aW v24 v26 (fun r27 h28=>aR a_ d_ f_ b_ r27 k nx1 nx2 nx4 h28) h_4))))) else (aR a_ d_ f_ b_ false k nx1 nx2 nx4 h_4)
def iJ (b_:Slc) (d_:Int) (f_:Int) (i10:Int) (k:KP Int) (nx1:KP (Int × Int)) (nx2:KP Int) (h:Heap):Prop :=
  ∃ (I:KP Int) (μ:Int->Heap->Nat),I i10 h/\∀ (a_:Int) (h:Heap),I a_ h->iw b_ d_ f_ a_ k nx1 nx2 (fun s h'=>I s h'/\μ s h' < μ a_ h) h
def aS (b_:Slc) (d_:Int) (a_:Int) (f_:Int) (g_:Bool) (k:KP Int) (nx1:KP (Int × Int)) (nx2:KP Int) (h_3:Heap):Prop :=
  if g_ then (∃ x11,x11=(IntKind.i64.wrap (a_ + 1))/\(nx2 x11 h_3)) else (iJ b_ d_ a_ f_ k nx1 nx2 h_3)
def iy (a_:Slc) (d_:Int) (f_:Int) (b_:Int) (k:KP Int) (nx1:KP (Int × Int)) (nx2:KP Int) (h_2:Heap):Prop :=
  if (decide (b_<=f_)) then (∃ a29,a_.a=some a29/\(0:Int)<=d_/\d_ < (a_.len:Int)/\(∃ v30,af h_2 (a29.add (d_.toNat * 1))=some (.int .u64 v30)/\(∃ a31,a_.a=some a31/\(0:Int)<=b_/\b_ < (a_.len:Int)/\(∃ v32,af h_2 (a31.add (b_.toNat * 1))=some (.int .u64 v32)/\(aW v30 v32 (fun r33 h34=>aS a_ d_ b_ f_ (!r33) k nx1 nx2 h34) h_2))))) else (aS a_ d_ b_ f_ false k nx1 nx2 h_2)
def iF (b_:Slc) (d_:Int) (f_:Int) (i9:Int) (k:KP Int) (nx1:KP (Int × Int)) (h:Heap):Prop :=
  ∃ (I:KP Int) (μ:Int->Heap->Nat),I i9 h/\∀ (a_:Int) (h:Heap),I a_ h->iy b_ d_ f_ a_ k nx1 (fun s h'=>I s h'/\μ s h' < μ a_ h) h
def iq (a_:Slc) (b_:Int) (d_:Int) (f_:Int) (k:KP Int) (nx1:KP (Int × Int)) (h_1:Heap):Prop :=
  iF a_ b_ f_ d_ k nx1 h_1
def iE (d_:Slc) (f_:Int) (i9:Int) (i10:Int) (k:KP Int) (h:Heap):Prop :=
  ∃ (I:KP (Int × Int)) (μ:(Int × Int)->Heap->Nat),I (i9,i10) h/\∀ (a_:Int) (b_:Int) (h:Heap),I (a_,b_) h->iq d_ f_ a_ b_ k (fun s h'=>I s h'/\μ s h' < μ (a_,b_) h) h
def bZ (p0:Slc) (p1:Int) (p2:Int) (p3:Int) (k:KP Int) (h:Heap):Prop :=
  ∃ a1,p0.a=some a1/\(0:Int)<=p3/\p3 < (p0.len:Int)/\(∃ v2,af h (a1.add (p3.toNat * 1))=some (.int .u64 v2)/\(∃ a3,p0.a=some a3/\(0:Int)<=p1/\p1 < (p0.len:Int)/\(∃ v4,af h (a3.add (p1.toNat * 1))=some (.int .u64 v4)/\(∃ a5,p0.a=some a5/\(0:Int)<=p1/\p1 < (p0.len:Int)/\(∃ h6,WrH h (a5.add (p1.toNat * 1))/\h6=setH h (a5.add (p1.toNat * 1)) (.int .u64 v2)/\(∃ a7,p0.a=some a7/\(0:Int)<=p3/\p3 < (p0.len:Int)/\(∃ h8,WrH h6 (a7.add (p3.toNat * 1))/\h8=setH h6 (a7.add (p3.toNat * 1)) (.int .u64 v4)/\(∃ x9,x9=(IntKind.i64.wrap (p1 + 1))/\(∃ x10,x10=(IntKind.i64.wrap (p2 - 1))/\(iE p0 p1 x9 x10 k h8))))))))))
/-- slices.partitionOrdered uint64  -/
def bg (b_:Slc) (f_:Int) (d_:Int) (a_:Int) (g_:Bool) (k:KP (Int × Bool)) (nx1:KP Int) (nx3:KP Int) (nx5:KP (Int × Int)) (nx6:KP Int) (nx8:KP Int) (h_9:Heap):Prop :=
  if g_ then (∃ x32,x32=(IntKind.i64.wrap (a_ - 1))/\(nx8 x32 h_9)) else (if (decide (d_ > a_)) then (∃ a33,b_.a=some a33/\(0:Int)<=f_/\f_ < (b_.len:Int)/\(∃ v34,af h_9 (a33.add (f_.toNat * 1))=some (.int .u64 v34)/\(∃ a35,b_.a=some a35/\(0:Int)<=a_/\a_ < (b_.len:Int)/\(∃ v36,af h_9 (a35.add (a_.toNat * 1))=some (.int .u64 v36)/\(∃ a37,b_.a=some a37/\(0:Int)<=a_/\a_ < (b_.len:Int)/\(∃ h38,WrH h_9 (a37.add (a_.toNat * 1))/\h38=setH h_9 (a37.add (a_.toNat * 1)) (.int .u64 v34)/\(∃ a39,b_.a=some a39/\(0:Int)<=f_/\f_ < (b_.len:Int)/\(∃ h40,WrH h38 (a39.add (f_.toNat * 1))/\h40=setH h38 (a39.add (f_.toNat * 1)) (.int .u64 v36)/\(k (a_,false) h40))))))))) else (∃ a41,b_.a=some a41/\(0:Int)<=a_/\a_ < (b_.len:Int)/\(∃ v42,af h_9 (a41.add (a_.toNat * 1))=some (.int .u64 v42)/\(∃ a43,b_.a=some a43/\(0:Int)<=d_/\d_ < (b_.len:Int)/\(∃ v44,af h_9 (a43.add (d_.toNat * 1))=some (.int .u64 v44)/\(∃ a45,b_.a=some a45/\(0:Int)<=d_/\d_ < (b_.len:Int)/\(∃ h46,WrH h_9 (a45.add (d_.toNat * 1))/\h46=setH h_9 (a45.add (d_.toNat * 1)) (.int .u64 v42)/\(∃ a47,b_.a=some a47/\(0:Int)<=a_/\a_ < (b_.len:Int)/\(∃ h48,WrH h46 (a47.add (a_.toNat * 1))/\h48=setH h46 (a47.add (a_.toNat * 1)) (.int .u64 v44)/\(∃ x49,x49=(IntKind.i64.wrap (d_ + 1))/\(∃ x50,x50=(IntKind.i64.wrap (a_ - 1))/\(nx5 (x49,x50) h48))))))))))))
def jk (a_:Slc) (d_:Int) (f_:Int) (b_:Int) (k:KP (Int × Bool)) (nx1:KP Int) (nx3:KP Int) (nx5:KP (Int × Int)) (nx6:KP Int) (nx8:KP Int) (h_8:Heap):Prop :=
  if (decide (f_<=b_)) then (∃ a51,a_.a=some a51/\(0:Int)<=b_/\b_ < (a_.len:Int)/\(∃ v52,af h_8 (a51.add (b_.toNat * 1))=some (.int .u64 v52)/\(∃ a53,a_.a=some a53/\(0:Int)<=d_/\d_ < (a_.len:Int)/\(∃ v54,af h_8 (a53.add (d_.toNat * 1))=some (.int .u64 v54)/\(aW v52 v54 (fun r55 h56=>bg a_ d_ f_ b_ (!r55) k nx1 nx3 nx5 nx6 nx8 h56) h_8))))) else (bg a_ d_ f_ b_ false k nx1 nx3 nx5 nx6 nx8 h_8)
def jJ (b_:Slc) (d_:Int) (f_:Int) (i11:Int) (k:KP (Int × Bool)) (nx1:KP Int) (nx3:KP Int) (nx5:KP (Int × Int)) (nx6:KP Int) (h:Heap):Prop :=
  ∃ (I:KP Int) (μ:Int->Heap->Nat),I i11 h/\∀ (a_:Int) (h:Heap),I a_ h->jk b_ d_ f_ a_ k nx1 nx3 nx5 nx6 (fun s h'=>I s h'/\μ s h' < μ a_ h) h
def bq (b_:Slc) (d_:Int) (a_:Int) (f_:Int) (g_:Bool) (k:KP (Int × Bool)) (nx1:KP Int) (nx3:KP Int) (nx5:KP (Int × Int)) (nx6:KP Int) (h_7:Heap):Prop :=
  if g_ then (∃ x31,x31=(IntKind.i64.wrap (a_ + 1))/\(nx6 x31 h_7)) else (jJ b_ d_ a_ f_ k nx1 nx3 nx5 nx6 h_7)
def ji (a_:Slc) (d_:Int) (f_:Int) (b_:Int) (k:KP (Int × Bool)) (nx1:KP Int) (nx3:KP Int) (nx5:KP (Int × Int)) (nx6:KP Int) (h_6:Heap):Prop :=
  if (decide (b_<=f_)) then (∃ a57,a_.a=some a57/\(0:Int)<=b_/\b_ < (a_.len:Int)/\(∃ v58,af h_6 (a57.add (b_.toNat * 1))=some (.int .u64 v58)/\(∃ a59,a_.a=some a59/\(0:Int)<=d_/\d_ < (a_.len:Int)/\(∃ v60,af h_6 (a59.add (d_.toNat * 1))=some (.int .u64 v60)/\(aW v58 v60 (fun r61 h62=>bq a_ d_ b_ f_ r61 k nx1 nx3 nx5 nx6 h62) h_6))))) else (bq a_ d_ b_ f_ false k nx1 nx3 nx5 nx6 h_6)
def jI (b_:Slc) (d_:Int) (f_:Int) (i10:Int) (k:KP (Int × Bool)) (nx1:KP Int) (nx3:KP Int) (nx5:KP (Int × Int)) (h:Heap):Prop :=
  ∃ (I:KP Int) (μ:Int->Heap->Nat),I i10 h/\∀ (a_:Int) (h:Heap),I a_ h->ji b_ d_ f_ a_ k nx1 nx3 nx5 (fun s h'=>I s h'/\μ s h' < μ a_ h) h
def jr (a_:Slc) (b_:Int) (d_:Int) (f_:Int) (k:KP (Int × Bool)) (nx1:KP Int) (nx3:KP Int) (nx5:KP (Int × Int)) (h_5:Heap):Prop :=
  jI a_ b_ f_ d_ k nx1 nx3 nx5 h_5
def jL (d_:Slc) (f_:Int) (i10:Int) (i11:Int) (k:KP (Int × Bool)) (nx1:KP Int) (nx3:KP Int) (h:Heap):Prop :=
  ∃ (I:KP (Int × Int)) (μ:(Int × Int)->Heap->Nat),I (i10,i11) h/\∀ (a_:Int) (b_:Int) (h:Heap),I (a_,b_) h->jr d_ f_ a_ b_ k nx1 nx3 (fun s h'=>I s h'/\μ s h' < μ (a_,b_) h) h
def bn (b_:Slc) (f_:Int) (d_:Int) (a_:Int) (g_:Bool) (k:KP (Int × Bool)) (nx1:KP Int) (nx3:KP Int) (h_4:Heap):Prop :=
  if g_ then (∃ x12,x12=(IntKind.i64.wrap (a_ - 1))/\(nx3 x12 h_4)) else (if (decide (d_ > a_)) then (∃ a13,b_.a=some a13/\(0:Int)<=f_/\f_ < (b_.len:Int)/\(∃ v14,af h_4 (a13.add (f_.toNat * 1))=some (.int .u64 v14)/\(∃ a15,b_.a=some a15/\(0:Int)<=a_/\a_ < (b_.len:Int)/\(∃ v16,af h_4 (a15.add (a_.toNat * 1))=some (.int .u64 v16)/\(∃ a17,b_.a=some a17/\(0:Int)<=a_/\a_ < (b_.len:Int)/\(∃ h18,WrH h_4 (a17.add (a_.toNat * 1))/\h18=setH h_4 (a17.add (a_.toNat * 1)) (.int .u64 v14)/\(∃ a19,b_.a=some a19/\(0:Int)<=f_/\f_ < (b_.len:Int)/\(∃ h20,WrH h18 (a19.add (f_.toNat * 1))/\h20=setH h18 (a19.add (f_.toNat * 1)) (.int .u64 v16)/\(k (a_,true) h20))))))))) else (∃ a21,b_.a=some a21/\(0:Int)<=a_/\a_ < (b_.len:Int)/\(∃ v22,af h_4 (a21.add (a_.toNat * 1))=some (.int .u64 v22)/\(∃ a23,b_.a=some a23/\(0:Int)<=d_/\d_ < (b_.len:Int)/\(∃ v24,af h_4 (a23.add (d_.toNat * 1))=some (.int .u64 v24)/\(∃ a25,b_.a=some a25/\(0:Int)<=d_/\d_ < (b_.len:Int)/\(∃ h26,WrH h_4 (a25.add (d_.toNat * 1))/\h26=setH h_4 (a25.add (d_.toNat * 1)) (.int .u64 v22)/\(∃ a27,b_.a=some a27/\(0:Int)<=a_/\a_ < (b_.len:Int)/\(∃ h28,WrH h26 (a27.add (a_.toNat * 1))/\h28=setH h26 (a27.add (a_.toNat * 1)) (.int .u64 v24)/\(∃ x29,x29=(IntKind.i64.wrap (d_ + 1))/\(∃ x30,x30=(IntKind.i64.wrap (a_ - 1))/\(jL b_ f_ x29 x30 k nx1 nx3 h28))))))))))))
def jE (a_:Slc) (d_:Int) (f_:Int) (b_:Int) (k:KP (Int × Bool)) (nx1:KP Int) (nx3:KP Int) (h_3:Heap):Prop :=
  if (decide (f_<=b_)) then (∃ a63,a_.a=some a63/\(0:Int)<=b_/\b_ < (a_.len:Int)/\(∃ v64,af h_3 (a63.add (b_.toNat * 1))=some (.int .u64 v64)/\(∃ a65,a_.a=some a65/\(0:Int)<=d_/\d_ < (a_.len:Int)/\(∃ v66,af h_3 (a65.add (d_.toNat * 1))=some (.int .u64 v66)/\(aW v64 v66 (fun r67 h68=>bn a_ d_ f_ b_ (!r67) k nx1 nx3 h68) h_3))))) else (bn a_ d_ f_ b_ false k nx1 nx3 h_3)
def jM (b_:Slc) (d_:Int) (f_:Int) (i11:Int) (k:KP (Int × Bool)) (nx1:KP Int) (h:Heap):Prop :=
  ∃ (I:KP Int) (μ:Int->Heap->Nat),I i11 h/\∀ (a_:Int) (h:Heap),I a_ h->jE b_ d_ f_ a_ k nx1 (fun s h'=>I s h'/\μ s h' < μ a_ h) h
def bi (b_:Slc) (d_:Int) (a_:Int) (f_:Int) (g_:Bool) (k:KP (Int × Bool)) (nx1:KP Int) (h_2:Heap):Prop :=
  if g_ then (∃ x11,x11=(IntKind.i64.wrap (a_ + 1))/\(nx1 x11 h_2)) else (jM b_ d_ a_ f_ k nx1 h_2)
def jG (a_:Slc) (d_:Int) (f_:Int) (b_:Int) (k:KP (Int × Bool)) (nx1:KP Int) (h_1:Heap):Prop :=
  if (decide (b_<=f_)) then (∃ a69,a_.a=some a69/\(0:Int)<=b_/\b_ < (a_.len:Int)/\(∃ v70,af h_1 (a69.add (b_.toNat * 1))=some (.int .u64 v70)/\(∃ a71,a_.a=some a71/\(0:Int)<=d_/\d_ < (a_.len:Int)/\(∃ v72,af h_1 (a71.add (d_.toNat * 1))=some (.int .u64 v72)/\(aW v70 v72 (fun r73 h74=>bi a_ d_ b_ f_ r73 k nx1 h74) h_1))))) else (bi a_ d_ b_ f_ false k nx1 h_1)
def jK (b_:Slc) (d_:Int) (f_:Int) (i10:Int) (k:KP (Int × Bool)) (h:Heap):Prop :=
  ∃ (I:KP Int) (μ:Int->Heap->Nat),I i10 h/\∀ (a_:Int) (h:Heap),I a_ h->jG b_ d_ f_ a_ k (fun s h'=>I s h'/\μ s h' < μ a_ h) h
def dP (p0:Slc) (p1:Int) (p2:Int) (p3:Int) (k:KP (Int × Bool)) (h:Heap):Prop :=
  ∃ a1,p0.a=some a1/\(0:Int)<=p3/\p3 < (p0.len:Int)/\(∃ v2,af h (a1.add (p3.toNat * 1))=some (.int .u64 v2)/\(∃ a3,p0.a=some a3/\(0:Int)<=p1/\p1 < (p0.len:Int)/\(∃ v4,af h (a3.add (p1.toNat * 1))=some (.int .u64 v4)/\(∃ a5,p0.a=some a5/\(0:Int)<=p1/\p1 < (p0.len:Int)/\(∃ h6,WrH h (a5.add (p1.toNat * 1))/\h6=setH h (a5.add (p1.toNat * 1)) (.int .u64 v2)/\(∃ a7,p0.a=some a7/\(0:Int)<=p3/\p3 < (p0.len:Int)/\(∃ h8,WrH h6 (a7.add (p3.toNat * 1))/\h8=setH h6 (a7.add (p3.toNat * 1)) (.int .u64 v4)/\(∃ x9,x9=(IntKind.i64.wrap (p1 + 1))/\(∃ x10,x10=(IntKind.i64.wrap (p2 - 1))/\(jK p0 p1 x10 x9 k h8))))))))))
theorem MX:aB prog 108:=ck func108
theorem LY (p0 p1 p2 p3 k h) (H:cK p0 p1 p2 p3 k h):CallsH prog 108 #[Slc.v p0,.int .i64 p1,.int .i64 p2,.int .i64 p3] h (rU k):=by
 refine fE func108 fun w0=>?_
 refine zF [0,1,2,3] (zQ ?_)
 refine w2 Z (zE (zB ?_))
 obtain ⟨I1,μ1,H0,HI⟩:=H
 refine zO (σ:=Int) [0,2,3] (fun (s:Int)=>[(8,.int .i64 s)]) I1 μ1 p1 H0 ?_
 rintro a_ h_1 H
 replace H:=HI a_ h_1 H
 refine zF [8,0,2,3] (zB (zQ ?_))
 refine w3 Z ?_
 refine wQ Z H fun x1 H=>?_
 refine zE (zS (zQ (w3 Z (zE ?_))))
 refine zI H ?_ ?_ <;> intro H
 refine zY (yE (zM (yE (yH ?_))))
 exact kW _ rfl _ rfl ⟨(),rfl,H⟩
 refine zK (zX ?_)
 refine zJ (α:=Int) [0,2,3,8] (fun (s:Int)=>[(9,.int .i64 s)]) (fun (s:Int) h=>bL p0 p2 p3 a_ s k (fun s h'=>I1 s h'/\μ1 s h' < μ1 a_ h_1) h) ?_ ?_
 rintro b_ h_2 H
 refine zF [9,0,2,3,8] (zS (zS ?_))
 refine gB [0,2,3,8,9] ?_
 refine gT 0 [0] Z ?_
 refine gT 1 [3] Z ?_
 refine gT 2 [8] Z ?_
 refine gT 3 [40,41] Z ?_
 refine gd 4 [39,42] Z H fun a2 H=>?_
 refine gl 5 [43] Z H fun v3 H=>?_
 refine gT 6 [0] Z ?_
 refine gT 7 [3] Z ?_
 refine gT 8 [9] Z ?_
 refine gT 9 [46,47] Z ?_
 refine gd 10 [45,48] Z H fun a4 H=>?_
 refine gl 11 [49] Z H fun v5 H=>?_
 refine gC 12 [44,50] vW (wW _ _ _ _ H) fun r6 h7 H=>?_
 refine gT 13 [51] Z ?_
 refine gZ ?_
 refine zX (zF [0,2,3,8,9,52] ?_)
 refine zI H ?_ ?_ <;> intro H
 refine zT (yT (yB (yT (yB ?_))))
 exact aA _ rfl _ rfl ⟨(),rfl,H⟩
 refine zK (zX (zS ?_))
 refine gB [0,2,3,8,9] ?_
 refine gT 0 [0] Z ?_
 refine gT 1 [3] Z ?_
 refine gT 2 [8] Z ?_
 refine gT 3 [54,55] Z ?_
 refine gT 4 [0] Z ?_
 refine gT 5 [3] Z ?_
 refine gT 6 [9] Z ?_
 refine gT 7 [58,59] Z ?_
 refine gT 8 [0] Z ?_
 refine gT 9 [3] Z ?_
 refine gT 10 [9] Z ?_
 refine gT 11 [62,63] Z ?_
 refine gd 12 [61,64] Z H fun a8 H=>?_
 refine gl 13 [65] Z H fun v9 H=>?_
 refine gT 14 [0] Z ?_
 refine gT 15 [3] Z ?_
 refine gT 16 [8] Z ?_
 refine gT 17 [68,69] Z ?_
 refine gd 18 [67,70] Z H fun a10 H=>?_
 refine gl 19 [71] Z H fun v11 H=>?_
 refine gd 20 [53,56] Z H fun a12 H=>?_
 refine gs 21 [66,73] Z H fun h13 H=>?_
 refine gd 22 [57,60] Z H fun a14 H=>?_
 refine gs 23 [72,74] Z H fun h15 H=>?_
 refine gZ ?_
 refine zX (zF [0,2,3,9] (zR ?_))
 refine w2 Z (zL ?_)
 exact xJ b_ H
 refine zJ (α:=Bool) [0,2,3,8,9] (fun (s:Bool)=>[(36,.bool s)]) (fun (s:Bool) h=>bM p0 p2 p3 a_ x1 s k (fun s h'=>I1 s h'/\μ1 s h' < μ1 a_ h_1) h) ?_ ?_
 rintro d_ h_3 H
 refine zF [36,0,2,3,8,9] ?_
 refine zI H ?_ ?_ <;> intro H
 refine zR (w2 Z ?_)
 refine wQ Z H fun x16 H=>?_
 refine zW ?_
 exact xJ x16 H
 refine zK ?_
 exact xJ x1 H
 refine gB [0,2,3,8,9] ?_
 refine gT 0 [9] Z ?_
 refine gT 1 [17] Z ?_
 refine gT 2 [2] Z ?_
 refine gT 3 [18,19] Z ?_
 refine gT 4 [20] Z ?_
 refine gI 21 H (fun hb H=>?_) (fun hb H=>?_)
 refine gT 5 [0,21] Z ?_
 refine gT 6 [3,21] Z ?_
 refine gT 7 [9,21] Z ?_
 refine gT 8 [21,23,24] Z ?_
 refine gd 9 [21,22,25] Z H fun a17 H=>?_
 refine gl 10 [21,26] Z H fun v18 H=>?_
 refine gT 11 [0,21] Z ?_
 refine gT 12 [3,21] Z ?_
 refine gT 13 [9,21] Z ?_
 refine gT 14 [21,29,30] Z ?_
 refine gT 15 [21,31] Z ?_
 refine gd 16 [21,28,32] Z H fun a19 H=>?_
 refine gl 17 [21,33] Z H fun v20 H=>?_
 refine gC 18 [21,27,34] vW (wW _ _ _ _ H) fun r21 h22 H=>?_
 refine gT 19 [21,35] Z ?_
 refine gZ ?_
 exact xJ r21 H
 refine gS 5 [0,21] ?_
 refine gS 6 [3,21] ?_
 refine gS 7 [9,21] ?_
 refine gS 8 [21,23,24] ?_
 refine gS 9 [21,22,25] ?_
 refine gS 10 [21,26] ?_
 refine gS 11 [0,21] ?_
 refine gS 12 [3,21] ?_
 refine gS 13 [9,21] ?_
 refine gS 14 [21,29,30] ?_
 refine gS 15 [21,31] ?_
 refine gS 16 [21,28,32] ?_
 refine gS 17 [21,33] ?_
 refine gS 18 [21,27,34] ?_
 refine gT 19 [21,35] Z ?_
 refine gZ ?_
 exact xJ false H
theorem O98:aB prog 98:=ck func98
theorem R98 (p0 p1 p2 k h) (H:dW p0 p1 p2 k h):CallsH prog 98 #[Slc.v p0,.int .i64 p1,.int .i64 p2] h (rU k):=by
 refine fE func98 fun w0=>?_
 refine zF [0,1,2] (zQ ?_)
 refine w2 Z (zE (zQ ?_))
 refine w1 Z (zE (zQ ?_))
 refine w3 Z ?_
 refine wQ Z H fun x1 H=>?_
 refine zE (zS (zQ (w3 Z ?_)))
 refine wQ Z H fun x2 H=>?_
 refine zE (zF [0,6,7,8,9] (zB ?_))
 obtain ⟨I1,μ1,H0,HI⟩:=H
 refine zO (σ:=Int) [0,6,7,8] (fun (s:Int)=>[(9,.int .i64 s)]) I1 μ1 x2 H0 ?_
 rintro a_ h_1 H
 replace H:=HI a_ h_1 H
 refine zF [9,0,6,7,8] (zS (zQ ?_))
 refine w2 Z (zE ?_)
 refine zI H ?_ ?_ <;> intro H
 refine zK (zX (zS (zB (zR (w4 Z ?_)))))
 refine wC MX (LY _ _ _ _ _ _ H) fun r3 h4 H=>?_
 refine zL (zX (zF [9,0,6,7,8] (zR ?_)))
 refine w2 Z ?_
 refine wQ Z H fun x5 H=>?_
 refine zW ?_
 exact xJ x5 H
 refine zY (yE (yE (yH (zX (zQ (w2 Z ?_))))))
 refine wQ Z H fun x6 H=>?_
 refine zE (zB ?_)
 obtain ⟨I2,μ2,H0,HI⟩:=H
 refine zO (σ:=Int) [0,6,7] (fun (s:Int)=>[(10,.int .i64 s)]) I2 μ2 x6 H0 ?_
 rintro b_ h_2 H
 replace H:=HI b_ h_2 H
 refine zF [10,0,6,7] (zS (zQ ?_))
 refine w2 Z (zE ?_)
 refine zI H ?_ ?_ <;> intro H
 refine zK (zX (zS (zB (zS ?_))))
 refine gB [0,6,7,10] ?_
 refine gT 0 [0] Z ?_
 refine gT 1 [6] Z ?_
 refine gT 2 [0] Z ?_
 refine gT 3 [6] Z ?_
 refine gT 4 [10] Z ?_
 refine gT 5 [36,37] Z ?_
 refine gT 6 [0] Z ?_
 refine gT 7 [6] Z ?_
 refine gT 8 [10] Z ?_
 refine gT 9 [40,41] Z ?_
 refine gd 10 [39,42] Z H fun a7 H=>?_
 refine gl 11 [43] Z H fun v8 H=>?_
 refine gT 12 [0] Z ?_
 refine gT 13 [6] Z ?_
 refine gd 14 [45,46] Z H fun a9 H=>?_
 refine gl 15 [47] Z H fun v10 H=>?_
 refine gd 16 [33,34] Z H fun a11 H=>?_
 refine gs 17 [44,49] Z H fun h12 H=>?_
 refine gd 18 [35,38] Z H fun a13 H=>?_
 refine gs 19 [48,50] Z H fun h14 H=>?_
 refine gZ ?_
 refine zX (zF [0,6,7,10] (zR ?_))
 refine w4 Z ?_
 refine wC MX (LY _ _ _ _ _ _ H) fun r15 h16 H=>?_
 refine zL (zX (zR (w2 Z ?_)))
 refine wQ Z H fun x17 H=>?_
 refine zW ?_
 exact xJ x17 H
 refine zY (yE (yE (yH ?_)))
 exact kW _ rfl _ rfl ⟨(),rfl,H⟩
theorem Nu:aB prog 109:=ck func109
theorem NV (p0 k h) (H:lZ p0 k h):CallsH prog 109 #[.int .i64 p0] h (rI .u64 k):=by
 refine fE func109 fun w0=>?_
 refine zF [0] (zQ ?_)
 refine w1 Z (zE (zQ ?_))
 refine w2 Z ?_
 refine wC O96 (R96 _ _ _ H) fun r1 h2 H=>?_
 obtain ⟨z3,H⟩:=H
 refine wY (JU rfl rfl rfl z3) ?_
 refine wQ Z H fun x4 H=>?_
 refine zE (zT ?_)
 exact aA _ rfl _ rfl ⟨x4,rfl,H⟩
theorem NE:aB prog 110:=ck func110
theorem Nr (p0 k h) (H:kv p0 k h):CallsH prog 110 #[.pointer p0] h (rI .u64 k):=by
 refine fE func110 fun w0=>?_
 refine zF [0] (zQ ?_)
 refine w1 Z (zE (zS ?_))
 refine gB [0] ?_
 refine gT 0 [0] Z ?_
 obtain ⟨a1,ha1,H⟩:=H
 refine gY 1 [3] rfl (fun _=>au rfl rfl ha1) ?_
 refine gl 2 [4] Z H fun v2 H=>?_
 refine gT 3 [0] Z ?_
 refine gY 4 [6] rfl (fun _=>au rfl rfl ha1) ?_
 refine gl 5 [7] Z H fun v3 H=>?_
 refine gT 6 [8] Z ?_
 refine gT 7 [5,9] Z ?_
 refine gY 8 [3] rfl (fun _=>au rfl rfl ha1) ?_
 refine gs 9 [10,11] Z H fun h4 H=>?_
 refine gZ ?_
 refine zX (zF [0] (zS ?_))
 refine gB [0] ?_
 refine gT 0 [0] Z ?_
 refine gY 1 [12] rfl (fun _=>au rfl rfl ha1) ?_
 refine gl 2 [13] Z H fun v5 H=>?_
 refine gT 3 [0] Z ?_
 refine gY 4 [15] rfl (fun _=>au rfl rfl ha1) ?_
 refine gl 5 [16] Z H fun v6 H=>?_
 refine gT 6 [17] Z ?_
 refine gT 7 [14,18] Z ?_
 refine gY 8 [12] rfl (fun _=>au rfl rfl ha1) ?_
 refine gs 9 [19,20] Z H fun h7 H=>?_
 refine gZ ?_
 refine zX (zF [0] (zS ?_))
 refine gB [0] ?_
 refine gT 0 [0] Z ?_
 refine gY 1 [21] rfl (fun _=>au rfl rfl ha1) ?_
 refine gl 2 [22] Z H fun v8 H=>?_
 refine gT 3 [0] Z ?_
 refine gY 4 [24] rfl (fun _=>au rfl rfl ha1) ?_
 refine gl 5 [25] Z H fun v9 H=>?_
 refine gT 6 [26] Z ?_
 refine gT 7 [23,27] Z ?_
 refine gY 8 [21] rfl (fun _=>au rfl rfl ha1) ?_
 refine gs 9 [28,29] Z H fun h10 H=>?_
 refine gZ ?_
 refine zX (zF [0] (zQ ?_))
 refine w1 Z ?_
 refine wY (au rfl rfl ha1) ?_
 refine wL Z H fun v11 H=>?_
 refine w1 Z (zE (zT ?_))
 exact aA _ rfl _ rfl ⟨v11,rfl,H⟩
theorem O99:aB prog 99:=ck func99
theorem R99 (p0 p1 p2 k h) (H:df p0 p1 p2 k h):CallsH prog 99 #[Slc.v p0,.int .i64 p1,.int .i64 p2] h (rU k):=by
 refine fE func99 fun w0=>?_
 refine zF [0,1,2] (zQ ?_)
 refine w3 Z ?_
 refine wQ Z H fun x1 H=>?_
 refine zE (zQ (w2 Z (zE ?_)))
 refine zI H ?_ ?_ <;> intro H
 refine zQ (w2 Z ?_)
 refine wB Z H fun b2 h3 H=>?_
 refine wT Z H fun h4 H=>?_
 refine zE (zF [0,1,6,7] (zQ ?_))
 refine w1 Z ?_
 refine wC Nu (NV _ _ _ H) fun r5 h6 H=>?_
 refine w1 Z (zE (zQ ?_))
 refine w6 Z ?_
 refine wQ Z H fun x7 H=>?_
 refine zE (zF [0,1,6,7,8,9] (zB ?_))
 obtain ⟨I1,μ1,H0,HI⟩:=H
 refine zO (σ:=Int) [0,1,6,7,8] (fun (s:Int)=>[(9,.int .i64 s)]) I1 μ1 x7 H0 ?_
 rintro a_ h_1 H
 replace H:=HI a_ h_1 H
 refine zF [9,0,1,6,7,8] (zS (zQ ?_))
 refine w6 Z ?_
 refine w2 Z (zE (zF [9,0,1,6,7,8,33] ?_))
 refine zI H ?_ ?_ <;> intro H
 refine zK (zX (zS (zB (zQ ?_))))
 refine wC NE (Nr _ _ _ H) fun r8 h9 H=>?_
 refine w4 Z ?_
 refine wQ Z H fun x10 H=>?_
 refine zE ?_
 refine zJ (α:=Int) [0,1,6,7,8,9] (fun (s:Int)=>[(10,.int .i64 s)]) (fun (s:Int) h=>bC p0 p1 x1 (ad b2) r5 a_ s k (fun s h'=>I1 s h'/\μ1 s h' < μ1 a_ h_1) h) ?_ ?_
 rintro b_ h_2 H
 refine zF [10,0,1,6,7,8,9] ?_
 refine gB [0,1,6,7,8,9,10] ?_
 refine gT 0 [0] Z ?_
 refine gT 1 [9] Z ?_
 refine gT 2 [0] Z ?_
 refine gT 3 [1] Z ?_
 refine gT 4 [10] Z ?_
 refine gT 5 [50,51] Z ?_
 refine gT 6 [0] Z ?_
 refine gT 7 [1] Z ?_
 refine gT 8 [10] Z ?_
 refine gT 9 [54,55] Z ?_
 refine gd 10 [53,56] Z H fun a11 H=>?_
 refine gl 11 [57] Z H fun v12 H=>?_
 refine gT 12 [0] Z ?_
 refine gT 13 [9] Z ?_
 refine gd 14 [59,60] Z H fun a13 H=>?_
 refine gl 15 [61] Z H fun v14 H=>?_
 refine gd 16 [47,48] Z H fun a15 H=>?_
 refine gs 17 [58,63] Z H fun h16 H=>?_
 refine gd 18 [49,52] Z H fun a17 H=>?_
 refine gs 19 [62,64] Z H fun h18 H=>?_
 refine gZ ?_
 refine yL (zX (zF [0,1,6,7,8,9] (zR ?_)))
 refine w2 Z ?_
 refine wQ Z H fun x19 H=>?_
 refine zW ?_
 exact xJ x19 H
 refine zQ (w3 Z (zE (zF [9,0,1,6,7,8,10,43] ?_)))
 refine zI H ?_ ?_ <;> intro H
 refine zR (w3 Z ?_)
 refine wQ Z H fun x20 H=>?_
 refine zW ?_
 exact xJ x20 H
 refine zK ?_
 exact xJ x10 H
 refine zY (yE (yE (yH ?_)))
 exact kW _ rfl _ rfl ⟨(),rfl,H⟩
 refine zK ?_
 exact kW _ rfl _ rfl ⟨(),rfl,H⟩
theorem KF:aB prog 114:=ck func114
theorem Ko (p0 p1 p2 p3 k h) (H:bR p0 p1 p2 p3 k h):CallsH prog 114 #[Slc.v p0,.int .i64 p1,.int .i64 p2,.pointer p3] h (fun v h'=>∃ r:Int × Int,v = .tuple #[.int .i64 r.1,.int .i64 r.2]/\k r h'):=by
 refine fE func114 fun w0=>?_
 refine zF [0,1,2,3] (zQ ?_)
 refine w2 Z (zE (zS (zS ?_)))
 refine gB [0,1,2,3] ?_
 refine gT 0 [0] Z ?_
 refine gT 1 [2] Z ?_
 refine gd 2 [10,11] Z H fun a1 H=>?_
 refine gl 3 [12] Z H fun v2 H=>?_
 refine gT 4 [0] Z ?_
 refine gT 5 [1] Z ?_
 refine gd 6 [14,15] Z H fun a3 H=>?_
 refine gl 7 [16] Z H fun v4 H=>?_
 refine gC 8 [13,17] vW (wW _ _ _ _ H) fun r5 h6 H=>?_
 refine gZ ?_
 refine zX (zF [1,2,3,18] ?_)
 refine zI H ?_ ?_ <;> intro H
 refine zQ (w1 Z ?_)
 refine wN H fun a7 ha7 H=>?_
 refine wL Z H fun v8 H=>?_
 refine w1 Z ?_
 refine wY (au rfl rfl ha7) ?_
 refine wT Z H fun h9 H=>?_
 refine zE (zF [1,2] (zQ ?_))
 refine w4 Z (zE (zT (yT ?_)))
 exact aA _ rfl _ rfl ⟨(p2,p1),rfl,H⟩
 refine zK (zX (zQ (w4 Z (zE (zT ?_)))))
 exact aA _ rfl _ rfl ⟨(p1,p2),rfl,H⟩
theorem MR:aB prog 112:=ck func112
theorem MZ (p0 p1 p2 p3 p4 k h) (H:dF p0 p1 p2 p3 p4 k h):CallsH prog 112 #[Slc.v p0,.int .i64 p1,.int .i64 p2,.int .i64 p3,.pointer p4] h (rI .i64 k):=by
 refine fE func112 fun w0=>?_
 refine zF [0,1,2,3,4] (zQ ?_)
 refine w1 Z (zE (zQ ?_))
 refine w4 Z ?_
 refine wC KF (Ko _ _ _ _ _ _ H) fun r1 h2 H=>?_
 refine w5 Z (zE (zF [0,1,2,3,4] (zQ ?_)))
 refine w4 Z ?_
 refine wC KF (Ko _ _ _ _ _ _ H) fun r3 h4 H=>?_
 refine w5 Z (zE (zF [0,1,2,4] (zQ ?_)))
 refine w4 Z ?_
 refine wC KF (Ko _ _ _ _ _ _ H) fun r5 h6 H=>?_
 refine w5 Z (zE (zF [2] (zQ ?_)))
 refine w2 Z (zE (zT ?_))
 exact aA _ rfl _ rfl ⟨r5.2,rfl,H⟩
theorem Kw:aB prog 111:=ck func111
theorem KZ (p0 p1 p2 k h) (H:bY p0 p1 p2 k h):CallsH prog 111 #[Slc.v p0,.int .i64 p1,.pointer p2] h (rI .i64 k):=by
 refine fE func111 fun w0=>?_
 refine zF [0,1,2] (zQ ?_)
 refine w1 Z (zE (zQ ?_))
 refine w6 Z ?_
 refine w1 Z ?_
 refine wC MR (MZ _ _ _ _ _ _ _ H) fun r1 h2 H=>?_
 refine w1 Z (zE (zF [6] (zT ?_)))
 exact aA _ rfl _ rfl ⟨r1,rfl,H⟩
theorem NG:aB prog 100:=ck func100
theorem NT (p0 p1 p2 k h) (H:dI p0 p1 p2 k h):CallsH prog 100 #[Slc.v p0,.int .i64 p1,.int .i64 p2] h (fun v h'=>∃ r:Int × Int,v = .tuple #[.int .i64 r.1,.int .i64 r.2]/\k r h'):=by
 refine fE func100 fun w0=>?_
 refine zF [0,1,2] (zQ ?_)
 refine w2 Z (zE (zQ ?_))
 refine w3 Z ?_
 refine wQ Z H fun x1 H=>?_
 refine zE (zQ ?_)
 refine wB Z H fun b2 h3 H=>?_
 refine zE (zQ (w5 Z ?_))
 refine wQ Z H fun x4 H=>?_
 refine zE (zF [0,1,8,9,10] (zQ ?_))
 refine w5 Z ?_
 refine wQ Z H fun x5 H=>?_
 refine zE (zQ (w5 Z ?_))
 refine wQ Z H fun x6 H=>?_
 refine zE (zF [0,8,9,10,11,12] ?_)
 refine zJ (α:=Int) [9] (fun (s:Int)=>[(11,.int .i64 s)]) (fun (s:Int) h=>bE (ad b2) s k h) ?_ ?_
 rintro a_ h_1 H
 refine zF [11,9] (zQ ?_)
 refine wL Z H fun v7 H=>?_
 refine zE (zB (zQ (w2 Z (zE ?_))))
 refine zI H ?_ ?_ <;> intro H
 refine zQ (w3 Z (zE (zT (yB ?_))))
 exact aA _ rfl _ rfl ⟨(a_,1),rfl,H⟩
 refine zQ (w2 Z (zE ?_))
 refine zI H ?_ ?_ <;> intro H
 refine zQ (w3 Z (zE (zF [6,7] (zT (yB ?_)))))
 exact aA _ rfl _ rfl ⟨(a_,2),rfl,H⟩
 refine zQ (w3 Z (zE (zF [6,7] (zT (yB ?_)))))
 exact aA _ rfl _ rfl ⟨(a_,0),rfl,H⟩
 refine zQ (w2 Z (zE ?_))
 refine zI H ?_ ?_ <;> intro H
 refine zJ (α:=Int × Int × Int) [0,9] (fun (s:Int × Int × Int)=>[(10,.int .i64 s.1),(11,.int .i64 s.2.1),(12,.int .i64 s.2.2)]) (fun (s:Int × Int × Int) h=>cB p0 (ad b2) s.1 s.2.1 s.2.2 k h) ?_ ?_
 rintro ⟨b_,d_,f_⟩ h_2 H
 refine zF [10,11,12,0,9] (zR ?_)
 refine w4 Z ?_
 refine wC MR (MZ _ _ _ _ _ _ _ H) fun r8 h9 H=>?_
 refine w1 Z (zW ?_)
 exact xJ r8 H
 refine zQ (w2 Z (zE ?_))
 refine zI H ?_ ?_ <;> intro H
 refine zQ (w2 Z ?_)
 refine wC Kw (KZ _ _ _ _ _ H) fun r10 h11 H=>?_
 refine w1 Z (zE (zF [0,9,10,11,12] (zQ ?_)))
 refine w2 Z ?_
 refine wC Kw (KZ _ _ _ _ _ H) fun r12 h13 H=>?_
 refine w1 Z (zE (zR ?_))
 refine w2 Z ?_
 refine wC Kw (KZ _ _ _ _ _ H) fun r14 h15 H=>?_
 refine w1 Z (zW ?_)
 exact xJ (r10,r12,r14) H
 refine zK ?_
 exact xJ (x4,x5,x6) H
 refine zK ?_
 exact xJ x5 H
theorem Nw:aB prog 101:=ck func101
theorem NS (p0 p1 p2 k h) (H:dw p0 p1 p2 k h):CallsH prog 101 #[Slc.v p0,.int .i64 p1,.int .i64 p2] h (rU k):=by
 refine fE func101 fun w0=>?_
 refine zF [0,1,2] (zQ ?_)
 refine w2 Z (zE (zQ ?_))
 refine w2 Z ?_
 refine wQ Z H fun x1 H=>?_
 refine zE (zB ?_)
 obtain ⟨I1,μ1,H0,HI⟩:=H
 refine zO (σ:=Int × Int) [0] (fun (s:Int × Int)=>[(6,.int .i64 s.1),(7,.int .i64 s.2)]) I1 μ1 (p1,x1) H0 ?_
 rintro ⟨a_,b_⟩ h_1 H
 replace H:=HI a_ b_ h_1 H
 refine zF [6,7,0] (zS (zQ ?_))
 refine w3 Z (zE ?_)
 refine zI H ?_ ?_ <;> intro H
 refine zK (zX (zB (zS ?_)))
 refine gB [0,6,7] ?_
 refine gT 0 [0] Z ?_
 refine gT 1 [6] Z ?_
 refine gT 2 [0] Z ?_
 refine gT 3 [7] Z ?_
 refine gT 4 [0] Z ?_
 refine gT 5 [7] Z ?_
 refine gd 6 [18,19] Z H fun a2 H=>?_
 refine gl 7 [20] Z H fun v3 H=>?_
 refine gT 8 [0] Z ?_
 refine gT 9 [6] Z ?_
 refine gd 10 [22,23] Z H fun a4 H=>?_
 refine gl 11 [24] Z H fun v5 H=>?_
 refine gd 12 [14,15] Z H fun a6 H=>?_
 refine gs 13 [21,26] Z H fun h7 H=>?_
 refine gd 14 [16,17] Z H fun a8 H=>?_
 refine gs 15 [25,27] Z H fun h9 H=>?_
 refine gZ ?_
 refine zX (zF [0,6,7] (zQ ?_))
 refine w2 Z ?_
 refine wQ Z H fun x10 H=>?_
 refine zE (zR (w2 Z ?_))
 refine wQ Z H fun x11 H=>?_
 refine zL ?_
 exact xJ (x10,x11) H
 refine zY (yE (yE (yH ?_)))
 exact kW _ rfl _ rfl ⟨(),rfl,H⟩
theorem NI:aB prog 102:=ck func102
theorem NR (p0 p1 p2 k h) (H:bG p0 p1 p2 k h):CallsH prog 102 #[Slc.v p0,.int .i64 p1,.int .i64 p2] h (rB k):=by
 refine fE func102 fun w0=>?_
 refine zF [0,1,2] (zQ ?_)
 refine w1 Z (zE (zQ ?_))
 refine w2 Z ?_
 refine wQ Z H fun x1 H=>?_
 refine zE (zS (zQ (w1 Z (zE (zB ?_)))))
 obtain ⟨I1,μ1,H0,HI⟩:=H
 refine zO (σ:=Int × Int) [0,1,2] (fun (s:Int × Int)=>[(7,.int .i64 s.1),(8,.int .i64 s.2)]) I1 μ1 (x1,0) H0 ?_
 rintro ⟨d_,b_⟩ h_1 H
 replace H:=HI d_ b_ h_1 H
 refine zF [7,8,0,1,2] (zS (zQ ?_))
 refine w2 Z (zE ?_)
 refine zI H ?_ ?_ <;> intro H
 refine zK (zX ?_)
 refine zJ (α:=Int) [0,1,2,8] (fun (s:Int)=>[(7,.int .i64 s)]) (fun (s:Int) h=>bB p0 p1 p2 b_ s k (fun s h'=>I1 s h'/\μ1 s h' < μ1 (d_,b_) h_1) h) ?_ ?_
 rintro f_ h_2 H
 refine zF [7,0,1,2,8] (zR ?_)
 refine w2 Z ?_
 refine wQ Z H fun x2 H=>?_
 refine zW ?_
 exact xJ (f_,x2) H
 refine zB (zS (zB ?_))
 obtain ⟨I3,μ3,H0,HI⟩:=H
 refine zO (σ:=Int) [0,1,2,8] (fun (s:Int)=>[(7,.int .i64 s)]) I3 μ3 d_ H0 ?_
 rintro a_ h_3 H
 replace H:=HI a_ h_3 H
 refine zF [7,0,1,2,8] (zS ?_)
 refine zJ (α:=Bool) [0,1,2,7,8] (fun (s:Bool)=>[(32,.bool s)]) (fun (s:Bool) h=>aO p0 p1 p2 a_ b_ s k (fun s h'=>I1 s h'/\μ1 s h' < μ1 (d_,b_) h_1) (fun s h'=>I3 s h'/\μ3 s h' < μ3 a_ h_3) h) ?_ ?_
 rintro j_ h_4 H
 refine zF [32,0,1,2,7,8] ?_
 refine zI H ?_ ?_ <;> intro H
 refine zK (zX (zB (zR (w2 Z ?_))))
 refine wQ Z H fun x3 H=>?_
 refine zL ?_
 exact xJ x3 H
 refine zY (yE (yE (yH (zX (zS (zQ (w3 Z (zE ?_))))))))
 refine zI H ?_ ?_ <;> intro H
 refine zQ (w1 Z (zE (zF [6] (zT (yT (yB (yT (yT (yB (yT ?_))))))))))
 exact aA _ rfl _ rfl ⟨true,rfl,H⟩
 refine zK (zX (zS (zQ (w4 Z (zE (zF [0,1,2,7,8,41] ?_))))))
 refine zI H ?_ ?_ <;> intro H
 refine zQ (w1 Z (zE (zT (yT (yB (yT (yT (yB (yT ?_)))))))))
 exact aA _ rfl _ rfl ⟨false,rfl,H⟩
 refine zK (zX (zS ?_))
 refine gB [0,1,2,7,8] ?_
 refine gT 0 [0] Z ?_
 refine gT 1 [7] Z ?_
 refine gT 2 [0] Z ?_
 refine gT 3 [7] Z ?_
 refine gT 4 [45] Z ?_
 refine gT 5 [0] Z ?_
 refine gT 6 [7] Z ?_
 refine gT 7 [48] Z ?_
 refine gd 8 [47,49] Z H fun a4 H=>?_
 refine gl 9 [50] Z H fun v5 H=>?_
 refine gT 10 [0] Z ?_
 refine gT 11 [7] Z ?_
 refine gd 12 [52,53] Z H fun a6 H=>?_
 refine gl 13 [54] Z H fun v7 H=>?_
 refine gd 14 [42,43] Z H fun a8 H=>?_
 refine gs 15 [51,56] Z H fun h9 H=>?_
 refine gd 16 [44,46] Z H fun a10 H=>?_
 refine gs 17 [55,57] Z H fun h11 H=>?_
 refine gZ ?_
 refine zX (zF [0,1,2,7,8] ?_)
 refine zJ (α:=Unit) [0,1,2,7,8] (fun (s:Unit)=>[]) (fun (s:Unit) h=>bA p0 p1 p2 a_ b_ k (fun s h'=>I1 s h'/\μ1 s h' < μ1 (d_,b_) h_1) (fun s h'=>I3 s h'/\μ3 s h' < μ3 a_ h_3) h) ?_ ?_
 rintro _ h_5 H
 refine zF [0,1,2,7,8] (zQ ?_)
 refine w4 Z (zE ?_)
 refine zI H ?_ ?_ <;> intro H
 refine zQ (w2 Z ?_)
 refine wQ Z H fun x12 H=>?_
 refine zE (zB ?_)
 obtain ⟨I6,μ6,H0,HI⟩:=H
 refine zO (σ:=Int) [0,1,2,7,8] (fun (s:Int)=>[(10,.int .i64 s)]) I6 μ6 x12 H0 ?_
 rintro g_ h_6 H
 replace H:=HI g_ h_6 H
 refine zF [10,0,1,2,7,8] (zS (zQ ?_))
 refine w3 Z (zE ?_)
 refine zI H ?_ ?_ <;> intro H
 refine zK (zX (zS (zB (zS (zS ?_)))))
 refine gB [0,1,2,7,8,10] ?_
 refine gT 0 [0] Z ?_
 refine gT 1 [10] Z ?_
 refine gd 2 [106,107] Z H fun a13 H=>?_
 refine gl 3 [108] Z H fun v14 H=>?_
 refine gT 4 [0] Z ?_
 refine gT 5 [10] Z ?_
 refine gT 6 [111] Z ?_
 refine gd 7 [110,112] Z H fun a15 H=>?_
 refine gl 8 [113] Z H fun v16 H=>?_
 refine gC 9 [109,114] vW (wW _ _ _ _ H) fun r17 h18 H=>?_
 refine gT 10 [115] Z ?_
 refine gZ ?_
 refine zX (zF [0,1,2,7,8,10,116] ?_)
 refine zI H ?_ ?_ <;> intro H
 refine zY (yE (zM (yE (yE (yH (yL ?_))))))
 exact xJ a_ H
 refine zK (zX ?_)
 refine gB [0,1,2,7,8,10] ?_
 refine gT 0 [0] Z ?_
 refine gT 1 [10] Z ?_
 refine gT 2 [0] Z ?_
 refine gT 3 [10] Z ?_
 refine gT 4 [120] Z ?_
 refine gT 5 [0] Z ?_
 refine gT 6 [10] Z ?_
 refine gT 7 [123] Z ?_
 refine gd 8 [122,124] Z H fun a19 H=>?_
 refine gl 9 [125] Z H fun v20 H=>?_
 refine gT 10 [0] Z ?_
 refine gT 11 [10] Z ?_
 refine gd 12 [127,128] Z H fun a21 H=>?_
 refine gl 13 [129] Z H fun v22 H=>?_
 refine gd 14 [117,118] Z H fun a23 H=>?_
 refine gs 15 [126,131] Z H fun h24 H=>?_
 refine gd 16 [119,121] Z H fun a25 H=>?_
 refine gs 17 [130,132] Z H fun h26 H=>?_
 refine gZ ?_
 refine yL (zX (zF [0,1,2,7,8,10] (zR ?_)))
 refine w2 Z ?_
 refine wQ Z H fun x27 H=>?_
 refine zW ?_
 exact xJ x27 H
 refine zY (yE (yE (yH (yL ?_))))
 exact xJ a_ H
 refine zK (yL ?_)
 exact xJ a_ H
 refine zQ (w4 Z (zE ?_))
 refine zI H ?_ ?_ <;> intro H
 refine zQ (w2 Z ?_)
 refine wQ Z H fun x28 H=>?_
 refine zE (zB ?_)
 obtain ⟨I7,μ7,H0,HI⟩:=H
 refine zO (σ:=Int) [0,1,2,7,8] (fun (s:Int)=>[(9,.int .i64 s)]) I7 μ7 x28 H0 ?_
 rintro h_ h_7 H
 replace H:=HI h_ h_7 H
 refine zF [9,0,1,2,7,8] (zS (zQ ?_))
 refine w2 Z (zE ?_)
 refine zI H ?_ ?_ <;> intro H
 refine zK (zX (zS (zB (zS (zS ?_)))))
 refine gB [0,1,2,7,8,9] ?_
 refine gT 0 [0] Z ?_
 refine gT 1 [9] Z ?_
 refine gd 2 [68,69] Z H fun a29 H=>?_
 refine gl 3 [70] Z H fun v30 H=>?_
 refine gT 4 [0] Z ?_
 refine gT 5 [9] Z ?_
 refine gT 6 [73] Z ?_
 refine gd 7 [72,74] Z H fun a31 H=>?_
 refine gl 8 [75] Z H fun v32 H=>?_
 refine gC 9 [71,76] vW (wW _ _ _ _ H) fun r33 h34 H=>?_
 refine gT 10 [77] Z ?_
 refine gZ ?_
 refine zX (zF [0,1,2,7,8,9,78] ?_)
 refine zI H ?_ ?_ <;> intro H
 refine zY (yE (zM (yE (yE (yH ?_)))))
 exact xJ () H
 refine zK (zX ?_)
 refine gB [0,1,2,7,8,9] ?_
 refine gT 0 [0] Z ?_
 refine gT 1 [9] Z ?_
 refine gT 2 [0] Z ?_
 refine gT 3 [9] Z ?_
 refine gT 4 [82] Z ?_
 refine gT 5 [0] Z ?_
 refine gT 6 [9] Z ?_
 refine gT 7 [85] Z ?_
 refine gd 8 [84,86] Z H fun a35 H=>?_
 refine gl 9 [87] Z H fun v36 H=>?_
 refine gT 10 [0] Z ?_
 refine gT 11 [9] Z ?_
 refine gd 12 [89,90] Z H fun a37 H=>?_
 refine gl 13 [91] Z H fun v38 H=>?_
 refine gd 14 [79,80] Z H fun a39 H=>?_
 refine gs 15 [88,93] Z H fun h40 H=>?_
 refine gd 16 [81,83] Z H fun a41 H=>?_
 refine gs 17 [92,94] Z H fun h42 H=>?_
 refine gZ ?_
 refine yL (zX (zF [0,1,2,7,8,9] (zR ?_)))
 refine w2 Z ?_
 refine wQ Z H fun x43 H=>?_
 refine zW ?_
 exact xJ x43 H
 refine zY (yE (yE (yH ?_)))
 exact xJ () H
 refine zK ?_
 exact xJ () H
 refine gB [0,1,2,7,8] ?_
 refine gT 0 [7] Z ?_
 refine gT 1 [2] Z ?_
 refine gT 2 [17,18] Z ?_
 refine gT 3 [19] Z ?_
 refine gI 20 H (fun hb H=>?_) (fun hb H=>?_)
 refine gT 4 [0,20] Z ?_
 refine gT 5 [7,20] Z ?_
 refine gd 6 [20,21,22] Z H fun a44 H=>?_
 refine gl 7 [20,23] Z H fun v45 H=>?_
 refine gT 8 [0,20] Z ?_
 refine gT 9 [7,20] Z ?_
 refine gT 10 [20,26] Z ?_
 refine gd 11 [20,25,27] Z H fun a46 H=>?_
 refine gl 12 [20,28] Z H fun v47 H=>?_
 refine gC 13 [20,24,29] vW (wW _ _ _ _ H) fun r48 h49 H=>?_
 refine gT 14 [20,30] Z ?_
 refine gT 15 [20,31] Z ?_
 refine gZ ?_
 exact xJ (!r48) H
 refine gS 4 [0,20] ?_
 refine gS 5 [7,20] ?_
 refine gS 6 [20,21,22] ?_
 refine gS 7 [20,23] ?_
 refine gS 8 [0,20] ?_
 refine gS 9 [7,20] ?_
 refine gS 10 [20,26] ?_
 refine gS 11 [20,25,27] ?_
 refine gS 12 [20,28] ?_
 refine gS 13 [20,24,29] ?_
 refine gS 14 [20,30] ?_
 refine gT 15 [20,31] Z ?_
 refine gZ ?_
 exact xJ false H
 refine zY (yE (yE (yH (zX (zF [] (zQ ?_))))))
 refine w1 Z (zE (zT ?_))
 exact aA _ rfl _ rfl ⟨false,rfl,H⟩
theorem Ns:aB prog 104:=ck func104
theorem Ny (p0 p1 p2 p3 k h) (H:bZ p0 p1 p2 p3 k h):CallsH prog 104 #[Slc.v p0,.int .i64 p1,.int .i64 p2,.int .i64 p3] h (rI .i64 k):=by
 refine fE func104 fun w0=>?_
 refine zF [0,1,2,3] (zQ ?_)
 refine w1 Z (zE (zS ?_))
 refine gB [0,1,2,3] ?_
 refine gT 0 [0] Z ?_
 refine gT 1 [1] Z ?_
 refine gT 2 [0] Z ?_
 refine gT 3 [3] Z ?_
 refine gT 4 [0] Z ?_
 refine gT 5 [3] Z ?_
 refine gd 6 [15,16] Z H fun a1 H=>?_
 refine gl 7 [17] Z H fun v2 H=>?_
 refine gT 8 [0] Z ?_
 refine gT 9 [1] Z ?_
 refine gd 10 [19,20] Z H fun a3 H=>?_
 refine gl 11 [21] Z H fun v4 H=>?_
 refine gd 12 [11,12] Z H fun a5 H=>?_
 refine gs 13 [18,23] Z H fun h6 H=>?_
 refine gd 14 [13,14] Z H fun a7 H=>?_
 refine gs 15 [22,24] Z H fun h8 H=>?_
 refine gZ ?_
 refine zX (zF [0,1,2] (zQ ?_))
 refine w4 Z ?_
 refine wQ Z H fun x9 H=>?_
 refine wQ Z H fun x10 H=>?_
 refine zE (zS (zB ?_))
 obtain ⟨I1,μ1,H0,HI⟩:=H
 refine zO (σ:=Int × Int) [0,1] (fun (s:Int × Int)=>[(9,.int .i64 s.1),(10,.int .i64 s.2)]) I1 μ1 (x9,x10) H0 ?_
 rintro ⟨d_,b_⟩ h_1 H
 replace H:=HI d_ b_ h_1 H
 refine zF [9,10,0,1] (zB (zS (zB ?_)))
 obtain ⟨I2,μ2,H0,HI⟩:=H
 refine zO (σ:=Int) [0,1,10] (fun (s:Int)=>[(9,.int .i64 s)]) I2 μ2 d_ H0 ?_
 rintro a_ h_2 H
 replace H:=HI a_ h_2 H
 refine zF [9,0,1,10] (zS ?_)
 refine zJ (α:=Bool) [0,1,9,10] (fun (s:Bool)=>[(43,.bool s)]) (fun (s:Bool) h=>aS p0 p1 a_ b_ s k (fun s h'=>I1 s h'/\μ1 s h' < μ1 (d_,b_) h_1) (fun s h'=>I2 s h'/\μ2 s h' < μ2 a_ h_2) h) ?_ ?_
 rintro g_ h_3 H
 refine zF [43,0,1,9,10] ?_
 refine zI H ?_ ?_ <;> intro H
 refine zK (zX (zB (zR (w2 Z ?_))))
 refine wQ Z H fun x11 H=>?_
 refine zL ?_
 exact xJ x11 H
 refine zY (yE (yE (yH (zX (zS (zB ?_))))))
 obtain ⟨I4,μ4,H0,HI⟩:=H
 refine zO (σ:=Int) [0,1,9] (fun (s:Int)=>[(10,.int .i64 s)]) I4 μ4 b_ H0 ?_
 rintro f_ h_4 H
 replace H:=HI f_ h_4 H
 refine zF [10,0,1,9] (zS ?_)
 refine zJ (α:=Bool) [0,1,9,10] (fun (s:Bool)=>[(59,.bool s)]) (fun (s:Bool) h=>aR p0 p1 a_ f_ s k (fun s h'=>I1 s h'/\μ1 s h' < μ1 (d_,b_) h_1) (fun s h'=>I2 s h'/\μ2 s h' < μ2 a_ h_2) (fun s h'=>I4 s h'/\μ4 s h' < μ4 f_ h_4) h) ?_ ?_
 rintro h_ h_5 H
 refine zF [59,0,1,9,10] ?_
 refine zI H ?_ ?_ <;> intro H
 refine zK (zX (zB (zR (w2 Z ?_))))
 refine wQ Z H fun x12 H=>?_
 refine zL ?_
 exact xJ x12 H
 refine zY (yE (yE (yH (zX (zS (zQ (w3 Z (zE ?_))))))))
 refine zI H ?_ ?_ <;> intro H
 refine zY (yE (zM (yE (yH (zX (zF [9] (zQ ?_)))))))
 refine w2 Z (zE (zT ?_))
 exact aA _ rfl _ rfl ⟨a_,rfl,H⟩
 refine zK (zX (zS ?_))
 refine gB [0,1,9,10] ?_
 refine gT 0 [0] Z ?_
 refine gT 1 [9] Z ?_
 refine gT 2 [0] Z ?_
 refine gT 3 [10] Z ?_
 refine gT 4 [0] Z ?_
 refine gT 5 [10] Z ?_
 refine gd 6 [69,70] Z H fun a13 H=>?_
 refine gl 7 [71] Z H fun v14 H=>?_
 refine gT 8 [0] Z ?_
 refine gT 9 [9] Z ?_
 refine gd 10 [73,74] Z H fun a15 H=>?_
 refine gl 11 [75] Z H fun v16 H=>?_
 refine gd 12 [65,66] Z H fun a17 H=>?_
 refine gs 13 [72,77] Z H fun h18 H=>?_
 refine gd 14 [67,68] Z H fun a19 H=>?_
 refine gs 15 [76,78] Z H fun h20 H=>?_
 refine gZ ?_
 refine zX (zF [0,1,9,10] (zQ ?_))
 refine w2 Z ?_
 refine wQ Z H fun x21 H=>?_
 refine zE (zR (w2 Z ?_))
 refine wQ Z H fun x22 H=>?_
 refine zL ?_
 exact xJ (x21,x22) H
 refine gB [0,1,9,10] ?_
 refine gT 0 [9] Z ?_
 refine gT 1 [10] Z ?_
 refine gT 2 [46,47] Z ?_
 refine gT 3 [48] Z ?_
 refine gI 49 H (fun hb H=>?_) (fun hb H=>?_)
 refine gT 4 [0,49] Z ?_
 refine gT 5 [1,49] Z ?_
 refine gd 6 [49,50,51] Z H fun a23 H=>?_
 refine gl 7 [49,52] Z H fun v24 H=>?_
 refine gT 8 [0,49] Z ?_
 refine gT 9 [10,49] Z ?_
 refine gd 10 [49,54,55] Z H fun a25 H=>?_
 refine gl 11 [49,56] Z H fun v26 H=>?_
 refine gC 12 [49,53,57] vW (wW _ _ _ _ H) fun r27 h28 H=>?_
 refine gT 13 [49,58] Z ?_
 refine gZ ?_
 exact xJ r27 H
 refine gS 4 [0,49] ?_
 refine gS 5 [1,49] ?_
 refine gS 6 [49,50,51] ?_
 refine gS 7 [49,52] ?_
 refine gS 8 [0,49] ?_
 refine gS 9 [10,49] ?_
 refine gS 10 [49,54,55] ?_
 refine gS 11 [49,56] ?_
 refine gS 12 [49,53,57] ?_
 refine gT 13 [49,58] Z ?_
 refine gZ ?_
 exact xJ false H
 refine gB [0,1,9,10] ?_
 refine gT 0 [9] Z ?_
 refine gT 1 [10] Z ?_
 refine gT 2 [29,30] Z ?_
 refine gT 3 [31] Z ?_
 refine gI 32 H (fun hb H=>?_) (fun hb H=>?_)
 refine gT 4 [0,32] Z ?_
 refine gT 5 [1,32] Z ?_
 refine gd 6 [32,33,34] Z H fun a29 H=>?_
 refine gl 7 [32,35] Z H fun v30 H=>?_
 refine gT 8 [0,32] Z ?_
 refine gT 9 [9,32] Z ?_
 refine gd 10 [32,37,38] Z H fun a31 H=>?_
 refine gl 11 [32,39] Z H fun v32 H=>?_
 refine gC 12 [32,36,40] vW (wW _ _ _ _ H) fun r33 h34 H=>?_
 refine gT 13 [32,41] Z ?_
 refine gT 14 [32,42] Z ?_
 refine gZ ?_
 exact xJ (!r33) H
 refine gS 4 [0,32] ?_
 refine gS 5 [1,32] ?_
 refine gS 6 [32,33,34] ?_
 refine gS 7 [32,35] ?_
 refine gS 8 [0,32] ?_
 refine gS 9 [9,32] ?_
 refine gS 10 [32,37,38] ?_
 refine gS 11 [32,39] ?_
 refine gS 12 [32,36,40] ?_
 refine gS 13 [32,41] ?_
 refine gT 14 [32,42] Z ?_
 refine gZ ?_
 exact xJ false H
theorem N9:aB prog 105:=ck func105
theorem ND (p0 p1 p2 p3 k h) (H:dP p0 p1 p2 p3 k h):CallsH prog 105 #[Slc.v p0,.int .i64 p1,.int .i64 p2,.int .i64 p3] h (fun v h'=>∃ r:Int × Bool,v = .tuple #[.int .i64 r.1,.bool r.2]/\k r h'):=by
 refine fE func105 fun w0=>?_
 refine zF [0,1,2,3] (zQ ?_)
 refine w2 Z (zE (zS ?_))
 refine gB [0,1,2,3] ?_
 refine gT 0 [0] Z ?_
 refine gT 1 [1] Z ?_
 refine gT 2 [0] Z ?_
 refine gT 3 [3] Z ?_
 refine gT 4 [0] Z ?_
 refine gT 5 [3] Z ?_
 refine gd 6 [16,17] Z H fun a1 H=>?_
 refine gl 7 [18] Z H fun v2 H=>?_
 refine gT 8 [0] Z ?_
 refine gT 9 [1] Z ?_
 refine gd 10 [20,21] Z H fun a3 H=>?_
 refine gl 11 [22] Z H fun v4 H=>?_
 refine gd 12 [12,13] Z H fun a5 H=>?_
 refine gs 13 [19,24] Z H fun h6 H=>?_
 refine gd 14 [14,15] Z H fun a7 H=>?_
 refine gs 15 [23,25] Z H fun h8 H=>?_
 refine gZ ?_
 refine zX (zF [0,1,2] (zQ ?_))
 refine w4 Z ?_
 refine wQ Z H fun x9 H=>?_
 refine wQ Z H fun x10 H=>?_
 refine zE (zS (zB ?_))
 obtain ⟨I1,μ1,H0,HI⟩:=H
 refine zO (σ:=Int) [0,1,11] (fun (s:Int)=>[(10,.int .i64 s)]) I1 μ1 x9 H0 ?_
 rintro a_ h_1 H
 replace H:=HI a_ h_1 H
 refine zF [10,0,1,11] (zS ?_)
 refine zJ (α:=Bool) [0,1,10,11] (fun (s:Bool)=>[(43,.bool s)]) (fun (s:Bool) h=>bi p0 p1 a_ x10 s k (fun s h'=>I1 s h'/\μ1 s h' < μ1 a_ h_1) h) ?_ ?_
 rintro j_ h_2 H
 refine zF [43,0,1,10,11] ?_
 refine zI H ?_ ?_ <;> intro H
 refine zK (zX (zB (zR (w2 Z ?_))))
 refine wQ Z H fun x11 H=>?_
 refine zL ?_
 exact xJ x11 H
 refine zY (yE (yE (yH (zX (zS (zB ?_))))))
 obtain ⟨I3,μ3,H0,HI⟩:=H
 refine zO (σ:=Int) [0,1,10] (fun (s:Int)=>[(11,.int .i64 s)]) I3 μ3 x10 H0 ?_
 rintro b_ h_3 H
 replace H:=HI b_ h_3 H
 refine zF [11,0,1,10] (zS ?_)
 refine zJ (α:=Bool) [0,1,10,11] (fun (s:Bool)=>[(60,.bool s)]) (fun (s:Bool) h=>bn p0 p1 a_ b_ s k (fun s h'=>I1 s h'/\μ1 s h' < μ1 a_ h_1) (fun s h'=>I3 s h'/\μ3 s h' < μ3 b_ h_3) h) ?_ ?_
 rintro l_ h_4 H
 refine zF [60,0,1,10,11] ?_
 refine zI H ?_ ?_ <;> intro H
 refine zK (zX (zB (zR (w2 Z ?_))))
 refine wQ Z H fun x12 H=>?_
 refine zL ?_
 exact xJ x12 H
 refine zY (yE (yE (yH (zX (zS (zQ (w3 Z (zE ?_))))))))
 refine zI H ?_ ?_ <;> intro H
 refine zS ?_
 refine gB [0,1,11] ?_
 refine gT 0 [0] Z ?_
 refine gT 1 [11] Z ?_
 refine gT 2 [0] Z ?_
 refine gT 3 [1] Z ?_
 refine gT 4 [0] Z ?_
 refine gT 5 [1] Z ?_
 refine gd 6 [70,71] Z H fun a13 H=>?_
 refine gl 7 [72] Z H fun v14 H=>?_
 refine gT 8 [0] Z ?_
 refine gT 9 [11] Z ?_
 refine gd 10 [74,75] Z H fun a15 H=>?_
 refine gl 11 [76] Z H fun v16 H=>?_
 refine gd 12 [66,67] Z H fun a17 H=>?_
 refine gs 13 [73,78] Z H fun h18 H=>?_
 refine gd 14 [68,69] Z H fun a19 H=>?_
 refine gs 15 [77,79] Z H fun h20 H=>?_
 refine gZ ?_
 refine zX (zF [11] (zQ ?_))
 refine w3 Z (zE (zT (yT ?_)))
 exact aA _ rfl _ rfl ⟨(b_,true),rfl,H⟩
 refine zK (zX (zS ?_))
 refine gB [0,1,10,11] ?_
 refine gT 0 [0] Z ?_
 refine gT 1 [10] Z ?_
 refine gT 2 [0] Z ?_
 refine gT 3 [11] Z ?_
 refine gT 4 [0] Z ?_
 refine gT 5 [11] Z ?_
 refine gd 6 [85,86] Z H fun a21 H=>?_
 refine gl 7 [87] Z H fun v22 H=>?_
 refine gT 8 [0] Z ?_
 refine gT 9 [10] Z ?_
 refine gd 10 [89,90] Z H fun a23 H=>?_
 refine gl 11 [91] Z H fun v24 H=>?_
 refine gd 12 [81,82] Z H fun a25 H=>?_
 refine gs 13 [88,93] Z H fun h26 H=>?_
 refine gd 14 [83,84] Z H fun a27 H=>?_
 refine gs 15 [92,94] Z H fun h28 H=>?_
 refine gZ ?_
 refine zX (zF [0,1,10,11] (zQ ?_))
 refine w2 Z ?_
 refine wQ Z H fun x29 H=>?_
 refine zE (zQ (w2 Z ?_))
 refine wQ Z H fun x30 H=>?_
 refine zE (zS (zB ?_))
 obtain ⟨I5,μ5,H0,HI⟩:=H
 refine zO (σ:=Int × Int) [0,1] (fun (s:Int × Int)=>[(10,.int .i64 s.1),(11,.int .i64 s.2)]) I5 μ5 (x29,x30) H0 ?_
 rintro ⟨g_,d_⟩ h_5 H
 replace H:=HI g_ d_ h_5 H
 refine zF [10,11,0,1] (zB (zS (zB ?_)))
 obtain ⟨I6,μ6,H0,HI⟩:=H
 refine zO (σ:=Int) [0,1,11] (fun (s:Int)=>[(10,.int .i64 s)]) I6 μ6 g_ H0 ?_
 rintro f_ h_6 H
 replace H:=HI f_ h_6 H
 refine zF [10,0,1,11] (zS ?_)
 refine zJ (α:=Bool) [0,1,10,11] (fun (s:Bool)=>[(112,.bool s)]) (fun (s:Bool) h=>bq p0 p1 f_ d_ s k (fun s h'=>I1 s h'/\μ1 s h' < μ1 a_ h_1) (fun s h'=>I3 s h'/\μ3 s h' < μ3 b_ h_3) (fun s h'=>I5 s h'/\μ5 s h' < μ5 (g_,d_) h_5) (fun s h'=>I6 s h'/\μ6 s h' < μ6 f_ h_6) h) ?_ ?_
 rintro m_ h_7 H
 refine zF [112,0,1,10,11] ?_
 refine zI H ?_ ?_ <;> intro H
 refine zK (zX (zB (zR (w2 Z ?_))))
 refine wQ Z H fun x31 H=>?_
 refine zL ?_
 exact xJ x31 H
 refine zY (yE (yE (yH (zX (zS (zB ?_))))))
 obtain ⟨I8,μ8,H0,HI⟩:=H
 refine zO (σ:=Int) [0,1,10] (fun (s:Int)=>[(11,.int .i64 s)]) I8 μ8 d_ H0 ?_
 rintro h_ h_8 H
 replace H:=HI h_ h_8 H
 refine zF [11,0,1,10] (zS ?_)
 refine zJ (α:=Bool) [0,1,10,11] (fun (s:Bool)=>[(129,.bool s)]) (fun (s:Bool) h=>bg p0 p1 f_ h_ s k (fun s h'=>I1 s h'/\μ1 s h' < μ1 a_ h_1) (fun s h'=>I3 s h'/\μ3 s h' < μ3 b_ h_3) (fun s h'=>I5 s h'/\μ5 s h' < μ5 (g_,d_) h_5) (fun s h'=>I6 s h'/\μ6 s h' < μ6 f_ h_6) (fun s h'=>I8 s h'/\μ8 s h' < μ8 h_ h_8) h) ?_ ?_
 rintro n_ h_9 H
 refine zF [129,0,1,10,11] ?_
 refine zI H ?_ ?_ <;> intro H
 refine zK (zX (zB (zR (w2 Z ?_))))
 refine wQ Z H fun x32 H=>?_
 refine zL ?_
 exact xJ x32 H
 refine zY (yE (yE (yH (zX (zS (zQ (w3 Z (zE ?_))))))))
 refine zI H ?_ ?_ <;> intro H
 refine zY (yE (zM (yE (yH (zX (zS ?_))))))
 refine gB [0,1,11] ?_
 refine gT 0 [0] Z ?_
 refine gT 1 [11] Z ?_
 refine gT 2 [0] Z ?_
 refine gT 3 [1] Z ?_
 refine gT 4 [0] Z ?_
 refine gT 5 [1] Z ?_
 refine gd 6 [157,158] Z H fun a33 H=>?_
 refine gl 7 [159] Z H fun v34 H=>?_
 refine gT 8 [0] Z ?_
 refine gT 9 [11] Z ?_
 refine gd 10 [161,162] Z H fun a35 H=>?_
 refine gl 11 [163] Z H fun v36 H=>?_
 refine gd 12 [153,154] Z H fun a37 H=>?_
 refine gs 13 [160,165] Z H fun h38 H=>?_
 refine gd 14 [155,156] Z H fun a39 H=>?_
 refine gs 15 [164,166] Z H fun h40 H=>?_
 refine gZ ?_
 refine zX (zF [11] (zQ ?_))
 refine w3 Z (zE (zT ?_))
 exact aA _ rfl _ rfl ⟨(h_,false),rfl,H⟩
 refine zK (zX (zS ?_))
 refine gB [0,1,10,11] ?_
 refine gT 0 [0] Z ?_
 refine gT 1 [10] Z ?_
 refine gT 2 [0] Z ?_
 refine gT 3 [11] Z ?_
 refine gT 4 [0] Z ?_
 refine gT 5 [11] Z ?_
 refine gd 6 [139,140] Z H fun a41 H=>?_
 refine gl 7 [141] Z H fun v42 H=>?_
 refine gT 8 [0] Z ?_
 refine gT 9 [10] Z ?_
 refine gd 10 [143,144] Z H fun a43 H=>?_
 refine gl 11 [145] Z H fun v44 H=>?_
 refine gd 12 [135,136] Z H fun a45 H=>?_
 refine gs 13 [142,147] Z H fun h46 H=>?_
 refine gd 14 [137,138] Z H fun a47 H=>?_
 refine gs 15 [146,148] Z H fun h48 H=>?_
 refine gZ ?_
 refine zX (zF [0,1,10,11] (zQ ?_))
 refine w2 Z ?_
 refine wQ Z H fun x49 H=>?_
 refine zE (zR (w2 Z ?_))
 refine wQ Z H fun x50 H=>?_
 refine zL ?_
 exact xJ (x49,x50) H
 refine gB [0,1,10,11] ?_
 refine gT 0 [10] Z ?_
 refine gT 1 [11] Z ?_
 refine gT 2 [115,116] Z ?_
 refine gT 3 [117] Z ?_
 refine gI 118 H (fun hb H=>?_) (fun hb H=>?_)
 refine gT 4 [0,118] Z ?_
 refine gT 5 [11,118] Z ?_
 refine gd 6 [118,119,120] Z H fun a51 H=>?_
 refine gl 7 [118,121] Z H fun v52 H=>?_
 refine gT 8 [0,118] Z ?_
 refine gT 9 [1,118] Z ?_
 refine gd 10 [118,123,124] Z H fun a53 H=>?_
 refine gl 11 [118,125] Z H fun v54 H=>?_
 refine gC 12 [118,122,126] vW (wW _ _ _ _ H) fun r55 h56 H=>?_
 refine gT 13 [118,127] Z ?_
 refine gT 14 [118,128] Z ?_
 refine gZ ?_
 exact xJ (!r55) H
 refine gS 4 [0,118] ?_
 refine gS 5 [11,118] ?_
 refine gS 6 [118,119,120] ?_
 refine gS 7 [118,121] ?_
 refine gS 8 [0,118] ?_
 refine gS 9 [1,118] ?_
 refine gS 10 [118,123,124] ?_
 refine gS 11 [118,125] ?_
 refine gS 12 [118,122,126] ?_
 refine gS 13 [118,127] ?_
 refine gT 14 [118,128] Z ?_
 refine gZ ?_
 exact xJ false H
 refine gB [0,1,10,11] ?_
 refine gT 0 [10] Z ?_
 refine gT 1 [11] Z ?_
 refine gT 2 [99,100] Z ?_
 refine gT 3 [101] Z ?_
 refine gI 102 H (fun hb H=>?_) (fun hb H=>?_)
 refine gT 4 [0,102] Z ?_
 refine gT 5 [10,102] Z ?_
 refine gd 6 [102,103,104] Z H fun a57 H=>?_
 refine gl 7 [102,105] Z H fun v58 H=>?_
 refine gT 8 [0,102] Z ?_
 refine gT 9 [1,102] Z ?_
 refine gd 10 [102,107,108] Z H fun a59 H=>?_
 refine gl 11 [102,109] Z H fun v60 H=>?_
 refine gC 12 [102,106,110] vW (wW _ _ _ _ H) fun r61 h62 H=>?_
 refine gT 13 [102,111] Z ?_
 refine gZ ?_
 exact xJ r61 H
 refine gS 4 [0,102] ?_
 refine gS 5 [10,102] ?_
 refine gS 6 [102,103,104] ?_
 refine gS 7 [102,105] ?_
 refine gS 8 [0,102] ?_
 refine gS 9 [1,102] ?_
 refine gS 10 [102,107,108] ?_
 refine gS 11 [102,109] ?_
 refine gS 12 [102,106,110] ?_
 refine gT 13 [102,111] Z ?_
 refine gZ ?_
 exact xJ false H
 refine gB [0,1,10,11] ?_
 refine gT 0 [10] Z ?_
 refine gT 1 [11] Z ?_
 refine gT 2 [46,47] Z ?_
 refine gT 3 [48] Z ?_
 refine gI 49 H (fun hb H=>?_) (fun hb H=>?_)
 refine gT 4 [0,49] Z ?_
 refine gT 5 [11,49] Z ?_
 refine gd 6 [49,50,51] Z H fun a63 H=>?_
 refine gl 7 [49,52] Z H fun v64 H=>?_
 refine gT 8 [0,49] Z ?_
 refine gT 9 [1,49] Z ?_
 refine gd 10 [49,54,55] Z H fun a65 H=>?_
 refine gl 11 [49,56] Z H fun v66 H=>?_
 refine gC 12 [49,53,57] vW (wW _ _ _ _ H) fun r67 h68 H=>?_
 refine gT 13 [49,58] Z ?_
 refine gT 14 [49,59] Z ?_
 refine gZ ?_
 exact xJ (!r67) H
 refine gS 4 [0,49] ?_
 refine gS 5 [11,49] ?_
 refine gS 6 [49,50,51] ?_
 refine gS 7 [49,52] ?_
 refine gS 8 [0,49] ?_
 refine gS 9 [1,49] ?_
 refine gS 10 [49,54,55] ?_
 refine gS 11 [49,56] ?_
 refine gS 12 [49,53,57] ?_
 refine gS 13 [49,58] ?_
 refine gT 14 [49,59] Z ?_
 refine gZ ?_
 exact xJ false H
 refine gB [0,1,10,11] ?_
 refine gT 0 [10] Z ?_
 refine gT 1 [11] Z ?_
 refine gT 2 [30,31] Z ?_
 refine gT 3 [32] Z ?_
 refine gI 33 H (fun hb H=>?_) (fun hb H=>?_)
 refine gT 4 [0,33] Z ?_
 refine gT 5 [10,33] Z ?_
 refine gd 6 [33,34,35] Z H fun a69 H=>?_
 refine gl 7 [33,36] Z H fun v70 H=>?_
 refine gT 8 [0,33] Z ?_
 refine gT 9 [1,33] Z ?_
 refine gd 10 [33,38,39] Z H fun a71 H=>?_
 refine gl 11 [33,40] Z H fun v72 H=>?_
 refine gC 12 [33,37,41] vW (wW _ _ _ _ H) fun r73 h74 H=>?_
 refine gT 13 [33,42] Z ?_
 refine gZ ?_
 exact xJ r73 H
 refine gS 4 [0,33] ?_
 refine gS 5 [10,33] ?_
 refine gS 6 [33,34,35] ?_
 refine gS 7 [33,36] ?_
 refine gS 8 [0,33] ?_
 refine gS 9 [1,33] ?_
 refine gS 10 [33,38,39] ?_
 refine gS 11 [33,40] ?_
 refine gS 12 [33,37,41] ?_
 refine gT 13 [33,42] Z ?_
 refine gZ ?_
 exact xJ false H
end Go.Q.Yi
end

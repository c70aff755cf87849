/- A part of the proof of statements of this seat: lemmas, no statement of their own. -/
import Derived.Test.YthjafnfadiijgaaYiZad
import Derived.Test.YthjafnfadiijgaaYiZae
set_option linter.unusedVariables false
set_option linter.unusedSimpArgs false
set_option maxRecDepth 100000
set_option maxHeartbeats 1000000
section
namespace Go.Q.Yi
open Go.Proofs.Try
/-- math bits.OnesCount64 -/
def jH (p0:Int) (k:KP Int) (h:Heap):Prop :=
  ∃ x1,x1=(IntKind.u64.wrap ((kE .u64 (shr .u64 p0 (1:Int).toNat) 6148914691236517205) + (kE .u64 p0 6148914691236517205)))/\(∃ x2,x2=(IntKind.u64.wrap ((kE .u64 (shr .u64 x1 (2:Int).toNat) 3689348814741910323) + (kE .u64 x1 3689348814741910323)))/\(∃ x3,x3=(kE .u64 (IntKind.u64.wrap ((shr .u64 x2 (4:Int).toNat) + x2)) 1085102592571150095)/\(∃ x4,x4=(IntKind.u64.wrap (x3 + (shr .u64 x3 (8:Int).toNat)))/\(∃ x5,x5=(IntKind.u64.wrap (x4 + (shr .u64 x4 (16:Int).toNat)))/\(∃ x6,x6=(IntKind.u64.wrap (x5 + (shr .u64 x5 (32:Int).toNat)))/\(∃ x7,x7=(kE .i64 (IntKind.i64.wrap x6) 127)/\(k x7 h)))))))
/-- math bits.Len32 -/
def oC (a_:Int) (b_:Int) (k:KP Int) (h_2:Heap):Prop :=
  ∃ v1,(0:Int)<=(IntKind.u8.wrap a_)/\Ee (⟨#[0,1,2,2,3,3,3,3,4,4,4,4,4,4,4,4,5,5,5,5,5,5,5,5,5,5,5,5,5,5,5,5,6,6,6,6,6,6,6,6,6,6,6,6,6,6,6,6,6,6,6,6,6,6,6,6,6,6,6,6,6,6,6,6,7,7,7,7,7,7,7,7,7,7,7,7,7,7,7,7,7,7,7,7,7,7,7,7,7,7,7,7,7,7,7,7,7,7,7,7,7,7,7,7,7,7,7,7,7,7,7,7,7,7,7,7,7,7,7,7,7,7,7,7,7,7,7,7,8,8,8,8,8,8,8,8,8,8,8,8,8,8,8,8,8,8,8,8,8,8,8,8,8,8,8,8,8,8,8,8,8,8,8,8,8,8,8,8,8,8,8,8,8,8,8,8,8,8,8,8,8,8,8,8,8,8,8,8,8,8,8,8,8,8,8,8,8,8,8,8,8,8,8,8,8,8,8,8,8,8,8,8,8,8,8,8,8,8,8,8,8,8,8,8,8,8,8,8,8,8,8,8,8,8,8,8,8,8,8,8,8,8,8,8,8,8,8,8,8,8,8,8,8,8,8,8]⟩:ByteArray) (IntKind.u8.wrap a_) v1/\(∃ x2,x2=(IntKind.i64.wrap (b_ + (IntKind.i64.wrap v1)))/\(k x2 h_2))
def oq (a_:Int) (b_:Int) (k:KP Int) (h_1:Heap):Prop :=
  if (decide (a_>=256)) then (∃ x3,x3=(shr .u32 a_ (8:Int).toNat)/\(∃ x4,x4=(IntKind.i64.wrap (b_ + 8))/\(oC x3 x4 k h_1))) else (oC a_ b_ k h_1)
def tZ (p0:Int) (k:KP Int) (h:Heap):Prop :=
  if (decide (p0>=65536)) then (∃ x5,x5=(shr .u32 p0 (16:Int).toNat)/\(oq x5 16 k h)) else (oq p0 0 k h)
/-- math bits.Len64 -/
def lK (a_:Int) (b_:Int) (k:KP Int) (h_3:Heap):Prop :=
  ∃ v1,(0:Int)<=(IntKind.u8.wrap a_)/\Ee (⟨#[0,1,2,2,3,3,3,3,4,4,4,4,4,4,4,4,5,5,5,5,5,5,5,5,5,5,5,5,5,5,5,5,6,6,6,6,6,6,6,6,6,6,6,6,6,6,6,6,6,6,6,6,6,6,6,6,6,6,6,6,6,6,6,6,7,7,7,7,7,7,7,7,7,7,7,7,7,7,7,7,7,7,7,7,7,7,7,7,7,7,7,7,7,7,7,7,7,7,7,7,7,7,7,7,7,7,7,7,7,7,7,7,7,7,7,7,7,7,7,7,7,7,7,7,7,7,7,7,8,8,8,8,8,8,8,8,8,8,8,8,8,8,8,8,8,8,8,8,8,8,8,8,8,8,8,8,8,8,8,8,8,8,8,8,8,8,8,8,8,8,8,8,8,8,8,8,8,8,8,8,8,8,8,8,8,8,8,8,8,8,8,8,8,8,8,8,8,8,8,8,8,8,8,8,8,8,8,8,8,8,8,8,8,8,8,8,8,8,8,8,8,8,8,8,8,8,8,8,8,8,8,8,8,8,8,8,8,8,8,8,8,8,8,8,8,8,8,8,8,8,8,8,8,8,8,8]⟩:ByteArray) (IntKind.u8.wrap a_) v1/\(∃ x2,x2=(IntKind.i64.wrap (b_ + (IntKind.i64.wrap v1)))/\(k x2 h_3))
def lM (a_:Int) (b_:Int) (k:KP Int) (h_2:Heap):Prop :=
  if (decide (a_>=256)) then (∃ x3,x3=(shr .u64 a_ (8:Int).toNat)/\(∃ x4,x4=(IntKind.i64.wrap (b_ + 8))/\(lK x3 x4 k h_2))) else (lK a_ b_ k h_2)
def lF (a_:Int) (b_:Int) (k:KP Int) (h_1:Heap):Prop :=
  if (decide (a_>=65536)) then (∃ x5,x5=(shr .u64 a_ (16:Int).toNat)/\(∃ x6,x6=(IntKind.i64.wrap (b_ + 16))/\(lM x5 x6 k h_1))) else (lM a_ b_ k h_1)
def qB (p0:Int) (k:KP Int) (h:Heap):Prop :=
  if (decide (p0>=4294967296)) then (∃ x7,x7=(shr .u64 p0 (32:Int).toNat)/\(lF x7 32 k h)) else (lF p0 0 k h)
/-- math bits.Len -/
def nN (p0:Int) (k:KP Int) (h:Heap):Prop :=
  if false then (tZ (IntKind.u32.wrap p0) (fun r1 h2=>k r1 h2) h) else (qB p0 (fun r3 h4=>k r3 h4) h)
/-- cmp.isNaN uint64  -/
def mW (p0:Int) (k:KP Bool) (h:Heap):Prop :=
  k (p0 != p0) h
/-- cmp.Less uint64  -/
def lN (a_:Int) (b_:Int) (d_:Bool) (k:KP Bool) (h_1:Heap):Prop :=
  k (d_ || (decide (a_ < b_))) h_1
def aW (p0:Int) (p1:Int) (k:KP Bool) (h:Heap):Prop :=
  mW p0 (fun r1 h2=>if r1 then (mW p1 (fun r3 h4=>lN p0 p1 (!r3) k h4) h2) else (lN p0 p1 false k h2)) h
/-- slices.insertionSortOrdered uint64  -/
def aT (b_:Slc) (g_:Int) (h_:Int) (d_:Int) (a_:Int) (f_:Bool) (k:KP Unit) (nx1:KP Int) (nx2:KP Int) (h_3:Heap):Prop :=
  if f_ then (∃ a2,b_.a=some a2/\(0:Int)<=(IntKind.i64.wrap (a_ - 1))/\(IntKind.i64.wrap (a_ - 1)) < (b_.len:Int)/\(∃ v3,af h_3 (a2.add ((IntKind.i64.wrap (a_ - 1)).toNat * 1))=some (.int .u64 v3)/\(∃ a4,b_.a=some a4/\(0:Int)<=a_/\a_ < (b_.len:Int)/\(∃ v5,af h_3 (a4.add (a_.toNat * 1))=some (.int .u64 v5)/\(∃ a6,b_.a=some a6/\(0:Int)<=a_/\a_ < (b_.len:Int)/\(∃ h7,WrH h_3 (a6.add (a_.toNat * 1))/\h7=setH h_3 (a6.add (a_.toNat * 1)) (.int .u64 v3)/\(∃ a8,b_.a=some a8/\(0:Int)<=(IntKind.i64.wrap (a_ - 1))/\(IntKind.i64.wrap (a_ - 1)) < (b_.len:Int)/\(∃ h9,WrH h7 (a8.add ((IntKind.i64.wrap (a_ - 1)).toNat * 1))/\h9=setH h7 (a8.add ((IntKind.i64.wrap (a_ - 1)).toNat * 1)) (.int .u64 v5)/\(∃ x10,x10=(IntKind.i64.wrap (a_ - 1))/\(nx2 x10 h9)))))))))) else (∃ x11,x11=(IntKind.i64.wrap (d_ + 1))/\(nx1 x11 h_3))
def iG (b_:Slc) (d_:Int) (f_:Int) (g_:Int) (a_:Int) (k:KP Unit) (nx1:KP Int) (nx2:KP Int) (h_2:Heap):Prop :=
  if (decide (a_ > d_)) then (∃ a12,b_.a=some a12/\(0:Int)<=a_/\a_ < (b_.len:Int)/\(∃ v13,af h_2 (a12.add (a_.toNat * 1))=some (.int .u64 v13)/\(∃ a14,b_.a=some a14/\(0:Int)<=(IntKind.i64.wrap (a_ - 1))/\(IntKind.i64.wrap (a_ - 1)) < (b_.len:Int)/\(∃ v15,af h_2 (a14.add ((IntKind.i64.wrap (a_ - 1)).toNat * 1))=some (.int .u64 v15)/\(aW v13 v15 (fun r16 h17=>aT b_ d_ f_ g_ a_ r16 k nx1 nx2 h17) h_2))))) else (aT b_ d_ f_ g_ a_ false k nx1 nx2 h_2)
def iM (b_:Slc) (d_:Int) (f_:Int) (g_:Int) (i7:Int) (k:KP Unit) (nx1:KP Int) (h:Heap):Prop :=
  ∃ (I:KP Int) (μ:Int->Heap->Nat),I i7 h/\∀ (a_:Int) (h:Heap),I a_ h->iG b_ d_ f_ g_ a_ k nx1 (fun s h'=>I s h'/\μ s h' < μ a_ h) h
def iH (d_:Slc) (f_:Int) (b_:Int) (a_:Int) (k:KP Unit) (nx1:KP Int) (h_1:Heap):Prop :=
  if (decide (a_ < b_)) then (iM d_ f_ b_ a_ a_ k nx1 h_1) else (k () h_1)
def iL (b_:Slc) (d_:Int) (f_:Int) (i6:Int) (k:KP Unit) (h:Heap):Prop :=
  ∃ (I:KP Int) (μ:Int->Heap->Nat),I i6 h/\∀ (a_:Int) (h:Heap),I a_ h->iH b_ d_ f_ a_ k (fun s h'=>I s h'/\μ s h' < μ a_ h) h
def dh (p0:Slc) (p1:Int) (p2:Int) (k:KP Unit) (h:Heap):Prop :=
  ∃ x1,x1=(IntKind.i64.wrap (p1 + 1))/\(iL p0 p1 p2 x1 k h)
/-- quaestor vote.Half -/
def qY (p0:Int) (k:KP Int) (h:Heap):Prop :=
  ∃ x1,x1=(IntKind.i64.wrap ((shr .i64 (if 0 > p0 then 0 else p0) (1:Int).toNat) + 1))/\(k x1 h)
/-- quaestor vote.New -/
def wU (p0:Int) (k:KP (Option Addr)) (h:Heap):Prop :=
  ∃ b1 h2,b1=h.size/\h2=h.push (.cells (iZ.cs (⟨(if (if 32 < p0 then 32 else p0) > 0 then (if 32 < p0 then 32 else p0) else 0),0⟩:iZ)).toArray 123)/\(k (some (ad b1)) h2)
/-- (*quaestor vote.Ballot).Yes -/
def gJ (b_:Option Addr) (a_:Int) (d_:Bool) (k:KP Bool) (h_2:Heap):Prop :=
  if d_ then (k false h_2) else (∃ a1,b_=some a1/\(∃ v2,af h_2 (a1.add 1)=some (.int .u64 v2)/\((0:Int)<=(IntKind.u64.wrap a_)/\(∃ h4,WrH h_2 (a1.add 1)/\h4=setH h_2 (a1.add 1) (.int .u64 (MM .u64 v2 (shl .u64 1 (IntKind.u64.wrap a_).toNat)))/\(k true h4)))))
def jv (b_:Option Addr) (a_:Int) (d_:Bool) (k:KP Bool) (h_1:Heap):Prop :=
  if d_ then (gJ b_ a_ true k h_1) else (∃ a5,b_=some a5/\(∃ v6,af h_1 (a5.add 1)=some (.int .u64 v6)/\((0:Int)<=(IntKind.u64.wrap a_)/\(gJ b_ a_ ((kE .u64 (shr .u64 v6 (IntKind.u64.wrap a_).toNat) 1) == 1) k h_1))))
def lS (p0:Option Addr) (p1:Int) (k:KP Bool) (h:Heap):Prop :=
  if ((p0.isNone) || (decide (p1 < 0))) then (jv p0 p1 true k h) else (∃ a8,p0=some a8/\(∃ v9,af h a8=some (.int .i64 v9)/\(jv p0 p1 (decide (p1>=v9)) k h)))
/-- (*quaestor vote.Ballot).Count -/
def mf (p0:Option Addr) (k:KP Int) (h:Heap):Prop :=
  if (p0.isNone) then (k 0 h) else (∃ a1,p0=some a1/\(∃ v2,af h (a1.add 1)=some (.int .u64 v2)/\(jH v2 (fun r3 h4=>k r3 h4) h)))
/-- (*quaestor vote.Ballot).Won -/
def lQ (a_:Bool) (k:KP Bool) (h_1:Heap):Prop :=
  k a_ h_1
def nZ (p0:Option Addr) (k:KP Bool) (h:Heap):Prop :=
  if (!p0.isNone) then (∃ a1,p0=some a1/\(∃ v2,af h a1=some (.int .i64 v2)/\(mf p0 (fun r3 h4=>af h4 a1=some (.int .i64 v2)/\(qY v2 (fun r6 h7=>lQ (decide (r3>=r6)) k h7) h4)) h))) else (lQ false k h)
theorem O85:aB prog 85:=ck func85
theorem R85 (p0 k h) (H:jH p0 k h):CallsH prog 85 #[.int .u64 p0] h (rI .i64 k):=by
 refine fE func85 fun w0=>?_
 refine zF [0] (zQ ?_)
 refine w1 Z (zE (zQ ?_))
 refine w6 Z ?_
 refine wQ Z H fun x1 H=>?_
 refine zE (zF [0] (zQ ?_))
 refine w6 Z ?_
 refine wQ Z H fun x2 H=>?_
 refine zE (zQ (w5 Z ?_))
 refine wQ Z H fun x3 H=>?_
 refine zE (zF [0] (zQ ?_))
 refine w4 Z ?_
 refine wQ Z H fun x4 H=>?_
 refine zE (zQ (w4 Z ?_))
 refine wQ Z H fun x5 H=>?_
 refine zE (zF [0] (zQ ?_))
 refine w4 Z ?_
 refine wQ Z H fun x6 H=>?_
 refine zE (zQ (w3 Z ?_))
 refine wQ Z H fun x7 H=>?_
 refine zE (zF [2] (zT ?_))
 exact aA _ rfl _ rfl ⟨x7,rfl,H⟩
theorem NW:aB prog 106:=ck func106
theorem NQ (p0 k h) (H:tZ p0 k h):CallsH prog 106 #[.int .u32 p0] h (rI .i64 k):=by
 refine fE func106 fun w0=>?_
 refine zF [0] (zQ ?_)
 refine w1 Z (zE ?_)
 refine zJ (α:=Int × Int) [] (fun (s:Int × Int)=>[(0,.int .u32 s.1),(2,.int .i64 s.2)]) (fun (s:Int × Int) h=>oq s.1 s.2 k h) ?_ ?_
 rintro ⟨a_,b_⟩ h_1 H
 refine zF [0,2] ?_
 refine zJ (α:=Int × Int) [] (fun (s:Int × Int)=>[(0,.int .u32 s.1),(2,.int .i64 s.2)]) (fun (s:Int × Int) h=>oC s.1 s.2 k h) ?_ ?_
 rintro ⟨d_,f_⟩ h_2 H
 refine zF [0,2] (zQ ?_)
 refine w3 Z ?_
 obtain ⟨v1,lv1,hv1,H⟩:=H
 refine wY (Hm Z rfl rfl rfl rfl lv1 hv1) ?_
 refine w2 Z ?_
 refine wQ Z H fun x2 H=>?_
 refine zE (zF [2] (zT ?_))
 exact aA _ rfl _ rfl ⟨x2,rfl,H⟩
 refine zQ (w2 Z (zE ?_))
 refine zI H ?_ ?_ <;> intro H
 refine zQ (w2 Z ?_)
 refine wQ Z H fun x3 H=>?_
 refine zE (zR (w2 Z ?_))
 refine wQ Z H fun x4 H=>?_
 refine zW ?_
 exact xJ (x3,x4) H
 refine zK ?_
 exact xJ (a_,b_) H
 refine zQ (w2 Z (zE ?_))
 refine zI H ?_ ?_ <;> intro H
 refine zQ (w2 Z ?_)
 refine wQ Z H fun x5 H=>?_
 refine zE (zR (w1 Z (zW ?_)))
 exact xJ (x5,16) H
 refine zK ?_
 exact xJ (p0,0) H
theorem Nv:aB prog 107:=ck func107
theorem Nz (p0 k h) (H:qB p0 k h):CallsH prog 107 #[.int .u64 p0] h (rI .i64 k):=by
 refine fE func107 fun w0=>?_
 refine zF [0] (zQ ?_)
 refine w1 Z (zE ?_)
 refine zJ (α:=Int × Int) [] (fun (s:Int × Int)=>[(0,.int .u64 s.1),(2,.int .i64 s.2)]) (fun (s:Int × Int) h=>lF s.1 s.2 k h) ?_ ?_
 rintro ⟨a_,b_⟩ h_1 H
 refine zF [0,2] ?_
 refine zJ (α:=Int × Int) [] (fun (s:Int × Int)=>[(0,.int .u64 s.1),(2,.int .i64 s.2)]) (fun (s:Int × Int) h=>lM s.1 s.2 k h) ?_ ?_
 rintro ⟨d_,f_⟩ h_2 H
 refine zF [0,2] ?_
 refine zJ (α:=Int × Int) [] (fun (s:Int × Int)=>[(0,.int .u64 s.1),(2,.int .i64 s.2)]) (fun (s:Int × Int) h=>lK s.1 s.2 k h) ?_ ?_
 rintro ⟨g_,h_⟩ h_3 H
 refine zF [0,2] (zQ ?_)
 refine w3 Z ?_
 obtain ⟨v1,lv1,hv1,H⟩:=H
 refine wY (Hm Z rfl rfl rfl rfl lv1 hv1) ?_
 refine w2 Z ?_
 refine wQ Z H fun x2 H=>?_
 refine zE (zF [2] (zT ?_))
 exact aA _ rfl _ rfl ⟨x2,rfl,H⟩
 refine zQ (w2 Z (zE ?_))
 refine zI H ?_ ?_ <;> intro H
 refine zQ (w2 Z ?_)
 refine wQ Z H fun x3 H=>?_
 refine zE (zR (w2 Z ?_))
 refine wQ Z H fun x4 H=>?_
 refine zW ?_
 exact xJ (x3,x4) H
 refine zK ?_
 exact xJ (d_,f_) H
 refine zQ (w2 Z (zE ?_))
 refine zI H ?_ ?_ <;> intro H
 refine zQ (w2 Z ?_)
 refine wQ Z H fun x5 H=>?_
 refine zE (zR (w2 Z ?_))
 refine wQ Z H fun x6 H=>?_
 refine zW ?_
 exact xJ (x5,x6) H
 refine zK ?_
 exact xJ (a_,b_) H
 refine zQ (w2 Z (zE ?_))
 refine zI H ?_ ?_ <;> intro H
 refine zQ (w2 Z ?_)
 refine wQ Z H fun x7 H=>?_
 refine zE (zR (w1 Z (zW ?_)))
 exact xJ (x7,32) H
 refine zK ?_
 exact xJ (p0,0) H
theorem O96:aB prog 96:=ck func96
theorem R96 (p0 k h) (H:nN p0 k h):CallsH prog 96 #[.int .u64 p0] h (rI .i64 k):=by
 refine fE func96 fun w0=>?_
 refine zF [0] (zQ ?_)
 refine w1 Z (zE (zS ?_))
 refine zI H ?_ ?_ <;> intro H
 refine zQ (w2 Z ?_)
 refine wC NW (NQ _ _ _ H) fun r1 h2 H=>?_
 refine w1 Z (zE (zT (yT ?_)))
 exact aA _ rfl _ rfl ⟨r1,rfl,H⟩
 refine zK (zX (zQ (w1 Z ?_)))
 refine wC Nv (Nz _ _ _ H) fun r3 h4 H=>?_
 refine w1 Z (zE (zT ?_))
 exact aA _ rfl _ rfl ⟨r3,rfl,H⟩
theorem Ni:aB prog 113:=ck func113
theorem MB (p0 k h) (H:mW p0 k h):CallsH prog 113 #[.int .u64 p0] h (rB k):=by
 refine fE func113 fun w0=>?_
 refine zF [0] (zQ ?_)
 refine w1 Z (zE (zQ ?_))
 refine w4 Z (zE (zT ?_))
 exact aA _ rfl _ rfl ⟨(p0 != p0),rfl,H⟩
theorem vW:aB prog 103:=ck func103
theorem wW (p0 p1 k h) (H:aW p0 p1 k h):CallsH prog 103 #[.int .u64 p0,.int .u64 p1] h (rB k):=by
 refine fE func103 fun w0=>?_
 refine zF [0,1] (zQ ?_)
 refine w1 Z (zE (zQ ?_))
 refine w1 Z ?_
 refine wC Ni (MB _ _ _ H) fun r1 h2 H=>?_
 refine w1 Z ?_
 refine vJ 4 (α:=Bool) [0,1] (fun (s:Bool)=>[(11,.bool s)]) (fun (s:Bool) h=>lN p0 p1 s k h) ?_ ?_
 rintro a_ h_1 H
 refine vF [11,0,1] ?_
 refine w1 Z ?_
 refine vU 4 [] [(16,.bool (a_ || (decide (p0 < p1))))] ?_ ?_
 refine w1 Z (zE (zT ?_))
 exact aA _ rfl _ rfl ⟨(a_ || (decide (p0 < p1))),rfl,H⟩
 refine vG (d:=12) (fun hb=>?_) (fun hb=>?_)
 refine wS (wS (wS (w1 Z ?_)))
 refine vK ?_
 exact congrArg (fun b=>some (Value.bool b)) (Ag hb)
 refine w4 Z ?_
 refine vK ?_
 exact congrArg (fun b=>some (Value.bool b)) (Ah hb)
 refine vI 7 H ?_ ?_ <;> intro H
 refine w1 Z ?_
 refine wC Ni (MB _ _ _ H) fun r3 h4 H=>?_
 refine w2 Z ?_
 exact wJ (!r3) H
 refine wS (wS (wS (w1 Z ?_)))
 exact wJ false H
theorem O97:aB prog 97:=ck func97
theorem R97 (p0 p1 p2 k h) (H:dh p0 p1 p2 k h):CallsH prog 97 #[Slc.v p0,.int .i64 p1,.int .i64 p2] h (rU k):=by
 refine fE func97 fun w0=>?_
 refine zF [0,1,2] (zQ ?_)
 refine w2 Z ?_
 refine wQ Z H fun x1 H=>?_
 refine zE (zB ?_)
 obtain ⟨I1,μ1,H0,HI⟩:=H
 refine zO (σ:=Int) [0,1,2] (fun (s:Int)=>[(6,.int .i64 s)]) I1 μ1 x1 H0 ?_
 rintro a_ h_1 H
 replace H:=HI a_ h_1 H
 refine zF [6,0,1,2] (zS (zQ ?_))
 refine w3 Z (zE ?_)
 refine zI H ?_ ?_ <;> intro H
 refine zK (zX (zS (zB (zQ (w2 Z (zE (zB ?_)))))))
 obtain ⟨I2,μ2,H0,HI⟩:=H
 refine zO (σ:=Int) [0,1,2,6] (fun (s:Int)=>[(7,.int .i64 s)]) I2 μ2 a_ H0 ?_
 rintro b_ h_2 H
 replace H:=HI b_ h_2 H
 refine zF [7,0,1,2,6] (zS ?_)
 refine zJ (α:=Bool) [0,1,2,6,7] (fun (s:Bool)=>[(30,.bool s)]) (fun (s:Bool) h=>aT p0 p1 p2 a_ b_ s k (fun s h'=>I1 s h'/\μ1 s h' < μ1 a_ h_1) (fun s h'=>I2 s h'/\μ2 s h' < μ2 b_ h_2) h) ?_ ?_
 rintro d_ h_3 H
 refine zF [30,0,1,2,6,7] ?_
 refine zI H ?_ ?_ <;> intro H
 refine zK (zX (zS (zB ?_)))
 refine gB [0,1,2,6,7] ?_
 refine gT 0 [0] Z ?_
 refine gT 1 [7] Z ?_
 refine gT 2 [0] Z ?_
 refine gT 3 [7] Z ?_
 refine gT 4 [36] Z ?_
 refine gT 5 [0] Z ?_
 refine gT 6 [7] Z ?_
 refine gT 7 [39] Z ?_
 refine gd 8 [38,40] Z H fun a2 H=>?_
 refine gl 9 [41] Z H fun v3 H=>?_
 refine gT 10 [0] Z ?_
 refine gT 11 [7] Z ?_
 refine gd 12 [43,44] Z H fun a4 H=>?_
 refine gl 13 [45] Z H fun v5 H=>?_
 refine gd 14 [33,34] Z H fun a6 H=>?_
 refine gs 15 [42,47] Z H fun h7 H=>?_
 refine gd 16 [35,37] Z H fun a8 H=>?_
 refine gs 17 [46,48] Z H fun h9 H=>?_
 refine gZ ?_
 refine yL (zX (zF [0,1,2,6,7] (zR ?_)))
 refine w2 Z ?_
 refine wQ Z H fun x10 H=>?_
 refine zW ?_
 exact xJ x10 H
 refine zY (yE (yE (yH (yL (zX (zR (w2 Z ?_)))))))
 refine wQ Z H fun x11 H=>?_
 refine zW ?_
 exact xJ x11 H
 refine gB [0,1,2,6,7] ?_
 refine gT 0 [7] Z ?_
 refine gT 1 [1] Z ?_
 refine gT 2 [16,17] Z ?_
 refine gT 3 [18] Z ?_
 refine gI 19 H (fun hb H=>?_) (fun hb H=>?_)
 refine gT 4 [0,19] Z ?_
 refine gT 5 [7,19] Z ?_
 refine gd 6 [19,20,21] Z H fun a12 H=>?_
 refine gl 7 [19,22] Z H fun v13 H=>?_
 refine gT 8 [0,19] Z ?_
 refine gT 9 [7,19] Z ?_
 refine gT 10 [19,25] Z ?_
 refine gd 11 [19,24,26] Z H fun a14 H=>?_
 refine gl 12 [19,27] Z H fun v15 H=>?_
 refine gC 13 [19,23,28] vW (wW _ _ _ _ H) fun r16 h17 H=>?_
 refine gT 14 [19,29] Z ?_
 refine gZ ?_
 exact xJ r16 H
 refine gS 4 [0,19] ?_
 refine gS 5 [7,19] ?_
 refine gS 6 [19,20,21] ?_
 refine gS 7 [19,22] ?_
 refine gS 8 [0,19] ?_
 refine gS 9 [7,19] ?_
 refine gS 10 [19,25] ?_
 refine gS 11 [19,24,26] ?_
 refine gS 12 [19,27] ?_
 refine gS 13 [19,23,28] ?_
 refine gT 14 [19,29] Z ?_
 refine gZ ?_
 exact xJ false H
 refine zY (yE (yE (yH ?_)))
 exact kW _ rfl _ rfl ⟨(),rfl,H⟩
theorem O80:aB prog 80:=ck func80
theorem R80 (p0 k h) (H:qY p0 k h):CallsH prog 80 #[.int .i64 p0] h (rI .i64 k):=by
 refine fE func80 fun w0=>?_
 refine zF [0] (zQ ?_)
 refine w1 Z (zE (zQ ?_))
 refine w4 Z ?_
 refine wQ Z H fun x1 H=>?_
 refine zE (zT ?_)
 exact aA _ rfl _ rfl ⟨x1,rfl,H⟩
theorem O65:aB prog 65:=ck func65
theorem R65 (p0 k h) (H:wU p0 k h):CallsH prog 65 #[.int .i64 p0] h (fun v h'=>∃ r:Option Addr,v = .pointer r/\k r h'):=by
 refine fE func65 fun w0=>?_
 refine zF [0] (zQ ?_)
 refine w1 Z (zE (zQ ?_))
 refine w3 Z ?_
 refine wY (cu Z rfl rfl rfl rfl rfl) ?_
 refine wX H fun b1 h2 H=>?_
 refine w1 Z (zE (zT ?_))
 exact aA _ rfl _ rfl ⟨(some (ad b1)),rfl,H⟩
theorem O48:aB prog 48:=ck func48
theorem R48 (p0 p1 k h) (H:lS p0 p1 k h):CallsH prog 48 #[.pointer p0,.int .i64 p1] h (rB k):=by
 refine fE func48 fun w0=>?_
 refine zF [0,1] (zQ ?_)
 refine w1 Z (zE (zS (zQ ?_)))
 refine w3 Z ?_
 refine vU 3 [0,1] [(10,.bool ((p0.isNone) || (decide (p1 < 0))))] ?_ ?_
 refine w1 Z ?_
 refine vJ 7 (α:=Bool) [0,1] (fun (s:Bool)=>[(18,.bool s)]) (fun (s:Bool) h=>jv p0 p1 s k h) ?_ ?_
 rintro a_ h_1 H
 refine vF [18,0,1] ?_
 refine w1 Z ?_
 refine vJ 10 (α:=Bool) [0,1] (fun (s:Bool)=>[(29,.bool s)]) (fun (s:Bool) h=>gJ p0 p1 s k h) ?_ ?_
 rintro b_ h_2 H
 refine vF [29,0,1] (zE ?_)
 refine zI H ?_ ?_ <;> intro H
 refine zQ (w1 Z (zE (zT (yT ?_))))
 exact aA _ rfl _ rfl ⟨false,rfl,H⟩
 refine zK (zX (zQ (w1 Z ?_)))
 refine wN H fun a1 ha1 H=>?_
 refine w1 Z ?_
 refine wL Z H fun v2 H=>?_
 refine w2 Z ?_
 obtain ⟨z3,H⟩:=H
 refine wY (JU rfl rfl rfl z3) ?_
 refine w1 Z ?_
 refine wY (au rfl rfl ha1) ?_
 refine w1 Z ?_
 refine wT Z H fun h4 H=>?_
 refine zE (zF [] (zQ ?_))
 refine w1 Z (zE (zT ?_))
 exact aA _ rfl _ rfl ⟨true,rfl,H⟩
 refine vI 19 H ?_ ?_ <;> intro H
 refine wS (wS (wS (wS (wS (wS (wS (wS (wS (w1 Z ?_)))))))))
 exact wJ true H
 refine w1 Z ?_
 refine wN H fun a5 _ H=>?_
 refine w1 Z ?_
 refine wL Z H fun v6 H=>?_
 refine w2 Z ?_
 obtain ⟨z7,H⟩:=H
 refine wY (Nf rfl rfl rfl z7) ?_
 refine w3 Z ?_
 exact wJ ((kE .u64 (shr .u64 v6 (IntKind.u64.wrap p1).toNat) 1) == 1) H
 refine vI 11 H ?_ ?_ <;> intro H
 refine wS (wS (wS (wS (wS (wS (w1 Z ?_))))))
 exact wJ true H
 refine w2 Z ?_
 refine wN H fun a8 _ H=>?_
 refine w1 Z ?_
 refine wL Z H fun v9 H=>?_
 refine w2 Z ?_
 exact wJ (decide (p1>=v9)) H
 refine vG (d:=7) (fun hb=>?_) (fun hb=>?_)
 refine wS (wS (w1 Z ?_))
 refine vK ?_
 exact congrArg (fun b=>some (Value.bool b)) (Ag hb)
 refine w3 Z ?_
 refine vK ?_
 exact congrArg (fun b=>some (Value.bool b)) (Ah hb)
theorem O79:aB prog 79:=ck func79
theorem R79 (p0 k h) (H:mf p0 k h):CallsH prog 79 #[.pointer p0] h (rI .i64 k):=by
 refine fE func79 fun w0=>?_
 refine zF [0] (zQ ?_)
 refine w1 Z (zE (zS (zQ ?_)))
 refine w2 Z (zE ?_)
 refine zI H ?_ ?_ <;> intro H
 refine zQ (w1 Z (zE (zT (yT ?_))))
 exact aA _ rfl _ rfl ⟨0,rfl,H⟩
 refine zK (zX (zQ (w1 Z ?_)))
 refine wN H fun a1 _ H=>?_
 refine w1 Z ?_
 refine wL Z H fun v2 H=>?_
 refine wC O85 (R85 _ _ _ H) fun r3 h4 H=>?_
 refine w1 Z (zE (zF [2] (zT ?_)))
 exact aA _ rfl _ rfl ⟨r3,rfl,H⟩
theorem O70:aB prog 70:=ck func70
theorem R70 (p0 k h) (H:nZ p0 k h):CallsH prog 70 #[.pointer p0] h (rB k):=by
 refine fE func70 fun w0=>?_
 refine zF [0] (zQ ?_)
 refine w1 Z (zE ?_)
 refine zJ (α:=Bool) [] (fun (s:Bool)=>[(2,.bool s)]) (fun (s:Bool) h=>lQ s k h) ?_ ?_
 rintro a_ h_1 H
 refine zF [2] (zT ?_)
 exact aA _ rfl _ rfl ⟨a_,rfl,H⟩
 refine gB [0] ?_
 refine gT 0 [0] Z ?_
 refine gT 1 [3] Z ?_
 refine gT 2 [4] Z ?_
 refine gI 5 H (fun hb H=>?_) (fun hb H=>?_)
 refine gT 3 [0,5] Z ?_
 refine gT 5 [0,5] Z ?_
 obtain ⟨a1,ha1,H⟩:=H
 refine gY 6 [5,8] rfl (fun _=>au rfl rfl ha1) ?_
 refine gT 7 [5,9] Z ?_
 refine gl 8 [5,10] Z H fun v2 H=>?_
 refine gCr 4 [5,6] O79 (R79 _ _ _ H) fun r3 h4 H=>?_
 obtain ⟨hy5,H⟩:=H
 refine gR rfl (bH Z rfl rfl rfl rfl hy5) ?_
 refine gZ0 ?_
 refine gC 9 [5,11] O80 (R80 _ _ _ H) fun r6 h7 H=>?_
 refine gT 10 [5,7,12] Z ?_
 refine gT 11 [5,13] Z ?_
 refine gT 12 [14] Z ?_
 refine gZ ?_
 exact xJ (decide (r3>=r6)) H
 refine gS 3 [0,5] ?_
 refine gS 4 [5,6] ?_
 refine gS 5 [0,5] ?_
 refine gS 6 [5,8] ?_
 refine gS 7 [5,9] ?_
 refine gS 8 [5,10] ?_
 refine gS 9 [5,11] ?_
 refine gS 10 [5,7,12] ?_
 refine gT 11 [5,13] Z ?_
 refine gT 12 [14] Z ?_
 refine gZ ?_
 exact xJ false H
end Go.Q.Yi
end

/- A part of the proof of statements of this seat: lemmas, no statement of their own. -/
import Derived.Test.YthjafnfadiijgaaYiZad
import Derived.Test.YthjafnfadiijgaaYiZae
set_option linter.unusedVariables false
set_option linter.unusedSimpArgs false
set_option maxRecDepth 100000
set_option maxHeartbeats 1000000
section
namespace Go.Q.Yi
open Go.Proofs.Try
/-- slices.Clone   byte byte  -/
def bD (p0:Slc) (k:KP Slc) (h:Heap):Prop :=
  if (p0.a.isNone) then (k (⟨none,0,0⟩:Slc) h) else (∃ b1 h2,b1=h.size/\h2=h.push (.cells ([]).toArray 5)/\(∃ l5,SlcAt h2 p0 l5/\App 5 1 1 [.int .u8 0] h2 (⟨some ⟨b1,0,none⟩,0,0⟩:Slc) p0.len l5 (fun s3 h4=>k s3 h4)))
/-- quaestor quaestorref01.Same -/
def um (b_:Slc) (d_:Slc) (a_:Int) (k:KP Bool) (nx1:KP Int) (h_1:Heap):Prop :=
  if (decide (a_ < (b_.len:Int))) then (∃ a1,b_.a=some a1/\(0:Int)<=a_/\a_ < (b_.len:Int)/\(∃ v2,af h_1 (a1.add (a_.toNat * 1))=some (.int .u8 v2)/\(∃ a3,d_.a=some a3/\(0:Int)<=a_/\a_ < (d_.len:Int)/\(∃ v4,af h_1 (a3.add (a_.toNat * 1))=some (.int .u8 v4)/\(if (v2 != v4) then (k false h_1) else (∃ x5,x5=(IntKind.i64.wrap (a_ + 1))/\(nx1 x5 h_1))))))) else (k true h_1)
def Ad (b_:Slc) (d_:Slc) (i5:Int) (k:KP Bool) (h:Heap):Prop :=
  ∃ (I:KP Int) (μ:Int->Heap->Nat),I i5 h/\∀ (a_:Int) (h:Heap),I a_ h->um b_ d_ a_ k (fun s h'=>I s h'/\μ s h' < μ a_ h) h
def sU (p0:Slc) (p1:Slc) (k:KP Bool) (h:Heap):Prop :=
  if ((p0.len:Int) != (p1.len:Int)) then (k false h) else (Ad p0 p1 0 k h)
/-- quaestor quaestorref01.Pick -/
def qb (a_:Int) (k:KP Int) (h_1:Heap):Prop :=
  k a_ h_1
def mM (p0:Int) (p1:Int) (k:KP Int) (h:Heap):Prop :=
  if (decide (p1 < 1)) then (k 0 h) else (p1≠0/\(∃ x2,x2=(Int.tmod p0 p1)/\(if (decide (x2 < 0)) then (∃ x3,x3=(IntKind.i64.wrap (x2 + p1))/\(qb x3 k h)) else (qb x2 k h))))
theorem O38:aB prog 38:=ck func38
theorem R38 (p0 k h) (H:bD p0 k h):CallsH prog 38 #[Slc.v p0] h (rS k):=by
 refine fE func38 fun w0=>?_
 refine zF [0] (zQ ?_)
 refine w1 Z (zE (zS (zQ ?_)))
 refine w2 Z (zE ?_)
 refine zI H ?_ ?_ <;> intro H
 refine zQ (w1 Z (zE (zT (yT ?_))))
 exact aA _ rfl _ rfl ⟨(⟨none,0,0⟩:Slc),rfl,H⟩
 refine zK (zX (zQ ?_))
 obtain ⟨b1,h2,eb1,eh2,H⟩:=H
 refine wH (nV Z rfl rfl rfl rfl rfl rfl rfl eb1 eh2) ?_
 refine w1 Z ?_
 obtain ⟨l5,hl5,H⟩:=H
 refine wA (lW (s:=(⟨some ⟨b1,0,none⟩,0,0⟩:Slc)) (r:=p0) Z rfl rfl rfl rfl rfl hl5 H) ?_
 rintro _ h4 ⟨s3,rfl,H⟩
 refine w1 Z (zE (zT ?_))
 exact aA _ rfl _ rfl ⟨s3,rfl,H⟩
theorem O11:aB prog 11:=ck func11
theorem R11 (p0 p1 k h) (H:sU p0 p1 k h):CallsH prog 11 #[Slc.v p0,Slc.v p1] h (rB k):=by
 refine fE func11 fun w0=>?_
 refine zF [0,1] (zQ ?_)
 refine w1 Z (zE (zS (zQ ?_)))
 refine w5 Z (zE ?_)
 refine zI H ?_ ?_ <;> intro H
 refine zQ (w1 Z (zE (zF [4] (zT (yT ?_)))))
 exact aA _ rfl _ rfl ⟨false,rfl,H⟩
 refine zK (zX (zS (zQ (w1 Z (zE (zB ?_))))))
 obtain ⟨I1,μ1,H0,HI⟩:=H
 refine zO (σ:=Int) [0,1] (fun (s:Int)=>[(5,.int .i64 s)]) I1 μ1 0 H0 ?_
 rintro a_ h_1 H
 replace H:=HI a_ h_1 H
 refine zF [5,0,1] (zS (zQ ?_))
 refine w4 Z (zE ?_)
 refine zI H ?_ ?_ <;> intro H
 refine zK (zX (zS (zB (zS ?_))))
 refine pY (by kernel_rfl) (by kernel_rfl) ?_
 refine qp Z ?_
 refine qp Z ?_
 obtain ⟨a1,ha1,la1,ua1,H⟩:=H
 refine q_y (su Z rfl rfl ha1 rfl rfl rfl la1 ua1) rfl rfl ?_
 obtain ⟨v2,hv2,H⟩:=H
 refine q_y (bH Z rfl rfl rfl rfl hv2) rfl rfl ?_
 refine qp Z ?_
 refine qp Z ?_
 obtain ⟨a3,ha3,la3,ua3,H⟩:=H
 refine q_y (su Z rfl rfl ha3 rfl rfl rfl la3 ua3) rfl rfl ?_
 obtain ⟨v4,hv4,H⟩:=H
 refine q_y (bH Z rfl rfl rfl rfl hv4) rfl rfl ?_
 refine qp Z ?_
 refine sM ?_
 refine zX (zF [5,0,1,25] ?_)
 refine zI H ?_ ?_ <;> intro H
 refine zQ (w1 Z (zE (zT (yB (yT (yT (yB (yT ?_))))))))
 exact aA _ rfl _ rfl ⟨false,rfl,H⟩
 refine zK (yL (zX (zR (w2 Z ?_))))
 refine wQ Z H fun x5 H=>?_
 refine zW ?_
 exact xJ x5 H
 refine zY (yE (yE (yH (zX (zF [] (zQ ?_))))))
 refine w1 Z (zE (zT ?_))
 exact aA _ rfl _ rfl ⟨true,rfl,H⟩
theorem O53:aB prog 53:=ck func53
theorem R53 (p0 p1 k h) (H:mM p0 p1 k h):CallsH prog 53 #[.int .i64 p0,.int .i64 p1] h (rI .i64 k):=by
 refine fE func53 fun w0=>?_
 refine zF [0,1] (zQ ?_)
 refine w1 Z (zE (zS (zQ ?_)))
 refine w2 Z (zE ?_)
 refine zI H ?_ ?_ <;> intro H
 refine zQ (w1 Z (zE (zT (yT ?_))))
 exact aA _ rfl _ rfl ⟨0,rfl,H⟩
 refine zK (zX (zQ (w2 Z ?_)))
 obtain ⟨z1,H⟩:=H
 refine wY (Mw rfl rfl rfl z1) ?_
 refine wQ Z H fun x2 H=>?_
 refine zE (zF [1,5] ?_)
 refine zJ (α:=Int) [] (fun (s:Int)=>[(5,.int .i64 s)]) (fun (s:Int) h=>qb s k h) ?_ ?_
 rintro a_ h_1 H
 refine zF [5] (zQ ?_)
 refine w2 Z (zE (zT ?_))
 exact aA _ rfl _ rfl ⟨a_,rfl,H⟩
 refine zQ (w2 Z (zE ?_))
 refine zI H ?_ ?_ <;> intro H
 refine zR (w3 Z ?_)
 refine wQ Z H fun x3 H=>?_
 refine zW ?_
 exact xJ x3 H
 refine zK ?_
 exact xJ x2 H
end Go.Q.Yi
end
section
namespace Go.Q.Yi
open Go.Proofs.Try
/-- (*quaestor rlog.Log).Base -/
def iA (p0:Option Addr) (k:KP (Int × Int)) (h:Heap):Prop :=
  if (p0.isNone) then (k (0,0) h) else (∃ a1,p0=some a1/\(∃ v2,af h a1=some (.int .u64 v2)/\(∃ v3,af h (a1.add 1)=some (.int .u64 v3)/\(k (v2,v3) h))))
/-- (*quaestor rlog.Log).Last -/
def fF (p0:Option Addr) (k:KP (Int × Int)) (h:Heap):Prop :=
  if (p0.isNone) then (k (0,0) h) else (∃ a1,p0=some a1/\(∃ v2,af h (a1.add 2)=some (Slc.v v2)/\(∃ x3,x3=(v2.len:Int)/\(if (decide (x3 > 0)) then (∃ v4,af h a1=some (.int .u64 v4)/\(∃ v5,af h (a1.add 2)=some (Slc.v v5)/\(∃ a6,v5.a=some a6/\(0:Int)<=(IntKind.i64.wrap (x3 - 1))/\(IntKind.i64.wrap (x3 - 1)) < (v5.len:Int)/\(∃ v7,af h (a6.add ((IntKind.i64.wrap (x3 - 1)).toNat * 2))=some (.int .u64 v7)/\(k ((IntKind.u64.wrap (v4 + (IntKind.u64.wrap x3))),v7) h))))) else (∃ v8,af h a1=some (.int .u64 v8)/\(∃ v9,af h (a1.add 1)=some (.int .u64 v9)/\(k (v8,v9) h)))))))
/-- (*quaestor rlog.Log).Term -/
def dY (p0:Option Addr) (p1:Int) (k:KP (Int × Int)) (h:Heap):Prop :=
  iA p0 (fun r1 h2=>fF p0 (fun r3 h4=>if (decide (p1 < r1.1)) then (k (0,13) h4) else (if (decide (p1 > r3.1)) then (k (0,6) h4) else (if (p1 == r1.1) then (k (r1.2,0) h4) else (∃ a5,p0=some a5/\(∃ v6,af h4 (a5.add 2)=some (Slc.v v6)/\(∃ a7,v6.a=some a7/\(0:Int)<=(IntKind.u64.wrap ((IntKind.u64.wrap (p1 - r1.1)) - 1))/\(IntKind.u64.wrap ((IntKind.u64.wrap (p1 - r1.1)) - 1)) < (v6.len:Int)/\(∃ v8,af h4 (a7.add ((IntKind.u64.wrap ((IntKind.u64.wrap (p1 - r1.1)) - 1)).toNat * 2))=some (.int .u64 v8)/\(k (v8,0) h4)))))))) h2) h
/-- (*quaestor rlog.Log).Match -/
def kZ (p0:Option Addr) (p1:Int) (p2:Int) (k:KP Bool) (h:Heap):Prop :=
  dY p0 p1 (fun r1 h2=>k ((r1.2 == 0) && (r1.1 == p2)) h2) h
/-- (*quaestor rlog.Log).Newer -/
def mG (p0:Option Addr) (p1:Int) (p2:Int) (k:KP Bool) (h:Heap):Prop :=
  fF p0 (fun r1 h2=>k ((decide (p2 > r1.2)) || ((p2 == r1.2) && (decide (p1>=r1.1)))) h2) h
/-- quaestor rlog.copied -/
def uj (b_:Slc) (f_:Int) (d_:Slc) (a_:Int) (k:KP Slc) (nx1:KP (Slc × Int)) (h_1:Heap):Prop :=
  if (decide (a_ < f_)) then (∃ a1,b_.a=some a1/\(0:Int)<=a_/\a_ < (b_.len:Int)/\(∃ v2,aJ h_1 (a1.add (a_.toNat * 2)) (ae.cs v2)/\(∃ b3 h4,b3=h_1.size/\h4=h_1.push (.cells (ae.cs (⟨0,(⟨none,0,0⟩:Slc)⟩:ae)).toArray 65)/\(∃ h5,dE h4 (ad b3) 2/\h5=aU h4 (ad b3) 0 (ae.cs v2)/\(∃ v6,af h5 (ad b3)=some (.int .u64 v6)/\(∃ v7,af h5 ((ad b3).add 1)=some (Slc.v v7)/\(bD v7 (fun r8 h9=>af h9 (ad b3)=some (.int .u64 v6)/\(∃ b11 h12,b11=h9.size/\h12=h9.push (.cells ((ae.cs (⟨v6,r8⟩:ae))).toArray 65)/\(App 65 2 32 [.int .u64 0,.slice none 0 0] h12 d_ 1 ((ae.cs (⟨v6,r8⟩:ae))) (fun s13 h14=>nx1 (s13,(IntKind.i64.wrap (a_ + 1))) h14)))) h5))))))) else (k d_ h_1)
def zx (d_:Slc) (f_:Int) (i3:Slc) (i8:Int) (k:KP Slc) (h:Heap):Prop :=
  ∃ (I:KP (Slc × Int)) (μ:(Slc × Int)->Heap->Nat),I (i3,i8) h/\∀ (a_:Slc) (b_:Int) (h:Heap),I (a_,b_) h->uj d_ f_ a_ b_ k (fun s h'=>I s h'/\μ s h' < μ (a_,b_) h) h
def mO (p0:Slc) (k:KP Slc) (h:Heap):Prop :=
  zx p0 (p0.len:Int) (⟨none,0,0⟩:Slc) 0 k h
/-- quaestor rlog.New -/
def rD (p0:Int) (p1:Int) (p2:Slc) (k:KP (Option Addr)) (h:Heap):Prop :=
  mO p2 (fun r1 h2=>∃ b3 h4,b3=h2.size/\h4=h2.push (.cells (mE.cs (⟨p0,p1,r1⟩:mE)).toArray 117)/\(k (some (ad b3)) h4)) h
/-- (*quaestor rlog.Log).Entries -/
def fu (p0:Option Addr) (k:KP Slc) (h:Heap):Prop :=
  if (p0.isNone) then (k (⟨none,0,0⟩:Slc) h) else (∃ a1,p0=some a1/\(∃ v2,af h (a1.add 2)=some (Slc.v v2)/\(mO v2 (fun r3 h4=>k r3 h4) h)))
/-- (*quaestor rlog.Log).From -/
def nU (p0:Option Addr) (p1:Int) (p2:Int) (k:KP (Slc × Int)) (h:Heap):Prop :=
  if (p1 == 0) then (k ((⟨none,0,0⟩:Slc),1) h) else (dY p0 (IntKind.u64.wrap (p1 - 1)) (fun r1 h2=>if (r1.2 != 0) then (k ((⟨none,0,0⟩:Slc),r1.2) h2) else (if (p0.isNone) then (k ((⟨none,0,0⟩:Slc),0) h2) else (∃ a3,p0=some a3/\(∃ v4,af h2 (a3.add 2)=some (Slc.v v4)/\(∃ v5,af h2 a3=some (.int .u64 v5)/\(∃ s6,(0:Int)<=(IntKind.u64.wrap ((IntKind.u64.wrap (p1 - 1)) - v5))/\((IntKind.u64.wrap ((IntKind.u64.wrap (p1 - 1)) - v5)):Int)<=(v4.len:Int)/\((v4.len:Int):Int)<=(v4.cap:Int)/\(v4.cap:Int)<=(v4.cap:Int)/\s6=dS v4 2 (IntKind.u64.wrap ((IntKind.u64.wrap (p1 - 1)) - v5)).toNat (v4.len:Int).toNat (v4.cap:Int).toNat/\(∃ s7,(0:Int)<=0/\(0:Int)<=(if (if (s6.len:Int) < p2 then (s6.len:Int) else p2) > 0 then (if (s6.len:Int) < p2 then (s6.len:Int) else p2) else 0)/\((if (if (s6.len:Int) < p2 then (s6.len:Int) else p2) > 0 then (if (s6.len:Int) < p2 then (s6.len:Int) else p2) else 0):Int)<=(s6.cap:Int)/\(s6.cap:Int)<=(s6.cap:Int)/\s7=dS s6 2 (0:Int).toNat (if (if (s6.len:Int) < p2 then (s6.len:Int) else p2) > 0 then (if (s6.len:Int) < p2 then (s6.len:Int) else p2) else 0).toNat (s6.cap:Int).toNat/\(mO s7 (fun r8 h9=>k (r8,0) h9) h2)))))))) h)
/-- (*quaestor rlog.Log).Append -/
def dN (d_:Option Addr) (f_:Int) (g_:Int) (h_:Slc) (j_:Int) (a_:Int) (b_:Slc) (k:KP (Int × Int)) (nx2:KP (Slc × Int)) (h_3:Heap):Prop :=
  nx2 (b_,(IntKind.i64.wrap (a_ + 1))) h_3
def gV (a_:Option Addr) (b_:Int) (d_:Int) (f_:Addr) (g_:Slc) (h_:Int) (j_:Int) (l_:Slc) (k:KP (Int × Int)) (nx2:KP (Slc × Int)) (h_4:Heap):Prop :=
  ∃ v16,aJ h_4 f_ (ae.cs v16)/\(∃ b17 h18,b17=h_4.size/\h18=h_4.push (.cells ((ae.cs v16)).toArray 65)/\(mO (⟨some ⟨b17,0,none⟩,1,1⟩:Slc) (fun r19 h20=>∃ l23,SlcAt h20 r19 l23/\App 65 2 32 [.int .u64 0,.slice none 0 0] h20 l_ r19.len l23 (fun s21 h22=>dN a_ b_ d_ g_ h_ j_ s21 k nx2 h22)) h18))
def qK (d_:Option Addr) (g_:Int) (h_:Int) (f_:Slc) (j_:Int) (a_:Slc) (b_:Int) (k:KP (Int × Int)) (nx2:KP (Slc × Int)) (h_2:Heap):Prop :=
  if (decide (b_ < j_)) then (∃ a6,f_.a=some a6/\(0:Int)<=b_/\b_ < (f_.len:Int)/\(∃ v7,aJ h_2 (a6.add (b_.toNat * 2)) (ae.cs v7)/\(∃ b8 h9,b8=h_2.size/\h9=h_2.push (.cells (ae.cs (⟨0,(⟨none,0,0⟩:Slc)⟩:ae)).toArray 65)/\(∃ h10,dE h9 (ad b8) 2/\h10=aU h9 (ad b8) 0 (ae.cs v7)/\(∃ x11,x11=(IntKind.u64.wrap ((IntKind.u64.wrap (g_ + (IntKind.u64.wrap b_))) + 1))/\(∃ a12,d_=some a12/\(∃ v13,af h10 a12=some (.int .u64 v13)/\(if (decide (x11<=v13)) then (dN d_ g_ h_ f_ j_ b_ a_ k nx2 h10) else (∃ v14,af h10 a12=some (.int .u64 v14)/\(∃ x15,x15=(IntKind.i64.wrap (IntKind.u64.wrap ((IntKind.u64.wrap (x11 - v14)) - 1)))/\(if (decide (x15 < (a_.len:Int))) then (∃ a24,a_.a=some a24/\(0:Int)<=x15/\x15 < (a_.len:Int)/\(∃ v25,af h10 (a24.add (x15.toNat * 2))=some (.int .u64 v25)/\(∃ v26,af h10 (ad b8)=some (.int .u64 v26)/\(if (v25 == v26) then (dN d_ g_ h_ f_ j_ b_ a_ k nx2 h10) else (∃ s27,(0:Int)<=0/\(0:Int)<=x15/\(x15:Int)<=x15/\x15<=(a_.cap:Int)/\s27=dS a_ 2 (0:Int).toNat x15.toNat x15.toNat/\(gV d_ g_ h_ (ad b8) f_ j_ b_ s27 k nx2 h10)))))) else (gV d_ g_ h_ (ad b8) f_ j_ b_ a_ k nx2 h10)))))))))))) else (if (decide ((a_.len:Int) > 64)) then (k (0,8) h_2) else (∃ a28,d_=some a28/\(∃ h29,WrH h_2 (a28.add 2)/\h29=setH h_2 (a28.add 2) (Slc.v a_)/\(k (h_,0) h29))))
def rJ (d_:Option Addr) (f_:Int) (g_:Int) (h_:Slc) (j_:Int) (i10:Slc) (i41:Int) (k:KP (Int × Int)) (h:Heap):Prop :=
  ∃ (I:KP (Slc × Int)) (μ:(Slc × Int)->Heap->Nat),I (i10,i41) h/\∀ (a_:Slc) (b_:Int) (h:Heap),I (a_,b_) h->qK d_ f_ g_ h_ j_ a_ b_ k (fun s h'=>I s h'/\μ s h' < μ (a_,b_) h) h
def eD (b_:Option Addr) (d_:Int) (a_:Slc) (f_:Bool) (k:KP (Int × Int)) (h_1:Heap):Prop :=
  if f_ then (k (0,6) h_1) else (∃ x3,x3=(IntKind.u64.wrap (d_ + (IntKind.u64.wrap (a_.len:Int))))/\(∃ a4,b_=some a4/\(∃ v5,af h_1 (a4.add 2)=some (Slc.v v5)/\(rJ b_ d_ x3 a_ (a_.len:Int) v5 0 k h_1))))
def lT (p0:Option Addr) (p1:Int) (p2:Int) (p3:Slc) (k:KP (Int × Int)) (h:Heap):Prop :=
  if (p0.isNone) then (k (0,1) h) else (∃ a1,p0=some a1/\(∃ v2,af h a1=some (.int .u64 v2)/\(if (decide (p1>=v2)) then (kZ p0 p1 p2 (fun r30 h31=>eD p0 p1 p3 (!r30) k h31) h) else (eD p0 p1 p3 false k h))))
/-- slices.Clone   quaestor api.Entry quaestor api.Entry  -/
def dH (p0:Slc) (k:KP Slc) (h:Heap):Prop :=
  if (p0.a.isNone) then (k (⟨none,0,0⟩:Slc) h) else (∃ b1 h2,b1=h.size/\h2=h.push (.cells ([]).toArray 65)/\(∃ l5,SlcAt h2 p0 l5/\App 65 2 32 [.int .u64 0,.slice none 0 0] h2 (⟨some ⟨b1,0,none⟩,0,0⟩:Slc) p0.len l5 (fun s3 h4=>k s3 h4)))
/-- (*quaestor rlog.Log).Cut -/
def qV (p0:Option Addr) (p1:Int) (k:KP Int) (h:Heap):Prop :=
  if (p0.isNone) then (k 1 h) else (dY p0 p1 (fun r1 h2=>if (r1.2 != 0) then (k r1.2 h2) else (∃ a3,p0=some a3/\(∃ v4,af h2 (a3.add 2)=some (Slc.v v4)/\(∃ v5,af h2 a3=some (.int .u64 v5)/\(∃ s6,(0:Int)<=(IntKind.u64.wrap (p1 - v5))/\((IntKind.u64.wrap (p1 - v5)):Int)<=(v4.len:Int)/\((v4.len:Int):Int)<=(v4.cap:Int)/\(v4.cap:Int)<=(v4.cap:Int)/\s6=dS v4 2 (IntKind.u64.wrap (p1 - v5)).toNat (v4.len:Int).toNat (v4.cap:Int).toNat/\(dH s6 (fun r7 h8=>∃ h9,WrH h8 (a3.add 2)/\h9=setH h8 (a3.add 2) (Slc.v r7)/\(∃ h10,WrH h9 a3/\h10=setH h9 a3 (.int .u64 p1)/\(∃ h11,WrH h10 (a3.add 1)/\h11=setH h10 (a3.add 1) (.int .u64 r1.1)/\(k 0 h11)))) h2)))))) h)
theorem O37:aB prog 37:=ck func37
theorem R37 (p0 k h) (H:iA p0 k h):CallsH prog 37 #[.pointer p0] h (fun v h'=>∃ r:Int × Int,v = .tuple #[.int .u64 r.1,.int .u64 r.2]/\k r h'):=by
 refine fE func37 fun w0=>?_
 refine zF [0] (zQ ?_)
 refine w2 Z (zE (zS (zQ ?_)))
 refine w2 Z (zE ?_)
 refine zI H ?_ ?_ <;> intro H
 refine zQ (w2 Z (zE (zT (yT ?_))))
 exact aA _ rfl _ rfl ⟨(0,0),rfl,H⟩
 refine zK (zX (zS ?_))
 refine pY (by kernel_rfl) (by kernel_rfl) ?_
 refine qp Z ?_
 obtain ⟨a1,ha1,H⟩:=H
 refine q_y (au rfl rfl ha1) rfl rfl ?_
 refine qp Z ?_
 obtain ⟨v2,hv2,H⟩:=H
 refine q_y (bH Z rfl rfl rfl rfl hv2) rfl rfl ?_
 refine qp Z ?_
 refine q_y (au rfl rfl ha1) rfl rfl ?_
 refine qp Z ?_
 obtain ⟨v3,hv3,H⟩:=H
 refine q_y (bH Z rfl rfl rfl rfl hv3) rfl rfl ?_
 refine qp Z ?_
 refine qp Z ?_
 refine sM ?_
 refine zX (zF [2,3] (zT ?_))
 exact aA _ rfl _ rfl ⟨(v2,v3),rfl,H⟩
theorem O66:aB prog 66:=ck func66
theorem R66 (p0 k h) (H:fF p0 k h):CallsH prog 66 #[.pointer p0] h (fun v h'=>∃ r:Int × Int,v = .tuple #[.int .u64 r.1,.int .u64 r.2]/\k r h'):=by
 refine fE func66 fun w0=>?_
 refine zF [0] (zQ ?_)
 refine w2 Z (zE (zS (zQ ?_)))
 refine w2 Z (zE ?_)
 refine zI H ?_ ?_ <;> intro H
 refine zQ (w2 Z (zE (zT (yT ?_))))
 exact aA _ rfl _ rfl ⟨(0,0),rfl,H⟩
 refine zK (zX (zS (zQ (w1 Z ?_))))
 refine wN H fun a1 ha1 H=>?_
 refine w1 Z ?_
 refine wL Z H fun v2 H=>?_
 refine w1 Z ?_
 refine wQ Z H fun x3 H=>?_
 refine zE (zF [0,4] (zQ ?_))
 refine w2 Z (zE ?_)
 refine zI H ?_ ?_ <;> intro H
 refine zS ?_
 refine pY (by kernel_rfl) (by kernel_rfl) ?_
 refine qp Z ?_
 refine q_y (au rfl rfl ha1) rfl rfl ?_
 refine qp Z ?_
 obtain ⟨v4,hv4,H⟩:=H
 refine q_y (bH Z rfl rfl rfl rfl hv4) rfl rfl ?_
 refine qp Z ?_
 refine qp Z ?_
 refine qp Z ?_
 refine qp Z ?_
 refine q_y (au rfl rfl ha1) rfl rfl ?_
 refine qp Z ?_
 obtain ⟨v5,hv5,H⟩:=H
 refine q_y (bH Z rfl rfl rfl rfl hv5) rfl rfl ?_
 refine qp Z ?_
 refine qp Z ?_
 obtain ⟨a6,ha6,la6,ua6,H⟩:=H
 refine q_y (su Z rfl rfl ha6 rfl rfl rfl la6 ua6) rfl rfl ?_
 refine qp Z ?_
 obtain ⟨v7,hv7,H⟩:=H
 refine q_y (bH Z rfl rfl rfl rfl hv7) rfl rfl ?_
 refine qp Z ?_
 refine qp Z ?_
 refine sM ?_
 refine zX (zF [2,3] (zT (yT ?_)))
 exact aA _ rfl _ rfl ⟨((IntKind.u64.wrap (v4 + (IntKind.u64.wrap x3))),v7),rfl,H⟩
 refine zK (zX (zS ?_))
 refine pY (by kernel_rfl) (by kernel_rfl) ?_
 refine qp Z ?_
 refine q_y (au rfl rfl ha1) rfl rfl ?_
 refine qp Z ?_
 obtain ⟨v8,hv8,H⟩:=H
 refine q_y (bH Z rfl rfl rfl rfl hv8) rfl rfl ?_
 refine qp Z ?_
 refine q_y (au rfl rfl ha1) rfl rfl ?_
 refine qp Z ?_
 obtain ⟨v9,hv9,H⟩:=H
 refine q_y (bH Z rfl rfl rfl rfl hv9) rfl rfl ?_
 refine qp Z ?_
 refine qp Z ?_
 refine sM ?_
 refine zX (zF [2,3] (zT ?_))
 exact aA _ rfl _ rfl ⟨(v8,v9),rfl,H⟩
theorem O60:aB prog 60:=ck func60
theorem R60 (p0 p1 k h) (H:dY p0 p1 k h):CallsH prog 60 #[.pointer p0,.int .u64 p1] h (fun v h'=>∃ r:Int × Int,v = .tuple #[.int .u64 r.1,.int .i64 r.2]/\k r h'):=by
 refine fE func60 fun w0=>?_
 refine zF [0,1] (zQ ?_)
 refine w2 Z (zE (zQ ?_))
 refine w1 Z ?_
 refine wC O37 (R37 _ _ _ H) fun r1 h2 H=>?_
 refine w5 Z (zE (zF [0,1,6,7] (zQ ?_)))
 refine w1 Z ?_
 refine wC O66 (R66 _ _ _ H) fun r3 h4 H=>?_
 refine w5 Z (zE (zS (zB (zQ ?_))))
 refine w4 Z (zE (zF [0,1,6,7,8,20] ?_))
 refine zI H ?_ ?_ <;> intro H
 refine zQ (w2 Z (zE (zT (yB (yT ?_)))))
 exact aA _ rfl _ rfl ⟨(0,13),rfl,H⟩
 refine zQ (w4 Z (zE ?_))
 refine zI H ?_ ?_ <;> intro H
 refine zQ (w2 Z (zE (zF [4,5] (zT (yB (yT ?_))))))
 exact aA _ rfl _ rfl ⟨(0,6),rfl,H⟩
 refine zQ (w4 Z (zE (zF [0,1,6,7,28] ?_)))
 refine zI H ?_ ?_ <;> intro H
 refine zQ (w3 Z (zE (zT (yB (yT ?_)))))
 exact aA _ rfl _ rfl ⟨(r1.2,0),rfl,H⟩
 refine zK (yL (zX (zQ (w1 Z ?_))))
 refine wN H fun a5 _ H=>?_
 refine w1 Z ?_
 refine wL Z H fun v6 H=>?_
 refine w4 Z ?_
 refine wD Z H fun a7 _ H=>?_
 refine w1 Z ?_
 refine wL Z H fun v8 H=>?_
 refine w2 Z (zE (zF [4,5] (zT ?_)))
 exact aA _ rfl _ rfl ⟨(v8,0),rfl,H⟩
theorem O82:aB prog 82:=ck func82
theorem R82 (p0 p1 p2 k h) (H:kZ p0 p1 p2 k h):CallsH prog 82 #[.pointer p0,.int .u64 p1,.int .u64 p2] h (rB k):=by
 refine fE func82 fun w0=>?_
 refine zF [0,1,2] (zQ ?_)
 refine w1 Z (zE (zQ ?_))
 refine w2 Z ?_
 refine wC O60 (R60 _ _ _ _ H) fun r1 h2 H=>?_
 refine w5 Z (zE (zF [2,7,8] (zQ ?_)))
 refine w3 Z ?_
 refine vU 4 [] [(21,.bool ((r1.2 == 0) && (r1.1 == p2)))] ?_ ?_
 refine w1 Z (zE (zT ?_))
 exact aA _ rfl _ rfl ⟨((r1.2 == 0) && (r1.1 == p2)),rfl,H⟩
 refine vG (d:=17) (fun hb=>?_) (fun hb=>?_)
 refine w4 Z ?_
 refine vK ?_
 exact congrArg (fun b=>some (Value.bool b)) (rq hb)
 refine wS (wS (wS (w1 Z ?_)))
 refine vK ?_
 exact congrArg (fun b=>some (Value.bool b)) (rF hb)
theorem O69:aB prog 69:=ck func69
theorem R69 (p0 p1 p2 k h) (H:mG p0 p1 p2 k h):CallsH prog 69 #[.pointer p0,.int .u64 p1,.int .u64 p2] h (rB k):=by
 refine fE func69 fun w0=>?_
 refine zF [0,1,2] (zQ ?_)
 refine w1 Z (zE (zQ ?_))
 refine w1 Z ?_
 refine wC O66 (R66 _ _ _ H) fun r1 h2 H=>?_
 refine w5 Z (zE (zF [1,2,7,8] (zQ ?_)))
 refine w4 Z ?_
 refine vU 9 [] [(26,.bool ((decide (p2 > r1.2)) || ((p2 == r1.2) && (decide (p1>=r1.1)))))] ?_ ?_
 refine w1 Z (zE (zT ?_))
 exact aA _ rfl _ rfl ⟨((decide (p2 > r1.2)) || ((p2 == r1.2) && (decide (p1>=r1.1)))),rfl,H⟩
 refine vG (d:=17) (fun hb=>?_) (fun hb=>?_)
 refine wS (wS (wS (wS (wS (wS (wS (wS (w1 Z ?_))))))))
 refine vK ?_
 exact congrArg (fun b=>some (Value.bool b)) (Ag hb)
 refine w4 Z ?_
 refine vU 4 [17] [(25,.bool ((p2 == r1.2) && (decide (p1>=r1.1))))] ?_ ?_
 refine w1 Z ?_
 refine vK ?_
 exact congrArg (fun b=>some (Value.bool b)) (Ah hb)
 refine vG (d:=21) (fun hb=>?_) (fun hb=>?_)
 refine w4 Z ?_
 refine vK ?_
 exact congrArg (fun b=>some (Value.bool b)) (rq hb)
 refine wS (wS (wS (w1 Z ?_)))
 refine vK ?_
 exact congrArg (fun b=>some (Value.bool b)) (rF hb)
theorem O63:aB prog 63:=ck func63
theorem R63 (p0 k h) (H:mO p0 k h):CallsH prog 63 #[Slc.v p0] h (rS k):=by
 refine fE func63 fun w0=>?_
 refine zF [0] (zQ ?_)
 refine w1 Z (zE (zQ ?_))
 refine w1 Z (zE (zS (zQ ?_)))
 refine w3 Z (zE (zB ?_))
 obtain ⟨I1,μ1,H0,HI⟩:=H
 refine zO (σ:=Slc × Int) [6,7] (fun (s:Slc × Int)=>[(3,Slc.v s.1),(8,.int .i64 s.2)]) I1 μ1 ((⟨none,0,0⟩:Slc),0) H0 ?_
 rintro ⟨a_,b_⟩ h_1 H
 replace H:=HI a_ b_ h_1 H
 refine zF [3,8,6,7] (zQ ?_)
 refine w1 Z (zE (zS ?_))
 refine zI H ?_ ?_ <;> intro H
 refine zK (zX (zS (zB (zQ ?_))))
 refine wD Z H fun a1 _ H=>?_
 refine wLa Z H fun v2 H=>?_
 refine wB Z H fun b3 h4 H=>?_
 refine wTa Z H fun h5 H=>?_
 refine zE ?_
 refine gB [3,5,6,7,8] ?_
 refine gT 0 [3] Z ?_
 refine gT 1 [5] Z ?_
 refine gl 2 [13] Z H fun v6 H=>?_
 refine gT 3 [5] Z ?_
 refine gl 4 [15] Z H fun v7 H=>?_
 refine gCr 5 [16] O38 (R38 _ _ _ H) fun r8 h9 H=>?_
 obtain ⟨hy10,H⟩:=H
 refine gR rfl (bH Z rfl rfl rfl rfl hy10) ?_
 refine gZ0 ?_
 refine gY 6 [14,17] rfl (fun _=>cu Z rfl rfl rfl rfl rfl) ?_
 obtain ⟨b11,h12,eb11,eh12,H⟩:=H
 refine gH 7 [18] rfl (nV Z rfl rfl rfl rfl rfl rfl rfl eb11 eh12) ?_
 refine gA 8 [12,19] rfl (lW (s:=a_) (r:=(⟨some ⟨b11,0,none⟩,1,1⟩:Slc)) Z rfl rfl rfl rfl rfl (fM eb11 eh12) H) ?_
 rintro _ h14 ⟨s13,rfl,H⟩
 refine gT 9 [20] Z ?_
 refine gZ ?_
 refine yL (zX (zF [3,6,7,8] (zR ?_)))
 refine w2 Z (zW ?_)
 exact xJ (s13,(IntKind.i64.wrap (b_ + 1))) H
 refine zY (yE (yE (yH (zX (zQ (w2 Z (zE (zT ?_))))))))
 exact aA _ rfl _ rfl ⟨a_,rfl,H⟩
theorem O39:aB prog 39:=ck func39
theorem R39 (p0 p1 p2 k h) (H:rD p0 p1 p2 k h):CallsH prog 39 #[.int .u64 p0,.int .u64 p1,Slc.v p2] h (fun v h'=>∃ r:Option Addr,v = .pointer r/\k r h'):=by
 refine fE func39 fun w0=>?_
 refine zF [0,1,2] (zQ ?_)
 refine w1 Z (zE (zQ ?_))
 refine w3 Z ?_
 refine wC O63 (R63 _ _ _ H) fun r1 h2 H=>?_
 refine wY (cu Z rfl rfl rfl rfl rfl) ?_
 refine wX H fun b3 h4 H=>?_
 refine w1 Z (zE (zF [6] (zT ?_)))
 exact aA _ rfl _ rfl ⟨(some (ad b3)),rfl,H⟩
theorem O40:aB prog 40:=ck func40
theorem R40 (p0 k h) (H:fu p0 k h):CallsH prog 40 #[.pointer p0] h (rS k):=by
 refine fE func40 fun w0=>?_
 refine zF [0] (zQ ?_)
 refine w1 Z (zE (zS (zQ ?_)))
 refine w2 Z (zE ?_)
 refine zI H ?_ ?_ <;> intro H
 refine zQ (w1 Z (zE (zT (yT ?_))))
 exact aA _ rfl _ rfl ⟨(⟨none,0,0⟩:Slc),rfl,H⟩
 refine zK (zX (zQ (w1 Z ?_)))
 refine wN H fun a1 _ H=>?_
 refine w1 Z ?_
 refine wL Z H fun v2 H=>?_
 refine wC O63 (R63 _ _ _ H) fun r3 h4 H=>?_
 refine w1 Z (zE (zF [2] (zT ?_)))
 exact aA _ rfl _ rfl ⟨r3,rfl,H⟩
theorem O61:aB prog 61:=ck func61
theorem R61 (p0 p1 p2 k h) (H:nU p0 p1 p2 k h):CallsH prog 61 #[.pointer p0,.int .u64 p1,.int .i64 p2] h (fun v h'=>∃ r:Slc × Int,v = .tuple #[Slc.v r.1,.int .i64 r.2]/\k r h'):=by
 refine fE func61 fun w0=>?_
 refine zF [0,1,2] (zQ ?_)
 refine w2 Z (zE (zS (zQ ?_)))
 refine w2 Z (zE ?_)
 refine zI H ?_ ?_ <;> intro H
 refine zQ (w2 Z (zE (zT (yT ?_))))
 exact aA _ rfl _ rfl ⟨((⟨none,0,0⟩:Slc),1),rfl,H⟩
 refine zK (zX (zS (zQ (w3 Z ?_))))
 refine wC O60 (R60 _ _ _ _ H) fun r1 h2 H=>?_
 refine w5 Z (zE (zF [0,1,2,9] (zQ ?_)))
 refine w2 Z (zE ?_)
 refine zI H ?_ ?_ <;> intro H
 refine zQ (w3 Z (zE (zF [6,7] (zT (yT ?_)))))
 exact aA _ rfl _ rfl ⟨((⟨none,0,0⟩:Slc),r1.2),rfl,H⟩
 refine zK (zX (zS (zQ (w2 Z (zE ?_)))))
 refine zI H ?_ ?_ <;> intro H
 refine zQ (w2 Z (zE (zF [6,7] (zT (yT ?_)))))
 exact aA _ rfl _ rfl ⟨((⟨none,0,0⟩:Slc),0),rfl,H⟩
 refine zK (zX (zS ?_))
 refine pY (by kernel_rfl) (by kernel_rfl) ?_
 refine qp Z ?_
 obtain ⟨a3,ha3,H⟩:=H
 refine q_y (au rfl rfl ha3) rfl rfl ?_
 refine qp Z ?_
 obtain ⟨v4,hv4,H⟩:=H
 refine q_y (bH Z rfl rfl rfl rfl hv4) rfl rfl ?_
 refine qp Z ?_
 refine qp Z ?_
 refine qp Z ?_
 refine q_y (au rfl rfl ha3) rfl rfl ?_
 refine qp Z ?_
 obtain ⟨v5,hv5,H⟩:=H
 refine q_y (bH Z rfl rfl rfl rfl hv5) rfl rfl ?_
 refine qp Z ?_
 obtain ⟨s6,ps6,qs6,rs6,ts6,es6,H⟩:=H
 refine NC (xm (s:=v4) (L:=(IntKind.u64.wrap ((IntKind.u64.wrap (p1 - 1)) - v5))) (H:=(v4.len:Int)) (M:=(v4.cap:Int)) Z rfl rfl rfl rfl rfl rfl rfl (by simp) ps6 qs6 rs6 ts6) (congrArg Slc.v es6) rfl rfl ?_
 refine qp Z ?_
 refine sM ?_
 refine zX (zF [2,10] (zQ ?_))
 refine w6 Z ?_
 obtain ⟨s7,ps7,qs7,rs7,ts7,es7,H⟩:=H
 refine wYe (xm (s:=s6) (L:=0) (H:=(if (if (s6.len:Int) < p2 then (s6.len:Int) else p2) > 0 then (if (s6.len:Int) < p2 then (s6.len:Int) else p2) else 0)) (M:=(s6.cap:Int)) Z rfl rfl rfl rfl rfl rfl rfl (by simp) ps7 qs7 rs7 ts7) (congrArg Slc.v es7) ?_
 refine wC O63 (R63 _ _ _ H) fun r8 h9 H=>?_
 refine w2 Z (zE (zF [6,7] (zT ?_)))
 exact aA _ rfl _ rfl ⟨(r8,0),rfl,H⟩
theorem O73:aB prog 73:=ck func73
theorem R73 (p0 p1 p2 p3 k h) (H:lT p0 p1 p2 p3 k h):CallsH prog 73 #[.pointer p0,.int .u64 p1,.int .u64 p2,Slc.v p3] h (fun v h'=>∃ r:Int × Int,v = .tuple #[.int .u64 r.1,.int .i64 r.2]/\k r h'):=by
 refine fE func73 fun w0=>?_
 refine zF [0,1,2,3] (zQ ?_)
 refine w2 Z (zE (zC (zS (zQ ?_))))
 refine w2 Z (zE ?_)
 refine zI H ?_ ?_ <;> intro H
 refine zQ (w2 Z (zE (zT (yT (yR ?_)))))
 exact aA _ rfl _ rfl ⟨(0,1),rfl,H⟩
 refine zK (zX (zS (zQ (w2 Z ?_))))
 refine wN H fun a1 _ H=>?_
 refine w1 Z ?_
 refine wL Z H fun v2 H=>?_
 refine w2 Z ?_
 refine vJ 6 (α:=Bool) [0,1,3] (fun (s:Bool)=>[(29,.bool s)]) (fun (s:Bool) h=>eD p0 p1 p3 s k h) ?_ ?_
 rintro g_ h_1 H
 refine vF [29,0,1,3] (zE ?_)
 refine zI H ?_ ?_ <;> intro H
 refine zQ (w2 Z (zE (zT (yT (yR ?_)))))
 exact aA _ rfl _ rfl ⟨(0,6),rfl,H⟩
 refine zK (zX (zQ (w5 Z ?_)))
 refine wQ Z H fun x3 H=>?_
 refine zE (zQ (w1 Z ?_))
 refine wN H fun a4 _ H=>?_
 refine w1 Z ?_
 refine wL Z H fun v5 H=>?_
 refine w1 Z (zE (zF [0,1,3,8,10] (zS (zA (zX (zS (zQ ?_)))))))
 refine w3 Z (zE (zB ?_))
 obtain ⟨I2,μ2,H0,HI⟩:=H
 refine zO (σ:=Slc × Int) [0,1,8,39,40] (fun (s:Slc × Int)=>[(10,Slc.v s.1),(41,.int .i64 s.2)]) I2 μ2 (v5,0) H0 ?_
 rintro ⟨a_,b_⟩ h_2 H
 replace H:=HI a_ b_ h_2 H
 refine zF [10,41,0,1,8,39,40] (zQ ?_)
 refine w1 Z (zE (zS ?_))
 refine zI H ?_ ?_ <;> intro H
 refine zK (zX ?_)
 refine zJ (α:=Slc) [0,1,8,39,40,41] (fun (s:Slc)=>[(10,Slc.v s)]) (fun (s:Slc) h=>dN p0 p1 x3 p3 (p3.len:Int) b_ s k (fun s h'=>I2 s h'/\μ2 s h' < μ2 (a_,b_) h_2) h) ?_ ?_
 rintro d_ h_3 H
 refine zF [10,0,1,8,39,40,41] (zR ?_)
 refine w2 Z (zW ?_)
 exact xJ (d_,(IntKind.i64.wrap (b_ + 1))) H
 refine zB (zQ (w1 Z ?_))
 refine wD Z H fun a6 _ H=>?_
 refine wLa Z H fun v7 H=>?_
 refine wB Z H fun b8 h9 H=>?_
 refine w1 Z ?_
 refine wTa Z H fun h10 H=>?_
 refine zE (zQ (w5 Z ?_))
 refine wQ Z H fun x11 H=>?_
 refine zE (zF [10,41,0,1,8,39,40,12,13] (zS (zQ ?_)))
 refine w2 Z ?_
 refine wN H fun a12 ha12 H=>?_
 refine w1 Z ?_
 refine wL Z H fun v13 H=>?_
 refine w1 Z (zE ?_)
 refine zI H ?_ ?_ <;> intro H
 refine zY (yE (yH ?_))
 exact xJ a_ H
 refine zK (zX (zQ (w2 Z ?_)))
 refine wY (au rfl rfl ha12) ?_
 refine w1 Z ?_
 refine wL Z H fun v14 H=>?_
 refine w3 Z ?_
 refine wQ Z H fun x15 H=>?_
 refine zE (zF [10,41,0,1,8,39,40,12,14] ?_)
 refine zJ (α:=Slc) [0,1,8,12,39,40,41] (fun (s:Slc)=>[(10,Slc.v s)]) (fun (s:Slc) h=>gV p0 p1 x3 (ad b8) p3 (p3.len:Int) b_ s k (fun s h'=>I2 s h'/\μ2 s h' < μ2 (a_,b_) h_2) h) ?_ ?_
 rintro f_ h_4 H
 refine zF [10,0,1,8,12,39,40,41] (zR ?_)
 refine w1 Z ?_
 refine wLa Z H fun v16 H=>?_
 obtain ⟨b17,h18,eb17,eh18,H⟩:=H
 refine wH (nV Z rfl rfl rfl rfl rfl rfl rfl eb17 eh18) ?_
 refine wC O63 (R63 _ _ _ H) fun r19 h20 H=>?_
 obtain ⟨l23,hl23,H⟩:=H
 refine wA (lW (s:=f_) (r:=r19) Z rfl rfl rfl rfl rfl hl23 H) ?_
 rintro _ h22 ⟨s21,rfl,H⟩
 refine w1 Z (zL ?_)
 exact xJ s21 H
 refine zQ (w4 Z (zE ?_))
 refine zI H ?_ ?_ <;> intro H
 refine zS (zS ?_)
 refine pY (by kernel_rfl) (by kernel_rfl) ?_
 refine qp Z ?_
 refine qp Z ?_
 obtain ⟨a24,ha24,la24,ua24,H⟩:=H
 refine q_y (su Z rfl rfl ha24 rfl rfl rfl la24 ua24) rfl rfl ?_
 refine qp Z ?_
 obtain ⟨v25,hv25,H⟩:=H
 refine q_y (bH Z rfl rfl rfl rfl hv25) rfl rfl ?_
 refine qp Z ?_
 obtain ⟨v26,hv26,H⟩:=H
 refine q_y (bH Z rfl rfl rfl rfl hv26) rfl rfl ?_
 refine qp Z ?_
 refine sM ?_
 refine zX (zF [10,41,0,1,8,39,40,12,14,76] ?_)
 refine zI H ?_ ?_ <;> intro H
 refine zY (yE (yE (yH ?_)))
 exact xJ a_ H
 refine zK (zX (zR (w3 Z ?_)))
 obtain ⟨s27,ps27,qs27,rs27,ts27,es27,H⟩:=H
 refine wYe (xm (s:=a_) (L:=0) (H:=x15) (M:=x15) Z rfl rfl rfl rfl rfl rfl rfl (by simp) ps27 qs27 rs27 ts27) (congrArg Slc.v es27) ?_
 refine w1 Z (zW ?_)
 exact xJ s27 H
 refine zK ?_
 exact xJ a_ H
 refine zY (yE (yE (yH (zX (zS (zQ (w3 Z (zE (zF [10,0,8,89] ?_)))))))))
 refine zI H ?_ ?_ <;> intro H
 refine zQ (w2 Z (zE (zT (yT (yR ?_)))))
 exact aA _ rfl _ rfl ⟨(0,8),rfl,H⟩
 refine zK (zX (zQ (w2 Z ?_)))
 refine wN H fun a28 _ H=>?_
 refine w1 Z ?_
 refine wT Z H fun h29 H=>?_
 refine zE (zF [8] (zQ ?_))
 refine w3 Z (zE (zT (yR ?_)))
 exact aA _ rfl _ rfl ⟨(x3,0),rfl,H⟩
 refine vI 23 H ?_ ?_ <;> intro H
 refine w3 Z ?_
 refine wC O82 (R82 _ _ _ _ _ H) fun r30 h31 H=>?_
 refine w2 Z ?_
 exact wJ (!r30) H
 refine wS (wS (wS (wS (wS (w1 Z ?_)))))
 exact wJ false H
theorem O90:aB prog 90:=ck func90
theorem R90 (p0 k h) (H:dH p0 k h):CallsH prog 90 #[Slc.v p0] h (rS k):=by
 refine fE func90 fun w0=>?_
 refine zF [0] (zQ ?_)
 refine w1 Z (zE (zS (zQ ?_)))
 refine w2 Z (zE ?_)
 refine zI H ?_ ?_ <;> intro H
 refine zQ (w1 Z (zE (zT (yT ?_))))
 exact aA _ rfl _ rfl ⟨(⟨none,0,0⟩:Slc),rfl,H⟩
 refine zK (zX (zQ ?_))
 obtain ⟨b1,h2,eb1,eh2,H⟩:=H
 refine wH (nV Z rfl rfl rfl rfl rfl rfl rfl eb1 eh2) ?_
 refine w1 Z ?_
 obtain ⟨l5,hl5,H⟩:=H
 refine wA (lW (s:=(⟨some ⟨b1,0,none⟩,0,0⟩:Slc)) (r:=p0) Z rfl rfl rfl rfl rfl hl5 H) ?_
 rintro _ h4 ⟨s3,rfl,H⟩
 refine w1 Z (zE (zT ?_))
 exact aA _ rfl _ rfl ⟨s3,rfl,H⟩
theorem O84:aB prog 84:=ck func84
theorem R84 (p0 p1 k h) (H:qV p0 p1 k h):CallsH prog 84 #[.pointer p0,.int .u64 p1] h (rI .i64 k):=by
 refine fE func84 fun w0=>?_
 refine zF [0,1] (zQ ?_)
 refine w1 Z (zE (zS (zQ ?_)))
 refine w2 Z (zE ?_)
 refine zI H ?_ ?_ <;> intro H
 refine zQ (w1 Z (zE (zT (yT ?_))))
 exact aA _ rfl _ rfl ⟨1,rfl,H⟩
 refine zK (zX (zQ (w2 Z ?_)))
 refine wC O60 (R60 _ _ _ _ H) fun r1 h2 H=>?_
 refine w5 Z (zE (zF [0,1,5,6] (zS (zQ ?_))))
 refine w2 Z (zE ?_)
 refine zI H ?_ ?_ <;> intro H
 refine zQ (w2 Z (zE (zF [4] (zT (yT ?_)))))
 exact aA _ rfl _ rfl ⟨r1.2,rfl,H⟩
 refine zK (zX (zS ?_))
 refine gB [0,1,5] ?_
 refine gT 0 [0] Z ?_
 refine gT 1 [0] Z ?_
 obtain ⟨a3,ha3,H⟩:=H
 refine gY 2 [19] rfl (fun _=>au rfl rfl ha3) ?_
 refine gT 3 [20] Z ?_
 refine gl 4 [21] Z H fun v4 H=>?_
 refine gT 5 [1] Z ?_
 refine gT 6 [0] Z ?_
 refine gY 7 [24] rfl (fun _=>au rfl rfl ha3) ?_
 refine gT 8 [25] Z ?_
 refine gl 9 [26] Z H fun v5 H=>?_
 refine gT 10 [23,27] Z ?_
 obtain ⟨s6,ps6,qs6,rs6,ts6,es6,H⟩:=H
 refine gYe 11 [22,28] rfl (fun _=>xm (s:=v4) (L:=(IntKind.u64.wrap (p1 - v5))) (H:=(v4.len:Int)) (M:=(v4.cap:Int)) Z rfl rfl rfl rfl rfl rfl rfl (by simp) ps6 qs6 rs6 ts6) (congrArg Slc.v es6) ?_
 refine gC 12 [29] O90 (R90 _ _ _ H) fun r7 h8 H=>?_
 refine gY 13 [18] rfl (fun _=>au rfl rfl ha3) ?_
 refine gT 14 [31] Z ?_
 refine gs 15 [30,32] Z H fun h9 H=>?_
 refine gZ ?_
 refine zX (zF [0,1,5] (zQ ?_))
 refine w4 Z ?_
 refine wY (au rfl rfl ha3) ?_
 refine w1 Z ?_
 refine wT Z H fun h10 H=>?_
 refine wY (au rfl rfl ha3) ?_
 refine w1 Z ?_
 refine wT Z H fun h11 H=>?_
 refine zE (zF [] (zQ ?_))
 refine w1 Z (zE (zT ?_))
 exact aA _ rfl _ rfl ⟨0,rfl,H⟩
end Go.Q.Yi
end

/- A part of the proof of statements of this seat: lemmas, no statement of their own. -/
import Derived.Test.YthjafnfadiijgaaYiZad
import Derived.Test.YthjafnfadiijgaaYiZae
import Derived.Test.YthjafnfadiijgaaYiZam
import Derived.Test.YthjafnfadiijgaaYiZan
import Derived.Test.YthjafnfadiijgaaYiZao
set_option linter.unusedVariables false
set_option linter.unusedSimpArgs false
set_option maxRecDepth 100000
set_option maxHeartbeats 1000000
section
namespace Go.Q.Yi
open Go.Proofs.Try
/-- quaestor quaestorlaw26.begun -/
def kY (b_:Int) (d_:Addr) (a_:Int) (k:KP (Option Addr)) (nx1:KP Int) (h_2:Heap):Prop :=
  ∃ x3,x3=(IntKind.i64.wrap (a_ + 1))/\(nx1 x3 h_2)
def tY (b_:Int) (a_:Addr) (d_:Int) (k:KP (Option Addr)) (nx1:KP Int) (h_1:Heap):Prop :=
  if (decide (d_ < b_)) then (∃ v4,af h_1 a_=some (Slc.v v4)/\((oL d_ b_ 0 0 none (⟨none,0,0⟩:Slc) (fun r5 h6=>af h6 a_=some (Slc.v v4)/\(∃ b8 h9,b8=h6.size/\h9=h6.push (.cells (aH.cs (⟨0,0,(⟨none,0,0⟩:Slc)⟩:aH)).toArray 75)/\(af h9 a_=some (Slc.v v4)/\(∃ b11 h12,b11=h9.size/\h12=h9.push (.cells (aD.cs (⟨0,0,(some (ad b8)),(⟨none,0,0⟩:Slc)⟩:aD)).toArray 73)/\(af h12 a_=some (Slc.v v4)/\(∃ b14 h15,b14=h12.size/\h15=h12.push (.cells ((ax.cs (⟨r5,(some (ad b11))⟩:ax))).toArray 60)/\(af h15 a_=some (Slc.v v4)/\(App 60 2 16 [.pointer none,.pointer none] h15 v4 1 ((ax.cs (⟨r5,(some (ad b11))⟩:ax))) (fun s17 h18=>∃ h19,WrH h18 a_/\h19=setH h18 a_ (Slc.v s17)/\(kY b_ a_ d_ k nx1 h19)))))))))) h_1)/\(∃ b20 h21,b20=h_1.size/\h21=h_1.push (.cells (aH.cs (⟨0,0,(⟨none,0,0⟩:Slc)⟩:aH)).toArray 75)/\(af h21 a_=some (Slc.v v4)/\((oL d_ b_ 0 0 none (⟨none,0,0⟩:Slc) (fun r23 h24=>af h24 a_=some (Slc.v v4)/\(∃ b26 h27,b26=h24.size/\h27=h24.push (.cells (aD.cs (⟨0,0,(some (ad b20)),(⟨none,0,0⟩:Slc)⟩:aD)).toArray 73)/\(af h27 a_=some (Slc.v v4)/\(∃ b29 h30,b29=h27.size/\h30=h27.push (.cells ((ax.cs (⟨r23,(some (ad b26))⟩:ax))).toArray 60)/\(af h30 a_=some (Slc.v v4)/\(App 60 2 16 [.pointer none,.pointer none] h30 v4 1 ((ax.cs (⟨r23,(some (ad b26))⟩:ax))) (fun s32 h33=>∃ h34,WrH h33 a_/\h34=setH h33 a_ (Slc.v s32)/\(kY b_ a_ d_ k nx1 h34)))))))) h21)/\(∃ b35 h36,b35=h21.size/\h36=h21.push (.cells (aD.cs (⟨0,0,(some (ad b20)),(⟨none,0,0⟩:Slc)⟩:aD)).toArray 73)/\(af h36 a_=some (Slc.v v4)/\(oL d_ b_ 0 0 none (⟨none,0,0⟩:Slc) (fun r38 h39=>af h39 a_=some (Slc.v v4)/\(∃ b41 h42,b41=h39.size/\h42=h39.push (.cells ((ax.cs (⟨r38,(some (ad b35))⟩:ax))).toArray 60)/\(af h42 a_=some (Slc.v v4)/\(App 60 2 16 [.pointer none,.pointer none] h42 v4 1 ((ax.cs (⟨r38,(some (ad b35))⟩:ax))) (fun s44 h45=>∃ h46,WrH h45 a_/\h46=setH h45 a_ (Slc.v s44)/\(kY b_ a_ d_ k nx1 h46)))))) h36)))))))) else (k (some a_) h_1)
def uF (b_:Int) (d_:Addr) (i4:Int) (k:KP (Option Addr)) (h:Heap):Prop :=
  ∃ (I:KP Int) (μ:Int->Heap->Nat),I i4 h/\∀ (a_:Int) (h:Heap),I a_ h->tY b_ d_ a_ k (fun s h'=>I s h'/\μ s h' < μ a_ h) h
def rQ (p0:Int) (k:KP (Option Addr)) (h:Heap):Prop :=
  ∃ b1 h2,b1=h.size/\h2=h.push (.cells (bJ.cs (⟨(⟨none,0,0⟩:Slc),(⟨none,0,0⟩:Slc),(⟨none,0,0⟩:Slc),(⟨none,0,0⟩:Slc),false⟩:bJ)).toArray 56)/\(uF p0 (ad b1) 0 k h2)
/-- (*quaestor quaestorlaw26.World).look -/
def dx (b_:Option Addr) (d_:Int) (f_:Option Addr) (a_:Int) (k:KP Unit) (nx1:KP Int) (h_2:Heap):Prop :=
  ∃ x7,x7=(IntKind.u64.wrap (a_ + 1))/\(nx1 x7 h_2)
def kU (a_:Option Addr) (b_:Int) (d_:Option Addr) (f_:Int) (g_:Bool) (k:KP Unit) (nx1:KP Int) (nx3:KP Unit) (h_4:Heap):Prop :=
  if g_ then (∃ a34,a_=some a34/\(∃ h35,WrH h_4 (a34.add 4)/\h35=setH h_4 (a34.add 4) (.bool true)/\(dx a_ b_ d_ f_ k nx1 h35))) else (dx a_ b_ d_ f_ k nx1 h_4)
def qo (b_:Option Addr) (d_:Int) (f_:Option Addr) (a_:Int) (g_:Addr) (k:KP Unit) (nx1:KP Int) (nx3:KP Unit) (h_3:Heap):Prop :=
  ∃ a13,b_=some a13/\(∃ v14,af h_3 (a13.add 2)=some (Slc.v v14)/\(if (decide ((IntKind.u64.wrap (v14.len:Int)) < a_)) then (∃ v15,af h_3 (a13.add 2)=some (Slc.v v15)/\(∃ b16 h17,b16=h_3.size/\h17=h_3.push (.cells ((ae.cs (⟨0,(⟨none,0,0⟩:Slc)⟩:ae))).toArray 65)/\(App 65 2 32 [.int .u64 0,.slice none 0 0] h17 v15 1 ((ae.cs (⟨0,(⟨none,0,0⟩:Slc)⟩:ae))) (fun s18 h19=>∃ h20,WrH h19 (a13.add 2)/\h20=setH h19 (a13.add 2) (Slc.v s18)/\(nx3 () h20))))) else (∃ v21,af h_3 (a13.add 2)=some (Slc.v v21)/\(∃ a22,v21.a=some a22/\(0:Int)<=(IntKind.u64.wrap (a_ - 1))/\(IntKind.u64.wrap (a_ - 1)) < (v21.len:Int)/\(∃ v23,aJ h_3 (a22.add ((IntKind.u64.wrap (a_ - 1)).toNat * 2)) (ae.cs v23)/\(∃ b24 h25,b24=h_3.size/\h25=h_3.push (.cells (ae.cs (⟨0,(⟨none,0,0⟩:Slc)⟩:ae)).toArray 65)/\(∃ h26,dE h25 (ad b24) 2/\h26=aU h25 (ad b24) 0 (ae.cs v23)/\(∃ v27,af h26 (ad b24)=some (.int .u64 v27)/\(if (v27 == 0) then (∃ v28,af h26 (a13.add 2)=some (Slc.v v28)/\(∃ v29,aJ h26 g_ (ae.cs v29)/\(∃ a30,v28.a=some a30/\(0:Int)<=(IntKind.u64.wrap (a_ - 1))/\(IntKind.u64.wrap (a_ - 1)) < (v28.len:Int)/\(∃ h31,dE h26 (a30.add ((IntKind.u64.wrap (a_ - 1)).toNat * 2)) 2/\h31=aU h26 (a30.add ((IntKind.u64.wrap (a_ - 1)).toNat * 2)) 0 (ae.cs v29)/\(dx b_ d_ f_ a_ k nx1 h31))))) else (∃ v32,af h26 (ad b24)=some (.int .u64 v32)/\(∃ v33,af h26 g_=some (.int .u64 v33)/\(if (v32 != v33) then (kU b_ d_ f_ a_ true k nx1 nx3 h26) else (∃ v36,af h26 ((ad b24).add 1)=some (Slc.v v36)/\(∃ v37,af h26 (g_.add 1)=some (Slc.v v37)/\(sU v36 v37 (fun r38 h39=>kU b_ d_ f_ a_ (!r38) k nx1 nx3 h39) h26)))))))))))))))
def nM (a_:Option Addr) (b_:Int) (d_:Option Addr) (f_:Int) (g_:Addr) (k:KP Unit) (nx1:KP Int) (h:Heap):Prop :=
  ∃ (I:KP Unit) (μ:Unit->Heap->Nat),I () h/\∀ (h:Heap),I () h->qo a_ b_ d_ f_ g_ k nx1 (fun s h'=>I s h'/\μ s h' < μ () h) h
def iU (a_:Option Addr) (b_:Int) (d_:Option Addr) (k:KP Unit) (nx1:KP Int) (nx6:KP Unit) (h_7:Heap):Prop :=
  ∃ a53,a_=some a53/\(∃ v54,af h_7 (a53.add 3)=some (Slc.v v54)/\(fJ d_ (fun r55 h56=>af h56 (a53.add 3)=some (Slc.v v54)/\(∃ a58,v54.a=some a58/\(0:Int)<=r55/\r55 < (v54.len:Int)/\(∃ h59,WrH h56 (a58.add (r55.toNat * 1))/\h59=setH h56 (a58.add (r55.toNat * 1)) (.int .i64 b_)/\(k () h59)))) h_7))
def iV (a_:Option Addr) (b_:Int) (d_:Option Addr) (f_:Bool) (k:KP Unit) (nx1:KP Int) (nx6:KP Unit) (h_8:Heap):Prop :=
  if f_ then (∃ a60,a_=some a60/\(∃ h61,WrH h_8 (a60.add 4)/\h61=setH h_8 (a60.add 4) (.bool true)/\(iU a_ b_ d_ k nx1 nx6 h61))) else (iU a_ b_ d_ k nx1 nx6 h_8)
def qw (b_:Option Addr) (d_:Int) (a_:Option Addr) (k:KP Unit) (nx1:KP Int) (nx6:KP Unit) (h_6:Heap):Prop :=
  ∃ a42,b_=some a42/\(∃ v43,af h_6 (a42.add 3)=some (Slc.v v43)/\(fJ a_ (fun r44 h45=>af h45 (a42.add 3)=some (Slc.v v43)/\(if (decide ((IntKind.u64.wrap (v43.len:Int))<=r44)) then (∃ v47,af h45 (a42.add 3)=some (Slc.v v47)/\(∃ b48 h49,b48=h45.size/\h49=h45.push (.cells ([.int .i64 (-1)]).toArray 3)/\(App 3 1 8 [.int .i64 0] h49 v47 1 ([.int .i64 (-1)]) (fun s50 h51=>∃ h52,WrH h51 (a42.add 3)/\h52=setH h51 (a42.add 3) (Slc.v s50)/\(nx6 () h52))))) else (∃ v62,af h45 (a42.add 3)=some (Slc.v v62)/\(fJ a_ (fun r63 h64=>af h64 (a42.add 3)=some (Slc.v v62)/\(∃ a66,v62.a=some a66/\(0:Int)<=r63/\r63 < (v62.len:Int)/\(∃ v67,af h64 (a66.add (r63.toNat * 1))=some (.int .i64 v67)/\(if (decide (v67>=0)) then (∃ v68,af h64 (a42.add 3)=some (Slc.v v68)/\(fJ a_ (fun r69 h70=>af h70 (a42.add 3)=some (Slc.v v68)/\(∃ a72,v68.a=some a72/\(0:Int)<=r69/\r69 < (v68.len:Int)/\(∃ v73,af h70 (a72.add (r69.toNat * 1))=some (.int .i64 v73)/\(iV b_ d_ a_ (v73 != d_) k nx1 nx6 h70)))) h64)) else (iV b_ d_ a_ false k nx1 nx6 h64))))) h45)))) h_6))
def nE (a_:Option Addr) (b_:Int) (d_:Option Addr) (k:KP Unit) (nx1:KP Int) (h:Heap):Prop :=
  ∃ (I:KP Unit) (μ:Unit->Heap->Nat),I () h/\∀ (h:Heap),I () h->qw a_ b_ d_ k nx1 (fun s h'=>I s h'/\μ s h' < μ () h) h
def iT (a_:Option Addr) (b_:Int) (d_:Option Addr) (f_:Bool) (k:KP Unit) (nx1:KP Int) (h_5:Heap):Prop :=
  if f_ then (nE a_ b_ d_ k nx1 h_5) else (k () h_5)
def qm (d_:Option Addr) (f_:Int) (a_:Option Addr) (b_:Int) (k:KP Unit) (nx1:KP Int) (h_1:Heap):Prop :=
  dA a_ (fun r5 h6=>if ((decide (b_<=r5)) && (decide (b_ < 300))) then (jS a_ b_ (fun r8 h9=>∃ b10 h11,b10=h9.size/\h11=h9.push (.cells (ae.cs (⟨0,(⟨none,0,0⟩:Slc)⟩:ae)).toArray 65)/\(∃ h12,dE h11 (ad b10) 2/\h12=aU h11 (ad b10) 0 (ae.cs r8.1)/\(if (r8.2 != 0) then (dx d_ f_ a_ b_ k nx1 h12) else (nM d_ f_ a_ b_ (ad b10) k nx1 h12)))) h6) else (gm a_ (fun r40 h41=>if r40 then (fJ a_ (fun r74 h75=>iT d_ f_ a_ (decide (r74 < 300)) k nx1 h75) h41) else (iT d_ f_ a_ false k nx1 h41)) h6)) h_1
def qM (b_:Option Addr) (d_:Int) (f_:Option Addr) (i5:Int) (k:KP Unit) (h:Heap):Prop :=
  ∃ (I:KP Int) (μ:Int->Heap->Nat),I i5 h/\∀ (a_:Int) (h:Heap),I a_ h->qm b_ d_ f_ a_ k (fun s h'=>I s h'/\μ s h' < μ a_ h) h
def lm (p0:Option Addr) (p1:Int) (k:KP Unit) (h:Heap):Prop :=
  ∃ a1,p0=some a1/\(∃ v2,af h a1=some (Slc.v v2)/\(∃ a3,v2.a=some a3/\(0:Int)<=p1/\p1 < (v2.len:Int)/\(∃ v4:Option Addr,af h (a3.add (p1.toNat * 2))=some (.pointer v4)/\(qM p0 p1 v4 1 k h))))
/-- (*quaestor quaestorlaw26.World).post -/
def kT (b_:Option Addr) (d_:Int) (f_:Slc) (g_:Slc) (a_:Int) (k:KP Unit) (nx1:KP Int) (h_2:Heap):Prop :=
  ∃ x7,x7=(IntKind.i64.wrap (a_ + 1))/\(nx1 x7 h_2)
def fP (f_:Option Addr) (d_:Int) (b_:Slc) (a_:Int) (g_:Bool) (k:KP Unit) (nx1:KP Int) (nx3:KP Int) (h_4:Heap):Prop :=
  if g_ then (∃ a17,f_=some a17/\(∃ v18,af h_4 (a17.add 1)=some (Slc.v v18)/\(∃ a19,b_.a=some a19/\(0:Int)<=a_/\a_ < (b_.len:Int)/\(∃ v20,af h_4 (a19.add (a_.toNat * 9))=some (.int .i64 v20)/\(∃ a21,b_.a=some a21/\(0:Int)<=a_/\a_ < (b_.len:Int)/\(∃ v22,aJ h_4 ((a21.add (a_.toNat * 9)).add 1) (ah.cs v22)/\(∃ b23 h24,b23=h_4.size/\h24=h_4.push (.cells ((ai.cs (⟨d_,v20,v22⟩:ai))).toArray 109)/\(af h24 (a17.add 1)=some (Slc.v v18)/\(App 109 10 112 [.int .i64 0,.int .i64 0,.int .i64 0,.int .u64 0,.int .u64 0,.int .u64 0,.int .u64 0,.bool false,.slice none 0 0,.slice none 0 0] h24 v18 1 ((ai.cs (⟨d_,v20,v22⟩:ai))) (fun s26 h27=>∃ h28,WrH h27 (a17.add 1)/\h28=setH h27 (a17.add 1) (Slc.v s26)/\(∃ x29,x29=(IntKind.i64.wrap (a_ + 1))/\(nx3 x29 h28)))))))))))) else (lm f_ d_ (fun r30 h31=>k () h31) h_4)
def qh (a_:Option Addr) (f_:Int) (b_:Slc) (d_:Int) (k:KP Unit) (nx1:KP Int) (nx3:KP Int) (h_3:Heap):Prop :=
  if (decide (d_ < (b_.len:Int))) then (∃ a32,a_=some a32/\(∃ v33,af h_3 (a32.add 1)=some (Slc.v v33)/\(fP a_ f_ b_ d_ (decide ((v33.len:Int) < 3000)) k nx1 nx3 h_3))) else (fP a_ f_ b_ d_ false k nx1 nx3 h_3)
def nI (b_:Option Addr) (d_:Int) (f_:Slc) (i8:Int) (k:KP Unit) (nx1:KP Int) (h:Heap):Prop :=
  ∃ (I:KP Int) (μ:Int->Heap->Nat),I i8 h/\∀ (a_:Int) (h:Heap),I a_ h->qh b_ d_ f_ a_ k nx1 (fun s h'=>I s h'/\μ s h' < μ a_ h) h
def qj (f_:Option Addr) (a_:Int) (g_:Slc) (d_:Slc) (b_:Int) (k:KP Unit) (nx1:KP Int) (h_1:Heap):Prop :=
  if (decide (b_ < (d_.len:Int))) then (∃ a8,f_=some a8/\(∃ v9,af h_1 a8=some (Slc.v v9)/\(∃ a10,v9.a=some a10/\(0:Int)<=a_/\a_ < (v9.len:Int)/\(∃ v11:Option Addr,af h_1 ((a10.add (a_.toNat * 2)).add 1)=some (.pointer v11)/\(∃ a12,d_.a=some a12/\(0:Int)<=b_/\b_ < (d_.len:Int)/\(∃ v13,aJ h_1 (a12.add (b_.toNat * 6)) (aj.cs v13)/\(l7 v11 v13 (fun r14 h15=>if (!r14) then (∃ h16,WrH h15 (a8.add 4)/\h16=setH h15 (a8.add 4) (.bool true)/\(kT f_ a_ g_ d_ b_ k nx1 h16)) else (kT f_ a_ g_ d_ b_ k nx1 h15)) h_1))))))) else (nI f_ a_ g_ 0 k nx1 h_1)
def qJ (b_:Option Addr) (d_:Int) (f_:Slc) (g_:Slc) (i7:Int) (k:KP Unit) (h:Heap):Prop :=
  ∃ (I:KP Int) (μ:Int->Heap->Nat),I i7 h/\∀ (a_:Int) (h:Heap),I a_ h->qj b_ d_ f_ g_ a_ k (fun s h'=>I s h'/\μ s h' < μ a_ h) h
def bF (p0:Option Addr) (p1:Int) (p2:Slc) (k:KP Unit) (h:Heap):Prop :=
  ∃ a1,p0=some a1/\(∃ v2,af h a1=some (Slc.v v2)/\(∃ a3,v2.a=some a3/\(0:Int)<=p1/\p1 < (v2.len:Int)/\(∃ v4:Option Addr,af h (a3.add (p1.toNat * 2))=some (.pointer v4)/\(nX v4 (fun r5 h6=>qJ p0 p1 p2 r5 0 k h6) h))))
/-- (*quaestor quaestorlaw26.World).take -/
def fU (b_:Option Addr) (a_:Addr) (k:KP Unit) (h_1:Heap):Prop :=
  ∃ v8,af h_1 (a_.add 1)=some (.int .i64 v8)/\(∃ a9,b_=some a9/\(∃ v10,af h_1 a9=some (Slc.v v10)/\(∃ v11,af h_1 (a_.add 1)=some (.int .i64 v11)/\(∃ a12,v10.a=some a12/\(0:Int)<=v11/\v11 < (v10.len:Int)/\(∃ v13:Option Addr,af h_1 (a12.add (v11.toNat * 2))=some (.pointer v13)/\(∃ v14,af h_1 a_=some (.int .i64 v14)/\(∃ v15,aJ h_1 (a_.add 2) (ah.cs v15)/\(oW v13 v14 v15 (fun r16 h17=>af h17 (a_.add 1)=some (.int .i64 v8)/\(bF b_ v8 r16 (fun r19 h20=>k () h20) h17)) h_1))))))))
def jf (p0:Option Addr) (p1:Int) (p2:Bool) (k:KP Unit) (h:Heap):Prop :=
  ∃ a1,p0=some a1/\(∃ v2,af h (a1.add 1)=some (Slc.v v2)/\(∃ a3,v2.a=some a3/\(0:Int)<=p1/\p1 < (v2.len:Int)/\(∃ v4,aJ h (a3.add (p1.toNat * 10)) (ai.cs v4)/\(∃ b5 h6,b5=h.size/\h6=h.push (.cells (ai.cs (⟨0,0,(⟨0,0,0,0,0,false,(⟨none,0,0⟩:Slc),(⟨none,0,0⟩:Slc)⟩:ah)⟩:ai)).toArray 109)/\(∃ h7,dE h6 (ad b5) 10/\h7=aU h6 (ad b5) 0 (ai.cs v4)/\(if (!p2) then (∃ v21,af h7 (a1.add 1)=some (Slc.v v21)/\(∃ s22,(0:Int)<=0/\(0:Int)<=p1/\(p1:Int)<=(v21.cap:Int)/\(v21.cap:Int)<=(v21.cap:Int)/\s22=dS v21 10 (0:Int).toNat p1.toNat (v21.cap:Int).toNat/\(∃ v23,af h7 (a1.add 1)=some (Slc.v v23)/\(∃ s24,(0:Int)<=(IntKind.i64.wrap (p1 + 1))/\((IntKind.i64.wrap (p1 + 1)):Int)<=(v23.len:Int)/\((v23.len:Int):Int)<=(v23.cap:Int)/\(v23.cap:Int)<=(v23.cap:Int)/\s24=dS v23 10 (IntKind.i64.wrap (p1 + 1)).toNat (v23.len:Int).toNat (v23.cap:Int).toNat/\(∃ b25 h26,b25=h7.size/\h26=h7.push (.cells ([]).toArray 109)/\(af h26 (a1.add 1)=some (Slc.v v23)/\af h26 (a1.add 1)=some (Slc.v v21)/\(∃ l31,SlcAt h26 s22 l31/\App 109 10 112 [.int .i64 0,.int .i64 0,.int .i64 0,.int .u64 0,.int .u64 0,.int .u64 0,.int .u64 0,.bool false,.slice none 0 0,.slice none 0 0] h26 (⟨some ⟨b25,0,none⟩,0,0⟩:Slc) s22.len l31 (fun s29 h30=>af h30 (a1.add 1)=some (Slc.v v23)/\(∃ l35,SlcAt h30 s24 l35/\App 109 10 112 [.int .i64 0,.int .i64 0,.int .i64 0,.int .u64 0,.int .u64 0,.int .u64 0,.int .u64 0,.bool false,.slice none 0 0,.slice none 0 0] h30 s29 s24.len l35 (fun s33 h34=>∃ h36,WrH h34 (a1.add 1)/\h36=setH h34 (a1.add 1) (Slc.v s33)/\(fU p0 (ad b5) k h36))))))))))) else (fU p0 (ad b5) k h7)))))))
/-- (*quaestor quaestorlaw26.World).again -/
def l8 (p0:Option Addr) (p1:Int) (k:KP Unit) (h:Heap):Prop :=
  ∃ a1,p0=some a1/\(∃ v2,af h a1=some (Slc.v v2)/\(∃ a3,v2.a=some a3/\(0:Int)<=p1/\p1 < (v2.len:Int)/\(∃ v4:Option Addr,af h ((a3.add (p1.toNat * 2)).add 1)=some (.pointer v4)/\(∃ v5,af h a1=some (Slc.v v5)/\(∃ v6,af h a1=some (Slc.v v6)/\(∃ a7,v4=some a7/\(∃ v8,af h a7=some (.int .u64 v8)/\(∃ v9,af h (a7.add 1)=some (.int .i64 v9)/\(∃ v10:Option Addr,af h (a7.add 2)=some (.pointer v10)/\(∃ a11,v10=some a11/\(∃ v12,af h a11=some (.int .u64 v12)/\(∃ v13:Option Addr,af h (a7.add 2)=some (.pointer v13)/\(∃ a14,v13=some a14/\(∃ v15,af h (a14.add 1)=some (.int .u64 v15)/\(∃ v16:Option Addr,af h (a7.add 2)=some (.pointer v16)/\(∃ a17,v16=some a17/\(∃ v18,af h (a17.add 2)=some (Slc.v v18)/\(∃ v19,af h (a7.add 3)=some (Slc.v v19)/\(rD v12 v15 v18 (fun r20 h21=>af h21 (a7.add 3)=some (Slc.v v19)/\af h21 (a7.add 1)=some (.int .i64 v9)/\af h21 a7=some (.int .u64 v8)/\af h21 a1=some (Slc.v v6)/\af h21 a1=some (Slc.v v5)/\(oL p1 (v6.len:Int) v8 v9 r20 v19 (fun r27 h28=>af h28 a1=some (Slc.v v5)/\(∃ a30,v5.a=some a30/\(0:Int)<=p1/\p1 < (v5.len:Int)/\(∃ h31,WrH h28 (a30.add (p1.toNat * 2))/\h31=setH h28 (a30.add (p1.toNat * 2)) (.pointer r27)/\(lm p0 p1 (fun r32 h33=>k () h33) h31)))) h21)) h)))))))))))))))))))
/-- (*quaestor quaestorlaw26.World).do -/
def kI (b_:Option Addr) (g_:Int) (a_:Int) (d_:Int) (f_:Int) (h_:Bool) (k:KP Unit) (h_1:Heap):Prop :=
  if h_ then (∃ a15,b_=some a15/\(∃ v16,af h_1 a15=some (Slc.v v16)/\(∃ a17,v16.a=some a17/\(0:Int)<=a_/\a_ < (v16.len:Int)/\(∃ v18:Option Addr,af h_1 (a17.add (a_.toNat * 2))=some (.pointer v18)/\(jm v18 (fun r19 h20=>bF b_ a_ r19 (fun r21 h22=>k () h22) h20) h_1))))) else (if (f_ == 2) then (∃ a23,b_=some a23/\(∃ v24,af h_1 a23=some (Slc.v v24)/\(∃ a25,v24.a=some a25/\(0:Int)<=a_/\a_ < (v24.len:Int)/\(∃ v26:Option Addr,af h_1 (a25.add (a_.toNat * 2))=some (.pointer v26)/\(∃ b27 h28,b27=h_1.size/\h28=h_1.push (.cells ([.int .u8 (IntKind.u8.wrap g_),.int .u8 7]).toArray 5)/\(fH v26 (⟨some ⟨b27,0,none⟩,2,2⟩:Slc) (fun r29 h30=>bF b_ a_ (⟨none,0,0⟩:Slc) (fun r31 h32=>k () h32) h30) h28)))))) else (if (f_ == 3) then (l8 b_ a_ (fun r33 h34=>k () h34) h_1) else (if (f_ == 4) then (∃ a35,b_=some a35/\(∃ v36,af h_1 a35=some (Slc.v v36)/\(∃ a37,v36.a=some a37/\(0:Int)<=a_/\a_ < (v36.len:Int)/\(∃ v38:Option Addr,af h_1 (a37.add (a_.toNat * 2))=some (.pointer v38)/\(∃ v39,af h_1 a35=some (Slc.v v39)/\(∃ a40,v39.a=some a40/\(0:Int)<=a_/\a_ < (v39.len:Int)/\(∃ v41:Option Addr,af h_1 (a40.add (a_.toNat * 2))=some (.pointer v41)/\(∃ v42,af h_1 a35=some (Slc.v v42)/\(∃ a43,v42.a=some a43/\(0:Int)<=a_/\a_ < (v42.len:Int)/\(∃ v44:Option Addr,af h_1 (a43.add (a_.toNat * 2))=some (.pointer v44)/\(dA v41 (fun r45 h46=>af h46 (a43.add (a_.toNat * 2))=some (.pointer v44)/\af h46 a35=some (Slc.v v42)/\af h46 (a37.add (a_.toNat * 2))=some (.pointer v38)/\af h46 a35=some (Slc.v v36)/\(dA v44 (fun r51 h52=>af h52 (a37.add (a_.toNat * 2))=some (.pointer v38)/\af h52 a35=some (Slc.v v36)/\(∃ b55 h56,b55=h52.size/\h56=h52.push (.cells ([.int .u8 (IntKind.u8.wrap r51)]).toArray 5)/\(af h56 (a37.add (a_.toNat * 2))=some (.pointer v38)/\af h56 a35=some (Slc.v v36)/\(qc v38 r45 (⟨some ⟨b55,0,none⟩,1,1⟩:Slc) (fun r59 h60=>bF b_ a_ (⟨none,0,0⟩:Slc) (fun r61 h62=>k () h62) h60) h56)))) h46)) h_1))))))))))) else (if (f_ == 5) then (∃ a63,b_=some a63/\(∃ v64,af h_1 (a63.add 1)=some (Slc.v v64)/\(if (decide ((v64.len:Int) > 0)) then (∃ v65,af h_1 (a63.add 1)=some (Slc.v v65)/\(∃ s66,(0:Int)<=0/\(0:Int)<=d_/\(d_:Int)<=(v65.cap:Int)/\(v65.cap:Int)<=(v65.cap:Int)/\s66=dS v65 10 (0:Int).toNat d_.toNat (v65.cap:Int).toNat/\(∃ v67,af h_1 (a63.add 1)=some (Slc.v v67)/\(∃ s68,(0:Int)<=(IntKind.i64.wrap (d_ + 1))/\((IntKind.i64.wrap (d_ + 1)):Int)<=(v67.len:Int)/\((v67.len:Int):Int)<=(v67.cap:Int)/\(v67.cap:Int)<=(v67.cap:Int)/\s68=dS v67 10 (IntKind.i64.wrap (d_ + 1)).toNat (v67.len:Int).toNat (v67.cap:Int).toNat/\(∃ b69 h70,b69=h_1.size/\h70=h_1.push (.cells ([]).toArray 109)/\(af h70 (a63.add 1)=some (Slc.v v67)/\af h70 (a63.add 1)=some (Slc.v v65)/\(∃ l75,SlcAt h70 s66 l75/\App 109 10 112 [.int .i64 0,.int .i64 0,.int .i64 0,.int .u64 0,.int .u64 0,.int .u64 0,.int .u64 0,.bool false,.slice none 0 0,.slice none 0 0] h70 (⟨some ⟨b69,0,none⟩,0,0⟩:Slc) s66.len l75 (fun s73 h74=>af h74 (a63.add 1)=some (Slc.v v67)/\(∃ l79,SlcAt h74 s68 l79/\App 109 10 112 [.int .i64 0,.int .i64 0,.int .i64 0,.int .u64 0,.int .u64 0,.int .u64 0,.int .u64 0,.bool false,.slice none 0 0,.slice none 0 0] h74 s73 s68.len l79 (fun s77 h78=>∃ h80,WrH h78 (a63.add 1)/\h80=setH h78 (a63.add 1) (Slc.v s77)/\(k () h80))))))))))) else (k () h_1)))) else (if (f_ == 6) then (∃ a81,b_=some a81/\(∃ v82,af h_1 (a81.add 1)=some (Slc.v v82)/\(if (decide ((v82.len:Int) > 0)) then (jf b_ d_ true (fun r83 h84=>k () h84) h_1) else (k () h_1)))) else (∃ a85,b_=some a85/\(∃ v86,af h_1 (a85.add 1)=some (Slc.v v86)/\(if (decide ((v86.len:Int) > 0)) then (jf b_ d_ false (fun r87 h88=>k () h88) h_1) else (k () h_1)))))))))
def pE (p0:Option Addr) (p1:S_quaestorlaw26_Act) (p2:Int) (k:KP Unit) (h:Heap):Prop :=
  ∃ b1 h2,b1=h.size/\h2=h.push (.cells (S_quaestorlaw26_Act.cs p1).toArray 52)/\(∃ v3,af h2 ((ad b1).add 1)=some (.int .i64 v3)/\(∃ a4,p0=some a4/\(∃ v5,af h2 a4=some (Slc.v v5)/\(mM v3 (v5.len:Int) (fun r6 h7=>∃ v8,af h7 ((ad b1).add 2)=some (.int .i64 v8)/\(∃ v9,af h7 (a4.add 1)=some (Slc.v v9)/\(mM v8 (v9.len:Int) (fun r10 h11=>∃ v12,af h11 (ad b1)=some (.int .i64 v12)/\(mM v12 12 (fun r13 h14=>if (r13 == 0) then (kI p0 p2 r6 r10 r13 (r13 == 0) k h14) else (kI p0 p2 r6 r10 r13 (r13 == 1) k h14)) h11)) h7))) h2))))
theorem yX:aB prog 19:=ck func19
theorem xQ (p0 k h) (H:rQ p0 k h):CallsH prog 19 #[.int .i64 p0] h (fun v h'=>∃ r:Option Addr,v = .pointer r/\k r h'):=by
 refine fE func19 fun w0=>?_
 refine zF [0] (zQ ?_)
 refine w1 Z (zE (zQ ?_))
 refine wY (cu Z rfl rfl rfl rfl rfl) ?_
 refine wX H fun b1 h2 H=>?_
 refine w1 Z (zE (zS (zQ ?_)))
 refine w1 Z (zE (zB ?_))
 obtain ⟨I1,μ1,H0,HI⟩:=H
 refine zO (σ:=Int) [0,3] (fun (s:Int)=>[(4,.int .i64 s)]) I1 μ1 0 H0 ?_
 rintro a_ h_1 H
 replace H:=HI a_ h_1 H
 refine zF [4,0,3] (zS (zQ ?_))
 refine w3 Z (zE ?_)
 refine zI H ?_ ?_ <;> intro H
 refine zK (zX ?_)
 refine zJ (α:=Unit) [0,3,4] (fun (s:Unit)=>[]) (fun (s:Unit) h=>kY p0 (ad b1) a_ k (fun s h'=>I1 s h'/\μ1 s h' < μ1 a_ h_1) h) ?_ ?_
 rintro _ h_2 H
 refine zF [0,3,4] (zR ?_)
 refine w2 Z ?_
 refine wQ Z H fun x3 H=>?_
 refine zW ?_
 exact xJ x3 H
 refine zB ?_
 refine gB [0,3,4] ?_
 refine gT 0 [3] Z ?_
 refine gT 1 [3] Z ?_
 refine gY 2 [13] rfl (fun _=>Ao rfl rfl) ?_
 refine gT 3 [14] Z ?_
 refine gl 4 [15] Z H fun v4 H=>?_
 refine gT 5 [4] Z ?_
 refine gT 6 [0] Z ?_
 refine gY 8 [] rfl (fun _=>cu Z rfl rfl rfl rfl rfl) ?_
 refine gO 7 9 H (fun H=>?_) (fun H=>?_)
 refine LH 7 [17,18] O13 (R13 _ _ _ _ _ _ _ _ H) fun r5 h6 H=>?_
 obtain ⟨hy7,H⟩:=H
 refine gR rfl (bH Z rfl rfl rfl rfl hy7) ?_
 refine gZ0 ?_
 obtain ⟨b8,h9,eb8,eh9,H⟩:=H
 refine gHr 9 [20] rfl (Bd rfl rfl eb8 eh9) ?_
 obtain ⟨hy10,H⟩:=H
 refine gR rfl (bH Z rfl rfl rfl rfl hy10) ?_
 refine gZ0 ?_
 refine gY 10 [21] rfl (fun _=>cu Z rfl rfl rfl rfl rfl) ?_
 obtain ⟨b11,h12,eb11,eh12,H⟩:=H
 refine gHr 11 [22] rfl (Bd rfl rfl eb11 eh12) ?_
 obtain ⟨hy13,H⟩:=H
 refine gR rfl (bH Z rfl rfl rfl rfl hy13) ?_
 refine gZ0 ?_
 refine gY 12 [19,23] rfl (fun _=>cu Z rfl rfl rfl rfl rfl) ?_
 obtain ⟨b14,h15,eb14,eh15,H⟩:=H
 refine gHr 13 [24] rfl (nV Z rfl rfl rfl rfl rfl rfl rfl eb14 eh15) ?_
 obtain ⟨hy16,H⟩:=H
 refine gR rfl (bH Z rfl rfl rfl rfl hy16) ?_
 refine gZ0 ?_
 refine gA 14 [16,25] rfl (lW (s:=v4) (r:=(⟨some ⟨b14,0,none⟩,1,1⟩:Slc)) Z rfl rfl rfl rfl rfl (fM eb14 eh15) H) ?_
 rintro _ h18 ⟨s17,rfl,H⟩
 refine gY 15 [12] rfl (fun _=>Ao rfl rfl) ?_
 refine gT 16 [27] Z ?_
 refine gs 17 [26,28] Z H fun h19 H=>?_
 refine gZ ?_
 refine yL ?_
 exact xJ () H
 obtain ⟨b20,h21,eb20,eh21,H⟩:=H
 refine Hu 9 [20] rfl (Bd rfl rfl eb20 eh21) ?_
 obtain ⟨hy22,H⟩:=H
 refine gR rfl (bH Z rfl rfl rfl rfl hy22) ?_
 refine gZ0 ?_
 refine gY 10 [21] rfl (fun _=>cu Z rfl rfl rfl rfl rfl) ?_
 refine gO 7 11 H (fun H=>?_) (fun H=>?_)
 refine LH 7 [17,18] O13 (R13 _ _ _ _ _ _ _ _ H) fun r23 h24 H=>?_
 obtain ⟨hy25,H⟩:=H
 refine gR rfl (bH Z rfl rfl rfl rfl hy25) ?_
 refine gZ0 ?_
 obtain ⟨b26,h27,eb26,eh27,H⟩:=H
 refine gHr 11 [22] rfl (Bd rfl rfl eb26 eh27) ?_
 obtain ⟨hy28,H⟩:=H
 refine gR rfl (bH Z rfl rfl rfl rfl hy28) ?_
 refine gZ0 ?_
 refine gY 12 [19,23] rfl (fun _=>cu Z rfl rfl rfl rfl rfl) ?_
 obtain ⟨b29,h30,eb29,eh30,H⟩:=H
 refine gHr 13 [24] rfl (nV Z rfl rfl rfl rfl rfl rfl rfl eb29 eh30) ?_
 obtain ⟨hy31,H⟩:=H
 refine gR rfl (bH Z rfl rfl rfl rfl hy31) ?_
 refine gZ0 ?_
 refine gA 14 [16,25] rfl (lW (s:=v4) (r:=(⟨some ⟨b29,0,none⟩,1,1⟩:Slc)) Z rfl rfl rfl rfl rfl (fM eb29 eh30) H) ?_
 rintro _ h33 ⟨s32,rfl,H⟩
 refine gY 15 [12] rfl (fun _=>Ao rfl rfl) ?_
 refine gT 16 [27] Z ?_
 refine gs 17 [26,28] Z H fun h34 H=>?_
 refine gZ ?_
 refine yL ?_
 exact xJ () H
 obtain ⟨b35,h36,eb35,eh36,H⟩:=H
 refine Hu 11 [22] rfl (Bd rfl rfl eb35 eh36) ?_
 obtain ⟨hy37,H⟩:=H
 refine gR rfl (bH Z rfl rfl rfl rfl hy37) ?_
 refine gZ0 ?_
 refine gCr 7 [17,18] O13 (R13 _ _ _ _ _ _ _ _ H) fun r38 h39 H=>?_
 obtain ⟨hy40,H⟩:=H
 refine gR rfl (bH Z rfl rfl rfl rfl hy40) ?_
 refine gZ0 ?_
 refine gY 12 [19,23] rfl (fun _=>cu Z rfl rfl rfl rfl rfl) ?_
 obtain ⟨b41,h42,eb41,eh42,H⟩:=H
 refine gHr 13 [24] rfl (nV Z rfl rfl rfl rfl rfl rfl rfl eb41 eh42) ?_
 obtain ⟨hy43,H⟩:=H
 refine gR rfl (bH Z rfl rfl rfl rfl hy43) ?_
 refine gZ0 ?_
 refine gA 14 [16,25] rfl (lW (s:=v4) (r:=(⟨some ⟨b41,0,none⟩,1,1⟩:Slc)) Z rfl rfl rfl rfl rfl (fM eb41 eh42) H) ?_
 rintro _ h45 ⟨s44,rfl,H⟩
 refine gY 15 [12] rfl (fun _=>Ao rfl rfl) ?_
 refine gT 16 [27] Z ?_
 refine gs 17 [26,28] Z H fun h46 H=>?_
 refine gZ ?_
 refine yL ?_
 exact xJ () H
 refine zY (yE (yE (yH (zX (zQ (w2 Z (zE (zF [2] (zT ?_)))))))))
 exact aA _ rfl _ rfl ⟨(some (ad b1)),rfl,H⟩
theorem qH:aB prog 58:=ck func58
theorem qA (p0 p1 k h) (H:lm p0 p1 k h):CallsH prog 58 #[.pointer p0,.int .i64 p1] h (rU k):=by
 refine fE func58 fun w0=>?_
 refine zF [0,1] (zQ ?_)
 refine w1 Z ?_
 refine wN H fun a1 _ H=>?_
 refine w1 Z ?_
 refine wL Z H fun v2 H=>?_
 refine w1 Z ?_
 refine wD Z H fun a3 _ H=>?_
 refine w1 Z ?_
 refine wL Z H fun v4 H=>?_
 refine w1 Z (zE (zF [0,1,4] (zS (zQ ?_))))
 refine w1 Z (zE (zB ?_))
 obtain ⟨I1,μ1,H0,HI⟩:=H
 refine zO (σ:=Int) [0,1,4] (fun (s:Int)=>[(5,.int .u64 s)]) I1 μ1 1 H0 ?_
 rintro a_ h_1 H
 replace H:=HI a_ h_1 H
 refine zF [5,0,1,4] (zS (zQ ?_))
 refine w2 Z ?_
 refine wC O18 (R18 _ _ _ H) fun r5 h6 H=>?_
 refine w2 Z ?_
 refine vU 3 [0,1,4,5] [(24,.bool ((decide (a_<=r5)) && (decide (a_ < 300))))] ?_ ?_
 refine zE ?_
 refine zI H ?_ ?_ <;> intro H
 refine zK (zX ?_)
 refine zJ (α:=Unit) [0,1,4,5] (fun (s:Unit)=>[]) (fun (s:Unit) h=>dx p0 p1 v4 a_ k (fun s h'=>I1 s h'/\μ1 s h' < μ1 a_ h_1) h) ?_ ?_
 rintro _ h_2 H
 refine zF [0,1,4,5] (zR ?_)
 refine w2 Z ?_
 refine wQ Z H fun x7 H=>?_
 refine zW ?_
 exact xJ x7 H
 refine zB (zQ (w2 Z ?_))
 refine wC O25 (R25 _ _ _ _ H) fun r8 h9 H=>?_
 refine w3 Z ?_
 refine wB Z H fun b10 h11 H=>?_
 refine wTa Z H fun h12 H=>?_
 refine w1 Z (zE (zF [0,1,4,5,6,7] (zS (zQ ?_))))
 refine w2 Z (zE ?_)
 refine zI H ?_ ?_ <;> intro H
 refine zY (yE (yH ?_))
 exact xJ () H
 refine zK (zX (zS (zB ?_)))
 obtain ⟨I3,μ3,H0,HI⟩:=H
 refine zO (σ:=Unit) [0,1,4,5,6] (fun (s:Unit)=>[]) I3 μ3 () H0 ?_
 rintro _ h_3 H
 replace H:=HI  h_3 H
 refine zF [0,1,4,5,6] (zS (zQ ?_))
 refine w1 Z ?_
 refine wN H fun a13 ha13 H=>?_
 refine w1 Z ?_
 refine wL Z H fun v14 H=>?_
 refine w4 Z (zE (zF [0,1,4,5,6,42] ?_))
 refine zI H ?_ ?_ <;> intro H
 refine zK (zX (zB (zR (w2 Z ?_))))
 refine wY (au rfl rfl ha13) ?_
 refine w1 Z ?_
 refine wL Z H fun v15 H=>?_
 refine wY (cu Z rfl rfl rfl rfl rfl) ?_
 obtain ⟨b16,h17,eb16,eh17,H⟩:=H
 refine wH (nV Z rfl rfl rfl rfl rfl rfl rfl eb16 eh17) ?_
 refine wA (lW (s:=v15) (r:=(⟨some ⟨b16,0,none⟩,1,1⟩:Slc)) Z rfl rfl rfl rfl rfl (fM eb16 eh17) H) ?_
 rintro _ h19 ⟨s18,rfl,H⟩
 refine wY (au rfl rfl ha13) ?_
 refine w1 Z ?_
 refine wT Z H fun h20 H=>?_
 refine zL ?_
 exact xJ () H
 refine zY (yE (yE (yH (zX (zQ (w1 Z ?_))))))
 refine wY (au rfl rfl ha13) ?_
 refine w1 Z ?_
 refine wL Z H fun v21 H=>?_
 refine w2 Z ?_
 refine wD Z H fun a22 _ H=>?_
 refine wLa Z H fun v23 H=>?_
 refine wB Z H fun b24 h25 H=>?_
 refine wTa Z H fun h26 H=>?_
 refine zE (zF [0,1,4,5,6,8] (zQ ?_))
 refine w1 Z ?_
 refine wL Z H fun v27 H=>?_
 refine w1 Z (zE ?_)
 refine zI H ?_ ?_ <;> intro H
 refine gB [0,1,4,5,6] ?_
 refine gT 0 [0] Z ?_
 refine gY 1 [64] rfl (fun _=>au rfl rfl ha13) ?_
 refine gT 2 [65] Z ?_
 refine gl 3 [66] Z H fun v28 H=>?_
 refine gT 4 [5] Z ?_
 refine gT 5 [68] Z ?_
 refine gla 6 [6] Z H fun v29 H=>?_
 refine gd 7 [67,69] Z H fun a30 H=>?_
 obtain ⟨h31,wh31,eh31,H⟩:=H
 refine gH 8 [70,71] rfl (Dl Z rfl rfl rfl rfl rfl (uu (by kernel_rfl)) wh31 eh31) ?_
 refine gZ ?_
 refine yL ?_
 exact xJ () H
 refine zQ (w1 Z ?_)
 refine wL Z H fun v32 H=>?_
 refine w1 Z ?_
 refine wL Z H fun v33 H=>?_
 refine w2 Z ?_
 refine vJ 7 (α:=Bool) [0,1,4,5] (fun (s:Bool)=>[(84,.bool s)]) (fun (s:Bool) h=>kU p0 p1 v4 a_ s k (fun s h'=>I1 s h'/\μ1 s h' < μ1 a_ h_1) (fun s h'=>I3 s h'/\μ3 s h' < μ3 () h_3) h) ?_ ?_
 rintro b_ h_4 H
 refine vF [84,0,1,4,5] (zE ?_)
 refine zI H ?_ ?_ <;> intro H
 refine zR (w1 Z ?_)
 refine wN H fun a34 _ H=>?_
 refine w1 Z ?_
 refine wT Z H fun h35 H=>?_
 refine zL ?_
 exact xJ () H
 refine zK (yL ?_)
 exact xJ () H
 refine vI 77 H ?_ ?_ <;> intro H
 refine wS (wS (wS (wS (wS (wS (w1 Z ?_))))))
 exact wJ true H
 refine w1 Z ?_
 refine wL Z H fun v36 H=>?_
 refine w1 Z ?_
 refine wL Z H fun v37 H=>?_
 refine wC O11 (R11 _ _ _ _ H) fun r38 h39 H=>?_
 refine w2 Z ?_
 exact wJ (!r38) H
 refine zY (yE (yE (yH (zX (zQ (w1 Z ?_))))))
 refine wC O22 (R22 _ _ _ H) fun r40 h41 H=>?_
 refine w1 Z ?_
 refine vJ 4 (α:=Bool) [0,1,4] (fun (s:Bool)=>[(94,.bool s)]) (fun (s:Bool) h=>iT p0 p1 v4 s k (fun s h'=>I1 s h'/\μ1 s h' < μ1 a_ h_1) h) ?_ ?_
 rintro d_ h_5 H
 refine vF [94,0,1,4] (zE ?_)
 refine zI H ?_ ?_ <;> intro H
 refine zS (zB ?_)
 obtain ⟨I6,μ6,H0,HI⟩:=H
 refine zO (σ:=Unit) [0,1,4] (fun (s:Unit)=>[]) I6 μ6 () H0 ?_
 rintro _ h_6 H
 replace H:=HI  h_6 H
 refine zF [0,1,4] (zS (zS ?_))
 refine gB [0,1,4] ?_
 refine gT 0 [0] Z ?_
 obtain ⟨a42,ha42,H⟩:=H
 refine gY 1 [95] rfl (fun _=>au rfl rfl ha42) ?_
 refine gT 2 [96] Z ?_
 refine gl 3 [97] Z H fun v43 H=>?_
 refine gT 4 [98] Z ?_
 refine gT 5 [99] Z ?_
 refine gT 6 [4] Z ?_
 refine gCr 7 [101] O17 (R17 _ _ _ H) fun r44 h45 H=>?_
 obtain ⟨hy46,H⟩:=H
 refine gR rfl (bH Z rfl rfl rfl rfl hy46) ?_
 refine gZ0 ?_
 refine gT 8 [100,102] Z ?_
 refine gZ ?_
 refine zX (zF [0,1,4,103] ?_)
 refine zI H ?_ ?_ <;> intro H
 refine zK (zX (zB (zR (w2 Z ?_))))
 refine wY (au rfl rfl ha42) ?_
 refine w1 Z ?_
 refine wL Z H fun v47 H=>?_
 obtain ⟨b48,h49,eb48,eh49,H⟩:=H
 refine wH (nV Z rfl rfl rfl rfl rfl rfl rfl eb48 eh49) ?_
 refine wA (lW (s:=v47) (r:=(⟨some ⟨b48,0,none⟩,1,1⟩:Slc)) Z rfl rfl rfl rfl rfl (fM eb48 eh49) H) ?_
 rintro _ h51 ⟨s50,rfl,H⟩
 refine wY (au rfl rfl ha42) ?_
 refine w1 Z ?_
 refine wT Z H fun h52 H=>?_
 refine zL ?_
 exact xJ () H
 refine zY (yE (yE (yH (zX ?_))))
 refine zJ (α:=Unit) [0,1,4] (fun (s:Unit)=>[]) (fun (s:Unit) h=>iU p0 p1 v4 k (fun s h'=>I1 s h'/\μ1 s h' < μ1 a_ h_1) (fun s h'=>I6 s h'/\μ6 s h' < μ6 () h_6) h) ?_ ?_
 rintro _ h_7 H
 refine zF [0,1,4] ?_
 refine gB [0,1,4] ?_
 refine gT 0 [0] Z ?_
 obtain ⟨a53,ha53,H⟩:=H
 refine gY 1 [137] rfl (fun _=>au rfl rfl ha53) ?_
 refine gT 2 [138] Z ?_
 refine gl 3 [139] Z H fun v54 H=>?_
 refine gT 4 [4] Z ?_
 refine gT 6 [1] Z ?_
 refine gCr 5 [141] O17 (R17 _ _ _ H) fun r55 h56 H=>?_
 obtain ⟨hy57,H⟩:=H
 refine gR rfl (bH Z rfl rfl rfl rfl hy57) ?_
 refine gZ0 ?_
 refine gd 7 [140,142] Z H fun a58 H=>?_
 refine gs 8 [143,144] Z H fun h59 H=>?_
 refine gZ ?_
 exact kW _ rfl _ rfl ⟨(),rfl,H⟩
 refine zJ (α:=Bool) [0,1,4] (fun (s:Bool)=>[(133,.bool s)]) (fun (s:Bool) h=>iV p0 p1 v4 s k (fun s h'=>I1 s h'/\μ1 s h' < μ1 a_ h_1) (fun s h'=>I6 s h'/\μ6 s h' < μ6 () h_6) h) ?_ ?_
 rintro f_ h_8 H
 refine zF [133,0,1,4] ?_
 refine zI H ?_ ?_ <;> intro H
 refine zR (w1 Z ?_)
 refine wN H fun a60 _ H=>?_
 refine w1 Z ?_
 refine wT Z H fun h61 H=>?_
 refine zW ?_
 exact xJ () H
 refine zK ?_
 exact xJ () H
 refine gB [0,1,4] ?_
 refine gT 0 [0] Z ?_
 refine gY 1 [113] rfl (fun _=>au rfl rfl ha42) ?_
 refine gT 2 [114] Z ?_
 refine gl 3 [115] Z H fun v62 H=>?_
 refine gT 4 [4] Z ?_
 refine gCr 5 [117] O17 (R17 _ _ _ H) fun r63 h64 H=>?_
 obtain ⟨hy65,H⟩:=H
 refine gR rfl (bH Z rfl rfl rfl rfl hy65) ?_
 refine gZ0 ?_
 refine gd 6 [116,118] Z H fun a66 H=>?_
 refine gl 7 [119] Z H fun v67 H=>?_
 refine gT 8 [120] Z ?_
 refine gT 9 [121] Z ?_
 refine gI 122 H (fun hb H=>?_) (fun hb H=>?_)
 refine gT 10 [0,122] Z ?_
 refine gY 11 [122,123] rfl (fun _=>au rfl rfl ha42) ?_
 refine gT 12 [122,124] Z ?_
 refine gl 13 [122,125] Z H fun v68 H=>?_
 refine gT 14 [4,122] Z ?_
 refine gT 18 [1,122] Z ?_
 refine gCr 15 [122,127] O17 (R17 _ _ _ H) fun r69 h70 H=>?_
 obtain ⟨hy71,H⟩:=H
 refine gR rfl (bH Z rfl rfl rfl rfl hy71) ?_
 refine gZ0 ?_
 refine gd 16 [122,126,128] Z H fun a72 H=>?_
 refine gl 17 [122,129] Z H fun v73 H=>?_
 refine gT 19 [122,130,131] Z ?_
 refine gT 20 [122,132] Z ?_
 refine gZ ?_
 exact xJ (v73 != p1) H
 refine gS 10 [0,122] ?_
 refine gS 11 [122,123] ?_
 refine gS 12 [122,124] ?_
 refine gS 13 [122,125] ?_
 refine gS 14 [4,122] ?_
 refine gS 15 [122,127] ?_
 refine gS 16 [122,126,128] ?_
 refine gS 17 [122,129] ?_
 refine gS 18 [1,122] ?_
 refine gS 19 [122,130,131] ?_
 refine gT 20 [122,132] Z ?_
 refine gZ ?_
 exact xJ false H
 refine zK ?_
 exact kW _ rfl _ rfl ⟨(),rfl,H⟩
 refine vI 90 H ?_ ?_ <;> intro H
 refine w1 Z ?_
 refine wC O17 (R17 _ _ _ H) fun r74 h75 H=>?_
 refine w2 Z ?_
 exact wJ (decide (r74 < 300)) H
 refine wS (wS (wS (w1 Z ?_)))
 exact wJ false H
 refine vG (d:=21) (fun hb=>?_) (fun hb=>?_)
 refine w3 Z ?_
 refine vK ?_
 exact congrArg (fun b=>some (Value.bool b)) (rq hb)
 refine wS (wS (w1 Z ?_))
 refine vK ?_
 exact congrArg (fun b=>some (Value.bool b)) (rF hb)
theorem fV:aB prog 21:=ck func21
theorem eU (p0 p1 p2 k h) (H:bF p0 p1 p2 k h):CallsH prog 21 #[.pointer p0,.int .i64 p1,Slc.v p2] h (rU k):=by
 refine fE func21 fun w0=>?_
 refine zF [0,1,2] (zQ ?_)
 refine w1 Z ?_
 refine wN H fun a1 _ H=>?_
 refine w1 Z ?_
 refine wL Z H fun v2 H=>?_
 refine w1 Z ?_
 refine wD Z H fun a3 _ H=>?_
 refine w1 Z ?_
 refine wL Z H fun v4 H=>?_
 refine wC O56 (R56 _ _ _ H) fun r5 h6 H=>?_
 refine w1 Z (zE (zF [0,1,2,6] (zS (zQ ?_))))
 refine w1 Z (zE (zB ?_))
 obtain ⟨I1,μ1,H0,HI⟩:=H
 refine zO (σ:=Int) [0,1,2,6] (fun (s:Int)=>[(7,.int .i64 s)]) I1 μ1 0 H0 ?_
 rintro a_ h_1 H
 replace H:=HI a_ h_1 H
 refine zF [7,0,1,2,6] (zS (zQ ?_))
 refine w4 Z (zE ?_)
 refine zI H ?_ ?_ <;> intro H
 refine zK (zX ?_)
 refine zJ (α:=Unit) [0,1,2,6,7] (fun (s:Unit)=>[]) (fun (s:Unit) h=>kT p0 p1 p2 r5 a_ k (fun s h'=>I1 s h'/\μ1 s h' < μ1 a_ h_1) h) ?_ ?_
 rintro _ h_2 H
 refine zF [0,1,2,6,7] (zR ?_)
 refine w2 Z ?_
 refine wQ Z H fun x7 H=>?_
 refine zW ?_
 exact xJ x7 H
 refine zB (zS ?_)
 refine gB [0,1,2,6,7] ?_
 refine gT 0 [0] Z ?_
 obtain ⟨a8,ha8,H⟩:=H
 refine gY 1 [24] rfl (fun _=>au rfl rfl ha8) ?_
 refine gT 2 [25] Z ?_
 refine gl 3 [26] Z H fun v9 H=>?_
 refine gT 4 [1] Z ?_
 refine gd 5 [27,28] Z H fun a10 H=>?_
 refine gT 6 [29] Z ?_
 refine gl 7 [30] Z H fun v11 H=>?_
 refine gT 8 [6] Z ?_
 refine gT 9 [7] Z ?_
 refine gd 10 [32,33] Z H fun a12 H=>?_
 refine gla 11 [34] Z H fun v13 H=>?_
 refine gC 12 [31,35] O57 (R57 _ _ _ _ H) fun r14 h15 H=>?_
 refine gT 13 [36] Z ?_
 refine gZ ?_
 refine zX (zF [0,1,2,6,7,37] ?_)
 refine zI H ?_ ?_ <;> intro H
 refine zR (w1 Z ?_)
 refine wY (au rfl rfl ha8) ?_
 refine w1 Z ?_
 refine wT Z H fun h16 H=>?_
 refine zL ?_
 exact xJ () H
 refine zK (yL ?_)
 exact xJ () H
 refine zY (yE (yE (yH (zX (zS (zQ (w1 Z (zE (zB ?_)))))))))
 obtain ⟨I3,μ3,H0,HI⟩:=H
 refine zO (σ:=Int) [0,1,2] (fun (s:Int)=>[(8,.int .i64 s)]) I3 μ3 0 H0 ?_
 rintro b_ h_3 H
 replace H:=HI b_ h_3 H
 refine zF [8,0,1,2] (zS (zQ ?_))
 refine w5 Z ?_
 refine vJ 7 (α:=Bool) [0,1,2,8] (fun (s:Bool)=>[(52,.bool s)]) (fun (s:Bool) h=>fP p0 p1 p2 b_ s k (fun s h'=>I1 s h'/\μ1 s h' < μ1 a_ h_1) (fun s h'=>I3 s h'/\μ3 s h' < μ3 b_ h_3) h) ?_ ?_
 rintro d_ h_4 H
 refine vF [52,0,1,2,8] (zE ?_)
 refine zI H ?_ ?_ <;> intro H
 refine zK (zX (zS (zB ?_)))
 refine gB [0,1,2,8] ?_
 refine gT 0 [0] Z ?_
 refine gT 1 [0] Z ?_
 obtain ⟨a17,ha17,H⟩:=H
 refine gY 2 [56] rfl (fun _=>au rfl rfl ha17) ?_
 refine gT 3 [57] Z ?_
 refine gl 4 [58] Z H fun v18 H=>?_
 refine gT 5 [1] Z ?_
 refine gT 6 [2] Z ?_
 refine gT 7 [8] Z ?_
 refine gd 8 [61,62] Z H fun a19 H=>?_
 refine gT 9 [63] Z ?_
 refine gl 10 [64] Z H fun v20 H=>?_
 refine gT 11 [2] Z ?_
 refine gT 12 [8] Z ?_
 refine gd 13 [66,67] Z H fun a21 H=>?_
 refine gT 14 [68] Z ?_
 refine gla 15 [69] Z H fun v22 H=>?_
 refine gY 16 [60,65,70] rfl (fun _=>cu Z rfl rfl rfl rfl rfl) ?_
 obtain ⟨b23,h24,eb23,eh24,H⟩:=H
 refine gHr 17 [71] rfl (nV Z rfl rfl rfl rfl rfl rfl rfl eb23 eh24) ?_
 obtain ⟨hy25,H⟩:=H
 refine gR rfl (bH Z rfl rfl rfl rfl hy25) ?_
 refine gZ0 ?_
 refine gA 18 [59,72] rfl (lW (s:=v18) (r:=(⟨some ⟨b23,0,none⟩,1,1⟩:Slc)) Z rfl rfl rfl rfl rfl (fM eb23 eh24) H) ?_
 rintro _ h27 ⟨s26,rfl,H⟩
 refine gY 19 [55] rfl (fun _=>au rfl rfl ha17) ?_
 refine gT 20 [74] Z ?_
 refine gs 21 [73,75] Z H fun h28 H=>?_
 refine gZ ?_
 refine yL (zX (zF [0,1,2,8] (zR ?_)))
 refine w2 Z ?_
 refine wQ Z H fun x29 H=>?_
 refine zW ?_
 exact xJ x29 H
 refine zY (yE (yE (yH (zX (zR (w2 Z ?_))))))
 refine wC qH (qA _ _ _ _ H) fun r30 h31 H=>?_
 refine zW ?_
 exact kW _ rfl _ rfl ⟨(),rfl,H⟩
 refine vI 45 H ?_ ?_ <;> intro H
 refine w1 Z ?_
 refine wN H fun a32 _ H=>?_
 refine w1 Z ?_
 refine wL Z H fun v33 H=>?_
 refine w3 Z ?_
 exact wJ (decide ((v33.len:Int) < 3000)) H
 refine wS (wS (wS (wS (wS (wS (w1 Z ?_))))))
 exact wJ false H
theorem nJ:aB prog 24:=ck func24
theorem mV (p0 p1 p2 k h) (H:jf p0 p1 p2 k h):CallsH prog 24 #[.pointer p0,.int .i64 p1,.bool p2] h (rU k):=by
 refine fE func24 fun w0=>?_
 refine zF [0,1,2] (zQ ?_)
 refine w1 Z ?_
 refine wN H fun a1 ha1 H=>?_
 refine w1 Z ?_
 refine wL Z H fun v2 H=>?_
 refine w1 Z ?_
 refine wD Z H fun a3 _ H=>?_
 refine wLa Z H fun v4 H=>?_
 refine wB Z H fun b5 h6 H=>?_
 refine wTa Z H fun h7 H=>?_
 refine zE (zF [0,1,2,6] ?_)
 refine zJ (α:=Unit) [0,6] (fun (s:Unit)=>[]) (fun (s:Unit) h=>fU p0 (ad b5) k h) ?_ ?_
 rintro _ h_1 H
 refine zF [0,6] ?_
 refine gB [0,6] ?_
 refine gT 0 [0] Z ?_
 refine gT 1 [6] Z ?_
 refine gl 2 [36] Z H fun v8 H=>?_
 refine gT 3 [0] Z ?_
 obtain ⟨a9,ha9,H⟩:=H
 refine gY 4 [38] rfl (fun _=>au rfl rfl ha9) ?_
 refine gT 5 [39] Z ?_
 refine gl 6 [40] Z H fun v10 H=>?_
 refine gT 7 [6] Z ?_
 refine gl 8 [42] Z H fun v11 H=>?_
 refine gd 9 [41,43] Z H fun a12 H=>?_
 refine gT 10 [44] Z ?_
 refine gl 11 [45] Z H fun v13 H=>?_
 refine gT 12 [6] Z ?_
 refine gl 13 [47] Z H fun v14 H=>?_
 refine gT 14 [6] Z ?_
 refine gla 15 [49] Z H fun v15 H=>?_
 refine gCr 16 [46,48,50] O15 (R15 _ _ _ _ _ H) fun r16 h17 H=>?_
 obtain ⟨hy18,H⟩:=H
 refine gR rfl (bH Z rfl rfl rfl rfl hy18) ?_
 refine gZ0 ?_
 refine gC 17 [35,37,51] fV (eU _ _ _ _ _ H) fun r19 h20 H=>?_
 refine gZ ?_
 exact kW _ rfl _ rfl ⟨(),rfl,H⟩
 refine zQ (w2 Z (zE ?_))
 refine zI H ?_ ?_ <;> intro H
 refine gB [0,1,6] ?_
 refine gT 0 [0] Z ?_
 refine gT 2 [0] Z ?_
 refine gY 3 [18] rfl (fun _=>au rfl rfl ha1) ?_
 refine gT 4 [19] Z ?_
 refine gl 5 [20] Z H fun v21 H=>?_
 refine gT 6 [1] Z ?_
 obtain ⟨s22,ps22,qs22,rs22,ts22,es22,H⟩:=H
 refine gYe 7 [21,22] rfl (fun _=>xm (s:=v21) (L:=0) (H:=p1) (M:=(v21.cap:Int)) Z rfl rfl rfl rfl rfl rfl rfl (by simp) ps22 qs22 rs22 ts22) (congrArg Slc.v es22) ?_
 refine gT 9 [0] Z ?_
 refine gY 10 [25] rfl (fun _=>au rfl rfl ha1) ?_
 refine gT 11 [26] Z ?_
 refine gl 12 [27] Z H fun v23 H=>?_
 refine gT 13 [1] Z ?_
 refine gT 14 [29] Z ?_
 obtain ⟨s24,ps24,qs24,rs24,ts24,es24,H⟩:=H
 refine gYe 15 [28,30] rfl (fun _=>xm (s:=v23) (L:=(IntKind.i64.wrap (p1 + 1))) (H:=(v23.len:Int)) (M:=(v23.cap:Int)) Z rfl rfl rfl rfl rfl rfl rfl (by simp) ps24 qs24 rs24 ts24) (congrArg Slc.v es24) ?_
 obtain ⟨b25,h26,eb25,eh26,H⟩:=H
 refine gHr 1 [] rfl (nV Z rfl rfl rfl rfl rfl rfl rfl eb25 eh26) ?_
 obtain ⟨hy27,hy28,H⟩:=H
 refine gR rfl (bH Z rfl rfl rfl rfl hy27) ?_
 refine gR rfl (bH Z rfl rfl rfl rfl hy28) ?_
 refine gZ0 ?_
 obtain ⟨l31,hl31,H⟩:=H
 refine gAr 8 [17,23] rfl (lW (s:=(⟨some ⟨b25,0,none⟩,0,0⟩:Slc)) (r:=s22) Z rfl rfl rfl rfl rfl hl31 H) ?_
 rintro _ h30 ⟨s29,rfl,H⟩
 obtain ⟨hy32,H⟩:=H
 refine gR rfl (bH Z rfl rfl rfl rfl hy32) ?_
 refine gZ0 ?_
 obtain ⟨l35,hl35,H⟩:=H
 refine gA 16 [24,31] rfl (lW (s:=s29) (r:=s24) Z rfl rfl rfl rfl rfl hl35 H) ?_
 rintro _ h34 ⟨s33,rfl,H⟩
 refine gY 17 [16] rfl (fun _=>au rfl rfl ha1) ?_
 refine gT 18 [33] Z ?_
 refine gs 19 [32,34] Z H fun h36 H=>?_
 refine gZ ?_
 exact xJ () H
 refine zK ?_
 exact xJ () H
theorem uG:aB prog 54:=ck func54
theorem uk (p0 p1 k h) (H:l8 p0 p1 k h):CallsH prog 54 #[.pointer p0,.int .i64 p1] h (rU k):=by
 refine fE func54 fun w0=>?_
 refine zF [0,1] (zQ ?_)
 refine w1 Z ?_
 refine wN H fun a1 ha1 H=>?_
 refine w1 Z ?_
 refine wL Z H fun v2 H=>?_
 refine w1 Z ?_
 refine wD Z H fun a3 _ H=>?_
 refine w1 Z ?_
 refine wL Z H fun v4 H=>?_
 refine w1 Z (zE (zF [0,1,4] (zS ?_)))
 refine gB [0,1,4] ?_
 refine gT 0 [0] Z ?_
 refine gY 1 [13] rfl (fun _=>au rfl rfl ha1) ?_
 refine gT 2 [14] Z ?_
 refine gl 3 [15] Z H fun v5 H=>?_
 refine gT 4 [1] Z ?_
 refine gT 5 [1] Z ?_
 refine gT 6 [0] Z ?_
 refine gY 7 [19] rfl (fun _=>au rfl rfl ha1) ?_
 refine gT 8 [20] Z ?_
 refine gl 9 [21] Z H fun v6 H=>?_
 refine gT 10 [22] Z ?_
 refine gT 11 [4] Z ?_
 obtain ⟨a7,ha7,H⟩:=H
 refine gY 12 [24] rfl (fun _=>au rfl rfl ha7) ?_
 refine gT 13 [25] Z ?_
 refine gl 14 [26] Z H fun v8 H=>?_
 refine gT 15 [4] Z ?_
 refine gY 16 [28] rfl (fun _=>au rfl rfl ha7) ?_
 refine gT 17 [29] Z ?_
 refine gl 18 [30] Z H fun v9 H=>?_
 refine gT 19 [4] Z ?_
 refine gY 20 [32] rfl (fun _=>au rfl rfl ha7) ?_
 refine gT 21 [33] Z ?_
 refine gl 22 [34] Z H fun v10 H=>?_
 obtain ⟨a11,ha11,H⟩:=H
 refine gY 23 [35] rfl (fun _=>au rfl rfl ha11) ?_
 refine gT 24 [36] Z ?_
 refine gl 25 [37] Z H fun v12 H=>?_
 refine gT 26 [4] Z ?_
 refine gY 27 [39] rfl (fun _=>au rfl rfl ha7) ?_
 refine gT 28 [40] Z ?_
 refine gl 29 [41] Z H fun v13 H=>?_
 obtain ⟨a14,ha14,H⟩:=H
 refine gY 30 [42] rfl (fun _=>au rfl rfl ha14) ?_
 refine gT 31 [43] Z ?_
 refine gl 32 [44] Z H fun v15 H=>?_
 refine gT 33 [4] Z ?_
 refine gY 34 [46] rfl (fun _=>au rfl rfl ha7) ?_
 refine gT 35 [47] Z ?_
 refine gl 36 [48] Z H fun v16 H=>?_
 obtain ⟨a17,ha17,H⟩:=H
 refine gY 37 [49] rfl (fun _=>au rfl rfl ha17) ?_
 refine gT 38 [50] Z ?_
 refine gl 39 [51] Z H fun v18 H=>?_
 refine gT 41 [4] Z ?_
 refine gY 42 [54] rfl (fun _=>au rfl rfl ha7) ?_
 refine gT 43 [55] Z ?_
 refine gl 44 [56] Z H fun v19 H=>?_
 refine gCr 40 [38,45,52] O39 (R39 _ _ _ _ _ H) fun r20 h21 H=>?_
 obtain ⟨hy22,hy23,hy24,hy25,hy26,H⟩:=H
 refine gR rfl (bH Z rfl rfl rfl rfl hy22) ?_
 refine gR rfl (bH Z rfl rfl rfl rfl hy23) ?_
 refine gR rfl (bH Z rfl rfl rfl rfl hy24) ?_
 refine gR rfl (bH Z rfl rfl rfl rfl hy25) ?_
 refine gR rfl (bH Z rfl rfl rfl rfl hy26) ?_
 refine gZ0 ?_
 refine gCr 45 [18,23,27,31,53,57] O13 (R13 _ _ _ _ _ _ _ _ H) fun r27 h28 H=>?_
 obtain ⟨hy29,H⟩:=H
 refine gR rfl (bH Z rfl rfl rfl rfl hy29) ?_
 refine gZ0 ?_
 refine gd 46 [16,17] Z H fun a30 H=>?_
 refine gT 47 [59] Z ?_
 refine gs 48 [58,60] Z H fun h31 H=>?_
 refine gZ ?_
 refine zX (zF [0,1] (zR ?_))
 refine w2 Z ?_
 refine wC qH (qA _ _ _ _ H) fun r32 h33 H=>?_
 refine zW ?_
 exact kW _ rfl _ rfl ⟨(),rfl,H⟩
theorem wo:aB prog 20:=ck func20
theorem vL (p0 p1 p2 k h) (H:pE p0 p1 p2 k h):CallsH prog 20 #[.pointer p0,.agg (S_quaestorlaw26_Act.cs p1).toArray,.int .i64 p2] h (rU k):=by
 refine fE func20 fun w0=>?_
 refine zF [0,1,2] (zQ ?_)
 refine wX H fun b1 h2 H=>?_
 refine zE (zS ?_)
 refine gB [0,2,4] ?_
 refine gT 0 [4] Z ?_
 refine gl 1 [8] Z H fun v3 H=>?_
 refine gT 2 [0] Z ?_
 obtain ⟨a4,ha4,H⟩:=H
 refine gY 3 [10] rfl (fun _=>au rfl rfl ha4) ?_
 refine gT 4 [11] Z ?_
 refine gl 5 [12] Z H fun v5 H=>?_
 refine gT 6 [13] Z ?_
 refine gC 7 [9,14] O53 (R53 _ _ _ _ H) fun r6 h7 H=>?_
 refine gT 8 [15] Z ?_
 refine gZ ?_
 refine zX (zF [0,2,4,6] (zS ?_))
 refine gB [0,2,4,6] ?_
 refine gT 0 [4] Z ?_
 refine gl 1 [16] Z H fun v8 H=>?_
 refine gT 2 [0] Z ?_
 refine gY 3 [18] rfl (fun _=>au rfl rfl ha4) ?_
 refine gT 4 [19] Z ?_
 refine gl 5 [20] Z H fun v9 H=>?_
 refine gT 6 [21] Z ?_
 refine gC 7 [17,22] O53 (R53 _ _ _ _ H) fun r10 h11 H=>?_
 refine gT 8 [23] Z ?_
 refine gZ ?_
 refine zX (zF [0,2,4,6,7] (zQ ?_))
 refine w1 Z ?_
 refine wL Z H fun v12 H=>?_
 refine wC O53 (R53 _ _ _ _ H) fun r13 h14 H=>?_
 refine zE (zB ?_)
 refine zJ (α:=Bool) [0,2,6,7,26] (fun (s:Bool)=>[(36,.bool s)]) (fun (s:Bool) h=>kI p0 p2 r6 r10 r13 s k h) ?_ ?_
 rintro a_ h_1 H
 refine zF [36,0,2,6,7,26] ?_
 refine zI H ?_ ?_ <;> intro H
 refine zR (w3 Z ?_)
 refine wN H fun a15 _ H=>?_
 refine w1 Z ?_
 refine wL Z H fun v16 H=>?_
 refine w1 Z ?_
 refine wD Z H fun a17 _ H=>?_
 refine w1 Z ?_
 refine wL Z H fun v18 H=>?_
 refine wC O14 (R14 _ _ _ H) fun r19 h20 H=>?_
 refine wC fV (eU _ _ _ _ _ H) fun r21 h22 H=>?_
 refine zL ?_
 exact kW _ rfl _ rfl ⟨(),rfl,H⟩
 refine zQ (w2 Z (zE ?_))
 refine zI H ?_ ?_ <;> intro H
 refine zQ (w1 Z ?_)
 refine wN H fun a23 _ H=>?_
 refine w1 Z ?_
 refine wL Z H fun v24 H=>?_
 refine w1 Z ?_
 refine wD Z H fun a25 _ H=>?_
 refine w1 Z ?_
 refine wL Z H fun v26 H=>?_
 refine w2 Z ?_
 obtain ⟨b27,h28,eb27,eh28,H⟩:=H
 refine wH (nV Z rfl rfl rfl rfl rfl rfl rfl eb27 eh28) ?_
 refine wC O23 (R23 _ _ _ _ H) fun r29 h30 H=>?_
 refine zE (zF [0,6] (zR ?_))
 refine w2 Z ?_
 refine wC fV (eU _ _ _ _ _ H) fun r31 h32 H=>?_
 refine zL ?_
 exact kW _ rfl _ rfl ⟨(),rfl,H⟩
 refine zQ (w2 Z (zE ?_))
 refine zI H ?_ ?_ <;> intro H
 refine zR (w2 Z ?_)
 refine wC uG (uk _ _ _ _ H) fun r33 h34 H=>?_
 refine zL ?_
 exact kW _ rfl _ rfl ⟨(),rfl,H⟩
 refine zQ (w2 Z (zE (zF [0,6,7,26,73] ?_)))
 refine zI H ?_ ?_ <;> intro H
 refine zS ?_
 refine gB [0,6] ?_
 refine gT 0 [0] Z ?_
 obtain ⟨a35,ha35,H⟩:=H
 refine gY 1 [75] rfl (fun _=>au rfl rfl ha35) ?_
 refine gT 2 [76] Z ?_
 refine gl 3 [77] Z H fun v36 H=>?_
 refine gT 4 [6] Z ?_
 refine gd 5 [78,79] Z H fun a37 H=>?_
 refine gT 6 [80] Z ?_
 refine gl 7 [81] Z H fun v38 H=>?_
 refine gT 8 [0] Z ?_
 refine gY 9 [83] rfl (fun _=>au rfl rfl ha35) ?_
 refine gT 10 [84] Z ?_
 refine gl 11 [85] Z H fun v39 H=>?_
 refine gT 12 [6] Z ?_
 refine gd 13 [86,87] Z H fun a40 H=>?_
 refine gT 14 [88] Z ?_
 refine gl 15 [89] Z H fun v41 H=>?_
 refine gT 17 [0] Z ?_
 refine gY 18 [92] rfl (fun _=>au rfl rfl ha35) ?_
 refine gT 19 [93] Z ?_
 refine gl 20 [94] Z H fun v42 H=>?_
 refine gT 21 [6] Z ?_
 refine gd 22 [95,96] Z H fun a43 H=>?_
 refine gT 23 [97] Z ?_
 refine gl 24 [98] Z H fun v44 H=>?_
 refine gCr 16 [90] O18 (R18 _ _ _ H) fun r45 h46 H=>?_
 obtain ⟨hy47,hy48,hy49,hy50,H⟩:=H
 refine gR rfl (bH Z rfl rfl rfl rfl hy47) ?_
 refine gR rfl (bH Z rfl rfl rfl rfl hy48) ?_
 refine gR rfl (bH Z rfl rfl rfl rfl hy49) ?_
 refine gR rfl (bH Z rfl rfl rfl rfl hy50) ?_
 refine gZ0 ?_
 refine gCr 25 [99] O18 (R18 _ _ _ H) fun r51 h52 H=>?_
 obtain ⟨hy53,hy54,H⟩:=H
 refine gR rfl (bH Z rfl rfl rfl rfl hy53) ?_
 refine gR rfl (bH Z rfl rfl rfl rfl hy54) ?_
 refine gZ0 ?_
 refine gT 26 [100] Z ?_
 obtain ⟨b55,h56,eb55,eh56,H⟩:=H
 refine gHr 27 [101] rfl (nV Z rfl rfl rfl rfl rfl rfl rfl eb55 eh56) ?_
 obtain ⟨hy57,hy58,H⟩:=H
 refine gR rfl (bH Z rfl rfl rfl rfl hy57) ?_
 refine gR rfl (bH Z rfl rfl rfl rfl hy58) ?_
 refine gZ0 ?_
 refine gC 28 [82,91,102] O55 (R55 _ _ _ _ _ H) fun r59 h60 H=>?_
 refine gZ ?_
 refine zX (zF [0,6] (zR ?_))
 refine w2 Z ?_
 refine wC fV (eU _ _ _ _ _ H) fun r61 h62 H=>?_
 refine zL ?_
 exact kW _ rfl _ rfl ⟨(),rfl,H⟩
 refine zQ (w2 Z (zE ?_))
 refine zI H ?_ ?_ <;> intro H
 refine zQ (w1 Z ?_)
 refine wN H fun a63 ha63 H=>?_
 refine w1 Z ?_
 refine wL Z H fun v64 H=>?_
 refine w2 Z (zE (zF [0,7,114] ?_))
 refine zI H ?_ ?_ <;> intro H
 refine gB [0,7] ?_
 refine gT 0 [0] Z ?_
 refine gT 2 [0] Z ?_
 refine gY 3 [117] rfl (fun _=>au rfl rfl ha63) ?_
 refine gT 4 [118] Z ?_
 refine gl 5 [119] Z H fun v65 H=>?_
 refine gT 6 [7] Z ?_
 obtain ⟨s66,ps66,qs66,rs66,ts66,es66,H⟩:=H
 refine gYe 7 [120,121] rfl (fun _=>xm (s:=v65) (L:=0) (H:=r10) (M:=(v65.cap:Int)) Z rfl rfl rfl rfl rfl rfl rfl (by simp) ps66 qs66 rs66 ts66) (congrArg Slc.v es66) ?_
 refine gT 9 [0] Z ?_
 refine gY 10 [124] rfl (fun _=>au rfl rfl ha63) ?_
 refine gT 11 [125] Z ?_
 refine gl 12 [126] Z H fun v67 H=>?_
 refine gT 13 [7] Z ?_
 refine gT 14 [128] Z ?_
 obtain ⟨s68,ps68,qs68,rs68,ts68,es68,H⟩:=H
 refine gYe 15 [127,129] rfl (fun _=>xm (s:=v67) (L:=(IntKind.i64.wrap (r10 + 1))) (H:=(v67.len:Int)) (M:=(v67.cap:Int)) Z rfl rfl rfl rfl rfl rfl rfl (by simp) ps68 qs68 rs68 ts68) (congrArg Slc.v es68) ?_
 obtain ⟨b69,h70,eb69,eh70,H⟩:=H
 refine gHr 1 [] rfl (nV Z rfl rfl rfl rfl rfl rfl rfl eb69 eh70) ?_
 obtain ⟨hy71,hy72,H⟩:=H
 refine gR rfl (bH Z rfl rfl rfl rfl hy71) ?_
 refine gR rfl (bH Z rfl rfl rfl rfl hy72) ?_
 refine gZ0 ?_
 obtain ⟨l75,hl75,H⟩:=H
 refine gAr 8 [116,122] rfl (lW (s:=(⟨some ⟨b69,0,none⟩,0,0⟩:Slc)) (r:=s66) Z rfl rfl rfl rfl rfl hl75 H) ?_
 rintro _ h74 ⟨s73,rfl,H⟩
 obtain ⟨hy76,H⟩:=H
 refine gR rfl (bH Z rfl rfl rfl rfl hy76) ?_
 refine gZ0 ?_
 obtain ⟨l79,hl79,H⟩:=H
 refine gA 16 [123,130] rfl (lW (s:=s73) (r:=s68) Z rfl rfl rfl rfl rfl hl79 H) ?_
 rintro _ h78 ⟨s77,rfl,H⟩
 refine gY 17 [115] rfl (fun _=>au rfl rfl ha63) ?_
 refine gT 18 [132] Z ?_
 refine gs 19 [131,133] Z H fun h80 H=>?_
 refine gZ ?_
 refine yL ?_
 exact kW _ rfl _ rfl ⟨(),rfl,H⟩
 refine zK (yL ?_)
 exact kW _ rfl _ rfl ⟨(),rfl,H⟩
 refine zQ (w2 Z (zE ?_))
 refine zI H ?_ ?_ <;> intro H
 refine zQ (w1 Z ?_)
 refine wN H fun a81 _ H=>?_
 refine w1 Z ?_
 refine wL Z H fun v82 H=>?_
 refine w2 Z (zE (zF [0,7,141] ?_))
 refine zI H ?_ ?_ <;> intro H
 refine zR (w2 Z ?_)
 refine wC nJ (mV _ _ _ _ _ H) fun r83 h84 H=>?_
 refine zL ?_
 exact kW _ rfl _ rfl ⟨(),rfl,H⟩
 refine zK (yL ?_)
 exact kW _ rfl _ rfl ⟨(),rfl,H⟩
 refine zQ (w1 Z ?_)
 refine wN H fun a85 _ H=>?_
 refine w1 Z ?_
 refine wL Z H fun v86 H=>?_
 refine w2 Z (zE (zF [0,7,32] ?_))
 refine zI H ?_ ?_ <;> intro H
 refine zR (w2 Z ?_)
 refine wC nJ (mV _ _ _ _ _ H) fun r87 h88 H=>?_
 refine zL ?_
 exact kW _ rfl _ rfl ⟨(),rfl,H⟩
 refine zK (yL ?_)
 exact kW _ rfl _ rfl ⟨(),rfl,H⟩
 refine zQ (w2 Z (zE ?_))
 refine zI H ?_ ?_ <;> intro H
 refine zK ?_
 exact xJ (r13 == 0) H
 refine zR (w2 Z (zW ?_))
 exact xJ (r13 == 1) H
end Go.Q.Yi
end

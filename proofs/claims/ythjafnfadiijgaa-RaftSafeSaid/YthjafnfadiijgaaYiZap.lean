/- A part of the proof of statements of this seat: lemmas, no statement of their own. -/
import Derived.Test.YthjafnfadiijgaaYiZad
import Derived.Test.YthjafnfadiijgaaYiZae
import Derived.Test.YthjafnfadiijgaaYiZam
import Derived.Test.YthjafnfadiijgaaYiZan
import Derived.Test.YthjafnfadiijgaaYiZao
set_option linter.unusedVariables false
set_option linter.unusedSimpArgs false
set_option maxRecDepth 100000
set_option maxHeartbeats 1000000
section
namespace Go.Q.Yi
open Go.Proofs.Try
/-- quaestor quaestorlaw26.begun -/
def ky (b_:Int) (d_:Addr) (a_:Int) (k:KP (Option Addr)) (nx1:KP Int) (h_2:Heap):Prop :=
  ∃ x3,x3=(IntKind.i64.wrap (a_ + 1))/\(nx1 x3 h_2)
def qL (b_:Int) (a_:Addr) (d_:Int) (k:KP (Option Addr)) (nx1:KP Int) (h_1:Heap):Prop :=
  if (decide (d_ < b_)) then (∃ v4,af h_1 a_=some (Slc.v v4)/\((mY d_ b_ 0 0 none (⟨none,0,0⟩:Slc) (fun r5 h6=>af h6 a_=some (Slc.v v4)/\(∃ b8 h9,b8=h6.size/\h9=h6.push (.cells (aG.cs (⟨0,0,(⟨none,0,0⟩:Slc)⟩:aG)).toArray 75)/\(af h9 a_=some (Slc.v v4)/\(∃ b11 h12,b11=h9.size/\h12=h9.push (.cells (aC.cs (⟨0,0,(some (ad b8)),(⟨none,0,0⟩:Slc)⟩:aC)).toArray 73)/\(af h12 a_=some (Slc.v v4)/\(∃ b14 h15,b14=h12.size/\h15=h12.push (.cells ((ax.cs (⟨r5,(some (ad b11))⟩:ax))).toArray 60)/\(af h15 a_=some (Slc.v v4)/\(App 60 2 16 [.pointer none,.pointer none] h15 v4 1 ((ax.cs (⟨r5,(some (ad b11))⟩:ax))) (fun s17 h18=>∃ h19,WrH h18 a_/\h19=setH h18 a_ (Slc.v s17)/\(ky b_ a_ d_ k nx1 h19)))))))))) h_1)/\(∃ b20 h21,b20=h_1.size/\h21=h_1.push (.cells (aG.cs (⟨0,0,(⟨none,0,0⟩:Slc)⟩:aG)).toArray 75)/\(af h21 a_=some (Slc.v v4)/\((mY d_ b_ 0 0 none (⟨none,0,0⟩:Slc) (fun r23 h24=>af h24 a_=some (Slc.v v4)/\(∃ b26 h27,b26=h24.size/\h27=h24.push (.cells (aC.cs (⟨0,0,(some (ad b20)),(⟨none,0,0⟩:Slc)⟩:aC)).toArray 73)/\(af h27 a_=some (Slc.v v4)/\(∃ b29 h30,b29=h27.size/\h30=h27.push (.cells ((ax.cs (⟨r23,(some (ad b26))⟩:ax))).toArray 60)/\(af h30 a_=some (Slc.v v4)/\(App 60 2 16 [.pointer none,.pointer none] h30 v4 1 ((ax.cs (⟨r23,(some (ad b26))⟩:ax))) (fun s32 h33=>∃ h34,WrH h33 a_/\h34=setH h33 a_ (Slc.v s32)/\(ky b_ a_ d_ k nx1 h34)))))))) h21)/\(∃ b35 h36,b35=h21.size/\h36=h21.push (.cells (aC.cs (⟨0,0,(some (ad b20)),(⟨none,0,0⟩:Slc)⟩:aC)).toArray 73)/\(af h36 a_=some (Slc.v v4)/\(mY d_ b_ 0 0 none (⟨none,0,0⟩:Slc) (fun r38 h39=>af h39 a_=some (Slc.v v4)/\(∃ b41 h42,b41=h39.size/\h42=h39.push (.cells ((ax.cs (⟨r38,(some (ad b35))⟩:ax))).toArray 60)/\(af h42 a_=some (Slc.v v4)/\(App 60 2 16 [.pointer none,.pointer none] h42 v4 1 ((ax.cs (⟨r38,(some (ad b35))⟩:ax))) (fun s44 h45=>∃ h46,WrH h45 a_/\h46=setH h45 a_ (Slc.v s44)/\(ky b_ a_ d_ k nx1 h46)))))) h36)))))))) else (k (some a_) h_1)
def rC (b_:Int) (d_:Addr) (i4:Int) (k:KP (Option Addr)) (h:Heap):Prop :=
  ∃ (I:KP Int) (μ:Int->Heap->Nat),I i4 h/\∀ (a_:Int) (h:Heap),I a_ h->qL b_ d_ a_ k (fun s h'=>I s h'/\μ s h' < μ a_ h) h
def qf (p0:Int) (k:KP (Option Addr)) (h:Heap):Prop :=
  ∃ b1 h2,b1=h.size/\h2=h.push (.cells (bD.cs (⟨(⟨none,0,0⟩:Slc),(⟨none,0,0⟩:Slc),(⟨none,0,0⟩:Slc),(⟨none,0,0⟩:Slc),false⟩:bD)).toArray 56)/\(rC p0 (ad b1) 0 k h2)
/-- (*quaestor quaestorlaw26.World).look -/
def cK (b_:Option Addr) (d_:Int) (f_:Option Addr) (a_:Int) (k:KP Unit) (nx1:KP Int) (h_2:Heap):Prop :=
  ∃ x7,x7=(IntKind.u64.wrap (a_ + 1))/\(nx1 x7 h_2)
def jX (a_:Option Addr) (b_:Int) (d_:Option Addr) (f_:Int) (g_:Bool) (k:KP Unit) (nx1:KP Int) (nx3:KP Unit) (h_4:Heap):Prop :=
  if g_ then (∃ a34,a_=some a34/\(∃ h35,WrH h_4 (a34.add 4)/\h35=setH h_4 (a34.add 4) (.bool true)/\(cK a_ b_ d_ f_ k nx1 h35))) else (cK a_ b_ d_ f_ k nx1 h_4)
def oo (b_:Option Addr) (d_:Int) (f_:Option Addr) (a_:Int) (g_:Addr) (k:KP Unit) (nx1:KP Int) (nx3:KP Unit) (h_3:Heap):Prop :=
  ∃ a13,b_=some a13/\(∃ v14,af h_3 (a13.add 2)=some (Slc.v v14)/\(if (decide ((IntKind.u64.wrap (v14.len:Int)) < a_)) then (∃ v15,af h_3 (a13.add 2)=some (Slc.v v15)/\(∃ b16 h17,b16=h_3.size/\h17=h_3.push (.cells ((ae.cs (⟨0,(⟨none,0,0⟩:Slc)⟩:ae))).toArray 65)/\(App 65 2 32 [.int .u64 0,.slice none 0 0] h17 v15 1 ((ae.cs (⟨0,(⟨none,0,0⟩:Slc)⟩:ae))) (fun s18 h19=>∃ h20,WrH h19 (a13.add 2)/\h20=setH h19 (a13.add 2) (Slc.v s18)/\(nx3 () h20))))) else (∃ v21,af h_3 (a13.add 2)=some (Slc.v v21)/\(∃ a22,v21.a=some a22/\(0:Int)<=(IntKind.u64.wrap (a_ - 1))/\(IntKind.u64.wrap (a_ - 1)) < (v21.len:Int)/\(∃ v23,aD h_3 (a22.add ((IntKind.u64.wrap (a_ - 1)).toNat * 2)) (ae.cs v23)/\(∃ b24 h25,b24=h_3.size/\h25=h_3.push (.cells (ae.cs (⟨0,(⟨none,0,0⟩:Slc)⟩:ae)).toArray 65)/\(∃ h26,bZ h25 (ad b24) 2/\h26=aO h25 (ad b24) 0 (ae.cs v23)/\(∃ v27,af h26 (ad b24)=some (.int .u64 v27)/\(if (v27 == 0) then (∃ v28,af h26 (a13.add 2)=some (Slc.v v28)/\(∃ v29,aD h26 g_ (ae.cs v29)/\(∃ a30,v28.a=some a30/\(0:Int)<=(IntKind.u64.wrap (a_ - 1))/\(IntKind.u64.wrap (a_ - 1)) < (v28.len:Int)/\(∃ h31,bZ h26 (a30.add ((IntKind.u64.wrap (a_ - 1)).toNat * 2)) 2/\h31=aO h26 (a30.add ((IntKind.u64.wrap (a_ - 1)).toNat * 2)) 0 (ae.cs v29)/\(cK b_ d_ f_ a_ k nx1 h31))))) else (∃ v32,af h26 (ad b24)=some (.int .u64 v32)/\(∃ v33,af h26 g_=some (.int .u64 v33)/\(if (v32 != v33) then (jX b_ d_ f_ a_ true k nx1 nx3 h26) else (∃ v36,af h26 ((ad b24).add 1)=some (Slc.v v36)/\(∃ v37,af h26 (g_.add 1)=some (Slc.v v37)/\(mE v36 v37 (fun r38 h39=>jX b_ d_ f_ a_ (!r38) k nx1 nx3 h39) h26)))))))))))))))
def lV (a_:Option Addr) (b_:Int) (d_:Option Addr) (f_:Int) (g_:Addr) (k:KP Unit) (nx1:KP Int) (h:Heap):Prop :=
  ∃ (I:KP Unit) (μ:Unit->Heap->Nat),I () h/\∀ (h:Heap),I () h->oo a_ b_ d_ f_ g_ k nx1 (fun s h'=>I s h'/\μ s h' < μ () h) h
def ig (a_:Option Addr) (b_:Int) (d_:Option Addr) (k:KP Unit) (nx1:KP Int) (nx6:KP Unit) (h_7:Heap):Prop :=
  ∃ a53,a_=some a53/\(∃ v54,af h_7 (a53.add 3)=some (Slc.v v54)/\(dQ d_ (fun r55 h56=>af h56 (a53.add 3)=some (Slc.v v54)/\(∃ a58,v54.a=some a58/\(0:Int)<=r55/\r55 < (v54.len:Int)/\(∃ h59,WrH h56 (a58.add (r55.toNat * 1))/\h59=setH h56 (a58.add (r55.toNat * 1)) (.int .i64 b_)/\(k () h59)))) h_7))
def iw (a_:Option Addr) (b_:Int) (d_:Option Addr) (f_:Bool) (k:KP Unit) (nx1:KP Int) (nx6:KP Unit) (h_8:Heap):Prop :=
  if f_ then (∃ a60,a_=some a60/\(∃ h61,WrH h_8 (a60.add 4)/\h61=setH h_8 (a60.add 4) (.bool true)/\(ig a_ b_ d_ k nx1 nx6 h61))) else (ig a_ b_ d_ k nx1 nx6 h_8)
def nV (b_:Option Addr) (d_:Int) (a_:Option Addr) (k:KP Unit) (nx1:KP Int) (nx6:KP Unit) (h_6:Heap):Prop :=
  ∃ a42,b_=some a42/\(∃ v43,af h_6 (a42.add 3)=some (Slc.v v43)/\(dQ a_ (fun r44 h45=>af h45 (a42.add 3)=some (Slc.v v43)/\(if (decide ((IntKind.u64.wrap (v43.len:Int))<=r44)) then (∃ v47,af h45 (a42.add 3)=some (Slc.v v47)/\(∃ b48 h49,b48=h45.size/\h49=h45.push (.cells ([.int .i64 (-1)]).toArray 3)/\(App 3 1 8 [.int .i64 0] h49 v47 1 ([.int .i64 (-1)]) (fun s50 h51=>∃ h52,WrH h51 (a42.add 3)/\h52=setH h51 (a42.add 3) (Slc.v s50)/\(nx6 () h52))))) else (∃ v62,af h45 (a42.add 3)=some (Slc.v v62)/\(dQ a_ (fun r63 h64=>af h64 (a42.add 3)=some (Slc.v v62)/\(∃ a66,v62.a=some a66/\(0:Int)<=r63/\r63 < (v62.len:Int)/\(∃ v67,af h64 (a66.add (r63.toNat * 1))=some (.int .i64 v67)/\(if (decide (v67>=0)) then (∃ v68,af h64 (a42.add 3)=some (Slc.v v68)/\(dQ a_ (fun r69 h70=>af h70 (a42.add 3)=some (Slc.v v68)/\(∃ a72,v68.a=some a72/\(0:Int)<=r69/\r69 < (v68.len:Int)/\(∃ v73,af h70 (a72.add (r69.toNat * 1))=some (.int .i64 v73)/\(iw b_ d_ a_ (v73 != d_) k nx1 nx6 h70)))) h64)) else (iw b_ d_ a_ false k nx1 nx6 h64))))) h45)))) h_6))
def lU (a_:Option Addr) (b_:Int) (d_:Option Addr) (k:KP Unit) (nx1:KP Int) (h:Heap):Prop :=
  ∃ (I:KP Unit) (μ:Unit->Heap->Nat),I () h/\∀ (h:Heap),I () h->nV a_ b_ d_ k nx1 (fun s h'=>I s h'/\μ s h' < μ () h) h
def iq (a_:Option Addr) (b_:Int) (d_:Option Addr) (f_:Bool) (k:KP Unit) (nx1:KP Int) (h_5:Heap):Prop :=
  if f_ then (lU a_ b_ d_ k nx1 h_5) else (k () h_5)
def oz (d_:Option Addr) (f_:Int) (a_:Option Addr) (b_:Int) (k:KP Unit) (nx1:KP Int) (h_1:Heap):Prop :=
  dK a_ (fun r5 h6=>if ((decide (b_<=r5)) && (decide (b_ < 300))) then (gW a_ b_ (fun r8 h9=>∃ b10 h11,b10=h9.size/\h11=h9.push (.cells (ae.cs (⟨0,(⟨none,0,0⟩:Slc)⟩:ae)).toArray 65)/\(∃ h12,bZ h11 (ad b10) 2/\h12=aO h11 (ad b10) 0 (ae.cs r8.1)/\(if (r8.2 != 0) then (cK d_ f_ a_ b_ k nx1 h12) else (lV d_ f_ a_ b_ (ad b10) k nx1 h12)))) h6) else (jg a_ (fun r40 h41=>if r40 then (dQ a_ (fun r74 h75=>iq d_ f_ a_ (decide (r74 < 300)) k nx1 h75) h41) else (iq d_ f_ a_ false k nx1 h41)) h6)) h_1
def oZ (b_:Option Addr) (d_:Int) (f_:Option Addr) (i5:Int) (k:KP Unit) (h:Heap):Prop :=
  ∃ (I:KP Int) (μ:Int->Heap->Nat),I i5 h/\∀ (a_:Int) (h:Heap),I a_ h->oz b_ d_ f_ a_ k (fun s h'=>I s h'/\μ s h' < μ a_ h) h
def kv (p0:Option Addr) (p1:Int) (k:KP Unit) (h:Heap):Prop :=
  ∃ a1,p0=some a1/\(∃ v2,af h a1=some (Slc.v v2)/\(∃ a3,v2.a=some a3/\(0:Int)<=p1/\p1 < (v2.len:Int)/\(∃ v4:Option Addr,af h (a3.add (p1.toNat * 2))=some (.pointer v4)/\(oZ p0 p1 v4 1 k h))))
/-- (*quaestor quaestorlaw26.World).post -/
def jY (b_:Option Addr) (d_:Int) (f_:Slc) (g_:Slc) (a_:Int) (k:KP Unit) (nx1:KP Int) (h_2:Heap):Prop :=
  ∃ x7,x7=(IntKind.i64.wrap (a_ + 1))/\(nx1 x7 h_2)
def fo (f_:Option Addr) (d_:Int) (b_:Slc) (a_:Int) (g_:Bool) (k:KP Unit) (nx1:KP Int) (nx3:KP Int) (h_4:Heap):Prop :=
  if g_ then (∃ a17,f_=some a17/\(∃ v18,af h_4 (a17.add 1)=some (Slc.v v18)/\(∃ a19,b_.a=some a19/\(0:Int)<=a_/\a_ < (b_.len:Int)/\(∃ v20,af h_4 (a19.add (a_.toNat * 9))=some (.int .i64 v20)/\(∃ a21,b_.a=some a21/\(0:Int)<=a_/\a_ < (b_.len:Int)/\(∃ v22,aD h_4 ((a21.add (a_.toNat * 9)).add 1) (ah.cs v22)/\(∃ b23 h24,b23=h_4.size/\h24=h_4.push (.cells ((ai.cs (⟨d_,v20,v22⟩:ai))).toArray 109)/\(af h24 (a17.add 1)=some (Slc.v v18)/\(App 109 10 112 [.int .i64 0,.int .i64 0,.int .i64 0,.int .u64 0,.int .u64 0,.int .u64 0,.int .u64 0,.bool false,.slice none 0 0,.slice none 0 0] h24 v18 1 ((ai.cs (⟨d_,v20,v22⟩:ai))) (fun s26 h27=>∃ h28,WrH h27 (a17.add 1)/\h28=setH h27 (a17.add 1) (Slc.v s26)/\(∃ x29,x29=(IntKind.i64.wrap (a_ + 1))/\(nx3 x29 h28)))))))))))) else (kv f_ d_ (fun r30 h31=>k () h31) h_4)
def nY (a_:Option Addr) (f_:Int) (b_:Slc) (d_:Int) (k:KP Unit) (nx1:KP Int) (nx3:KP Int) (h_3:Heap):Prop :=
  if (decide (d_ < (b_.len:Int))) then (∃ a32,a_=some a32/\(∃ v33,af h_3 (a32.add 1)=some (Slc.v v33)/\(fo a_ f_ b_ d_ (decide ((v33.len:Int) < 3000)) k nx1 nx3 h_3))) else (fo a_ f_ b_ d_ false k nx1 nx3 h_3)
def lX (b_:Option Addr) (d_:Int) (f_:Slc) (i8:Int) (k:KP Unit) (nx1:KP Int) (h:Heap):Prop :=
  ∃ (I:KP Int) (μ:Int->Heap->Nat),I i8 h/\∀ (a_:Int) (h:Heap),I a_ h->nY b_ d_ f_ a_ k nx1 (fun s h'=>I s h'/\μ s h' < μ a_ h) h
def om (f_:Option Addr) (a_:Int) (g_:Slc) (d_:Slc) (b_:Int) (k:KP Unit) (nx1:KP Int) (h_1:Heap):Prop :=
  if (decide (b_ < (d_.len:Int))) then (∃ a8,f_=some a8/\(∃ v9,af h_1 a8=some (Slc.v v9)/\(∃ a10,v9.a=some a10/\(0:Int)<=a_/\a_ < (v9.len:Int)/\(∃ v11:Option Addr,af h_1 ((a10.add (a_.toNat * 2)).add 1)=some (.pointer v11)/\(∃ a12,d_.a=some a12/\(0:Int)<=b_/\b_ < (d_.len:Int)/\(∃ v13,aD h_1 (a12.add (b_.toNat * 6)) (aj.cs v13)/\(lh v11 v13 (fun r14 h15=>if (!r14) then (∃ h16,WrH h15 (a8.add 4)/\h16=setH h15 (a8.add 4) (.bool true)/\(jY f_ a_ g_ d_ b_ k nx1 h16)) else (jY f_ a_ g_ d_ b_ k nx1 h15)) h_1))))))) else (lX f_ a_ g_ 0 k nx1 h_1)
def oN (b_:Option Addr) (d_:Int) (f_:Slc) (g_:Slc) (i7:Int) (k:KP Unit) (h:Heap):Prop :=
  ∃ (I:KP Int) (μ:Int->Heap->Nat),I i7 h/\∀ (a_:Int) (h:Heap),I a_ h->om b_ d_ f_ g_ a_ k (fun s h'=>I s h'/\μ s h' < μ a_ h) h
def dH (p0:Option Addr) (p1:Int) (p2:Slc) (k:KP Unit) (h:Heap):Prop :=
  ∃ a1,p0=some a1/\(∃ v2,af h a1=some (Slc.v v2)/\(∃ a3,v2.a=some a3/\(0:Int)<=p1/\p1 < (v2.len:Int)/\(∃ v4:Option Addr,af h (a3.add (p1.toNat * 2))=some (.pointer v4)/\(mo v4 (fun r5 h6=>oN p0 p1 p2 r5 0 k h6) h))))
/-- (*quaestor quaestorlaw26.World).take -/
def fA (b_:Option Addr) (a_:Addr) (k:KP Unit) (h_1:Heap):Prop :=
  ∃ v8,af h_1 (a_.add 1)=some (.int .i64 v8)/\(∃ a9,b_=some a9/\(∃ v10,af h_1 a9=some (Slc.v v10)/\(∃ v11,af h_1 (a_.add 1)=some (.int .i64 v11)/\(∃ a12,v10.a=some a12/\(0:Int)<=v11/\v11 < (v10.len:Int)/\(∃ v13:Option Addr,af h_1 (a12.add (v11.toNat * 2))=some (.pointer v13)/\(∃ v14,af h_1 a_=some (.int .i64 v14)/\(∃ v15,aD h_1 (a_.add 2) (ah.cs v15)/\(mJ v13 v14 v15 (fun r16 h17=>af h17 (a_.add 1)=some (.int .i64 v8)/\(dH b_ v8 r16 (fun r19 h20=>k () h20) h17)) h_1))))))))
def ko (p0:Option Addr) (p1:Int) (p2:Bool) (k:KP Unit) (h:Heap):Prop :=
  ∃ a1,p0=some a1/\(∃ v2,af h (a1.add 1)=some (Slc.v v2)/\(∃ a3,v2.a=some a3/\(0:Int)<=p1/\p1 < (v2.len:Int)/\(∃ v4,aD h (a3.add (p1.toNat * 10)) (ai.cs v4)/\(∃ b5 h6,b5=h.size/\h6=h.push (.cells (ai.cs (⟨0,0,(⟨0,0,0,0,0,false,(⟨none,0,0⟩:Slc),(⟨none,0,0⟩:Slc)⟩:ah)⟩:ai)).toArray 109)/\(∃ h7,bZ h6 (ad b5) 10/\h7=aO h6 (ad b5) 0 (ai.cs v4)/\(if (!p2) then (∃ v21,af h7 (a1.add 1)=some (Slc.v v21)/\(∃ s22,(0:Int)<=0/\(0:Int)<=p1/\(p1:Int)<=(v21.cap:Int)/\(v21.cap:Int)<=(v21.cap:Int)/\s22=dC v21 10 (0:Int).toNat p1.toNat (v21.cap:Int).toNat/\(∃ v23,af h7 (a1.add 1)=some (Slc.v v23)/\(∃ s24,(0:Int)<=(IntKind.i64.wrap (p1 + 1))/\((IntKind.i64.wrap (p1 + 1)):Int)<=(v23.len:Int)/\((v23.len:Int):Int)<=(v23.cap:Int)/\(v23.cap:Int)<=(v23.cap:Int)/\s24=dC v23 10 (IntKind.i64.wrap (p1 + 1)).toNat (v23.len:Int).toNat (v23.cap:Int).toNat/\(∃ b25 h26,b25=h7.size/\h26=h7.push (.cells ([]).toArray 109)/\(af h26 (a1.add 1)=some (Slc.v v23)/\af h26 (a1.add 1)=some (Slc.v v21)/\(∃ l31,SlcAt h26 s22 l31/\App 109 10 112 [.int .i64 0,.int .i64 0,.int .i64 0,.int .u64 0,.int .u64 0,.int .u64 0,.int .u64 0,.bool false,.slice none 0 0,.slice none 0 0] h26 (⟨some ⟨b25,0,none⟩,0,0⟩:Slc) s22.len l31 (fun s29 h30=>af h30 (a1.add 1)=some (Slc.v v23)/\(∃ l35,SlcAt h30 s24 l35/\App 109 10 112 [.int .i64 0,.int .i64 0,.int .i64 0,.int .u64 0,.int .u64 0,.int .u64 0,.int .u64 0,.bool false,.slice none 0 0,.slice none 0 0] h30 s29 s24.len l35 (fun s33 h34=>∃ h36,WrH h34 (a1.add 1)/\h36=setH h34 (a1.add 1) (Slc.v s33)/\(fA p0 (ad b5) k h36))))))))))) else (fA p0 (ad b5) k h7)))))))
/-- (*quaestor quaestorlaw26.World).again -/
def kV (p0:Option Addr) (p1:Int) (k:KP Unit) (h:Heap):Prop :=
  ∃ a1,p0=some a1/\(∃ v2,af h a1=some (Slc.v v2)/\(∃ a3,v2.a=some a3/\(0:Int)<=p1/\p1 < (v2.len:Int)/\(∃ v4:Option Addr,af h ((a3.add (p1.toNat * 2)).add 1)=some (.pointer v4)/\(∃ v5,af h a1=some (Slc.v v5)/\(∃ v6,af h a1=some (Slc.v v6)/\(∃ a7,v4=some a7/\(∃ v8,af h a7=some (.int .u64 v8)/\(∃ v9,af h (a7.add 1)=some (.int .i64 v9)/\(∃ v10:Option Addr,af h (a7.add 2)=some (.pointer v10)/\(∃ a11,v10=some a11/\(∃ v12,af h a11=some (.int .u64 v12)/\(∃ v13:Option Addr,af h (a7.add 2)=some (.pointer v13)/\(∃ a14,v13=some a14/\(∃ v15,af h (a14.add 1)=some (.int .u64 v15)/\(∃ v16:Option Addr,af h (a7.add 2)=some (.pointer v16)/\(∃ a17,v16=some a17/\(∃ v18,af h (a17.add 2)=some (Slc.v v18)/\(∃ v19,af h (a7.add 3)=some (Slc.v v19)/\(pU v12 v15 v18 (fun r20 h21=>af h21 (a7.add 3)=some (Slc.v v19)/\af h21 (a7.add 1)=some (.int .i64 v9)/\af h21 a7=some (.int .u64 v8)/\af h21 a1=some (Slc.v v6)/\af h21 a1=some (Slc.v v5)/\(mY p1 (v6.len:Int) v8 v9 r20 v19 (fun r27 h28=>af h28 a1=some (Slc.v v5)/\(∃ a30,v5.a=some a30/\(0:Int)<=p1/\p1 < (v5.len:Int)/\(∃ h31,WrH h28 (a30.add (p1.toNat * 2))/\h31=setH h28 (a30.add (p1.toNat * 2)) (.pointer r27)/\(kv p0 p1 (fun r32 h33=>k () h33) h31)))) h21)) h)))))))))))))))))))
/-- (*quaestor quaestorlaw26.World).do -/
def jv (b_:Option Addr) (g_:Int) (a_:Int) (d_:Int) (f_:Int) (h_:Bool) (k:KP Unit) (h_1:Heap):Prop :=
  if h_ then (∃ a15,b_=some a15/\(∃ v16,af h_1 a15=some (Slc.v v16)/\(∃ a17,v16.a=some a17/\(0:Int)<=a_/\a_ < (v16.len:Int)/\(∃ v18:Option Addr,af h_1 (a17.add (a_.toNat * 2))=some (.pointer v18)/\(lC v18 (fun r19 h20=>dH b_ a_ r19 (fun r21 h22=>k () h22) h20) h_1))))) else (if (f_ == 2) then (∃ a23,b_=some a23/\(∃ v24,af h_1 a23=some (Slc.v v24)/\(∃ a25,v24.a=some a25/\(0:Int)<=a_/\a_ < (v24.len:Int)/\(∃ v26:Option Addr,af h_1 (a25.add (a_.toNat * 2))=some (.pointer v26)/\(∃ b27 h28,b27=h_1.size/\h28=h_1.push (.cells ([.int .u8 (IntKind.u8.wrap g_),.int .u8 7]).toArray 5)/\(jo v26 (⟨some ⟨b27,0,none⟩,2,2⟩:Slc) (fun r29 h30=>dH b_ a_ (⟨none,0,0⟩:Slc) (fun r31 h32=>k () h32) h30) h28)))))) else (if (f_ == 3) then (kV b_ a_ (fun r33 h34=>k () h34) h_1) else (if (f_ == 4) then (∃ a35,b_=some a35/\(∃ v36,af h_1 a35=some (Slc.v v36)/\(∃ a37,v36.a=some a37/\(0:Int)<=a_/\a_ < (v36.len:Int)/\(∃ v38:Option Addr,af h_1 (a37.add (a_.toNat * 2))=some (.pointer v38)/\(∃ v39,af h_1 a35=some (Slc.v v39)/\(∃ a40,v39.a=some a40/\(0:Int)<=a_/\a_ < (v39.len:Int)/\(∃ v41:Option Addr,af h_1 (a40.add (a_.toNat * 2))=some (.pointer v41)/\(∃ v42,af h_1 a35=some (Slc.v v42)/\(∃ a43,v42.a=some a43/\(0:Int)<=a_/\a_ < (v42.len:Int)/\(∃ v44:Option Addr,af h_1 (a43.add (a_.toNat * 2))=some (.pointer v44)/\(dK v41 (fun r45 h46=>af h46 (a43.add (a_.toNat * 2))=some (.pointer v44)/\af h46 a35=some (Slc.v v42)/\af h46 (a37.add (a_.toNat * 2))=some (.pointer v38)/\af h46 a35=some (Slc.v v36)/\(dK v44 (fun r51 h52=>af h52 (a37.add (a_.toNat * 2))=some (.pointer v38)/\af h52 a35=some (Slc.v v36)/\(∃ b55 h56,b55=h52.size/\h56=h52.push (.cells ([.int .u8 (IntKind.u8.wrap r51)]).toArray 5)/\(af h56 (a37.add (a_.toNat * 2))=some (.pointer v38)/\af h56 a35=some (Slc.v v36)/\(nQ v38 r45 (⟨some ⟨b55,0,none⟩,1,1⟩:Slc) (fun r59 h60=>dH b_ a_ (⟨none,0,0⟩:Slc) (fun r61 h62=>k () h62) h60) h56)))) h46)) h_1))))))))))) else (if (f_ == 5) then (∃ a63,b_=some a63/\(∃ v64,af h_1 (a63.add 1)=some (Slc.v v64)/\(if (decide ((v64.len:Int) > 0)) then (∃ v65,af h_1 (a63.add 1)=some (Slc.v v65)/\(∃ s66,(0:Int)<=0/\(0:Int)<=d_/\(d_:Int)<=(v65.cap:Int)/\(v65.cap:Int)<=(v65.cap:Int)/\s66=dC v65 10 (0:Int).toNat d_.toNat (v65.cap:Int).toNat/\(∃ v67,af h_1 (a63.add 1)=some (Slc.v v67)/\(∃ s68,(0:Int)<=(IntKind.i64.wrap (d_ + 1))/\((IntKind.i64.wrap (d_ + 1)):Int)<=(v67.len:Int)/\((v67.len:Int):Int)<=(v67.cap:Int)/\(v67.cap:Int)<=(v67.cap:Int)/\s68=dC v67 10 (IntKind.i64.wrap (d_ + 1)).toNat (v67.len:Int).toNat (v67.cap:Int).toNat/\(∃ b69 h70,b69=h_1.size/\h70=h_1.push (.cells ([]).toArray 109)/\(af h70 (a63.add 1)=some (Slc.v v67)/\af h70 (a63.add 1)=some (Slc.v v65)/\(∃ l75,SlcAt h70 s66 l75/\App 109 10 112 [.int .i64 0,.int .i64 0,.int .i64 0,.int .u64 0,.int .u64 0,.int .u64 0,.int .u64 0,.bool false,.slice none 0 0,.slice none 0 0] h70 (⟨some ⟨b69,0,none⟩,0,0⟩:Slc) s66.len l75 (fun s73 h74=>af h74 (a63.add 1)=some (Slc.v v67)/\(∃ l79,SlcAt h74 s68 l79/\App 109 10 112 [.int .i64 0,.int .i64 0,.int .i64 0,.int .u64 0,.int .u64 0,.int .u64 0,.int .u64 0,.bool false,.slice none 0 0,.slice none 0 0] h74 s73 s68.len l79 (fun s77 h78=>∃ h80,WrH h78 (a63.add 1)/\h80=setH h78 (a63.add 1) (Slc.v s77)/\(k () h80))))))))))) else (k () h_1)))) else (if (f_ == 6) then (∃ a81,b_=some a81/\(∃ v82,af h_1 (a81.add 1)=some (Slc.v v82)/\(if (decide ((v82.len:Int) > 0)) then (ko b_ d_ true (fun r83 h84=>k () h84) h_1) else (k () h_1)))) else (∃ a85,b_=some a85/\(∃ v86,af h_1 (a85.add 1)=some (Slc.v v86)/\(if (decide ((v86.len:Int) > 0)) then (ko b_ d_ false (fun r87 h88=>k () h88) h_1) else (k () h_1)))))))))
def mU (p0:Option Addr) (p1:S_quaestorlaw26_Act) (p2:Int) (k:KP Unit) (h:Heap):Prop :=
  ∃ b1 h2,b1=h.size/\h2=h.push (.cells (S_quaestorlaw26_Act.cs p1).toArray 52)/\(∃ v3,af h2 ((ad b1).add 1)=some (.int .i64 v3)/\(∃ a4,p0=some a4/\(∃ v5,af h2 a4=some (Slc.v v5)/\(lH v3 (v5.len:Int) (fun r6 h7=>∃ v8,af h7 ((ad b1).add 2)=some (.int .i64 v8)/\(∃ v9,af h7 (a4.add 1)=some (Slc.v v9)/\(lH v8 (v9.len:Int) (fun r10 h11=>∃ v12,af h11 (ad b1)=some (.int .i64 v12)/\(lH v12 12 (fun r13 h14=>if (r13 == 0) then (jv p0 p2 r6 r10 r13 (r13 == 0) k h14) else (jv p0 p2 r6 r10 r13 (r13 == 1) k h14)) h11)) h7))) h2))))
/-- quaestor quaestorlaw26.RaftSafe -/
def kZ (d_:Option Addr) (f_:Int) (g_:Option Addr) (h_:Option Addr) (j_:Int) (l_:Int) (a_:Int) (b_:Bool) (k:KP Bool) (nx1:KP Int) (nx2:KP Int) (nx4:KP Int) (h_5:Heap):Prop :=
  if b_ then (k false h_5) else (∃ x30,x30=(IntKind.u64.wrap (a_ + 1))/\(nx4 x30 h_5))
def pK (j_:Option Addr) (g_:Int) (h_:Option Addr) (d_:Option Addr) (b_:Int) (f_:Int) (a_:Int) (k:KP Bool) (nx1:KP Int) (nx2:KP Int) (nx4:KP Int) (h_4:Heap):Prop :=
  if (decide (a_<=f_)) then (gW d_ a_ (fun r25 h26=>∃ b27 h28,b27=h26.size/\h28=h26.push (.cells (ae.cs (⟨0,(⟨none,0,0⟩:Slc)⟩:ae)).toArray 65)/\(∃ h29,bZ h28 (ad b27) 2/\h29=aO h28 (ad b27) 0 (ae.cs r25.1)/\(if (r25.2 != 0) then (kZ j_ g_ h_ d_ b_ f_ a_ true k nx1 nx2 nx4 h29) else (∃ v31,aD h29 (ad b27) (ae.cs v31)/\(∃ a32,h_=some a32/\(∃ v33:Option Addr,af h29 (a32.add 2)=some (.pointer v33)/\(∃ a34,v33=some a34/\(∃ v35,af h29 (a34.add 2)=some (Slc.v v35)/\(∃ s36,(0:Int)<=(IntKind.u64.wrap ((IntKind.u64.wrap (a_ - b_)) - 1))/\((IntKind.u64.wrap ((IntKind.u64.wrap (a_ - b_)) - 1)):Int)<=(IntKind.u64.wrap (a_ - b_))/\((IntKind.u64.wrap (a_ - b_)):Int)<=(v35.cap:Int)/\(v35.cap:Int)<=(v35.cap:Int)/\s36=dC v35 2 (IntKind.u64.wrap ((IntKind.u64.wrap (a_ - b_)) - 1)).toNat (IntKind.u64.wrap (a_ - b_)).toNat (v35.cap:Int).toNat/\(∃ b37 h38,b37=h29.size/\h38=h29.push (.cells ((ae.cs v31)).toArray 65)/\(af h38 (a34.add 2)=some (Slc.v v35)/\af h38 (a32.add 2)=some (.pointer v33)/\(qA (⟨some ⟨b37,0,none⟩,1,1⟩:Slc) s36 (fun r41 h42=>kZ j_ g_ h_ d_ b_ f_ a_ (!r41) k nx1 nx2 nx4 h42) h38)))))))))))) h_4) else (gW d_ (IntKind.u64.wrap (f_ + 1)) (fun r43 h44=>∃ b45 h46,b45=h44.size/\h46=h44.push (.cells (ae.cs (⟨0,(⟨none,0,0⟩:Slc)⟩:ae)).toArray 65)/\(∃ h47,bZ h46 (ad b45) 2/\h47=aO h46 (ad b45) 0 (ae.cs r43.1)/\(if (r43.2 != 6) then (k false h47) else (∃ x48,x48=(IntKind.i64.wrap (g_ + 1))/\(nx2 x48 h47))))) h_4)
def nA (b_:Option Addr) (d_:Int) (f_:Option Addr) (g_:Option Addr) (h_:Int) (j_:Int) (i14:Int) (k:KP Bool) (nx1:KP Int) (nx2:KP Int) (h:Heap):Prop :=
  ∃ (I:KP Int) (μ:Int->Heap->Nat),I i14 h/\∀ (a_:Int) (h:Heap),I a_ h->pK b_ d_ f_ g_ h_ j_ a_ k nx1 nx2 (fun s h'=>I s h'/\μ s h' < μ a_ h) h
def gM (d_:Option Addr) (f_:Int) (a_:Option Addr) (g_:Option Addr) (b_:Int) (h_:Bool) (k:KP Bool) (nx1:KP Int) (nx2:KP Int) (h_3:Heap):Prop :=
  if h_ then (k false h_3) else (∃ a20,a_=some a20/\(∃ v21:Option Addr,af h_3 (a20.add 2)=some (.pointer v21)/\(lD v21 (fun r22 h23=>∃ x24,x24=(IntKind.u64.wrap (b_ + 1))/\(nA d_ f_ a_ g_ b_ r22.1 x24 k nx1 nx2 h23)) h_3)))
def pG (b_:Option Addr) (a_:Int) (k:KP Bool) (nx1:KP Int) (nx2:KP Int) (h_2:Heap):Prop :=
  ∃ a10,b_=some a10/\(∃ v11,af h_2 a10=some (Slc.v v11)/\(if (decide (a_ < (v11.len:Int))) then (∃ v12,af h_2 a10=some (Slc.v v12)/\(∃ a13,v12.a=some a13/\(0:Int)<=a_/\a_ < (v12.len:Int)/\(∃ v14:Option Addr,af h_2 ((a13.add (a_.toNat * 2)).add 1)=some (.pointer v14)/\(∃ v15,af h_2 a10=some (Slc.v v15)/\(∃ a16,v15.a=some a16/\(0:Int)<=a_/\a_ < (v15.len:Int)/\(∃ v17:Option Addr,af h_2 (a16.add (a_.toNat * 2))=some (.pointer v17)/\(mP v17 (fun r18 h19=>∃ a49,v14=some a49/\(∃ v50,af h19 a49=some (.int .u64 v50)/\(dQ v17 (fun r51 h52=>af h52 a49=some (.int .u64 v50)/\(if (v50 != r51) then (if true then (gM b_ a_ v14 v17 r18.1 true k nx1 nx2 h52) else (∃ v54,af h52 (a49.add 3)=some (Slc.v v54)/\(mE v54 r18.2 (fun r55 h56=>gM b_ a_ v14 v17 r18.1 (!r55) k nx1 nx2 h56) h52))) else (∃ v57:Option Addr,af h52 (a49.add 2)=some (.pointer v57)/\(∃ a58,v57=some a58/\(∃ v59,af h52 a58=some (.int .u64 v59)/\(if (v59 != r18.1) then (gM b_ a_ v14 v17 r18.1 true k nx1 nx2 h52) else (∃ v60,af h52 (a49.add 3)=some (Slc.v v60)/\(mE v60 r18.2 (fun r61 h62=>gM b_ a_ v14 v17 r18.1 (!r61) k nx1 nx2 h62) h52)))))))) h19))) h_2))))))) else (qd  (fun r63 h64=>k r63 h64) h_2)))
def kX (b_:Option Addr) (i7:Int) (k:KP Bool) (nx1:KP Int) (h:Heap):Prop :=
  ∃ (I:KP Int) (μ:Int->Heap->Nat),I i7 h/\∀ (a_:Int) (h:Heap),I a_ h->pG b_ a_ k nx1 (fun s h'=>I s h'/\μ s h' < μ a_ h) h
def pJ (b_:Slc) (d_:Option Addr) (a_:Int) (k:KP Bool) (nx1:KP Int) (h_1:Heap):Prop :=
  if ((decide (a_ < (b_.len:Int))) && (decide (a_ < 120))) then (∃ a3,b_.a=some a3/\(0:Int)<=a_/\a_ < (b_.len:Int)/\(∃ v4,aD h_1 (a3.add (a_.toNat * 3)) (S_quaestorlaw26_Act.cs v4)/\(mU d_ v4 a_ (fun r5 h6=>∃ a7,d_=some a7/\(∃ v8,af h6 (a7.add 4)=some (.bool v8)/\(if v8 then (k false h6) else (∃ x9,x9=(IntKind.i64.wrap (a_ + 1))/\(nx1 x9 h6))))) h_1))) else (kX d_ 0 k nx1 h_1)
def qc (b_:Slc) (d_:Option Addr) (i6:Int) (k:KP Bool) (h:Heap):Prop :=
  ∃ (I:KP Int) (μ:Int->Heap->Nat),I i6 h/\∀ (a_:Int) (h:Heap),I a_ h->pJ b_ d_ a_ k (fun s h'=>I s h'/\μ s h' < μ a_ h) h
def pV (p0:Int) (p1:Slc) (k:KP Bool) (h:Heap):Prop :=
  qf (IntKind.i64.wrap (1 + (IntKind.i64.wrap (Int.tmod p0 5)))) (fun r1 h2=>qc p1 r1 0 k h2) h
theorem vT:aA prog 19:=ck func19
theorem uD (p0 k h) (H:qf p0 k h):CallsH prog 19 #[.int .i64 p0] h (fun v h'=>∃ r:Option Addr,v = .pointer r/\k r h'):=by
 refine fE func19 fun w0=>?_
 refine zF [0] (zQ ?_)
 refine w1 Z (zE (zQ ?_))
 refine wY (bT Z rfl rfl rfl rfl rfl) ?_
 refine wX H fun b1 h2 H=>?_
 refine w1 Z (zE (zS (zQ ?_)))
 refine w1 Z (zE (zB ?_))
 obtain ⟨I1,μ1,H0,HI⟩:=H
 refine zO (σ:=Int) [0,3] (fun (s:Int)=>[(4,.int .i64 s)]) I1 μ1 0 H0 ?_
 rintro a_ h_1 H
 replace H:=HI a_ h_1 H
 refine zF [4,0,3] (zS (zQ ?_))
 refine w3 Z (zE ?_)
 refine zI H ?_ ?_ <;> intro H
 refine zK (zX ?_)
 refine zJ (α:=Unit) [0,3,4] (fun (s:Unit)=>[]) (fun (s:Unit) h=>ky p0 (ad b1) a_ k (fun s h'=>I1 s h'/\μ1 s h' < μ1 a_ h_1) h) ?_ ?_
 rintro _ h_2 H
 refine zF [0,3,4] (zR ?_)
 refine w2 Z ?_
 refine wQ Z H fun x3 H=>?_
 refine zW ?_
 exact xJ x3 H
 refine zB ?_
 refine gB [0,3,4] ?_
 refine gT 0 [3] Z ?_
 refine gT 1 [3] Z ?_
 refine gY 2 [13] rfl (fun _=>wW rfl rfl) ?_
 refine gT 3 [14] Z ?_
 refine gl 4 [15] Z H fun v4 H=>?_
 refine gT 5 [4] Z ?_
 refine gT 6 [0] Z ?_
 refine gY 8 [] rfl (fun _=>bT Z rfl rfl rfl rfl rfl) ?_
 refine gO 7 9 H (fun H=>?_) (fun H=>?_)
 refine EU 7 [17,18] O13 (R13 _ _ _ _ _ _ _ _ H) fun r5 h6 H=>?_
 obtain ⟨hy7,H⟩:=H
 refine gR rfl (bv Z rfl rfl rfl rfl hy7) ?_
 refine gZ0 ?_
 obtain ⟨b8,h9,eb8,eh9,H⟩:=H
 refine gHr 9 [20] rfl (wG rfl rfl eb8 eh9) ?_
 obtain ⟨hy10,H⟩:=H
 refine gR rfl (bv Z rfl rfl rfl rfl hy10) ?_
 refine gZ0 ?_
 refine gY 10 [21] rfl (fun _=>bT Z rfl rfl rfl rfl rfl) ?_
 obtain ⟨b11,h12,eb11,eh12,H⟩:=H
 refine gHr 11 [22] rfl (wG rfl rfl eb11 eh12) ?_
 obtain ⟨hy13,H⟩:=H
 refine gR rfl (bv Z rfl rfl rfl rfl hy13) ?_
 refine gZ0 ?_
 refine gY 12 [19,23] rfl (fun _=>bT Z rfl rfl rfl rfl rfl) ?_
 obtain ⟨b14,h15,eb14,eh15,H⟩:=H
 refine gHr 13 [24] rfl (l9 Z rfl rfl rfl rfl rfl rfl rfl eb14 eh15) ?_
 obtain ⟨hy16,H⟩:=H
 refine gR rfl (bv Z rfl rfl rfl rfl hy16) ?_
 refine gZ0 ?_
 refine gA 14 [16,25] rfl (kQ (s:=v4) (r:=(⟨some ⟨b14,0,none⟩,1,1⟩:Slc)) Z rfl rfl rfl rfl rfl (eU eb14 eh15) H) ?_
 rintro _ h18 ⟨s17,rfl,H⟩
 refine gY 15 [12] rfl (fun _=>wW rfl rfl) ?_
 refine gT 16 [27] Z ?_
 refine gs 17 [26,28] Z H fun h19 H=>?_
 refine gZ ?_
 refine yL ?_
 exact xJ () H
 obtain ⟨b20,h21,eb20,eh21,H⟩:=H
 refine BD 9 [20] rfl (wG rfl rfl eb20 eh21) ?_
 obtain ⟨hy22,H⟩:=H
 refine gR rfl (bv Z rfl rfl rfl rfl hy22) ?_
 refine gZ0 ?_
 refine gY 10 [21] rfl (fun _=>bT Z rfl rfl rfl rfl rfl) ?_
 refine gO 7 11 H (fun H=>?_) (fun H=>?_)
 refine EU 7 [17,18] O13 (R13 _ _ _ _ _ _ _ _ H) fun r23 h24 H=>?_
 obtain ⟨hy25,H⟩:=H
 refine gR rfl (bv Z rfl rfl rfl rfl hy25) ?_
 refine gZ0 ?_
 obtain ⟨b26,h27,eb26,eh27,H⟩:=H
 refine gHr 11 [22] rfl (wG rfl rfl eb26 eh27) ?_
 obtain ⟨hy28,H⟩:=H
 refine gR rfl (bv Z rfl rfl rfl rfl hy28) ?_
 refine gZ0 ?_
 refine gY 12 [19,23] rfl (fun _=>bT Z rfl rfl rfl rfl rfl) ?_
 obtain ⟨b29,h30,eb29,eh30,H⟩:=H
 refine gHr 13 [24] rfl (l9 Z rfl rfl rfl rfl rfl rfl rfl eb29 eh30) ?_
 obtain ⟨hy31,H⟩:=H
 refine gR rfl (bv Z rfl rfl rfl rfl hy31) ?_
 refine gZ0 ?_
 refine gA 14 [16,25] rfl (kQ (s:=v4) (r:=(⟨some ⟨b29,0,none⟩,1,1⟩:Slc)) Z rfl rfl rfl rfl rfl (eU eb29 eh30) H) ?_
 rintro _ h33 ⟨s32,rfl,H⟩
 refine gY 15 [12] rfl (fun _=>wW rfl rfl) ?_
 refine gT 16 [27] Z ?_
 refine gs 17 [26,28] Z H fun h34 H=>?_
 refine gZ ?_
 refine yL ?_
 exact xJ () H
 obtain ⟨b35,h36,eb35,eh36,H⟩:=H
 refine BD 11 [22] rfl (wG rfl rfl eb35 eh36) ?_
 obtain ⟨hy37,H⟩:=H
 refine gR rfl (bv Z rfl rfl rfl rfl hy37) ?_
 refine gZ0 ?_
 refine gCr 7 [17,18] O13 (R13 _ _ _ _ _ _ _ _ H) fun r38 h39 H=>?_
 obtain ⟨hy40,H⟩:=H
 refine gR rfl (bv Z rfl rfl rfl rfl hy40) ?_
 refine gZ0 ?_
 refine gY 12 [19,23] rfl (fun _=>bT Z rfl rfl rfl rfl rfl) ?_
 obtain ⟨b41,h42,eb41,eh42,H⟩:=H
 refine gHr 13 [24] rfl (l9 Z rfl rfl rfl rfl rfl rfl rfl eb41 eh42) ?_
 obtain ⟨hy43,H⟩:=H
 refine gR rfl (bv Z rfl rfl rfl rfl hy43) ?_
 refine gZ0 ?_
 refine gA 14 [16,25] rfl (kQ (s:=v4) (r:=(⟨some ⟨b41,0,none⟩,1,1⟩:Slc)) Z rfl rfl rfl rfl rfl (eU eb41 eh42) H) ?_
 rintro _ h45 ⟨s44,rfl,H⟩
 refine gY 15 [12] rfl (fun _=>wW rfl rfl) ?_
 refine gT 16 [27] Z ?_
 refine gs 17 [26,28] Z H fun h46 H=>?_
 refine gZ ?_
 refine yL ?_
 exact xJ () H
 refine zY (yE (yE (yH (zX (zQ (w2 Z (zE (zF [2] (zT ?_)))))))))
 exact az _ rfl _ rfl ⟨(some (ad b1)),rfl,H⟩
theorem oW:aA prog 58:=ck func58
theorem oF (p0 p1 k h) (H:kv p0 p1 k h):CallsH prog 58 #[.pointer p0,.int .i64 p1] h (rU k):=by
 refine fE func58 fun w0=>?_
 refine zF [0,1] (zQ ?_)
 refine w1 Z ?_
 refine wN H fun a1 _ H=>?_
 refine w1 Z ?_
 refine wL Z H fun v2 H=>?_
 refine w1 Z ?_
 refine wD Z H fun a3 _ H=>?_
 refine w1 Z ?_
 refine wL Z H fun v4 H=>?_
 refine w1 Z (zE (zF [0,1,4] (zS (zQ ?_))))
 refine w1 Z (zE (zB ?_))
 obtain ⟨I1,μ1,H0,HI⟩:=H
 refine zO (σ:=Int) [0,1,4] (fun (s:Int)=>[(5,.int .u64 s)]) I1 μ1 1 H0 ?_
 rintro a_ h_1 H
 replace H:=HI a_ h_1 H
 refine zF [5,0,1,4] (zS (zQ ?_))
 refine w2 Z ?_
 refine wC O18 (R18 _ _ _ H) fun r5 h6 H=>?_
 refine w2 Z ?_
 refine vU 3 [0,1,4,5] [(24,.bool ((decide (a_<=r5)) && (decide (a_ < 300))))] ?_ ?_
 refine zE ?_
 refine zI H ?_ ?_ <;> intro H
 refine zK (zX ?_)
 refine zJ (α:=Unit) [0,1,4,5] (fun (s:Unit)=>[]) (fun (s:Unit) h=>cK p0 p1 v4 a_ k (fun s h'=>I1 s h'/\μ1 s h' < μ1 a_ h_1) h) ?_ ?_
 rintro _ h_2 H
 refine zF [0,1,4,5] (zR ?_)
 refine w2 Z ?_
 refine wQ Z H fun x7 H=>?_
 refine zW ?_
 exact xJ x7 H
 refine zB (zQ (w2 Z ?_))
 refine wC O25 (R25 _ _ _ _ H) fun r8 h9 H=>?_
 refine w3 Z ?_
 refine wB Z H fun b10 h11 H=>?_
 refine wTa Z H fun h12 H=>?_
 refine w1 Z (zE (zF [0,1,4,5,6,7] (zS (zQ ?_))))
 refine w2 Z (zE ?_)
 refine zI H ?_ ?_ <;> intro H
 refine zY (yE (yH ?_))
 exact xJ () H
 refine zK (zX (zS (zB ?_)))
 obtain ⟨I3,μ3,H0,HI⟩:=H
 refine zO (σ:=Unit) [0,1,4,5,6] (fun (s:Unit)=>[]) I3 μ3 () H0 ?_
 rintro _ h_3 H
 replace H:=HI  h_3 H
 refine zF [0,1,4,5,6] (zS (zQ ?_))
 refine w1 Z ?_
 refine wN H fun a13 ha13 H=>?_
 refine w1 Z ?_
 refine wL Z H fun v14 H=>?_
 refine w4 Z (zE (zF [0,1,4,5,6,42] ?_))
 refine zI H ?_ ?_ <;> intro H
 refine zK (zX (zB (zR (w2 Z ?_))))
 refine wY (au rfl rfl ha13) ?_
 refine w1 Z ?_
 refine wL Z H fun v15 H=>?_
 refine wY (bT Z rfl rfl rfl rfl rfl) ?_
 obtain ⟨b16,h17,eb16,eh17,H⟩:=H
 refine wH (l9 Z rfl rfl rfl rfl rfl rfl rfl eb16 eh17) ?_
 refine wA (kQ (s:=v15) (r:=(⟨some ⟨b16,0,none⟩,1,1⟩:Slc)) Z rfl rfl rfl rfl rfl (eU eb16 eh17) H) ?_
 rintro _ h19 ⟨s18,rfl,H⟩
 refine wY (au rfl rfl ha13) ?_
 refine w1 Z ?_
 refine wT Z H fun h20 H=>?_
 refine zL ?_
 exact xJ () H
 refine zY (yE (yE (yH (zX (zQ (w1 Z ?_))))))
 refine wY (au rfl rfl ha13) ?_
 refine w1 Z ?_
 refine wL Z H fun v21 H=>?_
 refine w2 Z ?_
 refine wD Z H fun a22 _ H=>?_
 refine wLa Z H fun v23 H=>?_
 refine wB Z H fun b24 h25 H=>?_
 refine wTa Z H fun h26 H=>?_
 refine zE (zF [0,1,4,5,6,8] (zQ ?_))
 refine w1 Z ?_
 refine wL Z H fun v27 H=>?_
 refine w1 Z (zE ?_)
 refine zI H ?_ ?_ <;> intro H
 refine gB [0,1,4,5,6] ?_
 refine gT 0 [0] Z ?_
 refine gY 1 [64] rfl (fun _=>au rfl rfl ha13) ?_
 refine gT 2 [65] Z ?_
 refine gl 3 [66] Z H fun v28 H=>?_
 refine gT 4 [5] Z ?_
 refine gT 5 [68] Z ?_
 refine gla 6 [6] Z H fun v29 H=>?_
 refine gd 7 [67,69] Z H fun a30 H=>?_
 obtain ⟨h31,wh31,eh31,H⟩:=H
 refine gH 8 [70,71] rfl (yg Z rfl rfl rfl rfl rfl (qX (by kernel_rfl)) wh31 eh31) ?_
 refine gZ ?_
 refine yL ?_
 exact xJ () H
 refine zQ (w1 Z ?_)
 refine wL Z H fun v32 H=>?_
 refine w1 Z ?_
 refine wL Z H fun v33 H=>?_
 refine w2 Z ?_
 refine vJ 7 (α:=Bool) [0,1,4,5] (fun (s:Bool)=>[(84,.bool s)]) (fun (s:Bool) h=>jX p0 p1 v4 a_ s k (fun s h'=>I1 s h'/\μ1 s h' < μ1 a_ h_1) (fun s h'=>I3 s h'/\μ3 s h' < μ3 () h_3) h) ?_ ?_
 rintro b_ h_4 H
 refine vF [84,0,1,4,5] (zE ?_)
 refine zI H ?_ ?_ <;> intro H
 refine zR (w1 Z ?_)
 refine wN H fun a34 _ H=>?_
 refine w1 Z ?_
 refine wT Z H fun h35 H=>?_
 refine zL ?_
 exact xJ () H
 refine zK (yL ?_)
 exact xJ () H
 refine vI 77 H ?_ ?_ <;> intro H
 refine wS (wS (wS (wS (wS (wS (w1 Z ?_))))))
 exact wJ true H
 refine w1 Z ?_
 refine wL Z H fun v36 H=>?_
 refine w1 Z ?_
 refine wL Z H fun v37 H=>?_
 refine wC O11 (R11 _ _ _ _ H) fun r38 h39 H=>?_
 refine w2 Z ?_
 exact wJ (!r38) H
 refine zY (yE (yE (yH (zX (zQ (w1 Z ?_))))))
 refine wC O22 (R22 _ _ _ H) fun r40 h41 H=>?_
 refine w1 Z ?_
 refine vJ 4 (α:=Bool) [0,1,4] (fun (s:Bool)=>[(94,.bool s)]) (fun (s:Bool) h=>iq p0 p1 v4 s k (fun s h'=>I1 s h'/\μ1 s h' < μ1 a_ h_1) h) ?_ ?_
 rintro d_ h_5 H
 refine vF [94,0,1,4] (zE ?_)
 refine zI H ?_ ?_ <;> intro H
 refine zS (zB ?_)
 obtain ⟨I6,μ6,H0,HI⟩:=H
 refine zO (σ:=Unit) [0,1,4] (fun (s:Unit)=>[]) I6 μ6 () H0 ?_
 rintro _ h_6 H
 replace H:=HI  h_6 H
 refine zF [0,1,4] (zS (zS ?_))
 refine gB [0,1,4] ?_
 refine gT 0 [0] Z ?_
 obtain ⟨a42,ha42,H⟩:=H
 refine gY 1 [95] rfl (fun _=>au rfl rfl ha42) ?_
 refine gT 2 [96] Z ?_
 refine gl 3 [97] Z H fun v43 H=>?_
 refine gT 4 [98] Z ?_
 refine gT 5 [99] Z ?_
 refine gT 6 [4] Z ?_
 refine gCr 7 [101] O17 (R17 _ _ _ H) fun r44 h45 H=>?_
 obtain ⟨hy46,H⟩:=H
 refine gR rfl (bv Z rfl rfl rfl rfl hy46) ?_
 refine gZ0 ?_
 refine gT 8 [100,102] Z ?_
 refine gZ ?_
 refine zX (zF [0,1,4,103] ?_)
 refine zI H ?_ ?_ <;> intro H
 refine zK (zX (zB (zR (w2 Z ?_))))
 refine wY (au rfl rfl ha42) ?_
 refine w1 Z ?_
 refine wL Z H fun v47 H=>?_
 obtain ⟨b48,h49,eb48,eh49,H⟩:=H
 refine wH (l9 Z rfl rfl rfl rfl rfl rfl rfl eb48 eh49) ?_
 refine wA (kQ (s:=v47) (r:=(⟨some ⟨b48,0,none⟩,1,1⟩:Slc)) Z rfl rfl rfl rfl rfl (eU eb48 eh49) H) ?_
 rintro _ h51 ⟨s50,rfl,H⟩
 refine wY (au rfl rfl ha42) ?_
 refine w1 Z ?_
 refine wT Z H fun h52 H=>?_
 refine zL ?_
 exact xJ () H
 refine zY (yE (yE (yH (zX ?_))))
 refine zJ (α:=Unit) [0,1,4] (fun (s:Unit)=>[]) (fun (s:Unit) h=>ig p0 p1 v4 k (fun s h'=>I1 s h'/\μ1 s h' < μ1 a_ h_1) (fun s h'=>I6 s h'/\μ6 s h' < μ6 () h_6) h) ?_ ?_
 rintro _ h_7 H
 refine zF [0,1,4] ?_
 refine gB [0,1,4] ?_
 refine gT 0 [0] Z ?_
 obtain ⟨a53,ha53,H⟩:=H
 refine gY 1 [137] rfl (fun _=>au rfl rfl ha53) ?_
 refine gT 2 [138] Z ?_
 refine gl 3 [139] Z H fun v54 H=>?_
 refine gT 4 [4] Z ?_
 refine gT 6 [1] Z ?_
 refine gCr 5 [141] O17 (R17 _ _ _ H) fun r55 h56 H=>?_
 obtain ⟨hy57,H⟩:=H
 refine gR rfl (bv Z rfl rfl rfl rfl hy57) ?_
 refine gZ0 ?_
 refine gd 7 [140,142] Z H fun a58 H=>?_
 refine gs 8 [143,144] Z H fun h59 H=>?_
 refine gZ ?_
 exact kz _ rfl _ rfl ⟨(),rfl,H⟩
 refine zJ (α:=Bool) [0,1,4] (fun (s:Bool)=>[(133,.bool s)]) (fun (s:Bool) h=>iw p0 p1 v4 s k (fun s h'=>I1 s h'/\μ1 s h' < μ1 a_ h_1) (fun s h'=>I6 s h'/\μ6 s h' < μ6 () h_6) h) ?_ ?_
 rintro f_ h_8 H
 refine zF [133,0,1,4] ?_
 refine zI H ?_ ?_ <;> intro H
 refine zR (w1 Z ?_)
 refine wN H fun a60 _ H=>?_
 refine w1 Z ?_
 refine wT Z H fun h61 H=>?_
 refine zW ?_
 exact xJ () H
 refine zK ?_
 exact xJ () H
 refine gB [0,1,4] ?_
 refine gT 0 [0] Z ?_
 refine gY 1 [113] rfl (fun _=>au rfl rfl ha42) ?_
 refine gT 2 [114] Z ?_
 refine gl 3 [115] Z H fun v62 H=>?_
 refine gT 4 [4] Z ?_
 refine gCr 5 [117] O17 (R17 _ _ _ H) fun r63 h64 H=>?_
 obtain ⟨hy65,H⟩:=H
 refine gR rfl (bv Z rfl rfl rfl rfl hy65) ?_
 refine gZ0 ?_
 refine gd 6 [116,118] Z H fun a66 H=>?_
 refine gl 7 [119] Z H fun v67 H=>?_
 refine gT 8 [120] Z ?_
 refine gT 9 [121] Z ?_
 refine gI 122 H (fun hb H=>?_) (fun hb H=>?_)
 refine gT 10 [0,122] Z ?_
 refine gY 11 [122,123] rfl (fun _=>au rfl rfl ha42) ?_
 refine gT 12 [122,124] Z ?_
 refine gl 13 [122,125] Z H fun v68 H=>?_
 refine gT 14 [4,122] Z ?_
 refine gT 18 [1,122] Z ?_
 refine gCr 15 [122,127] O17 (R17 _ _ _ H) fun r69 h70 H=>?_
 obtain ⟨hy71,H⟩:=H
 refine gR rfl (bv Z rfl rfl rfl rfl hy71) ?_
 refine gZ0 ?_
 refine gd 16 [122,126,128] Z H fun a72 H=>?_
 refine gl 17 [122,129] Z H fun v73 H=>?_
 refine gT 19 [122,130,131] Z ?_
 refine gT 20 [122,132] Z ?_
 refine gZ ?_
 exact xJ (v73 != p1) H
 refine gS 10 [0,122] ?_
 refine gS 11 [122,123] ?_
 refine gS 12 [122,124] ?_
 refine gS 13 [122,125] ?_
 refine gS 14 [4,122] ?_
 refine gS 15 [122,127] ?_
 refine gS 16 [122,126,128] ?_
 refine gS 17 [122,129] ?_
 refine gS 18 [1,122] ?_
 refine gS 19 [122,130,131] ?_
 refine gT 20 [122,132] Z ?_
 refine gZ ?_
 exact xJ false H
 refine zK ?_
 exact kz _ rfl _ rfl ⟨(),rfl,H⟩
 refine vI 90 H ?_ ?_ <;> intro H
 refine w1 Z ?_
 refine wC O17 (R17 _ _ _ H) fun r74 h75 H=>?_
 refine w2 Z ?_
 exact wJ (decide (r74 < 300)) H
 refine wS (wS (wS (w1 Z ?_)))
 exact wJ false H
 refine vG (d:=21) (fun hb=>?_) (fun hb=>?_)
 refine w3 Z ?_
 refine vK ?_
 exact congrArg (fun b=>some (Value.bool b)) (qO hb)
 refine wS (wS (w1 Z ?_))
 refine vK ?_
 exact congrArg (fun b=>some (Value.bool b)) (qK hb)
theorem jW:aA prog 21:=ck func21
theorem jJ (p0 p1 p2 k h) (H:dH p0 p1 p2 k h):CallsH prog 21 #[.pointer p0,.int .i64 p1,Slc.v p2] h (rU k):=by
 refine fE func21 fun w0=>?_
 refine zF [0,1,2] (zQ ?_)
 refine w1 Z ?_
 refine wN H fun a1 _ H=>?_
 refine w1 Z ?_
 refine wL Z H fun v2 H=>?_
 refine w1 Z ?_
 refine wD Z H fun a3 _ H=>?_
 refine w1 Z ?_
 refine wL Z H fun v4 H=>?_
 refine wC O56 (R56 _ _ _ H) fun r5 h6 H=>?_
 refine w1 Z (zE (zF [0,1,2,6] (zS (zQ ?_))))
 refine w1 Z (zE (zB ?_))
 obtain ⟨I1,μ1,H0,HI⟩:=H
 refine zO (σ:=Int) [0,1,2,6] (fun (s:Int)=>[(7,.int .i64 s)]) I1 μ1 0 H0 ?_
 rintro a_ h_1 H
 replace H:=HI a_ h_1 H
 refine zF [7,0,1,2,6] (zS (zQ ?_))
 refine w4 Z (zE ?_)
 refine zI H ?_ ?_ <;> intro H
 refine zK (zX ?_)
 refine zJ (α:=Unit) [0,1,2,6,7] (fun (s:Unit)=>[]) (fun (s:Unit) h=>jY p0 p1 p2 r5 a_ k (fun s h'=>I1 s h'/\μ1 s h' < μ1 a_ h_1) h) ?_ ?_
 rintro _ h_2 H
 refine zF [0,1,2,6,7] (zR ?_)
 refine w2 Z ?_
 refine wQ Z H fun x7 H=>?_
 refine zW ?_
 exact xJ x7 H
 refine zB (zS ?_)
 refine gB [0,1,2,6,7] ?_
 refine gT 0 [0] Z ?_
 obtain ⟨a8,ha8,H⟩:=H
 refine gY 1 [24] rfl (fun _=>au rfl rfl ha8) ?_
 refine gT 2 [25] Z ?_
 refine gl 3 [26] Z H fun v9 H=>?_
 refine gT 4 [1] Z ?_
 refine gd 5 [27,28] Z H fun a10 H=>?_
 refine gT 6 [29] Z ?_
 refine gl 7 [30] Z H fun v11 H=>?_
 refine gT 8 [6] Z ?_
 refine gT 9 [7] Z ?_
 refine gd 10 [32,33] Z H fun a12 H=>?_
 refine gla 11 [34] Z H fun v13 H=>?_
 refine gC 12 [31,35] O57 (R57 _ _ _ _ H) fun r14 h15 H=>?_
 refine gT 13 [36] Z ?_
 refine gZ ?_
 refine zX (zF [0,1,2,6,7,37] ?_)
 refine zI H ?_ ?_ <;> intro H
 refine zR (w1 Z ?_)
 refine wY (au rfl rfl ha8) ?_
 refine w1 Z ?_
 refine wT Z H fun h16 H=>?_
 refine zL ?_
 exact xJ () H
 refine zK (yL ?_)
 exact xJ () H
 refine zY (yE (yE (yH (zX (zS (zQ (w1 Z (zE (zB ?_)))))))))
 obtain ⟨I3,μ3,H0,HI⟩:=H
 refine zO (σ:=Int) [0,1,2] (fun (s:Int)=>[(8,.int .i64 s)]) I3 μ3 0 H0 ?_
 rintro b_ h_3 H
 replace H:=HI b_ h_3 H
 refine zF [8,0,1,2] (zS (zQ ?_))
 refine w5 Z ?_
 refine vJ 7 (α:=Bool) [0,1,2,8] (fun (s:Bool)=>[(52,.bool s)]) (fun (s:Bool) h=>fo p0 p1 p2 b_ s k (fun s h'=>I1 s h'/\μ1 s h' < μ1 a_ h_1) (fun s h'=>I3 s h'/\μ3 s h' < μ3 b_ h_3) h) ?_ ?_
 rintro d_ h_4 H
 refine vF [52,0,1,2,8] (zE ?_)
 refine zI H ?_ ?_ <;> intro H
 refine zK (zX (zS (zB ?_)))
 refine gB [0,1,2,8] ?_
 refine gT 0 [0] Z ?_
 refine gT 1 [0] Z ?_
 obtain ⟨a17,ha17,H⟩:=H
 refine gY 2 [56] rfl (fun _=>au rfl rfl ha17) ?_
 refine gT 3 [57] Z ?_
 refine gl 4 [58] Z H fun v18 H=>?_
 refine gT 5 [1] Z ?_
 refine gT 6 [2] Z ?_
 refine gT 7 [8] Z ?_
 refine gd 8 [61,62] Z H fun a19 H=>?_
 refine gT 9 [63] Z ?_
 refine gl 10 [64] Z H fun v20 H=>?_
 refine gT 11 [2] Z ?_
 refine gT 12 [8] Z ?_
 refine gd 13 [66,67] Z H fun a21 H=>?_
 refine gT 14 [68] Z ?_
 refine gla 15 [69] Z H fun v22 H=>?_
 refine gY 16 [60,65,70] rfl (fun _=>bT Z rfl rfl rfl rfl rfl) ?_
 obtain ⟨b23,h24,eb23,eh24,H⟩:=H
 refine gHr 17 [71] rfl (l9 Z rfl rfl rfl rfl rfl rfl rfl eb23 eh24) ?_
 obtain ⟨hy25,H⟩:=H
 refine gR rfl (bv Z rfl rfl rfl rfl hy25) ?_
 refine gZ0 ?_
 refine gA 18 [59,72] rfl (kQ (s:=v18) (r:=(⟨some ⟨b23,0,none⟩,1,1⟩:Slc)) Z rfl rfl rfl rfl rfl (eU eb23 eh24) H) ?_
 rintro _ h27 ⟨s26,rfl,H⟩
 refine gY 19 [55] rfl (fun _=>au rfl rfl ha17) ?_
 refine gT 20 [74] Z ?_
 refine gs 21 [73,75] Z H fun h28 H=>?_
 refine gZ ?_
 refine yL (zX (zF [0,1,2,8] (zR ?_)))
 refine w2 Z ?_
 refine wQ Z H fun x29 H=>?_
 refine zW ?_
 exact xJ x29 H
 refine zY (yE (yE (yH (zX (zR (w2 Z ?_))))))
 refine wC oW (oF _ _ _ _ H) fun r30 h31 H=>?_
 refine zW ?_
 exact kz _ rfl _ rfl ⟨(),rfl,H⟩
 refine vI 45 H ?_ ?_ <;> intro H
 refine w1 Z ?_
 refine wN H fun a32 _ H=>?_
 refine w1 Z ?_
 refine wL Z H fun v33 H=>?_
 refine w3 Z ?_
 exact wJ (decide ((v33.len:Int) < 3000)) H
 refine wS (wS (wS (wS (wS (wS (w1 Z ?_))))))
 exact wJ false H
theorem oM:aA prog 24:=ck func24
theorem oG (p0 p1 p2 k h) (H:ko p0 p1 p2 k h):CallsH prog 24 #[.pointer p0,.int .i64 p1,.bool p2] h (rU k):=by
 refine fE func24 fun w0=>?_
 refine zF [0,1,2] (zQ ?_)
 refine w1 Z ?_
 refine wN H fun a1 ha1 H=>?_
 refine w1 Z ?_
 refine wL Z H fun v2 H=>?_
 refine w1 Z ?_
 refine wD Z H fun a3 _ H=>?_
 refine wLa Z H fun v4 H=>?_
 refine wB Z H fun b5 h6 H=>?_
 refine wTa Z H fun h7 H=>?_
 refine zE (zF [0,1,2,6] ?_)
 refine zJ (α:=Unit) [0,6] (fun (s:Unit)=>[]) (fun (s:Unit) h=>fA p0 (ad b5) k h) ?_ ?_
 rintro _ h_1 H
 refine zF [0,6] ?_
 refine gB [0,6] ?_
 refine gT 0 [0] Z ?_
 refine gT 1 [6] Z ?_
 refine gl 2 [36] Z H fun v8 H=>?_
 refine gT 3 [0] Z ?_
 obtain ⟨a9,ha9,H⟩:=H
 refine gY 4 [38] rfl (fun _=>au rfl rfl ha9) ?_
 refine gT 5 [39] Z ?_
 refine gl 6 [40] Z H fun v10 H=>?_
 refine gT 7 [6] Z ?_
 refine gl 8 [42] Z H fun v11 H=>?_
 refine gd 9 [41,43] Z H fun a12 H=>?_
 refine gT 10 [44] Z ?_
 refine gl 11 [45] Z H fun v13 H=>?_
 refine gT 12 [6] Z ?_
 refine gl 13 [47] Z H fun v14 H=>?_
 refine gT 14 [6] Z ?_
 refine gla 15 [49] Z H fun v15 H=>?_
 refine gCr 16 [46,48,50] O15 (R15 _ _ _ _ _ H) fun r16 h17 H=>?_
 obtain ⟨hy18,H⟩:=H
 refine gR rfl (bv Z rfl rfl rfl rfl hy18) ?_
 refine gZ0 ?_
 refine gC 17 [35,37,51] jW (jJ _ _ _ _ _ H) fun r19 h20 H=>?_
 refine gZ ?_
 exact kz _ rfl _ rfl ⟨(),rfl,H⟩
 refine zQ (w2 Z (zE ?_))
 refine zI H ?_ ?_ <;> intro H
 refine gB [0,1,6] ?_
 refine gT 0 [0] Z ?_
 refine gT 2 [0] Z ?_
 refine gY 3 [18] rfl (fun _=>au rfl rfl ha1) ?_
 refine gT 4 [19] Z ?_
 refine gl 5 [20] Z H fun v21 H=>?_
 refine gT 6 [1] Z ?_
 obtain ⟨s22,ps22,qs22,rs22,ts22,es22,H⟩:=H
 refine gYe 7 [21,22] rfl (fun _=>sS (s:=v21) (L:=0) (H:=p1) (M:=(v21.cap:Int)) Z rfl rfl rfl rfl rfl rfl rfl (by simp) ps22 qs22 rs22 ts22) (congrArg Slc.v es22) ?_
 refine gT 9 [0] Z ?_
 refine gY 10 [25] rfl (fun _=>au rfl rfl ha1) ?_
 refine gT 11 [26] Z ?_
 refine gl 12 [27] Z H fun v23 H=>?_
 refine gT 13 [1] Z ?_
 refine gT 14 [29] Z ?_
 obtain ⟨s24,ps24,qs24,rs24,ts24,es24,H⟩:=H
 refine gYe 15 [28,30] rfl (fun _=>sS (s:=v23) (L:=(IntKind.i64.wrap (p1 + 1))) (H:=(v23.len:Int)) (M:=(v23.cap:Int)) Z rfl rfl rfl rfl rfl rfl rfl (by simp) ps24 qs24 rs24 ts24) (congrArg Slc.v es24) ?_
 obtain ⟨b25,h26,eb25,eh26,H⟩:=H
 refine gHr 1 [] rfl (l9 Z rfl rfl rfl rfl rfl rfl rfl eb25 eh26) ?_
 obtain ⟨hy27,hy28,H⟩:=H
 refine gR rfl (bv Z rfl rfl rfl rfl hy27) ?_
 refine gR rfl (bv Z rfl rfl rfl rfl hy28) ?_
 refine gZ0 ?_
 obtain ⟨l31,hl31,H⟩:=H
 refine gAr 8 [17,23] rfl (kQ (s:=(⟨some ⟨b25,0,none⟩,0,0⟩:Slc)) (r:=s22) Z rfl rfl rfl rfl rfl hl31 H) ?_
 rintro _ h30 ⟨s29,rfl,H⟩
 obtain ⟨hy32,H⟩:=H
 refine gR rfl (bv Z rfl rfl rfl rfl hy32) ?_
 refine gZ0 ?_
 obtain ⟨l35,hl35,H⟩:=H
 refine gA 16 [24,31] rfl (kQ (s:=s29) (r:=s24) Z rfl rfl rfl rfl rfl hl35 H) ?_
 rintro _ h34 ⟨s33,rfl,H⟩
 refine gY 17 [16] rfl (fun _=>au rfl rfl ha1) ?_
 refine gT 18 [33] Z ?_
 refine gs 19 [32,34] Z H fun h36 H=>?_
 refine gZ ?_
 exact xJ () H
 refine zK ?_
 exact xJ () H
theorem rD:aA prog 54:=ck func54
theorem qQ (p0 p1 k h) (H:kV p0 p1 k h):CallsH prog 54 #[.pointer p0,.int .i64 p1] h (rU k):=by
 refine fE func54 fun w0=>?_
 refine zF [0,1] (zQ ?_)
 refine w1 Z ?_
 refine wN H fun a1 ha1 H=>?_
 refine w1 Z ?_
 refine wL Z H fun v2 H=>?_
 refine w1 Z ?_
 refine wD Z H fun a3 _ H=>?_
 refine w1 Z ?_
 refine wL Z H fun v4 H=>?_
 refine w1 Z (zE (zF [0,1,4] (zS ?_)))
 refine gB [0,1,4] ?_
 refine gT 0 [0] Z ?_
 refine gY 1 [13] rfl (fun _=>au rfl rfl ha1) ?_
 refine gT 2 [14] Z ?_
 refine gl 3 [15] Z H fun v5 H=>?_
 refine gT 4 [1] Z ?_
 refine gT 5 [1] Z ?_
 refine gT 6 [0] Z ?_
 refine gY 7 [19] rfl (fun _=>au rfl rfl ha1) ?_
 refine gT 8 [20] Z ?_
 refine gl 9 [21] Z H fun v6 H=>?_
 refine gT 10 [22] Z ?_
 refine gT 11 [4] Z ?_
 obtain ⟨a7,ha7,H⟩:=H
 refine gY 12 [24] rfl (fun _=>au rfl rfl ha7) ?_
 refine gT 13 [25] Z ?_
 refine gl 14 [26] Z H fun v8 H=>?_
 refine gT 15 [4] Z ?_
 refine gY 16 [28] rfl (fun _=>au rfl rfl ha7) ?_
 refine gT 17 [29] Z ?_
 refine gl 18 [30] Z H fun v9 H=>?_
 refine gT 19 [4] Z ?_
 refine gY 20 [32] rfl (fun _=>au rfl rfl ha7) ?_
 refine gT 21 [33] Z ?_
 refine gl 22 [34] Z H fun v10 H=>?_
 obtain ⟨a11,ha11,H⟩:=H
 refine gY 23 [35] rfl (fun _=>au rfl rfl ha11) ?_
 refine gT 24 [36] Z ?_
 refine gl 25 [37] Z H fun v12 H=>?_
 refine gT 26 [4] Z ?_
 refine gY 27 [39] rfl (fun _=>au rfl rfl ha7) ?_
 refine gT 28 [40] Z ?_
 refine gl 29 [41] Z H fun v13 H=>?_
 obtain ⟨a14,ha14,H⟩:=H
 refine gY 30 [42] rfl (fun _=>au rfl rfl ha14) ?_
 refine gT 31 [43] Z ?_
 refine gl 32 [44] Z H fun v15 H=>?_
 refine gT 33 [4] Z ?_
 refine gY 34 [46] rfl (fun _=>au rfl rfl ha7) ?_
 refine gT 35 [47] Z ?_
 refine gl 36 [48] Z H fun v16 H=>?_
 obtain ⟨a17,ha17,H⟩:=H
 refine gY 37 [49] rfl (fun _=>au rfl rfl ha17) ?_
 refine gT 38 [50] Z ?_
 refine gl 39 [51] Z H fun v18 H=>?_
 refine gT 41 [4] Z ?_
 refine gY 42 [54] rfl (fun _=>au rfl rfl ha7) ?_
 refine gT 43 [55] Z ?_
 refine gl 44 [56] Z H fun v19 H=>?_
 refine gCr 40 [38,45,52] O39 (R39 _ _ _ _ _ H) fun r20 h21 H=>?_
 obtain ⟨hy22,hy23,hy24,hy25,hy26,H⟩:=H
 refine gR rfl (bv Z rfl rfl rfl rfl hy22) ?_
 refine gR rfl (bv Z rfl rfl rfl rfl hy23) ?_
 refine gR rfl (bv Z rfl rfl rfl rfl hy24) ?_
 refine gR rfl (bv Z rfl rfl rfl rfl hy25) ?_
 refine gR rfl (bv Z rfl rfl rfl rfl hy26) ?_
 refine gZ0 ?_
 refine gCr 45 [18,23,27,31,53,57] O13 (R13 _ _ _ _ _ _ _ _ H) fun r27 h28 H=>?_
 obtain ⟨hy29,H⟩:=H
 refine gR rfl (bv Z rfl rfl rfl rfl hy29) ?_
 refine gZ0 ?_
 refine gd 46 [16,17] Z H fun a30 H=>?_
 refine gT 47 [59] Z ?_
 refine gs 48 [58,60] Z H fun h31 H=>?_
 refine gZ ?_
 refine zX (zF [0,1] (zR ?_))
 refine w2 Z ?_
 refine wC oW (oF _ _ _ _ H) fun r32 h33 H=>?_
 refine zW ?_
 exact kz _ rfl _ rfl ⟨(),rfl,H⟩
theorem sZ:aA prog 20:=ck func20
theorem su (p0 p1 p2 k h) (H:mU p0 p1 p2 k h):CallsH prog 20 #[.pointer p0,.agg (S_quaestorlaw26_Act.cs p1).toArray,.int .i64 p2] h (rU k):=by
 refine fE func20 fun w0=>?_
 refine zF [0,1,2] (zQ ?_)
 refine wX H fun b1 h2 H=>?_
 refine zE (zS ?_)
 refine gB [0,2,4] ?_
 refine gT 0 [4] Z ?_
 refine gl 1 [8] Z H fun v3 H=>?_
 refine gT 2 [0] Z ?_
 obtain ⟨a4,ha4,H⟩:=H
 refine gY 3 [10] rfl (fun _=>au rfl rfl ha4) ?_
 refine gT 4 [11] Z ?_
 refine gl 5 [12] Z H fun v5 H=>?_
 refine gT 6 [13] Z ?_
 refine gC 7 [9,14] O53 (R53 _ _ _ _ H) fun r6 h7 H=>?_
 refine gT 8 [15] Z ?_
 refine gZ ?_
 refine zX (zF [0,2,4,6] (zS ?_))
 refine gB [0,2,4,6] ?_
 refine gT 0 [4] Z ?_
 refine gl 1 [16] Z H fun v8 H=>?_
 refine gT 2 [0] Z ?_
 refine gY 3 [18] rfl (fun _=>au rfl rfl ha4) ?_
 refine gT 4 [19] Z ?_
 refine gl 5 [20] Z H fun v9 H=>?_
 refine gT 6 [21] Z ?_
 refine gC 7 [17,22] O53 (R53 _ _ _ _ H) fun r10 h11 H=>?_
 refine gT 8 [23] Z ?_
 refine gZ ?_
 refine zX (zF [0,2,4,6,7] (zQ ?_))
 refine w1 Z ?_
 refine wL Z H fun v12 H=>?_
 refine wC O53 (R53 _ _ _ _ H) fun r13 h14 H=>?_
 refine zE (zB ?_)
 refine zJ (α:=Bool) [0,2,6,7,26] (fun (s:Bool)=>[(36,.bool s)]) (fun (s:Bool) h=>jv p0 p2 r6 r10 r13 s k h) ?_ ?_
 rintro a_ h_1 H
 refine zF [36,0,2,6,7,26] ?_
 refine zI H ?_ ?_ <;> intro H
 refine zR (w3 Z ?_)
 refine wN H fun a15 _ H=>?_
 refine w1 Z ?_
 refine wL Z H fun v16 H=>?_
 refine w1 Z ?_
 refine wD Z H fun a17 _ H=>?_
 refine w1 Z ?_
 refine wL Z H fun v18 H=>?_
 refine wC O14 (R14 _ _ _ H) fun r19 h20 H=>?_
 refine wC jW (jJ _ _ _ _ _ H) fun r21 h22 H=>?_
 refine zL ?_
 exact kz _ rfl _ rfl ⟨(),rfl,H⟩
 refine zQ (w2 Z (zE ?_))
 refine zI H ?_ ?_ <;> intro H
 refine zQ (w1 Z ?_)
 refine wN H fun a23 _ H=>?_
 refine w1 Z ?_
 refine wL Z H fun v24 H=>?_
 refine w1 Z ?_
 refine wD Z H fun a25 _ H=>?_
 refine w1 Z ?_
 refine wL Z H fun v26 H=>?_
 refine w2 Z ?_
 obtain ⟨b27,h28,eb27,eh28,H⟩:=H
 refine wH (l9 Z rfl rfl rfl rfl rfl rfl rfl eb27 eh28) ?_
 refine wC O23 (R23 _ _ _ _ H) fun r29 h30 H=>?_
 refine zE (zF [0,6] (zR ?_))
 refine w2 Z ?_
 refine wC jW (jJ _ _ _ _ _ H) fun r31 h32 H=>?_
 refine zL ?_
 exact kz _ rfl _ rfl ⟨(),rfl,H⟩
 refine zQ (w2 Z (zE ?_))
 refine zI H ?_ ?_ <;> intro H
 refine zR (w2 Z ?_)
 refine wC rD (qQ _ _ _ _ H) fun r33 h34 H=>?_
 refine zL ?_
 exact kz _ rfl _ rfl ⟨(),rfl,H⟩
 refine zQ (w2 Z (zE (zF [0,6,7,26,73] ?_)))
 refine zI H ?_ ?_ <;> intro H
 refine zS ?_
 refine gB [0,6] ?_
 refine gT 0 [0] Z ?_
 obtain ⟨a35,ha35,H⟩:=H
 refine gY 1 [75] rfl (fun _=>au rfl rfl ha35) ?_
 refine gT 2 [76] Z ?_
 refine gl 3 [77] Z H fun v36 H=>?_
 refine gT 4 [6] Z ?_
 refine gd 5 [78,79] Z H fun a37 H=>?_
 refine gT 6 [80] Z ?_
 refine gl 7 [81] Z H fun v38 H=>?_
 refine gT 8 [0] Z ?_
 refine gY 9 [83] rfl (fun _=>au rfl rfl ha35) ?_
 refine gT 10 [84] Z ?_
 refine gl 11 [85] Z H fun v39 H=>?_
 refine gT 12 [6] Z ?_
 refine gd 13 [86,87] Z H fun a40 H=>?_
 refine gT 14 [88] Z ?_
 refine gl 15 [89] Z H fun v41 H=>?_
 refine gT 17 [0] Z ?_
 refine gY 18 [92] rfl (fun _=>au rfl rfl ha35) ?_
 refine gT 19 [93] Z ?_
 refine gl 20 [94] Z H fun v42 H=>?_
 refine gT 21 [6] Z ?_
 refine gd 22 [95,96] Z H fun a43 H=>?_
 refine gT 23 [97] Z ?_
 refine gl 24 [98] Z H fun v44 H=>?_
 refine gCr 16 [90] O18 (R18 _ _ _ H) fun r45 h46 H=>?_
 obtain ⟨hy47,hy48,hy49,hy50,H⟩:=H
 refine gR rfl (bv Z rfl rfl rfl rfl hy47) ?_
 refine gR rfl (bv Z rfl rfl rfl rfl hy48) ?_
 refine gR rfl (bv Z rfl rfl rfl rfl hy49) ?_
 refine gR rfl (bv Z rfl rfl rfl rfl hy50) ?_
 refine gZ0 ?_
 refine gCr 25 [99] O18 (R18 _ _ _ H) fun r51 h52 H=>?_
 obtain ⟨hy53,hy54,H⟩:=H
 refine gR rfl (bv Z rfl rfl rfl rfl hy53) ?_
 refine gR rfl (bv Z rfl rfl rfl rfl hy54) ?_
 refine gZ0 ?_
 refine gT 26 [100] Z ?_
 obtain ⟨b55,h56,eb55,eh56,H⟩:=H
 refine gHr 27 [101] rfl (l9 Z rfl rfl rfl rfl rfl rfl rfl eb55 eh56) ?_
 obtain ⟨hy57,hy58,H⟩:=H
 refine gR rfl (bv Z rfl rfl rfl rfl hy57) ?_
 refine gR rfl (bv Z rfl rfl rfl rfl hy58) ?_
 refine gZ0 ?_
 refine gC 28 [82,91,102] O55 (R55 _ _ _ _ _ H) fun r59 h60 H=>?_
 refine gZ ?_
 refine zX (zF [0,6] (zR ?_))
 refine w2 Z ?_
 refine wC jW (jJ _ _ _ _ _ H) fun r61 h62 H=>?_
 refine zL ?_
 exact kz _ rfl _ rfl ⟨(),rfl,H⟩
 refine zQ (w2 Z (zE ?_))
 refine zI H ?_ ?_ <;> intro H
 refine zQ (w1 Z ?_)
 refine wN H fun a63 ha63 H=>?_
 refine w1 Z ?_
 refine wL Z H fun v64 H=>?_
 refine w2 Z (zE (zF [0,7,114] ?_))
 refine zI H ?_ ?_ <;> intro H
 refine gB [0,7] ?_
 refine gT 0 [0] Z ?_
 refine gT 2 [0] Z ?_
 refine gY 3 [117] rfl (fun _=>au rfl rfl ha63) ?_
 refine gT 4 [118] Z ?_
 refine gl 5 [119] Z H fun v65 H=>?_
 refine gT 6 [7] Z ?_
 obtain ⟨s66,ps66,qs66,rs66,ts66,es66,H⟩:=H
 refine gYe 7 [120,121] rfl (fun _=>sS (s:=v65) (L:=0) (H:=r10) (M:=(v65.cap:Int)) Z rfl rfl rfl rfl rfl rfl rfl (by simp) ps66 qs66 rs66 ts66) (congrArg Slc.v es66) ?_
 refine gT 9 [0] Z ?_
 refine gY 10 [124] rfl (fun _=>au rfl rfl ha63) ?_
 refine gT 11 [125] Z ?_
 refine gl 12 [126] Z H fun v67 H=>?_
 refine gT 13 [7] Z ?_
 refine gT 14 [128] Z ?_
 obtain ⟨s68,ps68,qs68,rs68,ts68,es68,H⟩:=H
 refine gYe 15 [127,129] rfl (fun _=>sS (s:=v67) (L:=(IntKind.i64.wrap (r10 + 1))) (H:=(v67.len:Int)) (M:=(v67.cap:Int)) Z rfl rfl rfl rfl rfl rfl rfl (by simp) ps68 qs68 rs68 ts68) (congrArg Slc.v es68) ?_
 obtain ⟨b69,h70,eb69,eh70,H⟩:=H
 refine gHr 1 [] rfl (l9 Z rfl rfl rfl rfl rfl rfl rfl eb69 eh70) ?_
 obtain ⟨hy71,hy72,H⟩:=H
 refine gR rfl (bv Z rfl rfl rfl rfl hy71) ?_
 refine gR rfl (bv Z rfl rfl rfl rfl hy72) ?_
 refine gZ0 ?_
 obtain ⟨l75,hl75,H⟩:=H
 refine gAr 8 [116,122] rfl (kQ (s:=(⟨some ⟨b69,0,none⟩,0,0⟩:Slc)) (r:=s66) Z rfl rfl rfl rfl rfl hl75 H) ?_
 rintro _ h74 ⟨s73,rfl,H⟩
 obtain ⟨hy76,H⟩:=H
 refine gR rfl (bv Z rfl rfl rfl rfl hy76) ?_
 refine gZ0 ?_
 obtain ⟨l79,hl79,H⟩:=H
 refine gA 16 [123,130] rfl (kQ (s:=s73) (r:=s68) Z rfl rfl rfl rfl rfl hl79 H) ?_
 rintro _ h78 ⟨s77,rfl,H⟩
 refine gY 17 [115] rfl (fun _=>au rfl rfl ha63) ?_
 refine gT 18 [132] Z ?_
 refine gs 19 [131,133] Z H fun h80 H=>?_
 refine gZ ?_
 refine yL ?_
 exact kz _ rfl _ rfl ⟨(),rfl,H⟩
 refine zK (yL ?_)
 exact kz _ rfl _ rfl ⟨(),rfl,H⟩
 refine zQ (w2 Z (zE ?_))
 refine zI H ?_ ?_ <;> intro H
 refine zQ (w1 Z ?_)
 refine wN H fun a81 _ H=>?_
 refine w1 Z ?_
 refine wL Z H fun v82 H=>?_
 refine w2 Z (zE (zF [0,7,141] ?_))
 refine zI H ?_ ?_ <;> intro H
 refine zR (w2 Z ?_)
 refine wC oM (oG _ _ _ _ _ H) fun r83 h84 H=>?_
 refine zL ?_
 exact kz _ rfl _ rfl ⟨(),rfl,H⟩
 refine zK (yL ?_)
 exact kz _ rfl _ rfl ⟨(),rfl,H⟩
 refine zQ (w1 Z ?_)
 refine wN H fun a85 _ H=>?_
 refine w1 Z ?_
 refine wL Z H fun v86 H=>?_
 refine w2 Z (zE (zF [0,7,32] ?_))
 refine zI H ?_ ?_ <;> intro H
 refine zR (w2 Z ?_)
 refine wC oM (oG _ _ _ _ _ H) fun r87 h88 H=>?_
 refine zL ?_
 exact kz _ rfl _ rfl ⟨(),rfl,H⟩
 refine zK (yL ?_)
 exact kz _ rfl _ rfl ⟨(),rfl,H⟩
 refine zQ (w2 Z (zE ?_))
 refine zI H ?_ ?_ <;> intro H
 refine zK ?_
 exact xJ (r13 == 0) H
 refine zR (w2 Z (zW ?_))
 exact xJ (r13 == 1) H
theorem law26_RaftSafe_ref (p0 p1 k h) (H:pV p0 p1 k h):CallsH prog 6 #[.int .u8 p0,Slc.v p1] h (rB k):=by
 refine fE func6 fun w0=>?_
 refine zF [0,1] (zQ ?_)
 refine w1 Z (zE (zQ ?_))
 refine w4 Z ?_
 refine wC vT (uD _ _ _ H) fun r1 h2 H=>?_
 refine w1 Z (zE (zF [1,5] (zS (zQ ?_))))
 refine w1 Z (zE (zB ?_))
 obtain ⟨I1,μ1,H0,HI⟩:=H
 refine zO (σ:=Int) [1,5] (fun (s:Int)=>[(6,.int .i64 s)]) I1 μ1 0 H0 ?_
 rintro a_ h_1 H
 replace H:=HI a_ h_1 H
 refine zF [6,1,5] (zS (zQ ?_))
 refine w5 Z ?_
 refine vU 3 [1,5,6] [(31,.bool ((decide (a_ < (p1.len:Int))) && (decide (a_ < 120))))] ?_ ?_
 refine zE ?_
 refine zI H ?_ ?_ <;> intro H
 refine zK (zX (zS (zB (zQ (w3 Z ?_)))))
 refine wD Z H fun a3 _ H=>?_
 refine wLa Z H fun v4 H=>?_
 refine w1 Z ?_
 refine wC sZ (su _ _ _ _ _ H) fun r5 h6 H=>?_
 refine zE (zF [1,5,6] (zQ ?_))
 refine w1 Z ?_
 refine wN H fun a7 _ H=>?_
 refine w1 Z ?_
 refine wL Z H fun v8 H=>?_
 refine zE ?_
 refine zI H ?_ ?_ <;> intro H
 refine zQ (w1 Z (zE (zF [4] (zT (yB (yT (yT (yB (yT ?_)))))))))
 exact az _ rfl _ rfl ⟨false,rfl,H⟩
 refine zK (yL (zX (zR (w2 Z ?_))))
 refine wQ Z H fun x9 H=>?_
 refine zW ?_
 exact xJ x9 H
 refine zY (yE (yE (yH (zX (zS (zQ (w1 Z (zE (zB ?_)))))))))
 obtain ⟨I2,μ2,H0,HI⟩:=H
 refine zO (σ:=Int) [5] (fun (s:Int)=>[(7,.int .i64 s)]) I2 μ2 0 H0 ?_
 rintro b_ h_2 H
 replace H:=HI b_ h_2 H
 refine zF [7,5] (zS (zQ ?_))
 refine w2 Z ?_
 refine wN H fun a10 ha10 H=>?_
 refine w1 Z ?_
 refine wL Z H fun v11 H=>?_
 refine w2 Z (zE ?_)
 refine zI H ?_ ?_ <;> intro H
 refine zK (zX (zF [7,5] (zS (zB (zS ?_)))))
 refine mK (by kernel_rfl) (by kernel_rfl) ?_
 refine qp Z ?_
 refine q_y (au rfl rfl ha10) rfl rfl ?_
 refine qp Z ?_
 obtain ⟨v12,hv12,H⟩:=H
 refine q_y (bv Z rfl rfl rfl rfl hv12) rfl rfl ?_
 refine qp Z ?_
 obtain ⟨a13,ha13,la13,ua13,H⟩:=H
 refine q_y (oH Z rfl rfl ha13 rfl rfl rfl la13 ua13) rfl rfl ?_
 refine qp Z ?_
 obtain ⟨v14,hv14,H⟩:=H
 refine q_y (bv Z rfl rfl rfl rfl hv14) rfl rfl ?_
 refine qp Z ?_
 refine q_y (au rfl rfl ha10) rfl rfl ?_
 refine qp Z ?_
 obtain ⟨v15,hv15,H⟩:=H
 refine q_y (bv Z rfl rfl rfl rfl hv15) rfl rfl ?_
 refine qp Z ?_
 obtain ⟨a16,ha16,la16,ua16,H⟩:=H
 refine q_y (oH Z rfl rfl ha16 rfl rfl rfl la16 ua16) rfl rfl ?_
 refine qp Z ?_
 obtain ⟨v17,hv17,H⟩:=H
 refine q_y (bv Z rfl rfl rfl rfl hv17) rfl rfl ?_
 refine qp Z ?_
 refine qp Z ?_
 refine pX ?_
 refine zX (zF [7,5,8,9] (zQ ?_))
 refine w1 Z ?_
 refine wC O26 (R26 _ _ _ H) fun r18 h19 H=>?_
 refine w5 Z (zE (zS ?_))
 refine zJ (α:=Bool) [5,7,8,9,10] (fun (s:Bool)=>[(101,.bool s)]) (fun (s:Bool) h=>gM r1 b_ v14 v17 r18.1 s k (fun s h'=>I1 s h'/\μ1 s h' < μ1 a_ h_1) (fun s h'=>I2 s h'/\μ2 s h' < μ2 b_ h_2) h) ?_ ?_
 rintro f_ h_3 H
 refine zF [101,5,7,8,9,10] ?_
 refine zI H ?_ ?_ <;> intro H
 refine zQ (w1 Z (zE (zT (yT (yB (yT (yT (yB (yT ?_)))))))))
 exact az _ rfl _ rfl ⟨false,rfl,H⟩
 refine zK (zX (zQ (w1 Z ?_)))
 refine wN H fun a20 _ H=>?_
 refine w1 Z ?_
 refine wL Z H fun v21 H=>?_
 refine wC O27 (R27 _ _ _ H) fun r22 h23 H=>?_
 refine w5 Z (zE (zF [5,7,8,9,10,12] (zS (zQ ?_))))
 refine w2 Z ?_
 refine wQ Z H fun x24 H=>?_
 refine zE (zB ?_)
 obtain ⟨I4,μ4,H0,HI⟩:=H
 refine zO (σ:=Int) [5,7,8,9,10,12] (fun (s:Int)=>[(14,.int .u64 s)]) I4 μ4 x24 H0 ?_
 rintro d_ h_4 H
 replace H:=HI d_ h_4 H
 refine zF [14,5,7,8,9,10,12] (zS (zQ ?_))
 refine w3 Z (zE ?_)
 refine zI H ?_ ?_ <;> intro H
 refine zK (zX (zS (zB (zQ (w2 Z ?_)))))
 refine wC O25 (R25 _ _ _ _ H) fun r25 h26 H=>?_
 refine w3 Z ?_
 refine wB Z H fun b27 h28 H=>?_
 refine wTa Z H fun h29 H=>?_
 refine w1 Z (zE (zF [14,5,7,8,9,10,12,15,16] ?_))
 refine zJ (α:=Bool) [5,7,8,9,10,12,14] (fun (s:Bool)=>[(145,.bool s)]) (fun (s:Bool) h=>kZ r1 b_ v14 v17 r18.1 r22.1 d_ s k (fun s h'=>I1 s h'/\μ1 s h' < μ1 a_ h_1) (fun s h'=>I2 s h'/\μ2 s h' < μ2 b_ h_2) (fun s h'=>I4 s h'/\μ4 s h' < μ4 d_ h_4) h) ?_ ?_
 rintro g_ h_5 H
 refine zF [145,5,7,8,9,10,12,14] ?_
 refine zI H ?_ ?_ <;> intro H
 refine zQ (w1 Z (zE (zF [4] (zT (yB (yT (yT (yB (yT (yB (yT (yT (yB (yT ?_))))))))))))))
 exact az _ rfl _ rfl ⟨false,rfl,H⟩
 refine zK (yL (zX (zR (w2 Z ?_))))
 refine wQ Z H fun x30 H=>?_
 refine zW ?_
 exact xJ x30 H
 refine gB [5,7,8,9,10,12,14,15,16] ?_
 refine gT 0 [16] Z ?_
 refine gT 1 [123] Z ?_
 refine gT 2 [124] Z ?_
 refine gI 125 H (fun hb H=>?_) (fun hb H=>?_)
 refine gS 3 [15,125] ?_
 refine gS 4 [125,126] ?_
 refine gS 5 [8,125] ?_
 refine gS 6 [125,128] ?_
 refine gS 7 [125,129] ?_
 refine gS 8 [125,130] ?_
 refine gS 9 [125,131] ?_
 refine gS 10 [125,132] ?_
 refine gS 11 [125,133] ?_
 refine gS 12 [14,125] ?_
 refine gS 13 [10,125] ?_
 refine gS 14 [125,135,136] ?_
 refine gS 15 [125,137] ?_
 refine gS 16 [14,125] ?_
 refine gS 17 [10,125] ?_
 refine gS 18 [125,139,140] ?_
 refine gS 19 [125,134,138,141] ?_
 refine gS 20 [125,127,142] ?_
 refine gS 21 [125,143] ?_
 refine gT 22 [125,144] Z ?_
 refine gZ ?_
 exact xJ true H
 refine gla 3 [15,125] Z H fun v31 H=>?_
 refine gT 5 [8,125] Z ?_
 obtain ⟨a32,ha32,H⟩:=H
 refine gY 6 [125,128] rfl (fun _=>au rfl rfl ha32) ?_
 refine gT 7 [125,129] Z ?_
 refine gl 8 [125,130] Z H fun v33 H=>?_
 obtain ⟨a34,ha34,H⟩:=H
 refine gY 9 [125,131] rfl (fun _=>au rfl rfl ha34) ?_
 refine gT 10 [125,132] Z ?_
 refine gl 11 [125,133] Z H fun v35 H=>?_
 refine gT 12 [14,125] Z ?_
 refine gT 13 [10,125] Z ?_
 refine gT 14 [125,135,136] Z ?_
 refine gT 15 [125,137] Z ?_
 refine gT 16 [14,125] Z ?_
 refine gT 17 [10,125] Z ?_
 refine gT 18 [125,139,140] Z ?_
 obtain ⟨s36,ps36,qs36,rs36,ts36,es36,H⟩:=H
 refine gYe 19 [125,134,138,141] rfl (fun _=>sS (s:=v35) (L:=(IntKind.u64.wrap ((IntKind.u64.wrap (d_ - r18.1)) - 1))) (H:=(IntKind.u64.wrap (d_ - r18.1))) (M:=(v35.cap:Int)) Z rfl rfl rfl rfl rfl rfl rfl (by simp) ps36 qs36 rs36 ts36) (congrArg Slc.v es36) ?_
 obtain ⟨b37,h38,eb37,eh38,H⟩:=H
 refine gHr 4 [125,126] rfl (l9 Z rfl rfl rfl rfl rfl rfl rfl eb37 eh38) ?_
 obtain ⟨hy39,hy40,H⟩:=H
 refine gR rfl (bv Z rfl rfl rfl rfl hy39) ?_
 refine gR rfl (bv Z rfl rfl rfl rfl hy40) ?_
 refine gZ0 ?_
 refine gC 20 [125,127,142] O28 (R28 _ _ _ _ H) fun r41 h42 H=>?_
 refine gT 21 [125,143] Z ?_
 refine gT 22 [125,144] Z ?_
 refine gZ ?_
 exact xJ (!r41) H
 refine zY (yE (yE (yH (zX (zQ (w3 Z ?_))))))
 refine wC O25 (R25 _ _ _ _ H) fun r43 h44 H=>?_
 refine w3 Z ?_
 refine wB Z H fun b45 h46 H=>?_
 refine wTa Z H fun h47 H=>?_
 refine w1 Z (zE (zF [5,7,18] (zQ ?_)))
 refine w2 Z (zE ?_)
 refine zI H ?_ ?_ <;> intro H
 refine zQ (w1 Z (zE (zT (yB (yT (yT (yB (yT ?_))))))))
 exact az _ rfl _ rfl ⟨false,rfl,H⟩
 refine zK (yL (zX (zR (w2 Z ?_))))
 refine wQ Z H fun x48 H=>?_
 refine zW ?_
 exact xJ x48 H
 refine gB [5,7,8,9,10,11] ?_
 refine gT 0 [8] Z ?_
 obtain ⟨a49,ha49,H⟩:=H
 refine gY 1 [75] rfl (fun _=>au rfl rfl ha49) ?_
 refine gT 2 [76] Z ?_
 refine gl 3 [77] Z H fun v50 H=>?_
 refine gT 4 [9] Z ?_
 refine gCr 5 [79] O17 (R17 _ _ _ H) fun r51 h52 H=>?_
 obtain ⟨hy53,H⟩:=H
 refine gR rfl (bv Z rfl rfl rfl rfl hy53) ?_
 refine gZ0 ?_
 refine gT 6 [78,80] Z ?_
 refine gT 7 [81] Z ?_
 refine gI 82 H (fun hb H=>?_) (fun hb H=>?_)
 refine gS 8 [8,82] ?_
 refine gS 9 [82,83] ?_
 refine gS 10 [82,84] ?_
 refine gS 11 [82,85] ?_
 refine gS 12 [82,86] ?_
 refine gS 13 [82,87] ?_
 refine gS 14 [82,88] ?_
 refine gS 15 [10,82] ?_
 refine gS 16 [82,89,90] ?_
 refine gT 17 [82,91] Z ?_
 refine gT 18 [92] Z ?_
 refine gI 93 H (fun hb H=>?_) (fun hb H=>?_)
 refine gS 19 [8,93] ?_
 refine gS 20 [93,94] ?_
 refine gS 21 [93,95] ?_
 refine gS 22 [93,96] ?_
 refine gS 23 [11,93] ?_
 refine gS 24 [93,97,98] ?_
 refine gS 25 [93,99] ?_
 refine gT 26 [93,100] Z ?_
 refine gZ ?_
 exact xJ true H
 refine gT 19 [8,93] Z ?_
 refine gY 20 [93,94] rfl (fun _=>au rfl rfl ha49) ?_
 refine gT 21 [93,95] Z ?_
 refine gl 22 [93,96] Z H fun v54 H=>?_
 refine gT 23 [11,93] Z ?_
 refine gC 24 [93,97,98] O11 (R11 _ _ _ _ H) fun r55 h56 H=>?_
 refine gT 25 [93,99] Z ?_
 refine gT 26 [93,100] Z ?_
 refine gZ ?_
 exact xJ (!r55) H
 refine gT 8 [8,82] Z ?_
 refine gY 9 [82,83] rfl (fun _=>au rfl rfl ha49) ?_
 refine gT 10 [82,84] Z ?_
 refine gl 11 [82,85] Z H fun v57 H=>?_
 obtain ⟨a58,ha58,H⟩:=H
 refine gY 12 [82,86] rfl (fun _=>au rfl rfl ha58) ?_
 refine gT 13 [82,87] Z ?_
 refine gl 14 [82,88] Z H fun v59 H=>?_
 refine gT 15 [10,82] Z ?_
 refine gT 16 [82,89,90] Z ?_
 refine gT 17 [82,91] Z ?_
 refine gT 18 [92] Z ?_
 refine gI 93 H (fun hb H=>?_) (fun hb H=>?_)
 refine gS 19 [8,93] ?_
 refine gS 20 [93,94] ?_
 refine gS 21 [93,95] ?_
 refine gS 22 [93,96] ?_
 refine gS 23 [11,93] ?_
 refine gS 24 [93,97,98] ?_
 refine gS 25 [93,99] ?_
 refine gT 26 [93,100] Z ?_
 refine gZ ?_
 exact xJ true H
 refine gT 19 [8,93] Z ?_
 refine gY 20 [93,94] rfl (fun _=>au rfl rfl ha49) ?_
 refine gT 21 [93,95] Z ?_
 refine gl 22 [93,96] Z H fun v60 H=>?_
 refine gT 23 [11,93] Z ?_
 refine gC 24 [93,97,98] O11 (R11 _ _ _ _ H) fun r61 h62 H=>?_
 refine gT 25 [93,99] Z ?_
 refine gT 26 [93,100] Z ?_
 refine gZ ?_
 exact xJ (!r61) H
 refine zY (yE (yE (yH (zX (zF [] (zQ ?_))))))
 refine wC u7 (uC  _ _ H) fun r63 h64 H=>?_
 refine w1 Z (zE (zT ?_))
 exact az _ rfl _ rfl ⟨r63,rfl,H⟩
 refine vG (d:=28) (fun hb=>?_) (fun hb=>?_)
 refine w3 Z ?_
 refine vK ?_
 exact congrArg (fun b=>some (Value.bool b)) (qO hb)
 refine wS (wS (w1 Z ?_))
 refine vK ?_
 exact congrArg (fun b=>some (Value.bool b)) (qK hb)
end Go.Q.Yi
end

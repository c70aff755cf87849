/- A part of the proof of statements of this seat: lemmas, no statement of their own. -/
import Derived.Test.YthjafnfadiijgaaYiZad
import Derived.Test.YthjafnfadiijgaaYiZae
import Derived.Test.YthjafnfadiijgaaYiZal
set_option linter.unusedVariables false
set_option linter.unusedSimpArgs false
set_option maxRecDepth 100000
set_option maxHeartbeats 1000000
section
namespace Go.Q.Yi
open Go.Proofs.Try
/-- (*quaestor raft.Raft).answer -/
def dO (p0:Option Addr) (p1:Int) (p2:Int) (p3:Bool) (p4:Int) (k:KP Slc) (h:Heap):Prop :=
  ∃ a1,p0=some a1/\(∃ v2,af h (a1.add 2)=some (.int .u64 v2)/\(∃ b3 h4,b3=h.size/\h4=h.push (.cells ((aG.cs (⟨p1,(⟨p2,v2,p4,0,0,p3,(⟨none,0,0⟩:Slc),(⟨none,0,0⟩:Slc)⟩:ah)⟩:aG))).toArray 45)/\(k (⟨some ⟨b3,0,none⟩,1,1⟩:Slc) h4)))
/-- (*quaestor raft.Raft).voted -/
def jy (a_:Option Addr) (b_:Int) (d_:Bool) (k:KP Slc) (h_2:Heap):Prop :=
  dO a_ b_ 2 d_ 0 (fun r3 h4=>k r3 h4) h_2
def jA (a_:Option Addr) (b_:Int) (d_:Bool) (k:KP Slc) (h_3:Heap):Prop :=
  ∃ a5,a_=some a5/\(∃ h6,WrH h_3 (a5.add 9)/\h6=setH h_3 (a5.add 9) (.int .i64 0)/\(jy a_ b_ d_ k h6))
def bP (a_:Option Addr) (b_:Int) (d_:Bool) (k:KP Slc) (h_1:Heap):Prop :=
  if d_ then (∃ a7,a_=some a7/\(∃ v8,af h_1 (a7.add 3)=some (.int .i64 v8)/\(if (v8 == 0) then (∃ h9,WrH h_1 (a7.add 3)/\h9=setH h_1 (a7.add 3) (.int .i64 (IntKind.i64.wrap (b_ + 1)))/\(gM a_ (fun r10 h11=>jA a_ b_ d_ k h11) h9)) else (jA a_ b_ d_ k h_1)))) else (jy a_ b_ d_ k h_1)
def oh (p0:Option Addr) (p1:Int) (p2:ah) (k:KP Slc) (h:Heap):Prop :=
  ∃ b1 h2,b1=h.size/\h2=h.push (.cells (ah.cs p2).toArray 26)/\(∃ a12,p0=some a12/\(∃ v13,af h2 (a12.add 3)=some (.int .i64 v13)/\(if (v13 == 0) then (if true then (∃ v14:Option Addr,af h2 (a12.add 4)=some (.pointer v14)/\(∃ v15,af h2 ((ad b1).add 2)=some (.int .u64 v15)/\(∃ v16,af h2 ((ad b1).add 3)=some (.int .u64 v16)/\(mG v14 v15 v16 (fun r17 h18=>bP p0 p1 r17 k h18) h2)))) else (bP p0 p1 false k h2)) else (∃ v19,af h2 (a12.add 3)=some (.int .i64 v19)/\(if (v19 == (IntKind.i64.wrap (p1 + 1))) then (∃ v20:Option Addr,af h2 (a12.add 4)=some (.pointer v20)/\(∃ v21,af h2 ((ad b1).add 2)=some (.int .u64 v21)/\(∃ v22,af h2 ((ad b1).add 3)=some (.int .u64 v22)/\(mG v20 v21 v22 (fun r23 h24=>bP p0 p1 r23 k h24) h2)))) else (bP p0 p1 false k h2))))))
/-- (*quaestor raft.Raft).fresh -/
def jh (d_:Addr) (a_:Addr) (b_:Int) (f_:Int) (g_:Int) (k:KP aj) (nx1:KP Int) (h_3:Heap):Prop :=
  ∃ v21,af h_3 (d_.add 6)=some (Slc.v v21)/\(∃ s22,(0:Int)<=b_/\(b_:Int)<=(v21.len:Int)/\((v21.len:Int):Int)<=(v21.cap:Int)/\(v21.cap:Int)<=(v21.cap:Int)/\s22=dS v21 2 b_.toNat (v21.len:Int).toNat (v21.cap:Int).toNat/\(rD 0 0 s22 (fun r23 h24=>fu r23 (fun r25 h26=>∃ h27,dE h26 a_ 6/\h27=aU h26 a_ 0 (aj.cs (⟨2,g_,0,(IntKind.u64.wrap (f_ - 1)),r25,(⟨none,0,0⟩:Slc)⟩:aj))/\(∃ v28,aJ h27 a_ (aj.cs v28)/\k v28 h27)) h24) h_3))
def eB (g_:Option Addr) (d_:Addr) (f_:Addr) (h_:Int) (a_:Int) (b_:Int) (m_:Slc) (n_:Int) (j_:Int) (l_:Bool) (k:KP aj) (nx1:KP Int) (h_2:Heap):Prop :=
  if l_ then (nx1 (IntKind.i64.wrap (j_ + 1)) h_2) else (∃ a17,g_=some a17/\(∃ v18:Option Addr,af h_2 (a17.add 4)=some (.pointer v18)/\(dY v18 (IntKind.u64.wrap (b_ - 1)) (fun r19 h20=>if ((decide (a_ > 0)) && (decide ((IntKind.u64.wrap (b_ - 1)) > h_))) then (∃ v29,af h20 (d_.add 6)=some (Slc.v v29)/\(∃ a30,v29.a=some a30/\(0:Int)<=(IntKind.i64.wrap (a_ - 1))/\(IntKind.i64.wrap (a_ - 1)) < (v29.len:Int)/\(∃ v31,af h20 (a30.add ((IntKind.i64.wrap (a_ - 1)).toNat * 2))=some (.int .u64 v31)/\(jh d_ f_ a_ b_ v31 k nx1 h20)))) else (jh d_ f_ a_ b_ r19.1 k nx1 h20)) h_2)))
def qP (f_:Option Addr) (g_:Addr) (b_:Addr) (h_:Int) (d_:Slc) (j_:Int) (a_:Int) (k:KP aj) (nx1:KP Int) (h_1:Heap):Prop :=
  if (decide (a_ < j_)) then (∃ a10,d_.a=some a10/\(0:Int)<=a_/\a_ < (d_.len:Int)/\(∃ v11,aJ h_1 (a10.add (a_.toNat * 2)) (ae.cs v11)/\(∃ b12 h13,b12=h_1.size/\h13=h_1.push (.cells (ae.cs (⟨0,(⟨none,0,0⟩:Slc)⟩:ae)).toArray 65)/\(∃ h14,dE h13 (ad b12) 2/\h14=aU h13 (ad b12) 0 (ae.cs v11)/\(∃ v15,af h14 (g_.add 2)=some (.int .u64 v15)/\(∃ x16,x16=(IntKind.u64.wrap ((IntKind.u64.wrap (v15 + (IntKind.u64.wrap a_))) + 1))/\(if (decide (x16<=h_)) then (eB f_ g_ b_ h_ a_ x16 d_ j_ a_ true k nx1 h14) else (∃ a32,f_=some a32/\(∃ v33:Option Addr,af h14 (a32.add 4)=some (.pointer v33)/\(∃ v34,af h14 (ad b12)=some (.int .u64 v34)/\(kZ v33 x16 v34 (fun r35 h36=>eB f_ g_ b_ h_ a_ x16 d_ j_ a_ r35 k nx1 h36) h14))))))))))) else (∃ h37,dE h_1 b_ 6/\h37=aU h_1 b_ 0 (aj.cs (⟨0,0,0,0,(⟨none,0,0⟩:Slc),(⟨none,0,0⟩:Slc)⟩:aj))/\(∃ v38,aJ h37 b_ (aj.cs v38)/\k v38 h37))
def rE (b_:Option Addr) (d_:Addr) (f_:Addr) (g_:Int) (h_:Slc) (j_:Int) (i24:Int) (k:KP aj) (h:Heap):Prop :=
  ∃ (I:KP Int) (μ:Int->Heap->Nat),I i24 h/\∀ (a_:Int) (h:Heap),I a_ h->qP b_ d_ f_ g_ h_ j_ a_ k (fun s h'=>I s h'/\μ s h' < μ a_ h) h
def oo (p0:Option Addr) (p1:ah) (k:KP aj) (h:Heap):Prop :=
  ∃ b1 h2,b1=h.size/\h2=h.push (.cells (ah.cs p1).toArray 26)/\(∃ b3 h4,b3=h2.size/\h4=h2.push (.cells (aj.cs (⟨0,0,0,0,(⟨none,0,0⟩:Slc),(⟨none,0,0⟩:Slc)⟩:aj)).toArray 107)/\(∃ a5,p0=some a5/\(∃ v6:Option Addr,af h4 (a5.add 4)=some (.pointer v6)/\(iA v6 (fun r7 h8=>∃ v9,af h8 ((ad b1).add 6)=some (Slc.v v9)/\(rE p0 (ad b1) (ad b3) r7.1 v9 (v9.len:Int) 0 k h8)) h4))))
/-- (*quaestor raft.Raft).append -/
def fO (b_:Option Addr) (d_:Int) (f_:Addr) (a_:Int) (k:KP Slc) (h_1:Heap):Prop :=
  ∃ a26,b_=some a26/\(∃ v27,af h_1 (a26.add 6)=some (.int .u64 v27)/\(∃ v28,af h_1 (f_.add 4)=some (.int .u64 v28)/\(∃ h29,WrH h_1 (a26.add 6)/\h29=setH h_1 (a26.add 6) (.int .u64 (if (if a_ < v28 then a_ else v28) > v27 then (if a_ < v28 then a_ else v28) else v27))/\(dO b_ d_ 4 true a_ (fun r30 h31=>k r30 h31) h29))))
def mZ (p0:Option Addr) (p1:Int) (p2:ah) (k:KP Slc) (h:Heap):Prop :=
  ∃ b1 h2,b1=h.size/\h2=h.push (.cells (ah.cs p2).toArray 26)/\(∃ v3,af h2 ((ad b1).add 1)=some (.int .u64 v3)/\(je p0 v3 p1 (fun r4 h5=>∃ a6,p0=some a6/\(∃ h7,WrH h5 (a6.add 9)/\h7=setH h5 (a6.add 9) (.int .i64 0)/\(∃ v8,aJ h7 (ad b1) (ah.cs v8)/\(oo p0 v8 (fun r9 h10=>∃ b11 h12,b11=h10.size/\h12=h10.push (.cells (aj.cs (⟨0,0,0,0,(⟨none,0,0⟩:Slc),(⟨none,0,0⟩:Slc)⟩:aj)).toArray 107)/\(∃ h13,dE h12 (ad b11) 6/\h13=aU h12 (ad b11) 0 (aj.cs r9)/\(∃ v14:Option Addr,af h13 (a6.add 4)=some (.pointer v14)/\(∃ v15,af h13 ((ad b1).add 2)=some (.int .u64 v15)/\(∃ v16,af h13 ((ad b1).add 3)=some (.int .u64 v16)/\(∃ v17,af h13 ((ad b1).add 6)=some (Slc.v v17)/\(lT v14 v15 v16 v17 (fun r18 h19=>if (r18.2 != 0) then (∃ v20:Option Addr,af h19 (a6.add 4)=some (.pointer v20)/\(fF v20 (fun r21 h22=>∃ v23,af h22 ((ad b1).add 2)=some (.int .u64 v23)/\(dO p0 p1 4 false (if (IntKind.u64.wrap ((if 1 > v23 then 1 else v23) - 1)) < r21.1 then (IntKind.u64.wrap ((if 1 > v23 then 1 else v23) - 1)) else r21.1) (fun r24 h25=>k r24 h25) h22)) h19)) else (∃ v32,af h19 ((ad b11).add 4)=some (Slc.v v32)/\(if (decide ((v32.len:Int) > 0)) then (∃ v33,af h19 (a6.add 13)=some (Slc.v v33)/\(∃ v34,aJ h19 (ad b11) (aj.cs v34)/\(∃ b35 h36,b35=h19.size/\h36=h19.push (.cells ((aj.cs v34)).toArray 107)/\(af h36 (a6.add 13)=some (Slc.v v33)/\(App 107 6 80 [.int .i64 0,.int .u64 0,.int .i64 0,.int .u64 0,.slice none 0 0,.slice none 0 0] h36 v33 1 ((aj.cs v34)) (fun s38 h39=>∃ h40,WrH h39 (a6.add 13)/\h40=setH h39 (a6.add 13) (Slc.v s38)/\(fO p0 p1 (ad b1) r18.1 k h40))))))) else (fO p0 p1 (ad b1) r18.1 k h19)))) h13))))))) h7)))) h2))
/-- (*quaestor raft.Raft).base -/
def kJ (f_:Option Addr) (a_:Int) (b_:Int) (d_:Slc) (k:KP Unit) (h_1:Heap):Prop :=
  bD d_ (fun r1 h2=>∃ a3,f_=some a3/\(∃ h4,WrH h2 (a3.add 5)/\h4=setH h2 (a3.add 5) (Slc.v r1)/\(∃ v5,af h4 (a3.add 13)=some (Slc.v v5)/\(bD d_ (fun r6 h7=>af h7 (a3.add 13)=some (Slc.v v5)/\(∃ b9 h10,b9=h7.size/\h10=h7.push (.cells ((aj.cs (⟨3,b_,0,a_,(⟨none,0,0⟩:Slc),r6⟩:aj))).toArray 107)/\(af h10 (a3.add 13)=some (Slc.v v5)/\(App 107 6 80 [.int .i64 0,.int .u64 0,.int .i64 0,.int .u64 0,.slice none 0 0,.slice none 0 0] h10 v5 1 ((aj.cs (⟨3,b_,0,a_,(⟨none,0,0⟩:Slc),r6⟩:aj))) (fun s12 h13=>∃ h14,WrH h13 (a3.add 13)/\h14=setH h13 (a3.add 13) (Slc.v s12)/\(k () h14)))))) h4)))) h_1
def mh (p0:Option Addr) (p1:Int) (p2:Int) (p3:Slc) (k:KP Unit) (h:Heap):Prop :=
  ∃ a15,p0=some a15/\(∃ v16:Option Addr,af h (a15.add 4)=some (.pointer v16)/\(kZ v16 p1 p2 (fun r17 h18=>if r17 then (∃ v19:Option Addr,af h18 (a15.add 4)=some (.pointer v19)/\(qV v19 p1 (fun r20 h21=>kJ p0 p1 p2 p3 k h21) h18)) else (rD p1 p2 (⟨none,0,0⟩:Slc) (fun r22 h23=>∃ h24,WrH h23 (a15.add 4)/\h24=setH h23 (a15.add 4) (.pointer r22)/\(kJ p0 p1 p2 p3 k h24)) h18)) h))
/-- (*quaestor raft.Raft).snapshot -/
def gG (a_:Option Addr) (b_:Int) (k:KP Slc) (h_1:Heap):Prop :=
  ∃ a8,a_=some a8/\(∃ v9,af h_1 (a8.add 6)=some (.int .u64 v9)/\(dO a_ b_ 4 true v9 (fun r10 h11=>k r10 h11) h_1))
def lL (p0:Option Addr) (p1:Int) (p2:ah) (k:KP Slc) (h:Heap):Prop :=
  ∃ b1 h2,b1=h.size/\h2=h.push (.cells (ah.cs p2).toArray 26)/\(∃ v3,af h2 ((ad b1).add 1)=some (.int .u64 v3)/\(je p0 v3 p1 (fun r4 h5=>∃ a6,p0=some a6/\(∃ h7,WrH h5 (a6.add 9)/\h7=setH h5 (a6.add 9) (.int .i64 0)/\(∃ v12,af h7 ((ad b1).add 2)=some (.int .u64 v12)/\(∃ v13,af h7 (a6.add 6)=some (.int .u64 v13)/\(if (decide (v12 > v13)) then (∃ v14,af h7 ((ad b1).add 2)=some (.int .u64 v14)/\(∃ v15,af h7 ((ad b1).add 3)=some (.int .u64 v15)/\(∃ v16,af h7 ((ad b1).add 7)=some (Slc.v v16)/\(mh p0 v14 v15 v16 (fun r17 h18=>∃ v19,af h18 ((ad b1).add 2)=some (.int .u64 v19)/\(∃ h20,WrH h18 (a6.add 6)/\h20=setH h18 (a6.add 6) (.int .u64 v19)/\(gG p0 p1 k h20))) h7)))) else (gG p0 p1 k h7)))))) h2))
/-- (*quaestor raft.Raft).appended -/
def lJ (p0:Option Addr) (p1:Int) (p2:ah) (k:KP Slc) (h:Heap):Prop :=
  ∃ b1 h2,b1=h.size/\h2=h.push (.cells (ah.cs p2).toArray 26)/\(∃ a3,p0=some a3/\(∃ v4,af h2 (a3.add 7)=some (.int .i64 v4)/\(if (v4 != 2) then (k (⟨none,0,0⟩:Slc) h2) else (∃ v5,af h2 ((ad b1).add 5)=some (.bool v5)/\(if (!v5) then (∃ v6,af h2 (a3.add 11)=some (Slc.v v6)/\(∃ v7,af h2 (a3.add 11)=some (Slc.v v7)/\(∃ a8,v7.a=some a8/\(0:Int)<=p1/\p1 < (v7.len:Int)/\(∃ v9,af h2 (a8.add (p1.toNat * 1))=some (.int .u64 v9)/\(∃ v10,af h2 ((ad b1).add 2)=some (.int .u64 v10)/\(∃ a11,v6.a=some a11/\(0:Int)<=p1/\p1 < (v6.len:Int)/\(∃ h12,WrH h2 (a11.add (p1.toNat * 1))/\h12=setH h2 (a11.add (p1.toNat * 1)) (.int .u64 (if (if (IntKind.u64.wrap (v10 + 1)) < (IntKind.u64.wrap (v9 - 1)) then (IntKind.u64.wrap (v10 + 1)) else (IntKind.u64.wrap (v9 - 1))) > 1 then (if (IntKind.u64.wrap (v10 + 1)) < (IntKind.u64.wrap (v9 - 1)) then (IntKind.u64.wrap (v10 + 1)) else (IntKind.u64.wrap (v9 - 1))) else 1))/\(kM p0 p1 (fun r13 h14=>∃ b15 h16,b15=h14.size/\h16=h14.push (.cells ((aG.cs (⟨p1,r13⟩:aG))).toArray 45)/\(k (⟨some ⟨b15,0,none⟩,1,1⟩:Slc) h16)) h12)))))))) else (∃ v17:Option Addr,af h2 (a3.add 4)=some (.pointer v17)/\(fF v17 (fun r18 h19=>∃ v20,af h19 ((ad b1).add 2)=some (.int .u64 v20)/\(if (decide (v20 > r18.1)) then (k (⟨none,0,0⟩:Slc) h19) else (∃ v21,af h19 (a3.add 12)=some (Slc.v v21)/\(∃ v22,af h19 (a3.add 12)=some (Slc.v v22)/\(∃ a23,v22.a=some a23/\(0:Int)<=p1/\p1 < (v22.len:Int)/\(∃ v24,af h19 (a23.add (p1.toNat * 1))=some (.int .u64 v24)/\(∃ v25,af h19 ((ad b1).add 2)=some (.int .u64 v25)/\(∃ a26,v21.a=some a26/\(0:Int)<=p1/\p1 < (v21.len:Int)/\(∃ h27,WrH h19 (a26.add (p1.toNat * 1))/\h27=setH h19 (a26.add (p1.toNat * 1)) (.int .u64 (if v25 > v24 then v25 else v24))/\(∃ v28,af h27 (a3.add 11)=some (Slc.v v28)/\(∃ v29,af h27 (a3.add 11)=some (Slc.v v29)/\(∃ a30,v29.a=some a30/\(0:Int)<=p1/\p1 < (v29.len:Int)/\(∃ v31,af h27 (a30.add (p1.toNat * 1))=some (.int .u64 v31)/\(∃ v32,af h27 ((ad b1).add 2)=some (.int .u64 v32)/\(∃ a33,v28.a=some a33/\(0:Int)<=p1/\p1 < (v28.len:Int)/\(∃ h34,WrH h27 (a33.add (p1.toNat * 1))/\h34=setH h27 (a33.add (p1.toNat * 1)) (.int .u64 (if (IntKind.u64.wrap (v32 + 1)) > v31 then (IntKind.u64.wrap (v32 + 1)) else v31))/\(lC p0 (fun r35 h36=>∃ v37,af h36 (a3.add 11)=some (Slc.v v37)/\(∃ a38,v37.a=some a38/\(0:Int)<=p1/\p1 < (v37.len:Int)/\(∃ v39,af h36 (a38.add (p1.toNat * 1))=some (.int .u64 v39)/\(if (decide (v39<=r18.1)) then (kM p0 p1 (fun r40 h41=>∃ b42 h43,b42=h41.size/\h43=h41.push (.cells ((aG.cs (⟨p1,r40⟩:aG))).toArray 45)/\(k (⟨some ⟨b42,0,none⟩,1,1⟩:Slc) h43)) h36) else (k (⟨none,0,0⟩:Slc) h36))))) h34))))))))))))))))) h2)))))))
/-- (*quaestor raft.Raft).late -/
def kG (a_:Option Addr) (b_:Int) (d_:Bool) (k:KP Slc) (h_1:Heap):Prop :=
  if d_ then (dO a_ b_ 4 false 0 (fun r6 h7=>k r6 h7) h_1) else (k (⟨none,0,0⟩:Slc) h_1)
def pK (p0:Option Addr) (p1:Int) (p2:ah) (k:KP Slc) (h:Heap):Prop :=
  ∃ b1 h2,b1=h.size/\h2=h.push (.cells (ah.cs p2).toArray 26)/\(∃ v3,af h2 (ad b1)=some (.int .i64 v3)/\(if (v3 == 1) then (dO p0 p1 2 false 0 (fun r4 h5=>k r4 h5) h2) else (if (v3 == 3) then (kG p0 p1 (v3 == 3) k h2) else (kG p0 p1 (v3 == 5) k h2))))
/-- (*quaestor raft.Raft).Take -/
def kD (a_:Option Addr) (k:KP Slc) (h_2:Heap):Prop :=
  nP a_ (fun r7 h8=>k r7 h8) h_2
def kF (a_:Option Addr) (b_:Int) (d_:Bool) (k:KP Slc) (h_3:Heap):Prop :=
  if d_ then (∃ a11,a_=some a11/\(∃ v12:Option Addr,af h_3 (a11.add 10)=some (.pointer v12)/\(lS v12 b_ (fun r13 h14=>kD a_ k h14) h_3))) else (kD a_ k h_3)
def kH (a_:Option Addr) (b_:Int) (d_:Addr) (k:KP Slc) (h_1:Heap):Prop :=
  ∃ v3,af h_1 d_=some (.int .i64 v3)/\(if (v3 == 1) then (∃ v4,aJ h_1 d_ (ah.cs v4)/\(oh a_ b_ v4 (fun r5 h6=>k r5 h6) h_1)) else (if (v3 == 2) then (∃ a9,a_=some a9/\(∃ v10,af h_1 (a9.add 7)=some (.int .i64 v10)/\(if (v10 == 1) then (∃ v15,af h_1 (d_.add 5)=some (.bool v15)/\(kF a_ b_ v15 k h_1)) else (kF a_ b_ false k h_1)))) else (if (v3 == 3) then (∃ v16,aJ h_1 d_ (ah.cs v16)/\(mZ a_ b_ v16 (fun r17 h18=>k r17 h18) h_1)) else (if (v3 == 4) then (∃ v19,aJ h_1 d_ (ah.cs v19)/\(lJ a_ b_ v19 (fun r20 h21=>k r20 h21) h_1)) else (∃ v22,aJ h_1 d_ (ah.cs v22)/\(lL a_ b_ v22 (fun r23 h24=>k r23 h24) h_1))))))
def kC (b_:Option Addr) (d_:Int) (a_:Addr) (f_:Bool) (k:KP Slc) (h_7:Heap):Prop :=
  if f_ then (k (⟨none,0,0⟩:Slc) h_7) else (∃ v25,af h_7 (a_.add 1)=some (.int .u64 v25)/\(∃ a26,b_=some a26/\(∃ v27,af h_7 (a26.add 2)=some (.int .u64 v27)/\(if (decide (v25 < v27)) then (∃ v28,aJ h_7 a_ (ah.cs v28)/\(pK b_ d_ v28 (fun r29 h30=>k r29 h30) h_7)) else (∃ v31,af h_7 (a_.add 1)=some (.int .u64 v31)/\(∃ v32,af h_7 (a26.add 2)=some (.int .u64 v32)/\(if (decide (v31 > v32)) then (∃ v33,af h_7 (a_.add 1)=some (.int .u64 v33)/\(je b_ v33 (-1) (fun r34 h35=>kH b_ d_ a_ k h35) h_7)) else (kH b_ d_ a_ k h_7))))))))
def kK (b_:Option Addr) (d_:Int) (a_:Addr) (f_:Bool) (k:KP Slc) (h_6:Heap):Prop :=
  if f_ then (kC b_ d_ a_ true k h_6) else (∃ v36,af h_6 a_=some (.int .i64 v36)/\(kC b_ d_ a_ (decide (v36 > 5)) k h_6))
def jX (b_:Option Addr) (d_:Int) (a_:Addr) (f_:Bool) (k:KP Slc) (h_5:Heap):Prop :=
  if f_ then (kK b_ d_ a_ true k h_5) else (∃ v37,af h_5 a_=some (.int .i64 v37)/\(kK b_ d_ a_ (decide (v37 < 1)) k h_5))
def kz (a_:Option Addr) (b_:Int) (d_:Addr) (f_:Bool) (k:KP Slc) (h_4:Heap):Prop :=
  if f_ then (jX a_ b_ d_ true k h_4) else (∃ a38,a_=some a38/\(∃ v39,af h_4 a38=some (.int .i64 v39)/\(jX a_ b_ d_ (b_ == v39) k h_4)))
def oW (p0:Option Addr) (p1:Int) (p2:ah) (k:KP Slc) (h:Heap):Prop :=
  ∃ b1 h2,b1=h.size/\h2=h.push (.cells (ah.cs p2).toArray 26)/\(if ((p0.isNone) || (decide (p1 < 0))) then (kz p0 p1 (ad b1) true k h2) else (∃ a40,p0=some a40/\(∃ v41,af h2 (a40.add 1)=some (.int .i64 v41)/\(kz p0 p1 (ad b1) (decide (p1>=v41)) k h2))))
/-- (*quaestor raft.Raft).Keeps -/
def nX (p0:Option Addr) (k:KP Slc) (h:Heap):Prop :=
  if (p0.isNone) then (k (⟨none,0,0⟩:Slc) h) else (∃ a1,p0=some a1/\(∃ v2,af h (a1.add 13)=some (Slc.v v2)/\(∃ h3,WrH h (a1.add 13)/\h3=setH h (a1.add 13) (Slc.v (⟨none,0,0⟩:Slc))/\(k v2 h3))))
/-- (*quaestor raft.Raft).Cut -/
def qc (p0:Option Addr) (p1:Int) (p2:Slc) (k:KP Int) (h:Heap):Prop :=
  if (p0.isNone) then (k 6 h) else (∃ a1,p0=some a1/\(∃ v2,af h (a1.add 6)=some (.int .u64 v2)/\(if (decide (p1 > v2)) then (k 14 h) else (∃ v3:Option Addr,af h (a1.add 4)=some (.pointer v3)/\(dY v3 p1 (fun r4 h5=>if (r4.2 != 0) then (k r4.2 h5) else (mh p0 p1 r4.1 p2 (fun r6 h7=>k 0 h7) h5)) h)))))
theorem O68:aB prog 68:=ck func68
theorem R68 (p0 p1 p2 p3 p4 k h) (H:dO p0 p1 p2 p3 p4 k h):CallsH prog 68 #[.pointer p0,.int .i64 p1,.int .i64 p2,.bool p3,.int .u64 p4] h (rS k):=by
 refine fE func68 fun w0=>?_
 refine zF [0,1,2,3,4] (zQ ?_)
 refine w1 Z (zE (zQ ?_))
 refine w3 Z ?_
 refine wN H fun a1 _ H=>?_
 refine w1 Z ?_
 refine wL Z H fun v2 H=>?_
 refine w2 Z ?_
 refine wY (cu Z rfl rfl rfl rfl rfl) ?_
 refine wY (cu Z rfl rfl rfl rfl rfl) ?_
 obtain ⟨b3,h4,eb3,eh4,H⟩:=H
 refine wH (nV Z rfl rfl rfl rfl rfl rfl rfl eb3 eh4) ?_
 refine w1 Z (zE (zF [10] (zT ?_)))
 exact aA _ rfl _ rfl ⟨(⟨some ⟨b3,0,none⟩,1,1⟩:Slc),rfl,H⟩
theorem O47:aB prog 47:=ck func47
theorem R47 (p0 p1 p2 k h) (H:oh p0 p1 p2 k h):CallsH prog 47 #[.pointer p0,.int .i64 p1,.agg (ah.cs p2).toArray] h (rS k):=by
 refine fE func47 fun w0=>?_
 refine zF [0,1,2] (zQ ?_)
 refine wX H fun b1 h2 H=>?_
 refine w1 Z (zE ?_)
 refine zJ (α:=Bool) [0,1] (fun (s:Bool)=>[(7,.bool s)]) (fun (s:Bool) h=>bP p0 p1 s k h) ?_ ?_
 rintro a_ h_1 H
 refine zF [7,0,1] ?_
 refine zJ (α:=Unit) [0,1,7] (fun (s:Unit)=>[]) (fun (s:Unit) h=>jy p0 p1 a_ k h) ?_ ?_
 rintro _ h_2 H
 refine zF [0,1,7] (zQ ?_)
 refine w3 Z ?_
 refine wC O68 (R68 _ _ _ _ _ _ _ H) fun r3 h4 H=>?_
 refine w1 Z (zE (zF [6] (zT ?_)))
 exact aA _ rfl _ rfl ⟨r3,rfl,H⟩
 refine zQ (w1 Z (zE ?_))
 refine zI H ?_ ?_ <;> intro H
 refine zJ (α:=Unit) [0,1,7] (fun (s:Unit)=>[]) (fun (s:Unit) h=>jA p0 p1 a_ k h) ?_ ?_
 rintro _ h_3 H
 refine zF [0,1,7] (zR ?_)
 refine w1 Z ?_
 refine wN H fun a5 _ H=>?_
 refine w1 Z ?_
 refine wT Z H fun h6 H=>?_
 refine zW ?_
 exact xJ () H
 refine zQ (w1 Z ?_)
 refine wN H fun a7 ha7 H=>?_
 refine w1 Z ?_
 refine wL Z H fun v8 H=>?_
 refine w1 Z (zE ?_)
 refine zI H ?_ ?_ <;> intro H
 refine zQ (w3 Z ?_)
 refine wY (au rfl rfl ha7) ?_
 refine w1 Z ?_
 refine wT Z H fun h9 H=>?_
 refine zE (zF [7,0,1] (zR ?_))
 refine w1 Z ?_
 refine wC O64 (R64 _ _ _ H) fun r10 h11 H=>?_
 refine zW ?_
 exact xJ () H
 refine zK ?_
 exact xJ () H
 refine zK ?_
 exact xJ () H
 refine gB [0,1,5] ?_
 refine gT 0 [0] Z ?_
 obtain ⟨a12,ha12,H⟩:=H
 refine gY 1 [8] rfl (fun _=>au rfl rfl ha12) ?_
 refine gT 2 [9] Z ?_
 refine gl 3 [10] Z H fun v13 H=>?_
 refine gT 4 [11] Z ?_
 refine gT 5 [12] Z ?_
 refine gI 13 H (fun hb H=>?_) (fun hb H=>?_)
 refine gS 6 [0,13] ?_
 refine gS 7 [13,14] ?_
 refine gS 8 [13,15] ?_
 refine gS 9 [13,16] ?_
 refine gS 10 [1,13] ?_
 refine gS 11 [13,18] ?_
 refine gS 12 [13,17,19] ?_
 refine gT 13 [13,20] Z ?_
 refine gT 14 [21] Z ?_
 refine gI 22 H (fun hb H=>?_) (fun hb H=>?_)
 refine gT 15 [0,22] Z ?_
 refine gY 16 [22,23] rfl (fun _=>au rfl rfl ha12) ?_
 refine gT 17 [22,24] Z ?_
 refine gl 18 [22,25] Z H fun v14 H=>?_
 refine gT 19 [5,22] Z ?_
 refine gl 20 [22,27] Z H fun v15 H=>?_
 refine gT 21 [5,22] Z ?_
 refine gl 22 [22,29] Z H fun v16 H=>?_
 refine gC 23 [22,26,28,30] O69 (R69 _ _ _ _ _ H) fun r17 h18 H=>?_
 refine gT 24 [22,31] Z ?_
 refine gT 25 [32] Z ?_
 refine gZ ?_
 exact xJ r17 H
 refine gS 15 [0,22] ?_
 refine gS 16 [22,23] ?_
 refine gS 17 [22,24] ?_
 refine gS 18 [22,25] ?_
 refine gS 19 [5,22] ?_
 refine gS 20 [22,27] ?_
 refine gS 21 [5,22] ?_
 refine gS 22 [22,29] ?_
 refine gS 23 [22,26,28,30] ?_
 refine gT 24 [22,31] Z ?_
 refine gT 25 [32] Z ?_
 refine gZ ?_
 exact xJ false H
 refine gT 6 [0,13] Z ?_
 refine gY 7 [13,14] rfl (fun _=>au rfl rfl ha12) ?_
 refine gT 8 [13,15] Z ?_
 refine gl 9 [13,16] Z H fun v19 H=>?_
 refine gT 10 [1,13] Z ?_
 refine gT 11 [13,18] Z ?_
 refine gT 12 [13,17,19] Z ?_
 refine gT 13 [13,20] Z ?_
 refine gT 14 [21] Z ?_
 refine gI 22 H (fun hb H=>?_) (fun hb H=>?_)
 refine gT 15 [0,22] Z ?_
 refine gY 16 [22,23] rfl (fun _=>au rfl rfl ha12) ?_
 refine gT 17 [22,24] Z ?_
 refine gl 18 [22,25] Z H fun v20 H=>?_
 refine gT 19 [5,22] Z ?_
 refine gl 20 [22,27] Z H fun v21 H=>?_
 refine gT 21 [5,22] Z ?_
 refine gl 22 [22,29] Z H fun v22 H=>?_
 refine gC 23 [22,26,28,30] O69 (R69 _ _ _ _ _ H) fun r23 h24 H=>?_
 refine gT 24 [22,31] Z ?_
 refine gT 25 [32] Z ?_
 refine gZ ?_
 exact xJ r23 H
 refine gS 15 [0,22] ?_
 refine gS 16 [22,23] ?_
 refine gS 17 [22,24] ?_
 refine gS 18 [22,25] ?_
 refine gS 19 [5,22] ?_
 refine gS 20 [22,27] ?_
 refine gS 21 [5,22] ?_
 refine gS 22 [22,29] ?_
 refine gS 23 [22,26,28,30] ?_
 refine gT 24 [22,31] Z ?_
 refine gT 25 [32] Z ?_
 refine gZ ?_
 exact xJ false H
theorem O72:aB prog 72:=ck func72
theorem R72 (p0 p1 k h) (H:oo p0 p1 k h):CallsH prog 72 #[.pointer p0,.agg (ah.cs p1).toArray] h (fun v h'=>∃ r:aj,v = .agg (aj.cs r).toArray/\k r h'):=by
 refine fE func72 fun w0=>?_
 refine zF [0,1] (zQ ?_)
 refine wX H fun b1 h2 H=>?_
 refine wB Z H fun b3 h4 H=>?_
 refine zE (zQ (w1 Z ?_))
 refine wN H fun a5 _ H=>?_
 refine w1 Z ?_
 refine wL Z H fun v6 H=>?_
 refine wC O37 (R37 _ _ _ H) fun r7 h8 H=>?_
 refine w5 Z (zE (zF [0,3,4,5] (zS (zQ ?_))))
 refine w1 Z ?_
 refine wL Z H fun v9 H=>?_
 refine w2 Z (zE (zB ?_))
 obtain ⟨I1,μ1,H0,HI⟩:=H
 refine zO (σ:=Int) [0,3,4,5,22,23] (fun (s:Int)=>[(24,.int .i64 s)]) I1 μ1 0 H0 ?_
 rintro a_ h_1 H
 replace H:=HI a_ h_1 H
 refine zF [24,0,3,4,5,22,23] (zQ ?_)
 refine w1 Z (zE (zS ?_))
 refine zI H ?_ ?_ <;> intro H
 refine zK (zX (zS (zB (zQ (w1 Z ?_)))))
 refine wD Z H fun a10 _ H=>?_
 refine wLa Z H fun v11 H=>?_
 refine wB Z H fun b12 h13 H=>?_
 refine w1 Z ?_
 refine wTa Z H fun h14 H=>?_
 refine zE (zQ (w1 Z ?_))
 refine wL Z H fun v15 H=>?_
 refine w4 Z ?_
 refine wQ Z H fun x16 H=>?_
 refine zE (zF [24,0,3,4,5,22,23,8,7,9] (zS ?_))
 refine zJ (α:=Bool) [0,3,4,5,7,9,22,23,24] (fun (s:Bool)=>[(47,.bool s)]) (fun (s:Bool) h=>eB p0 (ad b1) (ad b3) r7.1 a_ x16 v9 (v9.len:Int) a_ s k (fun s h'=>I1 s h'/\μ1 s h' < μ1 a_ h_1) h) ?_ ?_
 rintro b_ h_2 H
 refine zF [47,0,3,4,5,7,9,22,23,24] ?_
 refine zI H ?_ ?_ <;> intro H
 refine zY (yE (yH (zX (zR (w2 Z (zW ?_))))))
 exact xJ (IntKind.i64.wrap (a_ + 1)) H
 refine zK (zX (zQ (w1 Z ?_)))
 refine wN H fun a17 _ H=>?_
 refine w1 Z ?_
 refine wL Z H fun v18 H=>?_
 refine w2 Z ?_
 refine wC O60 (R60 _ _ _ _ H) fun r19 h20 H=>?_
 refine w5 Z (zE (zF [3,4,5,7,9,10] ?_))
 refine zJ (α:=Int) [3,4,7,9] (fun (s:Int)=>[(10,.int .u64 s)]) (fun (s:Int) h=>jh (ad b1) (ad b3) a_ x16 s k (fun s h'=>I1 s h'/\μ1 s h' < μ1 a_ h_1) h) ?_ ?_
 rintro d_ h_3 H
 refine zF [10,3,4,7,9] (zQ ?_)
 refine w1 Z ?_
 refine wL Z H fun v21 H=>?_
 refine w1 Z ?_
 obtain ⟨s22,ps22,qs22,rs22,ts22,es22,H⟩:=H
 refine wYe (xm (s:=v21) (L:=a_) (H:=(v21.len:Int)) (M:=(v21.cap:Int)) Z rfl rfl rfl rfl rfl rfl rfl (by simp) ps22 qs22 rs22 ts22) (congrArg Slc.v es22) ?_
 refine wC O39 (R39 _ _ _ _ _ H) fun r23 h24 H=>?_
 refine wC O40 (R40 _ _ _ H) fun r25 h26 H=>?_
 refine w1 Z (zE (zF [10,4,9,12] (zQ ?_)))
 refine w4 Z ?_
 refine wY (cu Z rfl rfl rfl rfl rfl) ?_
 refine wTa Z H fun h27 H=>?_
 refine zE (zF [4] (zT (yB (yT (yT (yB (yT ?_)))))))
 obtain ⟨v28,hv28,H⟩:=H
 exact tH Z _ rfl [.agg (aj.cs v28).toArray] ⟨⟨_,_,rfl,rfl,.inr ⟨rfl,_,rfl,rfl,hv28⟩⟩,trivial⟩ ⟨v28,rfl,H⟩
 refine zQ (w3 Z ?_)
 refine vU 5 [3,4,7,9,10] [(65,.bool ((decide (a_ > 0)) && (decide ((IntKind.u64.wrap (x16 - 1)) > r7.1))))] ?_ ?_
 refine zE ?_
 refine zI H ?_ ?_ <;> intro H
 refine zR (w1 Z ?_)
 refine wL Z H fun v29 H=>?_
 refine w2 Z ?_
 refine wD Z H fun a30 _ H=>?_
 refine w1 Z ?_
 refine wL Z H fun v31 H=>?_
 refine w1 Z (zW ?_)
 exact xJ v31 H
 refine zK ?_
 exact xJ r19.1 H
 refine vG (d:=60) (fun hb=>?_) (fun hb=>?_)
 refine w5 Z ?_
 refine vK ?_
 exact congrArg (fun b=>some (Value.bool b)) (rq hb)
 refine wS (wS (wS (wS (w1 Z ?_))))
 refine vK ?_
 exact congrArg (fun b=>some (Value.bool b)) (rF hb)
 refine gB [0,3,4,5,7,8,9,22,23,24] ?_
 refine gT 0 [9] Z ?_
 refine gT 1 [5] Z ?_
 refine gT 2 [35,36] Z ?_
 refine gT 3 [37] Z ?_
 refine gI 38 H (fun hb H=>?_) (fun hb H=>?_)
 refine gS 4 [0,38] ?_
 refine gS 5 [38,39] ?_
 refine gS 6 [38,40] ?_
 refine gS 7 [38,41] ?_
 refine gS 8 [9,38] ?_
 refine gS 9 [8,38] ?_
 refine gS 10 [38,44] ?_
 refine gS 11 [38,42,43,45] ?_
 refine gT 12 [38,46] Z ?_
 refine gZ ?_
 exact xJ true H
 refine gT 4 [0,38] Z ?_
 obtain ⟨a32,ha32,H⟩:=H
 refine gY 5 [38,39] rfl (fun _=>au rfl rfl ha32) ?_
 refine gT 6 [38,40] Z ?_
 refine gl 7 [38,41] Z H fun v33 H=>?_
 refine gT 8 [9,38] Z ?_
 refine gT 9 [8,38] Z ?_
 refine gl 10 [38,44] Z H fun v34 H=>?_
 refine gC 11 [38,42,43,45] O82 (R82 _ _ _ _ _ H) fun r35 h36 H=>?_
 refine gT 12 [38,46] Z ?_
 refine gZ ?_
 exact xJ r35 H
 refine zY (yE (yE (yH (zX (zF [4] (zQ ?_))))))
 refine wY (cu Z rfl rfl rfl rfl rfl) ?_
 refine wTa Z H fun h37 H=>?_
 refine zE (zT ?_)
 obtain ⟨v38,hv38,H⟩:=H
 exact tH Z _ rfl [.agg (aj.cs v38).toArray] ⟨⟨_,_,rfl,rfl,.inr ⟨rfl,_,rfl,rfl,hv38⟩⟩,trivial⟩ ⟨v38,rfl,H⟩
theorem O50:aB prog 50:=ck func50
theorem R50 (p0 p1 p2 k h) (H:mZ p0 p1 p2 k h):CallsH prog 50 #[.pointer p0,.int .i64 p1,.agg (ah.cs p2).toArray] h (rS k):=by
 refine fE func50 fun w0=>?_
 refine zF [0,1,2] (zQ ?_)
 refine wX H fun b1 h2 H=>?_
 refine w1 Z (zE (zQ ?_))
 refine w2 Z ?_
 refine wL Z H fun v3 H=>?_
 refine w1 Z ?_
 refine wC O46 (R46 _ _ _ _ _ H) fun r4 h5 H=>?_
 refine zE (zF [0,1,5] (zQ ?_))
 refine w1 Z ?_
 refine wN H fun a6 ha6 H=>?_
 refine w1 Z ?_
 refine wT Z H fun h7 H=>?_
 refine zE (zQ (w1 Z ?_))
 refine wLa Z H fun v8 H=>?_
 refine wC O72 (R72 _ _ _ _ H) fun r9 h10 H=>?_
 refine wB Z H fun b11 h12 H=>?_
 refine wTa Z H fun h13 H=>?_
 refine zE (zS ?_)
 refine gB [0,1,5,7] ?_
 refine gT 0 [0] Z ?_
 refine gY 1 [24] rfl (fun _=>au rfl rfl ha6) ?_
 refine gT 2 [25] Z ?_
 refine gl 3 [26] Z H fun v14 H=>?_
 refine gT 4 [5] Z ?_
 refine gl 5 [28] Z H fun v15 H=>?_
 refine gT 6 [5] Z ?_
 refine gl 7 [30] Z H fun v16 H=>?_
 refine gT 8 [5] Z ?_
 refine gl 9 [32] Z H fun v17 H=>?_
 refine gC 10 [27,29,31,33] O73 (R73 _ _ _ _ _ _ H) fun r18 h19 H=>?_
 refine gT 11 [34] Z ?_
 refine gT 12 [23] Z ?_
 refine gT 13 [23] Z ?_
 refine gT 14 [35] Z ?_
 refine gT 15 [36] Z ?_
 refine gZ ?_
 refine zX (zF [0,1,5,7,8,9] (zS (zQ ?_)))
 refine w2 Z (zE ?_)
 refine zI H ?_ ?_ <;> intro H
 refine zQ (w1 Z ?_)
 refine wY (au rfl rfl ha6) ?_
 refine w1 Z ?_
 refine wL Z H fun v20 H=>?_
 refine wC O66 (R66 _ _ _ H) fun r21 h22 H=>?_
 refine w5 Z (zE (zF [0,1,5,10] (zQ ?_)))
 refine w4 Z ?_
 refine wL Z H fun v23 H=>?_
 refine w3 Z ?_
 refine wC O68 (R68 _ _ _ _ _ _ _ H) fun r24 h25 H=>?_
 refine w1 Z (zE (zF [6] (zT (yT ?_))))
 exact aA _ rfl _ rfl ⟨r24,rfl,H⟩
 refine zK (zX ?_)
 refine zJ (α:=Unit) [0,1,5,8] (fun (s:Unit)=>[]) (fun (s:Unit) h=>fO p0 p1 (ad b1) r18.1 k h) ?_ ?_
 rintro _ h_1 H
 refine zF [0,1,5,8] (zS ?_)
 refine gB [0,1,5,8] ?_
 refine gT 0 [0] Z ?_
 refine gT 1 [0] Z ?_
 obtain ⟨a26,ha26,H⟩:=H
 refine gY 2 [71] rfl (fun _=>au rfl rfl ha26) ?_
 refine gT 3 [72] Z ?_
 refine gl 4 [73] Z H fun v27 H=>?_
 refine gT 5 [5] Z ?_
 refine gl 6 [75] Z H fun v28 H=>?_
 refine gT 7 [8] Z ?_
 refine gT 8 [76,77] Z ?_
 refine gT 9 [74,78] Z ?_
 refine gY 10 [70] rfl (fun _=>au rfl rfl ha26) ?_
 refine gT 11 [80] Z ?_
 refine gs 12 [79,81] Z H fun h29 H=>?_
 refine gZ ?_
 refine zX (zF [0,1,8] (zQ ?_))
 refine w3 Z ?_
 refine wC O68 (R68 _ _ _ _ _ _ _ H) fun r30 h31 H=>?_
 refine w1 Z (zE (zF [6] (zT ?_)))
 exact aA _ rfl _ rfl ⟨r30,rfl,H⟩
 refine zQ (w1 Z ?_)
 refine wL Z H fun v32 H=>?_
 refine w2 Z (zE ?_)
 refine zI H ?_ ?_ <;> intro H
 refine gB [0,1,5,7,8] ?_
 refine gT 0 [0] Z ?_
 refine gT 1 [0] Z ?_
 refine gY 2 [61] rfl (fun _=>au rfl rfl ha6) ?_
 refine gT 3 [62] Z ?_
 refine gl 4 [63] Z H fun v33 H=>?_
 refine gla 5 [7] Z H fun v34 H=>?_
 obtain ⟨b35,h36,eb35,eh36,H⟩:=H
 refine gHr 6 [65] rfl (nV Z rfl rfl rfl rfl rfl rfl rfl eb35 eh36) ?_
 obtain ⟨hy37,H⟩:=H
 refine gR rfl (bH Z rfl rfl rfl rfl hy37) ?_
 refine gZ0 ?_
 refine gA 7 [64,66] rfl (lW (s:=v33) (r:=(⟨some ⟨b35,0,none⟩,1,1⟩:Slc)) Z rfl rfl rfl rfl rfl (fM eb35 eh36) H) ?_
 rintro _ h39 ⟨s38,rfl,H⟩
 refine gY 8 [60] rfl (fun _=>au rfl rfl ha6) ?_
 refine gT 9 [68] Z ?_
 refine gs 10 [67,69] Z H fun h40 H=>?_
 refine gZ ?_
 exact xJ () H
 refine zK ?_
 exact xJ () H
theorem O75:aB prog 75:=ck func75
theorem R75 (p0 p1 p2 p3 k h) (H:mh p0 p1 p2 p3 k h):CallsH prog 75 #[.pointer p0,.int .u64 p1,.int .u64 p2,Slc.v p3] h (rU k):=by
 refine fE func75 fun w0=>?_
 refine zF [0,1,2,3] ?_
 refine zJ (α:=Unit) [0,1,2,3] (fun (s:Unit)=>[]) (fun (s:Unit) h=>kJ p0 p1 p2 p3 k h) ?_ ?_
 rintro _ h_1 H
 refine zF [0,1,2,3] (zQ ?_)
 refine w2 Z ?_
 refine wC O38 (R38 _ _ _ H) fun r1 h2 H=>?_
 refine wN H fun a3 ha3 H=>?_
 refine w1 Z ?_
 refine wT Z H fun h4 H=>?_
 refine zE ?_
 refine gB [0,1,2,3] ?_
 refine gT 0 [0] Z ?_
 refine gT 1 [0] Z ?_
 refine gY 2 [33] rfl (fun _=>au rfl rfl ha3) ?_
 refine gT 3 [34] Z ?_
 refine gl 4 [35] Z H fun v5 H=>?_
 refine gT 5 [1] Z ?_
 refine gT 6 [2] Z ?_
 refine gT 7 [3] Z ?_
 refine gCr 8 [39] O38 (R38 _ _ _ H) fun r6 h7 H=>?_
 obtain ⟨hy8,H⟩:=H
 refine gR rfl (bH Z rfl rfl rfl rfl hy8) ?_
 refine gZ0 ?_
 refine gY 9 [37,38,40] rfl (fun _=>cu Z rfl rfl rfl rfl rfl) ?_
 obtain ⟨b9,h10,eb9,eh10,H⟩:=H
 refine gHr 10 [41] rfl (nV Z rfl rfl rfl rfl rfl rfl rfl eb9 eh10) ?_
 obtain ⟨hy11,H⟩:=H
 refine gR rfl (bH Z rfl rfl rfl rfl hy11) ?_
 refine gZ0 ?_
 refine gA 11 [36,42] rfl (lW (s:=v5) (r:=(⟨some ⟨b9,0,none⟩,1,1⟩:Slc)) Z rfl rfl rfl rfl rfl (fM eb9 eh10) H) ?_
 rintro _ h13 ⟨s12,rfl,H⟩
 refine gY 12 [32] rfl (fun _=>au rfl rfl ha3) ?_
 refine gT 13 [44] Z ?_
 refine gs 14 [43,45] Z H fun h14 H=>?_
 refine gZ ?_
 exact kW _ rfl _ rfl ⟨(),rfl,H⟩
 refine zQ (w1 Z ?_)
 refine wN H fun a15 ha15 H=>?_
 refine w1 Z ?_
 refine wL Z H fun v16 H=>?_
 refine w2 Z ?_
 refine wC O82 (R82 _ _ _ _ _ H) fun r17 h18 H=>?_
 refine zE ?_
 refine zI H ?_ ?_ <;> intro H
 refine zR (w1 Z ?_)
 refine wY (au rfl rfl ha15) ?_
 refine w1 Z ?_
 refine wL Z H fun v19 H=>?_
 refine w1 Z ?_
 refine wC O84 (R84 _ _ _ _ H) fun r20 h21 H=>?_
 refine zW ?_
 exact xJ () H
 refine zR (w3 Z ?_)
 refine wC O39 (R39 _ _ _ _ _ H) fun r22 h23 H=>?_
 refine wY (au rfl rfl ha15) ?_
 refine w1 Z ?_
 refine wT Z H fun h24 H=>?_
 refine zW ?_
 exact xJ () H
theorem O52:aB prog 52:=ck func52
theorem R52 (p0 p1 p2 k h) (H:lL p0 p1 p2 k h):CallsH prog 52 #[.pointer p0,.int .i64 p1,.agg (ah.cs p2).toArray] h (rS k):=by
 refine fE func52 fun w0=>?_
 refine zF [0,1,2] (zQ ?_)
 refine wX H fun b1 h2 H=>?_
 refine w1 Z (zE (zQ ?_))
 refine w2 Z ?_
 refine wL Z H fun v3 H=>?_
 refine w1 Z ?_
 refine wC O46 (R46 _ _ _ _ _ H) fun r4 h5 H=>?_
 refine zE (zF [0,1,5] (zQ ?_))
 refine w1 Z ?_
 refine wN H fun a6 ha6 H=>?_
 refine w1 Z ?_
 refine wT Z H fun h7 H=>?_
 refine zE ?_
 refine zJ (α:=Unit) [0,1] (fun (s:Unit)=>[]) (fun (s:Unit) h=>gG p0 p1 k h) ?_ ?_
 rintro _ h_1 H
 refine zF [0,1] (zQ ?_)
 refine w3 Z ?_
 refine wN H fun a8 _ H=>?_
 refine w1 Z ?_
 refine wL Z H fun v9 H=>?_
 refine wC O68 (R68 _ _ _ _ _ _ _ H) fun r10 h11 H=>?_
 refine w1 Z (zE (zF [6] (zT ?_)))
 exact aA _ rfl _ rfl ⟨r10,rfl,H⟩
 refine zS ?_
 refine pY (by kernel_rfl) (by kernel_rfl) ?_
 refine qp Z ?_
 obtain ⟨v12,hv12,H⟩:=H
 refine q_y (bH Z rfl rfl rfl rfl hv12) rfl rfl ?_
 refine qp Z ?_
 refine q_y (au rfl rfl ha6) rfl rfl ?_
 refine qp Z ?_
 obtain ⟨v13,hv13,H⟩:=H
 refine q_y (bH Z rfl rfl rfl rfl hv13) rfl rfl ?_
 refine qp Z ?_
 refine sM ?_
 refine zX (zF [0,1,5,21] ?_)
 refine zI H ?_ ?_ <;> intro H
 refine zQ (w2 Z ?_)
 refine wL Z H fun v14 H=>?_
 refine w1 Z ?_
 refine wL Z H fun v15 H=>?_
 refine w1 Z ?_
 refine wL Z H fun v16 H=>?_
 refine wC O75 (R75 _ _ _ _ _ _ H) fun r17 h18 H=>?_
 refine zE (zF [0,1,5] (zR ?_))
 refine w2 Z ?_
 refine wL Z H fun v19 H=>?_
 refine wY (au rfl rfl ha6) ?_
 refine w1 Z ?_
 refine wT Z H fun h20 H=>?_
 refine zW ?_
 exact xJ () H
 refine zK ?_
 exact xJ () H
theorem O51:aB prog 51:=ck func51
theorem R51 (p0 p1 p2 k h) (H:lJ p0 p1 p2 k h):CallsH prog 51 #[.pointer p0,.int .i64 p1,.agg (ah.cs p2).toArray] h (rS k):=by
 refine fE func51 fun w0=>?_
 refine zF [0,1,2] (zQ ?_)
 refine wX H fun b1 h2 H=>?_
 refine w1 Z (zE (zS (zQ ?_)))
 refine w1 Z ?_
 refine wN H fun a3 ha3 H=>?_
 refine w1 Z ?_
 refine wL Z H fun v4 H=>?_
 refine w1 Z (zE ?_)
 refine zI H ?_ ?_ <;> intro H
 refine zQ (w1 Z (zE (zF [6] (zT (yT ?_)))))
 exact aA _ rfl _ rfl ⟨(⟨none,0,0⟩:Slc),rfl,H⟩
 refine zK (zX (zF [0,1,5] (zS (zQ ?_))))
 refine w1 Z ?_
 refine wL Z H fun v5 H=>?_
 refine w1 Z (zE ?_)
 refine zI H ?_ ?_ <;> intro H
 refine zS ?_
 refine gB [0,1,5] ?_
 refine gT 0 [0] Z ?_
 refine gY 1 [17] rfl (fun _=>au rfl rfl ha3) ?_
 refine gT 2 [18] Z ?_
 refine gl 3 [19] Z H fun v6 H=>?_
 refine gT 4 [1] Z ?_
 refine gT 5 [0] Z ?_
 refine gY 6 [22] rfl (fun _=>au rfl rfl ha3) ?_
 refine gT 7 [23] Z ?_
 refine gl 8 [24] Z H fun v7 H=>?_
 refine gT 9 [1] Z ?_
 refine gd 10 [25,26] Z H fun a8 H=>?_
 refine gl 11 [27] Z H fun v9 H=>?_
 refine gT 12 [28] Z ?_
 refine gT 13 [5] Z ?_
 refine gl 14 [30] Z H fun v10 H=>?_
 refine gT 15 [31] Z ?_
 refine gT 16 [29,32] Z ?_
 refine gT 17 [33] Z ?_
 refine gd 18 [20,21] Z H fun a11 H=>?_
 refine gs 19 [34,35] Z H fun h12 H=>?_
 refine gZ ?_
 refine zX (zF [0,1] (zQ ?_))
 refine w3 Z ?_
 refine wC O42 (R42 _ _ _ _ H) fun r13 h14 H=>?_
 refine wY (cu Z rfl rfl rfl rfl rfl) ?_
 obtain ⟨b15,h16,eb15,eh16,H⟩:=H
 refine wH (nV Z rfl rfl rfl rfl rfl rfl rfl eb15 eh16) ?_
 refine w1 Z (zE (zF [6] (zT (yT ?_))))
 exact aA _ rfl _ rfl ⟨(⟨some ⟨b15,0,none⟩,1,1⟩:Slc),rfl,H⟩
 refine zK (zX (zQ (w1 Z ?_)))
 refine wY (au rfl rfl ha3) ?_
 refine w1 Z ?_
 refine wL Z H fun v17 H=>?_
 refine wC O66 (R66 _ _ _ H) fun r18 h19 H=>?_
 refine w5 Z (zE (zF [0,1,5,7] (zS (zQ ?_))))
 refine w1 Z ?_
 refine wL Z H fun v20 H=>?_
 refine w2 Z (zE ?_)
 refine zI H ?_ ?_ <;> intro H
 refine zQ (w1 Z (zE (zF [6] (zT (yT ?_)))))
 exact aA _ rfl _ rfl ⟨(⟨none,0,0⟩:Slc),rfl,H⟩
 refine zK (zX (zS ?_))
 refine gB [0,1,5,7] ?_
 refine gT 0 [0] Z ?_
 refine gY 1 [54] rfl (fun _=>au rfl rfl ha3) ?_
 refine gT 2 [55] Z ?_
 refine gl 3 [56] Z H fun v21 H=>?_
 refine gT 4 [1] Z ?_
 refine gT 5 [0] Z ?_
 refine gY 6 [59] rfl (fun _=>au rfl rfl ha3) ?_
 refine gT 7 [60] Z ?_
 refine gl 8 [61] Z H fun v22 H=>?_
 refine gT 9 [1] Z ?_
 refine gd 10 [62,63] Z H fun a23 H=>?_
 refine gl 11 [64] Z H fun v24 H=>?_
 refine gT 12 [5] Z ?_
 refine gl 13 [66] Z H fun v25 H=>?_
 refine gT 14 [65,67] Z ?_
 refine gd 15 [57,58] Z H fun a26 H=>?_
 refine gs 16 [68,69] Z H fun h27 H=>?_
 refine gZ ?_
 refine zX (zF [0,1,5,7] (zS ?_))
 refine gB [0,1,5,7] ?_
 refine gT 0 [0] Z ?_
 refine gY 1 [70] rfl (fun _=>au rfl rfl ha3) ?_
 refine gT 2 [71] Z ?_
 refine gl 3 [72] Z H fun v28 H=>?_
 refine gT 4 [1] Z ?_
 refine gT 5 [0] Z ?_
 refine gY 6 [75] rfl (fun _=>au rfl rfl ha3) ?_
 refine gT 7 [76] Z ?_
 refine gl 8 [77] Z H fun v29 H=>?_
 refine gT 9 [1] Z ?_
 refine gd 10 [78,79] Z H fun a30 H=>?_
 refine gl 11 [80] Z H fun v31 H=>?_
 refine gT 12 [5] Z ?_
 refine gl 13 [82] Z H fun v32 H=>?_
 refine gT 14 [83] Z ?_
 refine gT 15 [81,84] Z ?_
 refine gd 16 [73,74] Z H fun a33 H=>?_
 refine gs 17 [85,86] Z H fun h34 H=>?_
 refine gZ ?_
 refine zX (zF [0,1,7] (zQ ?_))
 refine w1 Z ?_
 refine wC O74 (R74 _ _ _ H) fun r35 h36 H=>?_
 refine zE (zS (zQ (w1 Z ?_)))
 refine wY (au rfl rfl ha3) ?_
 refine w1 Z ?_
 refine wL Z H fun v37 H=>?_
 refine w1 Z ?_
 refine wD Z H fun a38 _ H=>?_
 refine wL Z H fun v39 H=>?_
 refine w2 Z (zE (zF [0,1,97] ?_))
 refine zI H ?_ ?_ <;> intro H
 refine zQ (w3 Z ?_)
 refine wC O42 (R42 _ _ _ _ H) fun r40 h41 H=>?_
 refine wY (cu Z rfl rfl rfl rfl rfl) ?_
 obtain ⟨b42,h43,eb42,eh43,H⟩:=H
 refine wH (nV Z rfl rfl rfl rfl rfl rfl rfl eb42 eh43) ?_
 refine w1 Z (zE (zF [6] (zT (yT ?_))))
 exact aA _ rfl _ rfl ⟨(⟨some ⟨b42,0,none⟩,1,1⟩:Slc),rfl,H⟩
 refine zK (zX (zQ (w1 Z (zE (zT ?_)))))
 exact aA _ rfl _ rfl ⟨(⟨none,0,0⟩:Slc),rfl,H⟩
theorem O45:aB prog 45:=ck func45
theorem R45 (p0 p1 p2 k h) (H:pK p0 p1 p2 k h):CallsH prog 45 #[.pointer p0,.int .i64 p1,.agg (ah.cs p2).toArray] h (rS k):=by
 refine fE func45 fun w0=>?_
 refine zF [0,1,2] (zQ ?_)
 refine wX H fun b1 h2 H=>?_
 refine w1 Z (zE (zS (zQ ?_)))
 refine w1 Z ?_
 refine wL Z H fun v3 H=>?_
 refine zE (zB (zQ (w2 Z (zE ?_))))
 refine zI H ?_ ?_ <;> intro H
 refine zQ (w2 Z ?_)
 refine wC O68 (R68 _ _ _ _ _ _ _ H) fun r4 h5 H=>?_
 refine w1 Z (zE (zF [6] (zT (yB (yT ?_)))))
 exact aA _ rfl _ rfl ⟨r4,rfl,H⟩
 refine zJ (α:=Bool) [0,1] (fun (s:Bool)=>[(14,.bool s)]) (fun (s:Bool) h=>kG p0 p1 s k h) ?_ ?_
 rintro a_ h_1 H
 refine zF [14,0,1] ?_
 refine zI H ?_ ?_ <;> intro H
 refine zQ (w2 Z ?_)
 refine wC O68 (R68 _ _ _ _ _ _ _ H) fun r6 h7 H=>?_
 refine w1 Z (zE (zT (yB (yT ?_))))
 exact aA _ rfl _ rfl ⟨r6,rfl,H⟩
 refine zK (yL (zX (zQ (w1 Z (zE (zT ?_))))))
 exact aA _ rfl _ rfl ⟨(⟨none,0,0⟩:Slc),rfl,H⟩
 refine zQ (w2 Z (zE (zF [0,1,8,14] ?_)))
 refine zI H ?_ ?_ <;> intro H
 refine zK ?_
 exact xJ (v3 == 3) H
 refine zR (w2 Z (zW ?_))
 exact xJ (v3 == 5) H
theorem O15:aB prog 15:=ck func15
theorem R15 (p0 p1 p2 k h) (H:oW p0 p1 p2 k h):CallsH prog 15 #[.pointer p0,.int .i64 p1,.agg (ah.cs p2).toArray] h (rS k):=by
 refine fE func15 fun w0=>?_
 refine zF [0,1,2] (zQ ?_)
 refine wX H fun b1 h2 H=>?_
 refine w1 Z (zE ?_)
 refine zJ (α:=Unit) [0,1,5] (fun (s:Unit)=>[]) (fun (s:Unit) h=>kH p0 p1 (ad b1) k h) ?_ ?_
 rintro _ h_1 H
 refine zF [0,1,5] (zS (zQ ?_))
 refine w1 Z ?_
 refine wL Z H fun v3 H=>?_
 refine zE (zB (zQ (w2 Z (zE ?_))))
 refine zI H ?_ ?_ <;> intro H
 refine zQ (w2 Z ?_)
 refine wLa Z H fun v4 H=>?_
 refine wC O47 (R47 _ _ _ _ _ H) fun r5 h6 H=>?_
 refine w1 Z (zE (zF [6] (zT (yB (yT ?_)))))
 exact aA _ rfl _ rfl ⟨r5,rfl,H⟩
 refine zQ (w2 Z (zE ?_))
 refine zI H ?_ ?_ <;> intro H
 refine zJ (α:=Unit) [0] (fun (s:Unit)=>[]) (fun (s:Unit) h=>kD p0 k h) ?_ ?_
 rintro _ h_2 H
 refine zF [0] (zQ ?_)
 refine w1 Z ?_
 refine wC O49 (R49 _ _ _ H) fun r7 h8 H=>?_
 refine w1 Z (zE (zT (yB (yT ?_))))
 exact aA _ rfl _ rfl ⟨r7,rfl,H⟩
 refine zQ (w1 Z ?_)
 refine wN H fun a9 _ H=>?_
 refine w1 Z ?_
 refine wL Z H fun v10 H=>?_
 refine w2 Z ?_
 refine vJ 3 (α:=Bool) [0,1] (fun (s:Bool)=>[(82,.bool s)]) (fun (s:Bool) h=>kF p0 p1 s k h) ?_ ?_
 rintro a_ h_3 H
 refine vF [82,0,1] (zE ?_)
 refine zI H ?_ ?_ <;> intro H
 refine zR (w1 Z ?_)
 refine wN H fun a11 _ H=>?_
 refine w1 Z ?_
 refine wL Z H fun v12 H=>?_
 refine w1 Z ?_
 refine wC O48 (R48 _ _ _ _ H) fun r13 h14 H=>?_
 refine zW ?_
 exact xJ () H
 refine zK ?_
 exact xJ () H
 refine vI 79 H ?_ ?_ <;> intro H
 refine w1 Z ?_
 refine wL Z H fun v15 H=>?_
 refine w1 Z ?_
 exact wJ v15 H
 refine wS (wS (w1 Z ?_))
 exact wJ false H
 refine zQ (w2 Z (zE ?_))
 refine zI H ?_ ?_ <;> intro H
 refine zQ (w2 Z ?_)
 refine wLa Z H fun v16 H=>?_
 refine wC O50 (R50 _ _ _ _ _ H) fun r17 h18 H=>?_
 refine w1 Z (zE (zF [6] (zT (yB (yT ?_)))))
 exact aA _ rfl _ rfl ⟨r17,rfl,H⟩
 refine zQ (w2 Z (zE (zF [0,1,5,97] ?_)))
 refine zI H ?_ ?_ <;> intro H
 refine zQ (w2 Z ?_)
 refine wLa Z H fun v19 H=>?_
 refine wC O51 (R51 _ _ _ _ _ H) fun r20 h21 H=>?_
 refine w1 Z (zE (zF [6] (zT (yB (yT ?_)))))
 exact aA _ rfl _ rfl ⟨r20,rfl,H⟩
 refine zK (yL (zX (zQ (w2 Z ?_))))
 refine wLa Z H fun v22 H=>?_
 refine wC O52 (R52 _ _ _ _ _ H) fun r23 h24 H=>?_
 refine w1 Z (zE (zF [6] (zT ?_)))
 exact aA _ rfl _ rfl ⟨r23,rfl,H⟩
 refine zB (zQ (w3 Z ?_))
 refine vU 3 [0,1,5] [(13,.bool ((p0.isNone) || (decide (p1 < 0))))] ?_ ?_
 refine w1 Z ?_
 refine vJ 7 (α:=Bool) [0,1,5] (fun (s:Bool)=>[(21,.bool s)]) (fun (s:Bool) h=>kz p0 p1 (ad b1) s k h) ?_ ?_
 rintro b_ h_4 H
 refine vF [21,0,1,5] ?_
 refine w1 Z ?_
 refine vJ 7 (α:=Bool) [0,1,5] (fun (s:Bool)=>[(29,.bool s)]) (fun (s:Bool) h=>jX p0 p1 (ad b1) s k h) ?_ ?_
 rintro d_ h_5 H
 refine vF [29,0,1,5] ?_
 refine w1 Z ?_
 refine vJ 4 (α:=Bool) [0,1,5] (fun (s:Bool)=>[(34,.bool s)]) (fun (s:Bool) h=>kK p0 p1 (ad b1) s k h) ?_ ?_
 rintro f_ h_6 H
 refine vF [34,0,1,5] ?_
 refine w1 Z ?_
 refine vJ 4 (α:=Bool) [0,1,5] (fun (s:Bool)=>[(39,.bool s)]) (fun (s:Bool) h=>kC p0 p1 (ad b1) s k h) ?_ ?_
 rintro g_ h_7 H
 refine vF [39,0,1,5] ?_
 refine w1 Z (zE ?_)
 refine zI H ?_ ?_ <;> intro H
 refine zQ (w1 Z (zE (zT (yB (yT ?_)))))
 exact aA _ rfl _ rfl ⟨(⟨none,0,0⟩:Slc),rfl,H⟩
 refine zS ?_
 refine pY (by kernel_rfl) (by kernel_rfl) ?_
 refine qp Z ?_
 obtain ⟨v25,hv25,H⟩:=H
 refine q_y (bH Z rfl rfl rfl rfl hv25) rfl rfl ?_
 refine qp Z ?_
 obtain ⟨a26,ha26,H⟩:=H
 refine q_y (au rfl rfl ha26) rfl rfl ?_
 refine qp Z ?_
 obtain ⟨v27,hv27,H⟩:=H
 refine q_y (bH Z rfl rfl rfl rfl hv27) rfl rfl ?_
 refine qp Z ?_
 refine qp Z ?_
 refine sM ?_
 refine zX (zF [0,1,5,40] ?_)
 refine zI H ?_ ?_ <;> intro H
 refine zQ (w2 Z ?_)
 refine wLa Z H fun v28 H=>?_
 refine wC O45 (R45 _ _ _ _ _ H) fun r29 h30 H=>?_
 refine w1 Z (zE (zF [6] (zT (yB (yT ?_)))))
 exact aA _ rfl _ rfl ⟨r29,rfl,H⟩
 refine zS ?_
 refine pY (by kernel_rfl) (by kernel_rfl) ?_
 refine qp Z ?_
 obtain ⟨v31,hv31,H⟩:=H
 refine q_y (bH Z rfl rfl rfl rfl hv31) rfl rfl ?_
 refine qp Z ?_
 refine q_y (au rfl rfl ha26) rfl rfl ?_
 refine qp Z ?_
 obtain ⟨v32,hv32,H⟩:=H
 refine q_y (bH Z rfl rfl rfl rfl hv32) rfl rfl ?_
 refine qp Z ?_
 refine qp Z ?_
 refine sM ?_
 refine zX (zF [0,1,5,52] ?_)
 refine zI H ?_ ?_ <;> intro H
 refine zR (w2 Z ?_)
 refine wL Z H fun v33 H=>?_
 refine wC O46 (R46 _ _ _ _ _ H) fun r34 h35 H=>?_
 refine zL ?_
 exact xJ () H
 refine zK (yL ?_)
 exact xJ () H
 refine vI 35 H ?_ ?_ <;> intro H
 refine wS (wS (wS (w1 Z ?_)))
 exact wJ true H
 refine w1 Z ?_
 refine wL Z H fun v36 H=>?_
 refine w2 Z ?_
 exact wJ (decide (v36 > 5)) H
 refine vI 30 H ?_ ?_ <;> intro H
 refine wS (wS (wS (w1 Z ?_)))
 exact wJ true H
 refine w1 Z ?_
 refine wL Z H fun v37 H=>?_
 refine w2 Z ?_
 exact wJ (decide (v37 < 1)) H
 refine vI 22 H ?_ ?_ <;> intro H
 refine wS (wS (wS (wS (wS (wS (w1 Z ?_))))))
 exact wJ true H
 refine w2 Z ?_
 refine wN H fun a38 _ H=>?_
 refine w1 Z ?_
 refine wL Z H fun v39 H=>?_
 refine w2 Z ?_
 exact wJ (p1 == v39) H
 refine vI 14 H ?_ ?_ <;> intro H
 refine wS (wS (wS (wS (wS (wS (w1 Z ?_))))))
 exact wJ true H
 refine w2 Z ?_
 refine wN H fun a40 _ H=>?_
 refine w1 Z ?_
 refine wL Z H fun v41 H=>?_
 refine w2 Z ?_
 exact wJ (decide (p1>=v41)) H
 refine vG (d:=10) (fun hb=>?_) (fun hb=>?_)
 refine wS (wS (w1 Z ?_))
 refine vK ?_
 exact congrArg (fun b=>some (Value.bool b)) (Ag hb)
 refine w3 Z ?_
 refine vK ?_
 exact congrArg (fun b=>some (Value.bool b)) (Ah hb)
theorem O56:aB prog 56:=ck func56
theorem R56 (p0 k h) (H:nX p0 k h):CallsH prog 56 #[.pointer p0] h (rS k):=by
 refine fE func56 fun w0=>?_
 refine zF [0] (zQ ?_)
 refine w1 Z (zE (zS (zQ ?_)))
 refine w2 Z (zE ?_)
 refine zI H ?_ ?_ <;> intro H
 refine zQ (w1 Z (zE (zT (yT ?_))))
 exact aA _ rfl _ rfl ⟨(⟨none,0,0⟩:Slc),rfl,H⟩
 refine zK (zX (zQ (w1 Z ?_)))
 refine wN H fun a1 ha1 H=>?_
 refine w1 Z ?_
 refine wL Z H fun v2 H=>?_
 refine w1 Z (zE (zF [0,3] (zQ ?_)))
 refine w1 Z ?_
 refine wY (au rfl rfl ha1) ?_
 refine w1 Z ?_
 refine wT Z H fun h3 H=>?_
 refine zE (zQ (w2 Z (zE (zT ?_))))
 exact aA _ rfl _ rfl ⟨v2,rfl,H⟩
theorem O55:aB prog 55:=ck func55
theorem R55 (p0 p1 p2 k h) (H:qc p0 p1 p2 k h):CallsH prog 55 #[.pointer p0,.int .u64 p1,Slc.v p2] h (rI .i64 k):=by
 refine fE func55 fun w0=>?_
 refine zF [0,1,2] (zQ ?_)
 refine w1 Z (zE (zS (zQ ?_)))
 refine w2 Z (zE ?_)
 refine zI H ?_ ?_ <;> intro H
 refine zQ (w1 Z (zE (zT (yT ?_))))
 exact aA _ rfl _ rfl ⟨6,rfl,H⟩
 refine zK (zX (zS (zQ (w2 Z ?_))))
 refine wN H fun a1 ha1 H=>?_
 refine w1 Z ?_
 refine wL Z H fun v2 H=>?_
 refine w1 Z (zE (zF [0,1,2,16] ?_))
 refine zI H ?_ ?_ <;> intro H
 refine zQ (w1 Z (zE (zT (yT ?_))))
 exact aA _ rfl _ rfl ⟨14,rfl,H⟩
 refine zK (zX (zQ (w1 Z ?_)))
 refine wY (au rfl rfl ha1) ?_
 refine w1 Z ?_
 refine wL Z H fun v3 H=>?_
 refine w1 Z ?_
 refine wC O60 (R60 _ _ _ _ H) fun r4 h5 H=>?_
 refine w5 Z (zE (zF [0,1,2,7,8] (zS (zQ ?_))))
 refine w2 Z (zE ?_)
 refine zI H ?_ ?_ <;> intro H
 refine zQ (w2 Z (zE (zF [6] (zT (yT ?_)))))
 exact aA _ rfl _ rfl ⟨r4.2,rfl,H⟩
 refine zK (zX (zQ (w4 Z ?_)))
 refine wC O75 (R75 _ _ _ _ _ _ H) fun r6 h7 H=>?_
 refine zE (zF [] (zQ ?_))
 refine w1 Z (zE (zT ?_))
 exact aA _ rfl _ rfl ⟨0,rfl,H⟩
end Go.Q.Yi
end

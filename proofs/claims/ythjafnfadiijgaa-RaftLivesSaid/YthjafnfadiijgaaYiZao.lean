/- A part of the proof of statements of this seat: lemmas, no statement of their own. -/
import Derived.Test.YthjafnfadiijgaaYiZad
import Derived.Test.YthjafnfadiijgaaYiZae
import Derived.Test.YthjafnfadiijgaaYiZaf
set_option linter.unusedVariables false
set_option linter.unusedSimpArgs false
set_option maxRecDepth 100000
set_option maxHeartbeats 1000000
section
namespace Go.Q.Yi
open Go.Proofs.Try
/-- (*quaestor quaestorref23.Log).Last -/
def pg (p0:Option Addr) (k:KP (Int × Int)) (h:Heap):Prop :=
  ∃ a1,p0=some a1/\(∃ v2,af h (a1.add 2)=some (Slc.v v2)/\(if ((v2.len:Int) == 0) then (∃ v3,af h a1=some (.int .u64 v3)/\(∃ v4,af h (a1.add 1)=some (.int .u64 v4)/\(k (v3,v4) h))) else (∃ v5,af h a1=some (.int .u64 v5)/\(∃ v6,af h (a1.add 2)=some (Slc.v v6)/\(∃ v7,af h (a1.add 2)=some (Slc.v v7)/\(∃ v8,af h (a1.add 2)=some (Slc.v v8)/\(∃ a9,v7.a=some a9/\(0:Int)<=(IntKind.i64.wrap ((v8.len:Int) - 1))/\(IntKind.i64.wrap ((v8.len:Int) - 1)) < (v7.len:Int)/\(∃ v10,af h (a9.add ((IntKind.i64.wrap ((v8.len:Int) - 1)).toNat * 2))=some (.int .u64 v10)/\(k ((IntKind.u64.wrap (v5 + (IntKind.u64.wrap (v6.len:Int)))),v10) h)))))))))
/-- (*quaestor quaestorref23.Log).TermOf -/
def jc (p0:Option Addr) (p1:Int) (k:KP (Int × Int)) (h:Heap):Prop :=
  pg p0 (fun r1 h2=>∃ a3,p0=some a3/\(∃ v4,af h2 a3=some (.int .u64 v4)/\(if (decide (p1 < v4)) then (k (0,13) h2) else (if (decide (p1 > r1.1)) then (k (0,6) h2) else (∃ v5,af h2 a3=some (.int .u64 v5)/\(if (p1 == v5) then (∃ v6,af h2 (a3.add 1)=some (.int .u64 v6)/\(k (v6,0) h2)) else (∃ v7,af h2 (a3.add 2)=some (Slc.v v7)/\(∃ v8,af h2 a3=some (.int .u64 v8)/\(∃ a9,v7.a=some a9/\(0:Int)<=(IntKind.u64.wrap ((IntKind.u64.wrap (p1 - v8)) - 1))/\(IntKind.u64.wrap ((IntKind.u64.wrap (p1 - v8)) - 1)) < (v7.len:Int)/\(∃ v10,af h2 (a9.add ((IntKind.u64.wrap ((IntKind.u64.wrap (p1 - v8)) - 1)).toNat * 2))=some (.int .u64 v10)/\(k (v10,0) h2))))))))))) h
/-- (*quaestor quaestorref23.Log).Append -/
def dU (d_:Option Addr) (f_:Int) (g_:Slc) (a_:Int) (b_:Slc) (k:KP (Int × Int)) (nx1:KP (Slc × Int)) (h_2:Heap):Prop :=
  ∃ x11,x11=(IntKind.i64.wrap (a_ + 1))/\(nx1 (b_,x11) h_2)
def fQ (d_:Option Addr) (f_:Int) (b_:Slc) (a_:Int) (g_:Slc) (k:KP (Int × Int)) (nx1:KP (Slc × Int)) (h_4:Heap):Prop :=
  ∃ a17,b_.a=some a17/\(0:Int)<=a_/\a_ < (b_.len:Int)/\(∃ v18,aJ h_4 (a17.add (a_.toNat * 2)) (ae.cs v18)/\(∃ b19 h20,b19=h_4.size/\h20=h_4.push (.cells ((ae.cs v18)).toArray 65)/\(App 65 2 32 [.int .u64 0,.slice none 0 0] h20 g_ 1 ((ae.cs v18)) (fun s21 h22=>dU d_ f_ b_ a_ s21 k nx1 h22))))
def iX (d_:Option Addr) (f_:Int) (g_:Slc) (a_:Slc) (h_:Int) (b_:Int) (j_:Bool) (k:KP (Int × Int)) (nx1:KP (Slc × Int)) (h_3:Heap):Prop :=
  if j_ then (dU d_ f_ g_ h_ a_ k nx1 h_3) else (if (decide (b_ < (a_.len:Int))) then (∃ b23 h24,b23=h_3.size/\h24=h_3.push (.cells ([]).toArray 65)/\(∃ s25,(0:Int)<=0/\(0:Int)<=b_/\(b_:Int)<=(a_.cap:Int)/\(a_.cap:Int)<=(a_.cap:Int)/\s25=dS a_ 2 (0:Int).toNat b_.toNat (a_.cap:Int).toNat/\(∃ l28,SlcAt h24 s25 l28/\App 65 2 32 [.int .u64 0,.slice none 0 0] h24 (⟨some ⟨b23,0,none⟩,0,0⟩:Slc) s25.len l28 (fun s26 h27=>fQ d_ f_ g_ h_ s26 k nx1 h27)))) else (fQ d_ f_ g_ h_ a_ k nx1 h_3))
def qz (f_:Option Addr) (g_:Int) (d_:Slc) (a_:Slc) (b_:Int) (k:KP (Int × Int)) (nx1:KP (Slc × Int)) (h_1:Heap):Prop :=
  if (decide (b_ < (d_.len:Int))) then (∃ x12,x12=(IntKind.u64.wrap ((IntKind.u64.wrap (g_ + (IntKind.u64.wrap b_))) + 1))/\(∃ a13,f_=some a13/\(∃ v14,af h_1 a13=some (.int .u64 v14)/\(if (decide (x12<=v14)) then (dU f_ g_ d_ b_ a_ k nx1 h_1) else (∃ v15,af h_1 a13=some (.int .u64 v15)/\(∃ x16,x16=(IntKind.i64.wrap (IntKind.u64.wrap ((IntKind.u64.wrap (x12 - v15)) - 1)))/\(if (decide (x16 < (a_.len:Int))) then (∃ a29,a_.a=some a29/\(0:Int)<=x16/\x16 < (a_.len:Int)/\(∃ v30,af h_1 (a29.add (x16.toNat * 2))=some (.int .u64 v30)/\(∃ a31,d_.a=some a31/\(0:Int)<=b_/\b_ < (d_.len:Int)/\(∃ v32,af h_1 (a31.add (b_.toNat * 2))=some (.int .u64 v32)/\(iX f_ g_ d_ a_ b_ x16 (v30 == v32) k nx1 h_1))))) else (iX f_ g_ d_ a_ b_ x16 false k nx1 h_1)))))))) else (if (decide ((a_.len:Int) > 64)) then (k (0,8) h_1) else (∃ a33,f_=some a33/\(∃ h34,WrH h_1 (a33.add 2)/\h34=setH h_1 (a33.add 2) (Slc.v a_)/\(∃ x35,x35=(IntKind.u64.wrap (g_ + (IntKind.u64.wrap (d_.len:Int))))/\(k (x35,0) h34)))))
def qG (d_:Option Addr) (f_:Int) (g_:Slc) (i12:Slc) (i13:Int) (k:KP (Int × Int)) (h:Heap):Prop :=
  ∃ (I:KP (Slc × Int)) (μ:(Slc × Int)->Heap->Nat),I (i12,i13) h/\∀ (a_:Slc) (b_:Int) (h:Heap),I (a_,b_) h->qz d_ f_ g_ a_ b_ k (fun s h'=>I s h'/\μ s h' < μ (a_,b_) h) h
def ni (p0:Option Addr) (p1:Int) (p2:Int) (p3:Slc) (k:KP (Int × Int)) (h:Heap):Prop :=
  jc p0 p1 (fun r1 h2=>∃ a3,p0=some a3/\(∃ v4,af h2 a3=some (.int .u64 v4)/\(if ((decide (p1>=v4)) && ((r1.2 != 0) || (r1.1 != p2))) then (k (0,6) h2) else (∃ b5 h6,b5=h2.size/\h6=h2.push (.cells ([]).toArray 65)/\(∃ v7,af h6 (a3.add 2)=some (Slc.v v7)/\(∃ l10,SlcAt h6 v7 l10/\App 65 2 32 [.int .u64 0,.slice none 0 0] h6 (⟨some ⟨b5,0,none⟩,0,0⟩:Slc) v7.len l10 (fun s8 h9=>qG p0 p1 p3 s8 0 k h9))))))) h
/-- (*quaestor quaestorref23.Log).Cut -/
def qg (p0:Option Addr) (p1:Int) (k:KP Int) (h:Heap):Prop :=
  jc p0 p1 (fun r1 h2=>if (r1.2 != 0) then (k r1.2 h2) else (∃ a3,p0=some a3/\(∃ v4,af h2 (a3.add 2)=some (Slc.v v4)/\(∃ v5,af h2 a3=some (.int .u64 v5)/\(∃ s6,(0:Int)<=(IntKind.u64.wrap (p1 - v5))/\((IntKind.u64.wrap (p1 - v5)):Int)<=(v4.len:Int)/\((v4.len:Int):Int)<=(v4.cap:Int)/\(v4.cap:Int)<=(v4.cap:Int)/\s6=dS v4 2 (IntKind.u64.wrap (p1 - v5)).toNat (v4.len:Int).toNat (v4.cap:Int).toNat/\(∃ b7 h8,b7=h2.size/\h8=h2.push (.cells ([]).toArray 65)/\(af h8 a3=some (.int .u64 v5)/\af h8 (a3.add 2)=some (Slc.v v4)/\(∃ l13,SlcAt h8 s6 l13/\App 65 2 32 [.int .u64 0,.slice none 0 0] h8 (⟨some ⟨b7,0,none⟩,0,0⟩:Slc) s6.len l13 (fun s11 h12=>∃ h14,WrH h12 (a3.add 2)/\h14=setH h12 (a3.add 2) (Slc.v s11)/\(∃ h15,WrH h14 a3/\h15=setH h14 a3 (.int .u64 p1)/\(∃ h16,WrH h15 (a3.add 1)/\h16=setH h15 (a3.add 1) (.int .u64 r1.1)/\(k 0 h16)))))))))))) h
/-- (*quaestor quaestorref26.Stored).Keep -/
def iD (a_:Option Addr) (b_:Addr) (k:KP Bool) (h_1:Heap):Prop :=
  ∃ v21,af h_1 (b_.add 5)=some (Slc.v v21)/\(∃ a22,a_=some a22/\(∃ h23,WrH h_1 (a22.add 3)/\h23=setH h_1 (a22.add 3) (Slc.v v21)/\(k true h23)))
def dM (b_:Option Addr) (a_:Addr) (d_:Bool) (k:KP Bool) (h_2:Heap):Prop :=
  if d_ then (∃ a24,b_=some a24/\(∃ v25:Option Addr,af h_2 (a24.add 2)=some (.pointer v25)/\(∃ v26,af h_2 (a_.add 3)=some (.int .u64 v26)/\(qg v25 v26 (fun r27 h28=>iD b_ a_ k h28) h_2)))) else (∃ v29,af h_2 (a_.add 3)=some (.int .u64 v29)/\(∃ v30,af h_2 (a_.add 1)=some (.int .u64 v30)/\(∃ b31 h32,b31=h_2.size/\h32=h_2.push (.cells (aH.cs (⟨v29,v30,(⟨none,0,0⟩:Slc)⟩:aH)).toArray 75)/\(∃ a33,b_=some a33/\(∃ h34,WrH h32 (a33.add 2)/\h34=setH h32 (a33.add 2) (.pointer (some (ad b31)))/\(iD b_ a_ k h34))))))
def l7 (p0:Option Addr) (p1:aj) (k:KP Bool) (h:Heap):Prop :=
  ∃ b1 h2,b1=h.size/\h2=h.push (.cells (aj.cs p1).toArray 107)/\(∃ v3,af h2 (ad b1)=some (.int .i64 v3)/\(if (v3 == 1) then (∃ v4,af h2 ((ad b1).add 1)=some (.int .u64 v4)/\(∃ a5,p0=some a5/\(∃ h6,WrH h2 a5/\h6=setH h2 a5 (.int .u64 v4)/\(∃ v7,af h6 ((ad b1).add 2)=some (.int .i64 v7)/\(∃ h8,WrH h6 (a5.add 1)/\h8=setH h6 (a5.add 1) (.int .i64 v7)/\(k true h8)))))) else (if (v3 == 2) then (∃ a9,p0=some a9/\(∃ v10:Option Addr,af h2 (a9.add 2)=some (.pointer v10)/\(∃ v11,af h2 ((ad b1).add 3)=some (.int .u64 v11)/\(∃ v12,af h2 ((ad b1).add 1)=some (.int .u64 v12)/\(∃ v13,af h2 ((ad b1).add 4)=some (Slc.v v13)/\(ni v10 v11 v12 v13 (fun r14 h15=>k (r14.2 == 0) h15) h2)))))) else (if (v3 == 3) then (∃ a16,p0=some a16/\(∃ v17:Option Addr,af h2 (a16.add 2)=some (.pointer v17)/\(∃ v18,af h2 ((ad b1).add 3)=some (.int .u64 v18)/\(jc v17 v18 (fun r19 h20=>if (r19.2 == 0) then (∃ v35,af h20 ((ad b1).add 1)=some (.int .u64 v35)/\(dM p0 (ad b1) (r19.1 == v35) k h20)) else (dM p0 (ad b1) false k h20)) h2)))) else (k false h2)))))
theorem O27:aB prog 27:=ck func27
theorem R27 (p0 k h) (H:pg p0 k h):CallsH prog 27 #[.pointer p0] h (fun v h'=>∃ r:Int × Int,v = .tuple #[.int .u64 r.1,.int .u64 r.2]/\k r h'):=by
 refine fE func27 fun w0=>?_
 refine zF [0] (zQ ?_)
 refine w2 Z (zE (zS (zQ ?_)))
 refine w1 Z ?_
 refine wN H fun a1 ha1 H=>?_
 refine w1 Z ?_
 refine wL Z H fun v2 H=>?_
 refine w2 Z (zE (zF [0,9] ?_))
 refine zI H ?_ ?_ <;> intro H
 refine zS ?_
 refine pY (by kernel_rfl) (by kernel_rfl) ?_
 refine qp Z ?_
 refine q_y (au rfl rfl ha1) rfl rfl ?_
 refine qp Z ?_
 obtain ⟨v3,hv3,H⟩:=H
 refine q_y (bH Z rfl rfl rfl rfl hv3) rfl rfl ?_
 refine qp Z ?_
 refine q_y (au rfl rfl ha1) rfl rfl ?_
 refine qp Z ?_
 obtain ⟨v4,hv4,H⟩:=H
 refine q_y (bH Z rfl rfl rfl rfl hv4) rfl rfl ?_
 refine qp Z ?_
 refine qp Z ?_
 refine sM ?_
 refine zX (zF [2,3] (zT (yT ?_)))
 exact aA _ rfl _ rfl ⟨(v3,v4),rfl,H⟩
 refine zK (zX (zS ?_))
 refine pY (by kernel_rfl) (by kernel_rfl) ?_
 refine qp Z ?_
 refine q_y (au rfl rfl ha1) rfl rfl ?_
 refine qp Z ?_
 obtain ⟨v5,hv5,H⟩:=H
 refine q_y (bH Z rfl rfl rfl rfl hv5) rfl rfl ?_
 refine qp Z ?_
 refine q_y (au rfl rfl ha1) rfl rfl ?_
 refine qp Z ?_
 obtain ⟨v6,hv6,H⟩:=H
 refine q_y (bH Z rfl rfl rfl rfl hv6) rfl rfl ?_
 refine qp Z ?_
 refine qp Z ?_
 refine qp Z ?_
 refine qp Z ?_
 refine q_y (au rfl rfl ha1) rfl rfl ?_
 refine qp Z ?_
 obtain ⟨v7,hv7,H⟩:=H
 refine q_y (bH Z rfl rfl rfl rfl hv7) rfl rfl ?_
 refine qp Z ?_
 refine q_y (au rfl rfl ha1) rfl rfl ?_
 refine qp Z ?_
 obtain ⟨v8,hv8,H⟩:=H
 refine q_y (bH Z rfl rfl rfl rfl hv8) rfl rfl ?_
 refine qp Z ?_
 refine qp Z ?_
 obtain ⟨a9,ha9,la9,ua9,H⟩:=H
 refine q_y (su Z rfl rfl ha9 rfl rfl rfl la9 ua9) rfl rfl ?_
 refine qp Z ?_
 obtain ⟨v10,hv10,H⟩:=H
 refine q_y (bH Z rfl rfl rfl rfl hv10) rfl rfl ?_
 refine qp Z ?_
 refine qp Z ?_
 refine sM ?_
 refine zX (zF [2,3] (zT ?_))
 exact aA _ rfl _ rfl ⟨((IntKind.u64.wrap (v5 + (IntKind.u64.wrap (v6.len:Int)))),v10),rfl,H⟩
theorem O77:aB prog 77:=ck func77
theorem R77 (p0 p1 k h) (H:jc p0 p1 k h):CallsH prog 77 #[.pointer p0,.int .u64 p1] h (fun v h'=>∃ r:Int × Int,v = .tuple #[.int .u64 r.1,.int .i64 r.2]/\k r h'):=by
 refine fE func77 fun w0=>?_
 refine zF [0,1] (zQ ?_)
 refine w2 Z (zE (zQ ?_))
 refine w1 Z ?_
 refine wC O27 (R27 _ _ _ H) fun r1 h2 H=>?_
 refine w5 Z (zE (zF [0,1,6] (zS (zQ ?_))))
 refine w2 Z ?_
 refine wN H fun a3 ha3 H=>?_
 refine w1 Z ?_
 refine wL Z H fun v4 H=>?_
 refine w1 Z (zE ?_)
 refine zI H ?_ ?_ <;> intro H
 refine zQ (w2 Z (zE (zF [4,5] (zT (yT ?_)))))
 exact aA _ rfl _ rfl ⟨(0,13),rfl,H⟩
 refine zK (zX (zS (zQ (w3 Z (zE (zF [0,1,21] ?_))))))
 refine zI H ?_ ?_ <;> intro H
 refine zQ (w2 Z (zE (zT (yT ?_))))
 exact aA _ rfl _ rfl ⟨(0,6),rfl,H⟩
 refine zK (zX (zS (zQ (w2 Z ?_))))
 refine wY (au rfl rfl ha3) ?_
 refine w1 Z ?_
 refine wL Z H fun v5 H=>?_
 refine w1 Z (zE ?_)
 refine zI H ?_ ?_ <;> intro H
 refine zQ (w1 Z ?_)
 refine wY (au rfl rfl ha3) ?_
 refine w1 Z ?_
 refine wL Z H fun v6 H=>?_
 refine w2 Z (zE (zF [4,5] (zT (yT ?_))))
 exact aA _ rfl _ rfl ⟨(v6,0),rfl,H⟩
 refine zK (zX (zF [0,1] (zS ?_)))
 refine pY (by kernel_rfl) (by kernel_rfl) ?_
 refine qp Z ?_
 refine q_y (au rfl rfl ha3) rfl rfl ?_
 refine qp Z ?_
 obtain ⟨v7,hv7,H⟩:=H
 refine q_y (bH Z rfl rfl rfl rfl hv7) rfl rfl ?_
 refine qp Z ?_
 refine qp Z ?_
 refine q_y (au rfl rfl ha3) rfl rfl ?_
 refine qp Z ?_
 obtain ⟨v8,hv8,H⟩:=H
 refine q_y (bH Z rfl rfl rfl rfl hv8) rfl rfl ?_
 refine qp Z ?_
 refine qp Z ?_
 obtain ⟨a9,ha9,la9,ua9,H⟩:=H
 refine q_y (su Z rfl rfl ha9 rfl rfl rfl la9 ua9) rfl rfl ?_
 refine qp Z ?_
 obtain ⟨v10,hv10,H⟩:=H
 refine q_y (bH Z rfl rfl rfl rfl hv10) rfl rfl ?_
 refine qp Z ?_
 refine qp Z ?_
 refine sM ?_
 refine zX (zF [4,5] (zT ?_))
 exact aA _ rfl _ rfl ⟨(v10,0),rfl,H⟩
theorem O76:aB prog 76:=ck func76
theorem R76 (p0 p1 p2 p3 k h) (H:ni p0 p1 p2 p3 k h):CallsH prog 76 #[.pointer p0,.int .u64 p1,.int .u64 p2,Slc.v p3] h (fun v h'=>∃ r:Int × Int,v = .tuple #[.int .u64 r.1,.int .i64 r.2]/\k r h'):=by
 refine fE func76 fun w0=>?_
 refine zF [0,1,2,3] (zQ ?_)
 refine w2 Z (zE (zQ ?_))
 refine w2 Z ?_
 refine wC O77 (R77 _ _ _ _ H) fun r1 h2 H=>?_
 refine w5 Z (zE (zF [0,1,2,3,10,11] (zS (zQ ?_))))
 refine w2 Z ?_
 refine wN H fun a3 ha3 H=>?_
 refine w1 Z ?_
 refine wL Z H fun v4 H=>?_
 refine w2 Z ?_
 refine vU 8 [0,1,3] [(36,.bool ((decide (p1>=v4)) && ((r1.2 != 0) || (r1.1 != p2))))] ?_ ?_
 refine zE ?_
 refine zI H ?_ ?_ <;> intro H
 refine zQ (w2 Z (zE (zT (yT ?_))))
 exact aA _ rfl _ rfl ⟨(0,6),rfl,H⟩
 refine zK (zX (zQ ?_))
 obtain ⟨b5,h6,eb5,eh6,H⟩:=H
 refine wH (nV Z rfl rfl rfl rfl rfl rfl rfl eb5 eh6) ?_
 refine w1 Z ?_
 refine wY (au rfl rfl ha3) ?_
 refine w1 Z ?_
 refine wL Z H fun v7 H=>?_
 obtain ⟨l10,hl10,H⟩:=H
 refine wA (lW (s:=(⟨some ⟨b5,0,none⟩,0,0⟩:Slc)) (r:=v7) Z rfl rfl rfl rfl rfl hl10 H) ?_
 rintro _ h9 ⟨s8,rfl,H⟩
 refine w1 Z (zE (zF [0,1,3,12] (zS (zQ ?_))))
 refine w1 Z (zE (zB ?_))
 obtain ⟨I1,μ1,H0,HI⟩:=H
 refine zO (σ:=Slc × Int) [0,1,3] (fun (s:Slc × Int)=>[(12,Slc.v s.1),(13,.int .i64 s.2)]) I1 μ1 (s8,0) H0 ?_
 rintro ⟨a_,b_⟩ h_1 H
 replace H:=HI a_ b_ h_1 H
 refine zF [12,13,0,1,3] (zS (zQ ?_))
 refine w4 Z (zE ?_)
 refine zI H ?_ ?_ <;> intro H
 refine zK (zX ?_)
 refine zJ (α:=Slc) [0,1,3,13] (fun (s:Slc)=>[(12,Slc.v s)]) (fun (s:Slc) h=>dU p0 p1 p3 b_ s k (fun s h'=>I1 s h'/\μ1 s h' < μ1 (a_,b_) h_1) h) ?_ ?_
 rintro d_ h_2 H
 refine zF [12,0,1,3,13] (zR ?_)
 refine w2 Z ?_
 refine wQ Z H fun x11 H=>?_
 refine zW ?_
 exact xJ (d_,x11) H
 refine zB (zQ (w5 Z ?_))
 refine wQ Z H fun x12 H=>?_
 refine zE (zF [12,13,0,1,3,14] (zS (zQ ?_)))
 refine w2 Z ?_
 refine wN H fun a13 ha13 H=>?_
 refine w1 Z ?_
 refine wL Z H fun v14 H=>?_
 refine w1 Z (zE ?_)
 refine zI H ?_ ?_ <;> intro H
 refine zY (yE (yH ?_))
 exact xJ a_ H
 refine zK (zX (zQ (w2 Z ?_)))
 refine wY (au rfl rfl ha13) ?_
 refine w1 Z ?_
 refine wL Z H fun v15 H=>?_
 refine w3 Z ?_
 refine wQ Z H fun x16 H=>?_
 refine zE (zF [12,13,0,1,3,15] (zS (zS ?_)))
 refine pY (by kernel_rfl) (by kernel_rfl) ?_
 refine qp Z ?_
 refine qp Z ?_
 refine qp Z ?_
 refine qp Z ?_
 refine qp Z ?_
 refine Mx 12 (α:=Bool) (fun (s:Bool)=>[(84,.bool s),(0,.pointer p0),(1,.int .u64 p1),(3,Slc.v p3),(12,Slc.v a_),(13,.int .i64 b_),(15,.int .i64 x16)]) (fun (s:Bool)=>iX p0 p1 p3 a_ b_ x16 s k (fun s h'=>I1 s h'/\μ1 s h' < μ1 (a_,b_) h_1) h_1) ?_ ?_
 rintro f_ H
 refine KD [(84,.bool f_),(0,.pointer p0),(1,.int .u64 p1),(3,Slc.v p3),(12,Slc.v a_),(13,.int .i64 b_),(15,.int .i64 x16)] ⟨rfl,rfl,rfl,rfl,rfl,rfl,rfl,trivial⟩ ?_
 refine sM ?_
 refine zX ?_
 refine zI H ?_ ?_ <;> intro H
 refine zY (yE (yH ?_))
 exact xJ a_ H
 refine zK (zX ?_)
 refine zJ (α:=Slc) [0,1,3,13] (fun (s:Slc)=>[(12,Slc.v s)]) (fun (s:Slc) h=>fQ p0 p1 p3 b_ s k (fun s h'=>I1 s h'/\μ1 s h' < μ1 (a_,b_) h_1) h) ?_ ?_
 rintro g_ h_4 H
 refine zF [12,0,1,3,13] (zR ?_)
 refine w3 Z ?_
 refine wD Z H fun a17 _ H=>?_
 refine wLa Z H fun v18 H=>?_
 obtain ⟨b19,h20,eb19,eh20,H⟩:=H
 refine wH (nV Z rfl rfl rfl rfl rfl rfl rfl eb19 eh20) ?_
 refine wA (lW (s:=g_) (r:=(⟨some ⟨b19,0,none⟩,1,1⟩:Slc)) Z rfl rfl rfl rfl rfl (fM eb19 eh20) H) ?_
 rintro _ h22 ⟨s21,rfl,H⟩
 refine w1 Z (zL ?_)
 exact xJ s21 H
 refine zQ (w4 Z (zE ?_))
 refine zI H ?_ ?_ <;> intro H
 refine zR ?_
 obtain ⟨b23,h24,eb23,eh24,H⟩:=H
 refine wH (nV Z rfl rfl rfl rfl rfl rfl rfl eb23 eh24) ?_
 refine w2 Z ?_
 obtain ⟨s25,ps25,qs25,rs25,ts25,es25,H⟩:=H
 refine wYe (xm (s:=a_) (L:=0) (H:=x16) (M:=(a_.cap:Int)) Z rfl rfl rfl rfl rfl rfl rfl (by simp) ps25 qs25 rs25 ts25) (congrArg Slc.v es25) ?_
 obtain ⟨l28,hl28,H⟩:=H
 refine wA (lW (s:=(⟨some ⟨b23,0,none⟩,0,0⟩:Slc)) (r:=s25) Z rfl rfl rfl rfl rfl hl28 H) ?_
 rintro _ h27 ⟨s26,rfl,H⟩
 refine w1 Z (zW ?_)
 exact xJ s26 H
 refine zK ?_
 exact xJ a_ H
 refine Nj (d:=72) H rfl (fun H=>?_) (fun H=>?_)
 refine qp Z ?_
 refine qp Z ?_
 obtain ⟨a29,ha29,la29,ua29,H⟩:=H
 refine q_y (su Z rfl rfl ha29 rfl rfl rfl la29 ua29) rfl rfl ?_
 refine qp Z ?_
 obtain ⟨v30,hv30,H⟩:=H
 refine q_y (bH Z rfl rfl rfl rfl hv30) rfl rfl ?_
 refine qp Z ?_
 refine qp Z ?_
 obtain ⟨a31,ha31,la31,ua31,H⟩:=H
 refine q_y (su Z rfl rfl ha31 rfl rfl rfl la31 ua31) rfl rfl ?_
 refine qp Z ?_
 obtain ⟨v32,hv32,H⟩:=H
 refine q_y (bH Z rfl rfl rfl rfl hv32) rfl rfl ?_
 refine qp Z ?_
 refine qp Z ?_
 exact MS (v30 == v32) H ⟨rfl,rfl,rfl,rfl,rfl,rfl,rfl,trivial⟩
 refine qs ?_
 refine qs ?_
 refine qs ?_
 refine qs ?_
 refine qs ?_
 refine qs ?_
 refine qs ?_
 refine qs ?_
 refine qs ?_
 refine qs ?_
 refine qs ?_
 refine qp Z ?_
 exact MS false H ⟨rfl,rfl,rfl,rfl,rfl,rfl,rfl,trivial⟩
 refine zY (yE (yE (yH (zX (zS (zQ (w3 Z (zE (zF [12,0,1,3,103] ?_)))))))))
 refine zI H ?_ ?_ <;> intro H
 refine zQ (w2 Z (zE (zT (yT ?_))))
 exact aA _ rfl _ rfl ⟨(0,8),rfl,H⟩
 refine zK (zX (zQ (w2 Z ?_)))
 refine wN H fun a33 _ H=>?_
 refine w1 Z ?_
 refine wT Z H fun h34 H=>?_
 refine zE (zF [1,3] (zQ ?_))
 refine w5 Z ?_
 refine wQ Z H fun x35 H=>?_
 refine w1 Z (zE (zF [8,9] (zT ?_)))
 exact aA _ rfl _ rfl ⟨(x35,0),rfl,H⟩
 refine vG (d:=28) (fun hb=>?_) (fun hb=>?_)
 refine w3 Z ?_
 refine vU 4 [0,1,3,28] [(35,.bool ((r1.2 != 0) || (r1.1 != p2)))] ?_ ?_
 refine w1 Z ?_
 refine vK ?_
 exact congrArg (fun b=>some (Value.bool b)) (rq hb)
 refine vG (d:=31) (fun hb=>?_) (fun hb=>?_)
 refine wS (wS (wS (w1 Z ?_)))
 refine vK ?_
 exact congrArg (fun b=>some (Value.bool b)) (Ag hb)
 refine w4 Z ?_
 refine vK ?_
 exact congrArg (fun b=>some (Value.bool b)) (Ah hb)
 refine wS (wS (wS (wS (wS (wS (wS (w1 Z ?_)))))))
 refine vK ?_
 exact congrArg (fun b=>some (Value.bool b)) (rF hb)
theorem O78:aB prog 78:=ck func78
theorem R78 (p0 p1 k h) (H:qg p0 p1 k h):CallsH prog 78 #[.pointer p0,.int .u64 p1] h (rI .i64 k):=by
 refine fE func78 fun w0=>?_
 refine zF [0,1] (zQ ?_)
 refine w1 Z (zE (zQ ?_))
 refine w2 Z ?_
 refine wC O77 (R77 _ _ _ _ H) fun r1 h2 H=>?_
 refine w5 Z (zE (zF [0,1,5,6] (zS (zQ ?_))))
 refine w2 Z (zE ?_)
 refine zI H ?_ ?_ <;> intro H
 refine zQ (w2 Z (zE (zF [4] (zT (yT ?_)))))
 exact aA _ rfl _ rfl ⟨r1.2,rfl,H⟩
 refine zK (zX (zS ?_))
 refine gB [0,1,5] ?_
 refine gT 0 [0] Z ?_
 refine gT 2 [0] Z ?_
 obtain ⟨a3,ha3,H⟩:=H
 refine gY 3 [18] rfl (fun _=>au rfl rfl ha3) ?_
 refine gT 4 [19] Z ?_
 refine gl 5 [20] Z H fun v4 H=>?_
 refine gT 6 [1] Z ?_
 refine gT 7 [0] Z ?_
 refine gY 8 [23] rfl (fun _=>au rfl rfl ha3) ?_
 refine gT 9 [24] Z ?_
 refine gl 10 [25] Z H fun v5 H=>?_
 refine gT 11 [22,26] Z ?_
 obtain ⟨s6,ps6,qs6,rs6,ts6,es6,H⟩:=H
 refine gYe 12 [21,27] rfl (fun _=>xm (s:=v4) (L:=(IntKind.u64.wrap (p1 - v5))) (H:=(v4.len:Int)) (M:=(v4.cap:Int)) Z rfl rfl rfl rfl rfl rfl rfl (by simp) ps6 qs6 rs6 ts6) (congrArg Slc.v es6) ?_
 obtain ⟨b7,h8,eb7,eh8,H⟩:=H
 refine gHr 1 [] rfl (nV Z rfl rfl rfl rfl rfl rfl rfl eb7 eh8) ?_
 obtain ⟨hy9,hy10,H⟩:=H
 refine gR rfl (bH Z rfl rfl rfl rfl hy9) ?_
 refine gR rfl (bH Z rfl rfl rfl rfl hy10) ?_
 refine gZ0 ?_
 obtain ⟨l13,hl13,H⟩:=H
 refine gA 13 [17,28] rfl (lW (s:=(⟨some ⟨b7,0,none⟩,0,0⟩:Slc)) (r:=s6) Z rfl rfl rfl rfl rfl hl13 H) ?_
 rintro _ h12 ⟨s11,rfl,H⟩
 refine gY 14 [16] rfl (fun _=>au rfl rfl ha3) ?_
 refine gT 15 [30] Z ?_
 refine gs 16 [29,31] Z H fun h14 H=>?_
 refine gZ ?_
 refine zX (zF [0,1,5] (zQ ?_))
 refine w2 Z ?_
 refine wY (au rfl rfl ha3) ?_
 refine w1 Z ?_
 refine wT Z H fun h15 H=>?_
 refine zE (zQ (w2 Z ?_))
 refine wY (au rfl rfl ha3) ?_
 refine w1 Z ?_
 refine wT Z H fun h16 H=>?_
 refine zE (zF [] (zQ ?_))
 refine w1 Z (zE (zT ?_))
 exact aA _ rfl _ rfl ⟨0,rfl,H⟩
theorem O57:aB prog 57:=ck func57
theorem R57 (p0 p1 k h) (H:l7 p0 p1 k h):CallsH prog 57 #[.pointer p0,.agg (aj.cs p1).toArray] h (rB k):=by
 refine fE func57 fun w0=>?_
 refine zF [0,1] (zQ ?_)
 refine wX H fun b1 h2 H=>?_
 refine w1 Z (zE (zS (zQ ?_)))
 refine w1 Z ?_
 refine wL Z H fun v3 H=>?_
 refine zE (zB (zQ (w2 Z (zE ?_))))
 refine zI H ?_ ?_ <;> intro H
 refine zQ (w2 Z ?_)
 refine wL Z H fun v4 H=>?_
 refine wN H fun a5 ha5 H=>?_
 refine w1 Z ?_
 refine wT Z H fun h6 H=>?_
 refine zE (zF [0,3] (zQ ?_))
 refine w2 Z ?_
 refine wL Z H fun v7 H=>?_
 refine wY (au rfl rfl ha5) ?_
 refine w1 Z ?_
 refine wT Z H fun h8 H=>?_
 refine zE (zF [] (zQ ?_))
 refine w1 Z (zE (zT (yB (yT ?_))))
 exact aA _ rfl _ rfl ⟨true,rfl,H⟩
 refine zQ (w2 Z (zE ?_))
 refine zI H ?_ ?_ <;> intro H
 refine zS ?_
 refine gB [0,3] ?_
 refine gT 0 [0] Z ?_
 obtain ⟨a9,ha9,H⟩:=H
 refine gY 1 [26] rfl (fun _=>au rfl rfl ha9) ?_
 refine gT 2 [27] Z ?_
 refine gl 3 [28] Z H fun v10 H=>?_
 refine gT 4 [3] Z ?_
 refine gl 5 [30] Z H fun v11 H=>?_
 refine gT 6 [3] Z ?_
 refine gl 7 [32] Z H fun v12 H=>?_
 refine gT 8 [3] Z ?_
 refine gl 9 [34] Z H fun v13 H=>?_
 refine gC 10 [29,31,33,35] O76 (R76 _ _ _ _ _ _ H) fun r14 h15 H=>?_
 refine gT 11 [36] Z ?_
 refine gT 12 [25] Z ?_
 refine gT 13 [25] Z ?_
 refine gT 14 [37] Z ?_
 refine gT 15 [38] Z ?_
 refine gZ ?_
 refine zX (zF [6] (zQ ?_))
 refine w3 Z (zE (zT (yB (yT ?_))))
 exact aA _ rfl _ rfl ⟨(r14.2 == 0),rfl,H⟩
 refine zQ (w2 Z (zE (zF [0,3,41] ?_)))
 refine zI H ?_ ?_ <;> intro H
 refine zS ?_
 refine gB [0,3] ?_
 refine gT 0 [0] Z ?_
 obtain ⟨a16,ha16,H⟩:=H
 refine gY 1 [44] rfl (fun _=>au rfl rfl ha16) ?_
 refine gT 2 [45] Z ?_
 refine gl 3 [46] Z H fun v17 H=>?_
 refine gT 4 [3] Z ?_
 refine gl 5 [48] Z H fun v18 H=>?_
 refine gC 6 [47,49] O77 (R77 _ _ _ _ H) fun r19 h20 H=>?_
 refine gT 7 [50] Z ?_
 refine gT 8 [43] Z ?_
 refine gT 9 [43] Z ?_
 refine gT 10 [51] Z ?_
 refine gT 11 [52] Z ?_
 refine gZ ?_
 refine zX (zF [0,3,7,8] ?_)
 refine zJ (α:=Unit) [0,3] (fun (s:Unit)=>[]) (fun (s:Unit) h=>iD p0 (ad b1) k h) ?_ ?_
 rintro _ h_1 H
 refine zF [0,3] (zQ ?_)
 refine w2 Z ?_
 refine wL Z H fun v21 H=>?_
 refine wN H fun a22 _ H=>?_
 refine w1 Z ?_
 refine wT Z H fun h23 H=>?_
 refine zE (zF [] (zQ ?_))
 refine w1 Z (zE (zT (yB (yT ?_))))
 exact aA _ rfl _ rfl ⟨true,rfl,H⟩
 refine zQ (w3 Z ?_)
 refine vJ 5 (α:=Bool) [0,3] (fun (s:Bool)=>[(60,.bool s)]) (fun (s:Bool) h=>dM p0 (ad b1) s k h) ?_ ?_
 rintro a_ h_2 H
 refine vF [60,0,3] (zE ?_)
 refine zI H ?_ ?_ <;> intro H
 refine gB [0,3] ?_
 refine gT 0 [0] Z ?_
 obtain ⟨a24,ha24,H⟩:=H
 refine gY 1 [61] rfl (fun _=>au rfl rfl ha24) ?_
 refine gT 2 [62] Z ?_
 refine gl 3 [63] Z H fun v25 H=>?_
 refine gT 4 [3] Z ?_
 refine gl 5 [65] Z H fun v26 H=>?_
 refine gC 6 [64,66] O78 (R78 _ _ _ _ H) fun r27 h28 H=>?_
 refine gZ ?_
 exact xJ () H
 refine zR (w2 Z ?_)
 refine wL Z H fun v29 H=>?_
 refine w1 Z ?_
 refine wL Z H fun v30 H=>?_
 refine wY (cu Z rfl rfl rfl rfl rfl) ?_
 refine wX H fun b31 h32 H=>?_
 refine wN H fun a33 _ H=>?_
 refine w1 Z ?_
 refine wT Z H fun h34 H=>?_
 refine zW ?_
 exact xJ () H
 refine vI 55 H ?_ ?_ <;> intro H
 refine w2 Z ?_
 refine wL Z H fun v35 H=>?_
 refine w2 Z ?_
 exact wJ (r19.1 == v35) H
 refine wS (wS (wS (wS (w1 Z ?_))))
 exact wJ false H
 refine zK (yL (zX (zQ (w1 Z (zE (zT ?_))))))
 exact aA _ rfl _ rfl ⟨false,rfl,H⟩
end Go.Q.Yi
end

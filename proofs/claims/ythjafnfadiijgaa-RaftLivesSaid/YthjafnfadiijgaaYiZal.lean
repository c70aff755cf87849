/- A part of the proof of statements of this seat: lemmas, no statement of their own. -/
import Derived.Test.YthjafnfadiijgaaYiZad
import Derived.Test.YthjafnfadiijgaaYiZae
import Derived.Test.YthjafnfadiijgaaYiZaf
import Derived.Test.YthjafnfadiijgaaYiZak
set_option linter.unusedVariables false
set_option linter.unusedSimpArgs false
set_option maxRecDepth 100000
set_option maxHeartbeats 1000000
section
namespace Go.Q.Yi
open Go.Proofs.Try
/-- math bits.Mul32 -/
def uh (p0:Int) (p1:Int) (k:KP (Int × Int)) (h:Heap):Prop :=
  ∃ x1,x1=(IntKind.u64.wrap ((IntKind.u64.wrap p0) * (IntKind.u64.wrap p1)))/\(∃ x2,x2=(IntKind.u32.wrap (shr .u64 x1 (32:Int).toNat))/\(∃ x3,x3=(IntKind.u32.wrap x1)/\(k (x2,x3) h)))
/-- math bits.Mul64 -/
def qF (p0:Int) (p1:Int) (k:KP (Int × Int)) (h:Heap):Prop :=
  ∃ x1,x1=(kE .u64 p0 4294967295)/\(∃ x2,x2=(shr .u64 p0 (32:Int).toNat)/\(∃ x3,x3=(kE .u64 p1 4294967295)/\(∃ x4,x4=(shr .u64 p1 (32:Int).toNat)/\(∃ x5,x5=(IntKind.u64.wrap (x1 * x3))/\(∃ x6,x6=(IntKind.u64.wrap ((IntKind.u64.wrap (x2 * x3)) + (shr .u64 x5 (32:Int).toNat)))/\(∃ x7,x7=(kE .u64 x6 4294967295)/\(∃ x8,x8=(shr .u64 x6 (32:Int).toNat)/\(∃ x9,x9=(IntKind.u64.wrap (x7 + (IntKind.u64.wrap (x1 * x4))))/\(∃ x10,x10=(IntKind.u64.wrap ((IntKind.u64.wrap ((IntKind.u64.wrap (x2 * x4)) + x8)) + (shr .u64 x9 (32:Int).toNat)))/\(∃ x11,x11=(IntKind.u64.wrap (p0 * p1))/\(k (x10,x11) h)))))))))))
/-- math bits.Mul -/
def qd (p0:Int) (p1:Int) (k:KP (Int × Int)) (h:Heap):Prop :=
  if false then (uh (IntKind.u32.wrap p0) (IntKind.u32.wrap p1) (fun r1 h2=>∃ x3,x3=(IntKind.u64.wrap r1.1)/\(∃ x4,x4=(IntKind.u64.wrap r1.2)/\(k (x3,x4) h2))) h) else (qF p0 p1 (fun r5 h6=>k (r5.1,r5.2) h6) h)
/-- slices.Repeat   uint64 uint64  -/
def kQ (a_:Slc) (b_:Int) (k:KP Slc) (nx3:KP Int) (h_3:Heap):Prop :=
  if (decide (b_ < (a_.len:Int))) then (∃ s8,(0:Int)<=b_/\(b_:Int)<=(a_.len:Int)/\((a_.len:Int):Int)<=(a_.cap:Int)/\(a_.cap:Int)<=(a_.cap:Int)/\s8=dS a_ 1 b_.toNat (a_.len:Int).toNat (a_.cap:Int).toNat/\(∃ s9,(0:Int)<=0/\(0:Int)<=b_/\(b_:Int)<=(a_.cap:Int)/\(a_.cap:Int)<=(a_.cap:Int)/\s9=dS a_ 1 (0:Int).toNat b_.toNat (a_.cap:Int).toNat/\(∃ l10,Cpy 1 h_3 s8 s9 l10 (fun h11=>nx3 (IntKind.i64.wrap (b_ + ((min s9.len s8.len:Nat):Int))) h11)))) else (k a_ h_3)
def lh (b_:Slc) (i8:Int) (k:KP Slc) (h:Heap):Prop :=
  ∃ (I:KP Int) (μ:Int->Heap->Nat),I i8 h/\∀ (a_:Int) (h:Heap),I a_ h->kQ b_ a_ k (fun s h'=>I s h'/\μ s h' < μ a_ h) h
def gU (b_:Slc) (a_:Int) (k:KP Slc) (h_2:Heap):Prop :=
  ∃ b3 h4,(0:Int)<=(IntKind.i64.wrap a_)/\((IntKind.i64.wrap a_):Int)<=(IntKind.i64.wrap a_)/\((IntKind.i64.wrap a_):Int) * 8<=281474976710656/\((IntKind.i64.wrap a_):Int)<=9223372036854775807/\b3=h_2.size/\h4=h_2.push (.cells (lY [.int .u64 0] (IntKind.i64.wrap a_).toNat).toArray 22)/\(∃ l5,Cpy 1 h4 (⟨some ⟨b3,0,none⟩,(IntKind.i64.wrap a_).toNat,(IntKind.i64.wrap a_).toNat⟩:Slc) b_ l5 (fun h6=>∃ x7,x7=((min b_.len (⟨some ⟨b3,0,none⟩,(IntKind.i64.wrap a_).toNat,(IntKind.i64.wrap a_).toNat⟩:Slc).len:Nat):Int)/\(lh (⟨some ⟨b3,0,none⟩,(IntKind.i64.wrap a_).toNat,(IntKind.i64.wrap a_).toNat⟩:Slc) x7 k h6)))
def ik (a_:Slc) (b_:Int) (k:KP Slc) (h_1:Heap):Prop :=
  qd (IntKind.u64.wrap (a_.len:Int)) (IntKind.u64.wrap b_) (fun r1 h2=>if ((decide (r1.1 > 0)) || (decide (r1.2 > 9223372036854775807))) then (False) else (gU a_ r1.2 k h2)) h_1
def bQ (p0:Slc) (p1:Int) (k:KP Slc) (h:Heap):Prop :=
  if (decide (p1 < 0)) then (False) else (ik p0 p1 k h)
/-- quaestor raft.New -/
def oL (p0:Int) (p1:Int) (p2:Int) (p3:Int) (p4:Option Addr) (p5:Slc) (k:KP (Option Addr)) (h:Heap):Prop :=
  if ((((decide (p1 < 1)) || (decide (p1 > 32))) || (decide (p0 < 0))) || (decide (p0>=p1))) then (k none h) else (iA p4 (fun r1 h2=>bD p5 (fun r3 h4=>∃ b5 h6,b5=h4.size/\h6=h4.push (.cells (ja.cs (⟨p0,p1,p2,p3,none,r3,r1.1,0,(-1),0,none,(⟨none,0,0⟩:Slc),(⟨none,0,0⟩:Slc),(⟨none,0,0⟩:Slc)⟩:ja)).toArray 94)/\(fu p4 (fun r7 h8=>rD r1.1 r1.2 r7 (fun r9 h10=>∃ h11,WrH h10 ((ad b5).add 4)/\h11=setH h10 ((ad b5).add 4) (.pointer r9)/\(k (some (ad b5)) h11)) h8) h6)) h2) h)
/-- (*quaestor raft.Raft).patience -/
def oD (p0:Option Addr) (k:KP Int) (h:Heap):Prop :=
  ∃ a1,p0=some a1/\(∃ v2,af h a1=some (.int .i64 v2)/\(∃ x3,x3=(IntKind.i64.wrap (10 + (IntKind.i64.wrap (7 * v2))))/\(k x3 h)))
/-- (*quaestor raft.Raft).keepTerm -/
def gM (p0:Option Addr) (k:KP Unit) (h:Heap):Prop :=
  ∃ a1,p0=some a1/\(∃ v2,af h (a1.add 13)=some (Slc.v v2)/\(∃ v3,af h (a1.add 2)=some (.int .u64 v3)/\(∃ v4,af h (a1.add 3)=some (.int .i64 v4)/\(∃ b5 h6,b5=h.size/\h6=h.push (.cells ((aj.cs (⟨1,v3,v4,0,(⟨none,0,0⟩:Slc),(⟨none,0,0⟩:Slc)⟩:aj))).toArray 107)/\(af h6 (a1.add 13)=some (Slc.v v2)/\(App 107 6 80 [.int .i64 0,.int .u64 0,.int .i64 0,.int .u64 0,.slice none 0 0,.slice none 0 0] h6 v2 1 ((aj.cs (⟨1,v3,v4,0,(⟨none,0,0⟩:Slc),(⟨none,0,0⟩:Slc)⟩:aj))) (fun s8 h9=>∃ h10,WrH h9 (a1.add 13)/\h10=setH h9 (a1.add 13) (Slc.v s8)/\(k () h10))))))))
/-- (*quaestor raft.Raft).follow -/
def iQ (a_:Option Addr) (b_:Int) (k:KP Unit) (h_1:Heap):Prop :=
  ∃ a1,a_=some a1/\(∃ h2,WrH h_1 (a1.add 7)/\h2=setH h_1 (a1.add 7) (.int .i64 0)/\(∃ h3,WrH h2 (a1.add 8)/\h3=setH h2 (a1.add 8) (.int .i64 b_)/\(∃ h4,WrH h3 (a1.add 10)/\h4=setH h3 (a1.add 10) (.pointer none)/\(k () h4))))
def je (p0:Option Addr) (p1:Int) (p2:Int) (k:KP Unit) (h:Heap):Prop :=
  ∃ a5,p0=some a5/\(∃ v6,af h (a5.add 2)=some (.int .u64 v6)/\(if (decide (p1 > v6)) then (∃ h7,WrH h (a5.add 2)/\h7=setH h (a5.add 2) (.int .u64 p1)/\(∃ h8,WrH h7 (a5.add 3)/\h8=setH h7 (a5.add 3) (.int .i64 0)/\(gM p0 (fun r9 h10=>iQ p0 p2 k h10) h8))) else (iQ p0 p2 k h)))
/-- (*quaestor raft.Raft).due -/
def kM (p0:Option Addr) (p1:Int) (k:KP ah) (h:Heap):Prop :=
  ∃ b1 h2,b1=h.size/\h2=h.push (.cells (ah.cs (⟨0,0,0,0,0,false,(⟨none,0,0⟩:Slc),(⟨none,0,0⟩:Slc)⟩:ah)).toArray 26)/\(∃ a3,p0=some a3/\(∃ v4,af h2 (a3.add 11)=some (Slc.v v4)/\(∃ a5,v4.a=some a5/\(0:Int)<=p1/\p1 < (v4.len:Int)/\(∃ v6,af h2 (a5.add (p1.toNat * 1))=some (.int .u64 v6)/\(∃ v7:Option Addr,af h2 (a3.add 4)=some (.pointer v7)/\(iA v7 (fun r8 h9=>if (decide (v6<=r8.1)) then (∃ v10,af h9 (a3.add 2)=some (.int .u64 v10)/\(∃ v11,af h9 (a3.add 6)=some (.int .u64 v11)/\(∃ v12,af h9 (a3.add 5)=some (Slc.v v12)/\(bD v12 (fun r13 h14=>af h14 (a3.add 6)=some (.int .u64 v11)/\af h14 (a3.add 2)=some (.int .u64 v10)/\(∃ h17,dE h14 (ad b1) 8/\h17=aU h14 (ad b1) 0 (ah.cs (⟨5,v10,r8.1,r8.2,v11,false,(⟨none,0,0⟩:Slc),r13⟩:ah))/\(∃ v18,aJ h17 (ad b1) (ah.cs v18)/\k v18 h17))) h9)))) else (∃ v19:Option Addr,af h9 (a3.add 4)=some (.pointer v19)/\(nU v19 v6 4 (fun r20 h21=>∃ v22:Option Addr,af h21 (a3.add 4)=some (.pointer v22)/\(dY v22 (IntKind.u64.wrap (v6 - 1)) (fun r23 h24=>∃ v25,af h24 (a3.add 2)=some (.int .u64 v25)/\(∃ v26,af h24 (a3.add 6)=some (.int .u64 v26)/\(∃ h27,dE h24 (ad b1) 8/\h27=aU h24 (ad b1) 0 (ah.cs (⟨3,v25,(IntKind.u64.wrap (v6 - 1)),r23.1,v26,false,r20.1,(⟨none,0,0⟩:Slc)⟩:ah))/\(∃ v28,aJ h27 (ad b1) (ah.cs v28)/\k v28 h27)))) h21)) h9))) h2))))))
/-- (*quaestor raft.Raft).settle -/
def fT (a_:Option Addr) (b_:Int) (d_:Bool) (k:KP Unit) (h_1:Heap):Prop :=
  if d_ then (∃ a9,a_=some a9/\(∃ h10,WrH h_1 (a9.add 6)/\h10=setH h_1 (a9.add 6) (.int .u64 b_)/\(k () h10))) else (k () h_1)
def lC (p0:Option Addr) (k:KP Unit) (h:Heap):Prop :=
  ∃ a1,p0=some a1/\(∃ v2,af h (a1.add 12)=some (Slc.v v2)/\(rM v2 (fun r3 h4=>∃ v5:Option Addr,af h4 (a1.add 4)=some (.pointer v5)/\(dY v5 r3 (fun r6 h7=>∃ v8,af h7 (a1.add 6)=some (.int .u64 v8)/\(if ((decide (r3 > v8)) && (r6.2 == 0)) then (∃ v11,af h7 (a1.add 2)=some (.int .u64 v11)/\(fT p0 r3 (r6.1 == v11) k h7)) else (fT p0 r3 false k h7))) h4)) h))
/-- (*quaestor raft.Raft).put -/
def nQ (p0:Option Addr) (p1:Slc) (k:KP (Int × Int)) (h:Heap):Prop :=
  ∃ a1,p0=some a1/\(∃ v2:Option Addr,af h (a1.add 4)=some (.pointer v2)/\(fF v2 (fun r3 h4=>∃ v5,af h4 (a1.add 2)=some (.int .u64 v5)/\(bD p1 (fun r6 h7=>af h7 (a1.add 2)=some (.int .u64 v5)/\(∃ b9 h10,b9=h7.size/\h10=h7.push (.cells ((ae.cs (⟨v5,r6⟩:ae))).toArray 65)/\(∃ v11:Option Addr,af h10 (a1.add 4)=some (.pointer v11)/\(lT v11 r3.1 r3.2 (⟨some ⟨b9,0,none⟩,1,1⟩:Slc) (fun r12 h13=>if (r12.2 != 0) then (k (0,r12.2) h13) else (∃ v14,af h13 (a1.add 13)=some (Slc.v v14)/\(∃ b15 h16,b15=h13.size/\h16=h13.push (.cells ((aj.cs (⟨2,r3.2,0,r3.1,(⟨some ⟨b9,0,none⟩,1,1⟩:Slc),(⟨none,0,0⟩:Slc)⟩:aj))).toArray 107)/\(App 107 6 80 [.int .i64 0,.int .u64 0,.int .i64 0,.int .u64 0,.slice none 0 0,.slice none 0 0] h16 v14 1 ((aj.cs (⟨2,r3.2,0,r3.1,(⟨some ⟨b9,0,none⟩,1,1⟩:Slc),(⟨none,0,0⟩:Slc)⟩:aj))) (fun s17 h18=>∃ h19,WrH h18 (a1.add 13)/\h19=setH h18 (a1.add 13) (Slc.v s17)/\(∃ v20,af h19 (a1.add 12)=some (Slc.v v20)/\(∃ v21,af h19 a1=some (.int .i64 v21)/\(∃ a22,v20.a=some a22/\(0:Int)<=v21/\v21 < (v20.len:Int)/\(∃ h23,WrH h19 (a22.add (v21.toNat * 1))/\h23=setH h19 (a22.add (v21.toNat * 1)) (.int .u64 r12.1)/\(lC p0 (fun r24 h25=>k (r12.1,0) h25) h23)))))))))) h10)))) h4)) h))
/-- (*quaestor raft.Raft).others -/
def bI (d_:Option Addr) (t1c0_2:Option Addr) (f_:Int) (a_:Int) (b_:Slc) (k:KP Slc) (nx1:KP (Slc × Int)) (h_2:Heap):Prop :=
  nx1 (b_,(IntKind.i64.wrap (a_ + 1))) h_2
def jb (b_:Option Addr) (t1c0_1:Option Addr) (d_:Int) (f_:Slc) (a_:Int) (k:KP Slc) (nx1:KP (Slc × Int)) (h_1:Heap):Prop :=
  if (decide (a_ < d_)) then (∃ a3,b_=some a3/\(∃ v4,af h_1 a3=some (.int .i64 v4)/\(if (a_ != v4) then (kM t1c0_1 a_ (fun r5 h6=>∃ b7 h8,b7=h6.size/\h8=h6.push (.cells ((aG.cs (⟨a_,r5⟩:aG))).toArray 45)/\(App 45 9 104 [.int .i64 0,.int .i64 0,.int .u64 0,.int .u64 0,.int .u64 0,.int .u64 0,.bool false,.slice none 0 0,.slice none 0 0] h8 f_ 1 ((aG.cs (⟨a_,r5⟩:aG))) (fun s9 h10=>bI b_ t1c0_1 d_ a_ s9 k nx1 h10))) h_1) else (bI b_ t1c0_1 d_ a_ f_ k nx1 h_1)))) else (k f_ h_1)
def jo (d_:Option Addr) (t1c0_1:Option Addr) (f_:Int) (i5:Slc) (i11:Int) (k:KP Slc) (h:Heap):Prop :=
  ∃ (I:KP (Slc × Int)) (μ:(Slc × Int)->Heap->Nat),I (i5,i11) h/\∀ (a_:Slc) (b_:Int) (h:Heap),I (a_,b_) h->jb d_ t1c0_1 f_ a_ b_ k (fun s h'=>I s h'/\μ s h' < μ (a_,b_) h) h
def bV (p0:Option Addr) (p1c0:Option Addr) (k:KP Slc) (h:Heap):Prop :=
  ∃ a1,p0=some a1/\(∃ v2,af h (a1.add 1)=some (.int .i64 v2)/\(jo p0 p1c0 v2 (⟨none,0,0⟩:Slc) 0 k h))
/-- (*quaestor raft.Raft).win -/
def fB (a_:Option Addr) (b_:Int) (k:KP Slc) (h_2:Heap):Prop :=
  ∃ a12,a_=some a12/\(∃ v13,af h_2 (a12.add 12)=some (Slc.v v13)/\(∃ v14,af h_2 a12=some (.int .i64 v14)/\(∃ a15,v13.a=some a15/\(0:Int)<=v14/\v14 < (v13.len:Int)/\(∃ h16,WrH h_2 (a15.add (v14.toNat * 1))/\h16=setH h_2 (a15.add (v14.toNat * 1)) (.int .u64 b_)/\(nQ a_ (⟨none,0,0⟩:Slc) (fun r17 h18=>bV a_ a_ (fun r19 h20=>k r19 h20) h18) h16)))))
def gP (a_:Option Addr) (b_:Bool) (k:KP Slc) (h_1:Heap):Prop :=
  if b_ then (k (⟨none,0,0⟩:Slc) h_1) else (∃ a3,a_=some a3/\(∃ v4:Option Addr,af h_1 (a3.add 4)=some (.pointer v4)/\(fF v4 (fun r5 h6=>∃ v7,af h6 a3=some (.int .i64 v7)/\(∃ h8,WrH h6 (a3.add 7)/\h8=setH h6 (a3.add 7) (.int .i64 2)/\(∃ h9,WrH h8 (a3.add 8)/\h9=setH h8 (a3.add 8) (.int .i64 v7)/\(∃ h10,WrH h9 (a3.add 9)/\h10=setH h9 (a3.add 9) (.int .i64 0)/\(∃ h11,WrH h10 (a3.add 10)/\h11=setH h10 (a3.add 10) (.pointer none)/\(∃ v21,af h11 (a3.add 1)=some (.int .i64 v21)/\(∃ v22,af h11 (a3.add 1)=some (.int .i64 v22)/\((∃ b23 h24,b23=h11.size/\h24=h11.push (.cells ([.int .u64 (IntKind.u64.wrap (r5.1 + 1))]).toArray 22)/\(af h24 (a3.add 1)=some (.int .i64 v22)/\af h24 (a3.add 1)=some (.int .i64 v21)/\((bQ (⟨some ⟨b23,0,none⟩,1,1⟩:Slc) v21 (fun r27 h28=>af h28 (a3.add 1)=some (.int .i64 v22)/\((∃ b30 h31,(0:Int)<=v22/\(v22:Int)<=v22/\(v22:Int) * 8<=281474976710656/\(v22:Int)<=9223372036854775807/\b30=h28.size/\h31=h28.push (.cells (lY [.int .u64 0] v22.toNat).toArray 22)/\(∃ h32,WrH h31 (a3.add 11)/\h32=setH h31 (a3.add 11) (Slc.v r27)/\(∃ h33,WrH h32 (a3.add 12)/\h33=setH h32 (a3.add 12) (Slc.v (⟨some ⟨b30,0,none⟩,v22.toNat,v22.toNat⟩:Slc))/\(fB a_ r5.1 k h33))))/\(∃ h34,WrH h28 (a3.add 11)/\h34=setH h28 (a3.add 11) (Slc.v r27)/\(∃ b35 h36,(0:Int)<=v22/\(v22:Int)<=v22/\(v22:Int) * 8<=281474976710656/\(v22:Int)<=9223372036854775807/\b35=h34.size/\h36=h34.push (.cells (lY [.int .u64 0] v22.toNat).toArray 22)/\(∃ h37,WrH h36 (a3.add 12)/\h37=setH h36 (a3.add 12) (Slc.v (⟨some ⟨b35,0,none⟩,v22.toNat,v22.toNat⟩:Slc))/\(fB a_ r5.1 k h37)))))) h24)/\(∃ b38 h39,(0:Int)<=v22/\(v22:Int)<=v22/\(v22:Int) * 8<=281474976710656/\(v22:Int)<=9223372036854775807/\b38=h24.size/\h39=h24.push (.cells (lY [.int .u64 0] v22.toNat).toArray 22)/\(af h39 (a3.add 1)=some (.int .i64 v21)/\(bQ (⟨some ⟨b23,0,none⟩,1,1⟩:Slc) v21 (fun r41 h42=>∃ h43,WrH h42 (a3.add 11)/\h43=setH h42 (a3.add 11) (Slc.v r41)/\(∃ h44,WrH h43 (a3.add 12)/\h44=setH h43 (a3.add 12) (Slc.v (⟨some ⟨b38,0,none⟩,v22.toNat,v22.toNat⟩:Slc))/\(fB a_ r5.1 k h44))) h39))))))/\(∃ b45 h46,(0:Int)<=v22/\(v22:Int)<=v22/\(v22:Int) * 8<=281474976710656/\(v22:Int)<=9223372036854775807/\b45=h11.size/\h46=h11.push (.cells (lY [.int .u64 0] v22.toNat).toArray 22)/\(af h46 (a3.add 1)=some (.int .i64 v21)/\(∃ b48 h49,b48=h46.size/\h49=h46.push (.cells ([.int .u64 (IntKind.u64.wrap (r5.1 + 1))]).toArray 22)/\(af h49 (a3.add 1)=some (.int .i64 v21)/\(bQ (⟨some ⟨b48,0,none⟩,1,1⟩:Slc) v21 (fun r51 h52=>∃ h53,WrH h52 (a3.add 11)/\h53=setH h52 (a3.add 11) (Slc.v r51)/\(∃ h54,WrH h53 (a3.add 12)/\h54=setH h53 (a3.add 12) (Slc.v (⟨some ⟨b45,0,none⟩,v22.toNat,v22.toNat⟩:Slc))/\(fB a_ r5.1 k h54))) h49))))))))))))) h_1)))
def nP (p0:Option Addr) (k:KP Slc) (h:Heap):Prop :=
  ∃ a1,p0=some a1/\(∃ v2,af h (a1.add 7)=some (.int .i64 v2)/\(if (v2 != 1) then (gP p0 true k h) else (∃ v55:Option Addr,af h (a1.add 10)=some (.pointer v55)/\(nZ v55 (fun r56 h57=>gP p0 (!r56) k h57) h))))
/-- (*quaestor raft.Raft).campaign 1 -/
def kg (p0:Int) (p1:Addr) (p2:Addr) (p3:Addr) (k:KP ah) (h:Heap):Prop :=
  ∃ b1 h2,b1=h.size/\h2=h.push (.cells (ah.cs (⟨0,0,0,0,0,false,(⟨none,0,0⟩:Slc),(⟨none,0,0⟩:Slc)⟩:ah)).toArray 26)/\(∃ v3:Option Addr,af h2 p1=some (.pointer v3)/\(∃ a4,v3=some a4/\(∃ v5,af h2 (a4.add 2)=some (.int .u64 v5)/\(∃ v6,af h2 p2=some (.int .u64 v6)/\(∃ v7,af h2 p3=some (.int .u64 v7)/\(∃ h8,dE h2 (ad b1) 8/\h8=aU h2 (ad b1) 0 (ah.cs (⟨1,v5,v6,v7,0,false,(⟨none,0,0⟩:Slc),(⟨none,0,0⟩:Slc)⟩:ah))/\(∃ v9,aJ h8 (ad b1) (ah.cs v9)/\k v9 h8)))))))
/-- (*quaestor raft.Raft).others -/
def aV (d_:Option Addr) (t1c0_2:Addr) (t1c1_2:Addr) (t1c2_2:Addr) (f_:Int) (a_:Int) (b_:Slc) (k:KP Slc) (nx1:KP (Slc × Int)) (h_2:Heap):Prop :=
  nx1 (b_,(IntKind.i64.wrap (a_ + 1))) h_2
def fK (b_:Option Addr) (t1c0_1:Addr) (t1c1_1:Addr) (t1c2_1:Addr) (d_:Int) (f_:Slc) (a_:Int) (k:KP Slc) (nx1:KP (Slc × Int)) (h_1:Heap):Prop :=
  if (decide (a_ < d_)) then (∃ a3,b_=some a3/\(∃ v4,af h_1 a3=some (.int .i64 v4)/\(if (a_ != v4) then (kg a_ t1c0_1 t1c1_1 t1c2_1 (fun r5 h6=>∃ b7 h8,b7=h6.size/\h8=h6.push (.cells ((aG.cs (⟨a_,r5⟩:aG))).toArray 45)/\(App 45 9 104 [.int .i64 0,.int .i64 0,.int .u64 0,.int .u64 0,.int .u64 0,.int .u64 0,.bool false,.slice none 0 0,.slice none 0 0] h8 f_ 1 ((aG.cs (⟨a_,r5⟩:aG))) (fun s9 h10=>aV b_ t1c0_1 t1c1_1 t1c2_1 d_ a_ s9 k nx1 h10))) h_1) else (aV b_ t1c0_1 t1c1_1 t1c2_1 d_ a_ f_ k nx1 h_1)))) else (k f_ h_1)
def gu (d_:Option Addr) (t1c0_1:Addr) (t1c1_1:Addr) (t1c2_1:Addr) (f_:Int) (i5:Slc) (i11:Int) (k:KP Slc) (h:Heap):Prop :=
  ∃ (I:KP (Slc × Int)) (μ:(Slc × Int)->Heap->Nat),I (i5,i11) h/\∀ (a_:Slc) (b_:Int) (h:Heap),I (a_,b_) h->fK d_ t1c0_1 t1c1_1 t1c2_1 f_ a_ b_ k (fun s h'=>I s h'/\μ s h' < μ (a_,b_) h) h
def bN (p0:Option Addr) (p1c0:Addr) (p1c1:Addr) (p1c2:Addr) (k:KP Slc) (h:Heap):Prop :=
  ∃ a1,p0=some a1/\(∃ v2,af h (a1.add 1)=some (.int .i64 v2)/\(gu p0 p1c0 p1c1 p1c2 v2 (⟨none,0,0⟩:Slc) 0 k h))
/-- (*quaestor raft.Raft).campaign -/
def lI (p0:Option Addr) (k:KP Slc) (h:Heap):Prop :=
  ∃ b1 h2,b1=h.size/\h2=h.push (.cells ([.pointer p0]).toArray 37)/\(∃ v3:Option Addr,af h2 (ad b1)=some (.pointer v3)/\(∃ a4,v3=some a4/\(∃ v5,af h2 (a4.add 2)=some (.int .u64 v5)/\(if (decide (v5>=4611686018427387904)) then (k (⟨none,0,0⟩:Slc) h2) else (∃ v6:Option Addr,af h2 (ad b1)=some (.pointer v6)/\(∃ a7,v6=some a7/\(∃ v8,af h2 (a7.add 2)=some (.int .u64 v8)/\(∃ h9,WrH h2 (a7.add 2)/\h9=setH h2 (a7.add 2) (.int .u64 (IntKind.u64.wrap (v8 + 1)))/\(∃ v10:Option Addr,af h9 (ad b1)=some (.pointer v10)/\(∃ v11:Option Addr,af h9 (ad b1)=some (.pointer v11)/\(∃ v12:Option Addr,af h9 (ad b1)=some (.pointer v12)/\(∃ v13:Option Addr,af h9 (ad b1)=some (.pointer v13)/\(∃ v14:Option Addr,af h9 (ad b1)=some (.pointer v14)/\(∃ a15,v14=some a15/\(∃ v16,af h9 a15=some (.int .i64 v16)/\(∃ a17,v10=some a17/\(∃ h18,WrH h9 (a17.add 7)/\h18=setH h9 (a17.add 7) (.int .i64 1)/\(af h18 (ad b1)=some (.pointer v13)/\af h18 (ad b1)=some (.pointer v12)/\af h18 (ad b1)=some (.pointer v11)/\(∃ a22,v11=some a22/\(∃ h23,WrH h18 (a22.add 8)/\h23=setH h18 (a22.add 8) (.int .i64 (-1))/\(af h23 (ad b1)=some (.pointer v13)/\af h23 (ad b1)=some (.pointer v12)/\(∃ a26,v12=some a26/\(∃ h27,WrH h23 (a26.add 9)/\h27=setH h23 (a26.add 9) (.int .i64 0)/\(af h27 (ad b1)=some (.pointer v13)/\(∃ a29,v13=some a29/\(∃ h30,WrH h27 (a29.add 3)/\h30=setH h27 (a29.add 3) (.int .i64 (IntKind.i64.wrap (v16 + 1)))/\(∃ v31:Option Addr,af h30 (ad b1)=some (.pointer v31)/\(gM v31 (fun r32 h33=>∃ v34:Option Addr,af h33 (ad b1)=some (.pointer v34)/\(∃ v35:Option Addr,af h33 (ad b1)=some (.pointer v35)/\(∃ a36,v35=some a36/\(∃ v37,af h33 (a36.add 1)=some (.int .i64 v37)/\(wU v37 (fun r38 h39=>af h39 (ad b1)=some (.pointer v34)/\(∃ a41,v34=some a41/\(∃ h42,WrH h39 (a41.add 10)/\h42=setH h39 (a41.add 10) (.pointer r38)/\(∃ v43:Option Addr,af h42 (ad b1)=some (.pointer v43)/\(∃ a44,v43=some a44/\(∃ v45:Option Addr,af h42 (a44.add 10)=some (.pointer v45)/\(∃ v46:Option Addr,af h42 (ad b1)=some (.pointer v46)/\(∃ a47,v46=some a47/\(∃ v48,af h42 a47=some (.int .i64 v48)/\(lS v45 v48 (fun r49 h50=>∃ v51:Option Addr,af h50 (ad b1)=some (.pointer v51)/\(∃ a52,v51=some a52/\(∃ v53:Option Addr,af h50 (a52.add 4)=some (.pointer v53)/\(fF v53 (fun r54 h55=>∃ b56 h57,b56=h55.size/\h57=h55.push (.cells ([.int .u64 0]).toArray 22)/\(∃ b58 h59,b58=h57.size/\h59=h57.push (.cells ([.int .u64 0]).toArray 22)/\(∃ h60,WrH h59 (ad b56)/\h60=setH h59 (ad b56) (.int .u64 r54.1)/\(∃ h61,WrH h60 (ad b58)/\h61=setH h60 (ad b58) (.int .u64 r54.2)/\(∃ v62:Option Addr,af h61 (ad b1)=some (.pointer v62)/\(bN v62 (ad b1) (ad b56) (ad b58) (fun r63 h64=>∃ v65:Option Addr,af h64 (ad b1)=some (.pointer v65)/\(nP v65 (fun r66 h67=>∃ l70,SlcAt h67 r66 l70/\App 45 9 104 [.int .i64 0,.int .i64 0,.int .u64 0,.int .u64 0,.int .u64 0,.int .u64 0,.bool false,.slice none 0 0,.slice none 0 0] h67 r63 r66.len l70 (fun s68 h69=>k s68 h69)) h64)) h61)))))) h50)))) h42)))))))))) h33))))) h30))))))))))))))))))))))))))))
/-- (*quaestor raft.Raft).Tick -/
def dX (a_:Option Addr) (b_:Bool) (k:KP Slc) (h_2:Heap):Prop :=
  if b_ then (lI a_ (fun r7 h8=>k r7 h8) h_2) else (k (⟨none,0,0⟩:Slc) h_2)
def fG (a_:Option Addr) (b_:Bool) (k:KP Slc) (h_1:Heap):Prop :=
  if b_ then (bV a_ a_ (fun r5 h6=>k r5 h6) h_1) else (∃ a9,a_=some a9/\(∃ v10,af h_1 (a9.add 7)=some (.int .i64 v10)/\(if (v10 != 2) then (∃ v11,af h_1 (a9.add 9)=some (.int .i64 v11)/\(oD a_ (fun r12 h13=>af h13 (a9.add 9)=some (.int .i64 v11)/\(dX a_ (decide (v11>=r12)) k h13)) h_1)) else (dX a_ false k h_1))))
def jm (p0:Option Addr) (k:KP Slc) (h:Heap):Prop :=
  if (p0.isNone) then (k (⟨none,0,0⟩:Slc) h) else (∃ a1,p0=some a1/\(∃ v2,af h (a1.add 9)=some (.int .i64 v2)/\(∃ h3,WrH h (a1.add 9)/\h3=setH h (a1.add 9) (.int .i64 (IntKind.i64.wrap (v2 + 1)))/\(∃ v4,af h3 (a1.add 7)=some (.int .i64 v4)/\(if (v4 == 2) then (∃ v15,af h3 (a1.add 9)=some (.int .i64 v15)/\(fG p0 ((Int.tmod v15 3) == 0) k h3)) else (fG p0 false k h3))))))
/-- (*quaestor raft.Raft).Propose -/
def dL (a_:Option Addr) (b_:Slc) (d_:Bool) (k:KP (Int × Int)) (h_1:Heap):Prop :=
  if d_ then (k (0,18) h_1) else (nQ a_ b_ (fun r1 h2=>k (r1.1,r1.2) h2) h_1)
def fH (p0:Option Addr) (p1:Slc) (k:KP (Int × Int)) (h:Heap):Prop :=
  if (p0.isNone) then (dL p0 p1 true k h) else (∃ a3,p0=some a3/\(∃ v4,af h (a3.add 7)=some (.int .i64 v4)/\(dL p0 p1 (v4 != 2) k h)))
/-- (*quaestor raft.Raft).Committed -/
def dA (p0:Option Addr) (k:KP Int) (h:Heap):Prop :=
  if (p0.isNone) then (k 0 h) else (∃ a1,p0=some a1/\(∃ v2,af h (a1.add 6)=some (.int .u64 v2)/\(k v2 h)))
/-- (*quaestor raft.Raft).Entry -/
def jS (p0:Option Addr) (p1:Int) (k:KP (ae × Int)) (h:Heap):Prop :=
  ∃ b1 h2,b1=h.size/\h2=h.push (.cells (ae.cs (⟨0,(⟨none,0,0⟩:Slc)⟩:ae)).toArray 65)/\(if (p0.isNone) then (∃ h3,dE h2 (ad b1) 2/\h3=aU h2 (ad b1) 0 (ae.cs (⟨0,(⟨none,0,0⟩:Slc)⟩:ae))/\(∃ v4,aJ h3 (ad b1) (ae.cs v4)/\k (v4,6) h3)) else (∃ a5,p0=some a5/\(∃ v6:Option Addr,af h2 (a5.add 4)=some (.pointer v6)/\(dY v6 p1 (fun r7 h8=>if (r7.2 != 0) then (∃ h9,dE h8 (ad b1) 2/\h9=aU h8 (ad b1) 0 (ae.cs (⟨0,(⟨none,0,0⟩:Slc)⟩:ae))/\(∃ v10,aJ h9 (ad b1) (ae.cs v10)/\k (v10,r7.2) h9)) else (∃ v11:Option Addr,af h8 (a5.add 4)=some (.pointer v11)/\(nU v11 p1 1 (fun r12 h13=>if ((r12.2 != 0) || ((r12.1.len:Int) == 0)) then (∃ h14,dE h13 (ad b1) 2/\h14=aU h13 (ad b1) 0 (ae.cs (⟨0,(⟨none,0,0⟩:Slc)⟩:ae))/\(∃ v15,aJ h14 (ad b1) (ae.cs v15)/\k (v15,13) h14)) else (∃ a16,r12.1.a=some a16/\(0:Int)<=0/\0 < (r12.1.len:Int)/\(∃ v17,aJ h13 (a16.add ((0:Int).toNat * 2)) (ae.cs v17)/\(∃ h18,dE h13 (ad b1) 2/\h18=aU h13 (ad b1) 0 (ae.cs v17)/\(∃ v19,aJ h18 (ad b1) (ae.cs v19)/\k (v19,0) h18))))) h8))) h2))))
/-- (*quaestor raft.Raft).Leads -/
def lG (a_:Bool) (k:KP Bool) (h_1:Heap):Prop :=
  k a_ h_1
def gm (p0:Option Addr) (k:KP Bool) (h:Heap):Prop :=
  if (!p0.isNone) then (∃ a1,p0=some a1/\(∃ v2,af h (a1.add 7)=some (.int .i64 v2)/\(lG (v2 == 2) k h))) else (lG false k h)
/-- (*quaestor raft.Raft).Leader -/
def nz (p0:Option Addr) (k:KP Int) (h:Heap):Prop :=
  if (p0.isNone) then (∃ x1,x1=(-1)/\(k x1 h)) else (∃ a2,p0=some a2/\(∃ v3,af h (a2.add 8)=some (.int .i64 v3)/\(k v3 h)))
/-- (*quaestor raft.Raft).Term -/
def fJ (p0:Option Addr) (k:KP Int) (h:Heap):Prop :=
  if (p0.isNone) then (k 0 h) else (∃ a1,p0=some a1/\(∃ v2,af h (a1.add 2)=some (.int .u64 v2)/\(k v2 h)))
theorem O86:aB prog 86:=ck func86
theorem R86 (p0 p1 k h) (H:uh p0 p1 k h):CallsH prog 86 #[.int .u32 p0,.int .u32 p1] h (fun v h'=>∃ r:Int × Int,v = .tuple #[.int .u32 r.1,.int .u32 r.2]/\k r h'):=by
 refine fE func86 fun w0=>?_
 refine zF [0,1] (zQ ?_)
 refine w2 Z (zE (zQ ?_))
 refine w5 Z ?_
 refine wQ Z H fun x1 H=>?_
 refine zE (zF [6] (zQ ?_))
 refine w5 Z ?_
 refine wQ Z H fun x2 H=>?_
 refine wQ Z H fun x3 H=>?_
 refine zE (zT ?_)
 exact aA _ rfl _ rfl ⟨(x2,x3),rfl,H⟩
theorem O87:aB prog 87:=ck func87
theorem R87 (p0 p1 k h) (H:qF p0 p1 k h):CallsH prog 87 #[.int .u64 p0,.int .u64 p1] h (fun v h'=>∃ r:Int × Int,v = .tuple #[.int .u64 r.1,.int .u64 r.2]/\k r h'):=by
 refine fE func87 fun w0=>?_
 refine zF [0,1] (zQ ?_)
 refine w2 Z (zE (zQ ?_))
 refine w2 Z ?_
 refine wQ Z H fun x1 H=>?_
 refine zE (zQ (w2 Z ?_))
 refine wQ Z H fun x2 H=>?_
 refine zE (zQ (w2 Z ?_))
 refine wQ Z H fun x3 H=>?_
 refine zE (zF [0,1,6,7,8] (zQ ?_))
 refine w2 Z ?_
 refine wQ Z H fun x4 H=>?_
 refine zE (zQ (w3 Z ?_))
 refine wQ Z H fun x5 H=>?_
 refine zE (zQ (w6 Z ?_))
 refine wQ Z H fun x6 H=>?_
 refine zE (zF [0,1,6,7,9,11] (zQ ?_))
 refine w2 Z ?_
 refine wQ Z H fun x7 H=>?_
 refine zE (zQ (w2 Z ?_))
 refine wQ Z H fun x8 H=>?_
 refine zE (zQ (w5 Z ?_))
 refine wQ Z H fun x9 H=>?_
 refine zE (zF [0,1,7,9,12,13] (zQ ?_))
 refine w6 Z ?_
 refine w2 Z ?_
 refine wQ Z H fun x10 H=>?_
 refine zE (zF [0,1,4] (zQ ?_))
 refine w3 Z ?_
 refine wQ Z H fun x11 H=>?_
 refine zE (zT ?_)
 exact aA _ rfl _ rfl ⟨(x10,x11),rfl,H⟩
theorem O81:aB prog 81:=ck func81
theorem R81 (p0 p1 k h) (H:qd p0 p1 k h):CallsH prog 81 #[.int .u64 p0,.int .u64 p1] h (fun v h'=>∃ r:Int × Int,v = .tuple #[.int .u64 r.1,.int .u64 r.2]/\k r h'):=by
 refine fE func81 fun w0=>?_
 refine zF [0,1] (zQ ?_)
 refine w2 Z (zE (zS ?_))
 refine zI H ?_ ?_ <;> intro H
 refine zQ (w4 Z ?_)
 refine wC O86 (R86 _ _ _ _ H) fun r1 h2 H=>?_
 refine w5 Z (zE (zF [6,7] (zQ ?_)))
 refine w4 Z ?_
 refine wQ Z H fun x3 H=>?_
 refine wQ Z H fun x4 H=>?_
 refine zE (zT (yT ?_))
 exact aA _ rfl _ rfl ⟨(x3,x4),rfl,H⟩
 refine zK (zX (zQ (w2 Z ?_)))
 refine wC O87 (R87 _ _ _ _ H) fun r5 h6 H=>?_
 refine w5 Z (zE (zF [8,9] (zQ ?_)))
 refine w4 Z (zE (zT ?_))
 exact aA _ rfl _ rfl ⟨(r5.1,r5.2),rfl,H⟩
theorem O71:aB prog 71:=ck func71
theorem R71 (p0 p1 k h) (H:bQ p0 p1 k h):CallsH prog 71 #[Slc.v p0,.int .i64 p1] h (rS k):=by
 refine fE func71 fun w0=>?_
 refine zF [0,1] (zQ ?_)
 refine w1 Z (zE ?_)
 refine zJ (α:=Unit) [0,1] (fun (s:Unit)=>[]) (fun (s:Unit) h=>ik p0 p1 k h) ?_ ?_
 rintro _ h_1 H
 refine zF [0,1] (zQ ?_)
 refine w5 Z ?_
 refine wC O81 (R81 _ _ _ _ H) fun r1 h2 H=>?_
 refine w5 Z (zE (zF [0,5,6] ?_))
 refine zJ (α:=Unit) [0,6] (fun (s:Unit)=>[]) (fun (s:Unit) h=>gU p0 r1.2 k h) ?_ ?_
 rintro _ h_2 H
 refine zF [0,6] (zQ ?_)
 refine w2 Z ?_
 obtain ⟨b3,h4,ph4,qh4,rh4,th4,eb3,eh4,H⟩:=H
 refine wH (H8 Z rfl rfl rfl rfl rfl rfl ph4 qh4 rh4 th4 eb3 eh4) ?_
 refine w1 Z (zE (zQ ?_))
 refine w2 Z ?_
 obtain ⟨l5,H⟩:=H
 refine wA (Kh (d:=(⟨some ⟨b3,0,none⟩,(IntKind.i64.wrap r1.2).toNat,(IntKind.i64.wrap r1.2).toNat⟩:Slc)) (s:=p0) Z rfl rfl rfl rfl rfl H) ?_
 rintro _ h6 ⟨rfl,H⟩
 refine wQ Z H fun x7 H=>?_
 refine zE (zF [7,8] (zS (zB ?_)))
 obtain ⟨I3,μ3,H0,HI⟩:=H
 refine zO (σ:=Int) [7] (fun (s:Int)=>[(8,.int .i64 s)]) I3 μ3 x7 H0 ?_
 rintro a_ h_3 H
 replace H:=HI a_ h_3 H
 refine zF [8,7] (zS (zQ ?_))
 refine w4 Z (zE ?_)
 refine zI H ?_ ?_ <;> intro H
 refine zK (zX (zB ?_))
 refine gB [7,8] ?_
 refine gT 0 [8] Z ?_
 refine gT 1 [7] Z ?_
 refine gT 2 [8] Z ?_
 obtain ⟨s8,ps8,qs8,rs8,ts8,es8,H⟩:=H
 refine gYe 3 [39,40] rfl (fun _=>xm (s:=(⟨some ⟨b3,0,none⟩,(IntKind.i64.wrap r1.2).toNat,(IntKind.i64.wrap r1.2).toNat⟩:Slc)) (L:=a_) (H:=((⟨some ⟨b3,0,none⟩,(IntKind.i64.wrap r1.2).toNat,(IntKind.i64.wrap r1.2).toNat⟩:Slc).len:Int)) (M:=((⟨some ⟨b3,0,none⟩,(IntKind.i64.wrap r1.2).toNat,(IntKind.i64.wrap r1.2).toNat⟩:Slc).cap:Int)) Z rfl rfl rfl rfl rfl rfl rfl (by simp) ps8 qs8 rs8 ts8) (congrArg Slc.v es8) ?_
 refine gT 4 [7] Z ?_
 refine gT 5 [8] Z ?_
 obtain ⟨s9,ps9,qs9,rs9,ts9,es9,H⟩:=H
 refine gYe 6 [42,43] rfl (fun _=>xm (s:=(⟨some ⟨b3,0,none⟩,(IntKind.i64.wrap r1.2).toNat,(IntKind.i64.wrap r1.2).toNat⟩:Slc)) (L:=0) (H:=a_) (M:=((⟨some ⟨b3,0,none⟩,(IntKind.i64.wrap r1.2).toNat,(IntKind.i64.wrap r1.2).toNat⟩:Slc).cap:Int)) Z rfl rfl rfl rfl rfl rfl rfl (by simp) ps9 qs9 rs9 ts9) (congrArg Slc.v es9) ?_
 obtain ⟨l10,H⟩:=H
 refine gA 7 [41,44] rfl (Kh (d:=s8) (s:=s9) Z rfl rfl rfl rfl rfl H) ?_
 rintro _ h11 ⟨rfl,H⟩
 refine gT 8 [38,45] Z ?_
 refine gT 9 [46] Z ?_
 refine gZ ?_
 refine yL ?_
 exact xJ (IntKind.i64.wrap (a_ + ((min s9.len s8.len:Nat):Int))) H
 refine zY (yE (yE (yH (zX (zQ (w2 Z (zE (zF [4] (zT ?_)))))))))
 exact aA _ rfl _ rfl ⟨(⟨some ⟨b3,0,none⟩,(IntKind.i64.wrap r1.2).toNat,(IntKind.i64.wrap r1.2).toNat⟩:Slc),rfl,H⟩
 refine zQ (w3 Z ?_)
 refine vU 3 [0,6] [(26,.bool ((decide (r1.1 > 0)) || (decide (r1.2 > 9223372036854775807))))] ?_ ?_
 refine zE ?_
 refine zI H ?_ ?_ <;> intro H
 refine zR ?_
 exact H.elim
 refine zK ?_
 exact xJ () H
 refine vG (d:=23) (fun hb=>?_) (fun hb=>?_)
 refine wS (wS (w1 Z ?_))
 refine vK ?_
 exact congrArg (fun b=>some (Value.bool b)) (Ag hb)
 refine w3 Z ?_
 refine vK ?_
 exact congrArg (fun b=>some (Value.bool b)) (Ah hb)
 refine zQ (w2 Z (zE ?_))
 refine zI H ?_ ?_ <;> intro H
 refine zR ?_
 exact H.elim
 refine zK ?_
 exact xJ () H
theorem O13:aB prog 13:=ck func13
theorem R13 (p0 p1 p2 p3 p4 p5 k h) (H:oL p0 p1 p2 p3 p4 p5 k h):CallsH prog 13 #[.int .i64 p0,.int .i64 p1,.int .u64 p2,.int .i64 p3,.pointer p4,Slc.v p5] h (fun v h'=>∃ r:Option Addr,v = .pointer r/\k r h'):=by
 refine fE func13 fun w0=>?_
 refine zF [0,1,2,3,4,5] (zQ ?_)
 refine w1 Z (zE (zS (zQ ?_)))
 refine w3 Z ?_
 refine vU 3 [0,1,2,3,4,5] [(21,.bool ((decide (p1 < 1)) || (decide (p1 > 32))))] ?_ ?_
 refine w1 Z ?_
 refine vU 3 [0,1,2,3,4,5] [(25,.bool (((decide (p1 < 1)) || (decide (p1 > 32))) || (decide (p0 < 0))))] ?_ ?_
 refine w1 Z ?_
 refine vU 4 [0,1,2,3,4,5] [(30,.bool ((((decide (p1 < 1)) || (decide (p1 > 32))) || (decide (p0 < 0))) || (decide (p0>=p1))))] ?_ ?_
 refine zE ?_
 refine zI H ?_ ?_ <;> intro H
 refine zQ (w1 Z (zE (zF [12] (zT (yT ?_)))))
 exact aA _ rfl _ rfl ⟨none,rfl,H⟩
 refine zK (zX (zQ (w1 Z ?_)))
 refine wC O37 (R37 _ _ _ H) fun r1 h2 H=>?_
 refine w5 Z (zE (zQ ?_))
 refine w6 Z ?_
 refine wC O38 (R38 _ _ _ H) fun r3 h4 H=>?_
 refine wY (cu Z rfl rfl rfl rfl rfl) ?_
 refine wX H fun b5 h6 H=>?_
 refine w1 Z (zE (zF [4,13,14,15] (zQ ?_)))
 refine w4 Z ?_
 refine wC O40 (R40 _ _ _ H) fun r7 h8 H=>?_
 refine wC O39 (R39 _ _ _ _ _ H) fun r9 h10 H=>?_
 refine wY (Ao rfl rfl) ?_
 refine w1 Z ?_
 refine wT Z H fun h11 H=>?_
 refine zE (zF [15] (zQ ?_))
 refine w2 Z (zE (zT ?_))
 exact aA _ rfl _ rfl ⟨(some (ad b5)),rfl,H⟩
 refine vG (d:=26) (fun hb=>?_) (fun hb=>?_)
 refine wS (wS (wS (w1 Z ?_)))
 refine vK ?_
 exact congrArg (fun b=>some (Value.bool b)) (Ag hb)
 refine w4 Z ?_
 refine vK ?_
 exact congrArg (fun b=>some (Value.bool b)) (Ah hb)
 refine vG (d:=22) (fun hb=>?_) (fun hb=>?_)
 refine wS (wS (w1 Z ?_))
 refine vK ?_
 exact congrArg (fun b=>some (Value.bool b)) (Ag hb)
 refine w3 Z ?_
 refine vK ?_
 exact congrArg (fun b=>some (Value.bool b)) (Ah hb)
 refine vG (d:=18) (fun hb=>?_) (fun hb=>?_)
 refine wS (wS (w1 Z ?_))
 refine vK ?_
 exact congrArg (fun b=>some (Value.bool b)) (Ag hb)
 refine w3 Z ?_
 refine vK ?_
 exact congrArg (fun b=>some (Value.bool b)) (Ah hb)
theorem O43:aB prog 43:=ck func43
theorem R43 (p0 k h) (H:oD p0 k h):CallsH prog 43 #[.pointer p0] h (rI .i64 k):=by
 refine fE func43 fun w0=>?_
 refine zF [0] (zQ ?_)
 refine w1 Z (zE (zQ ?_))
 refine w1 Z ?_
 refine wN H fun a1 _ H=>?_
 refine w1 Z ?_
 refine wL Z H fun v2 H=>?_
 refine w2 Z ?_
 refine wQ Z H fun x3 H=>?_
 refine zE (zF [2] (zT ?_))
 exact aA _ rfl _ rfl ⟨x3,rfl,H⟩
theorem O64:aB prog 64:=ck func64
theorem R64 (p0 k h) (H:gM p0 k h):CallsH prog 64 #[.pointer p0] h (rU k):=by
 refine fE func64 fun w0=>?_
 refine zF [0] ?_
 refine gB [0] ?_
 refine gT 0 [0] Z ?_
 refine gT 1 [0] Z ?_
 obtain ⟨a1,ha1,H⟩:=H
 refine gY 2 [3] rfl (fun _=>au rfl rfl ha1) ?_
 refine gT 3 [4] Z ?_
 refine gl 4 [5] Z H fun v2 H=>?_
 refine gT 5 [0] Z ?_
 refine gY 6 [7] rfl (fun _=>au rfl rfl ha1) ?_
 refine gT 7 [8] Z ?_
 refine gl 8 [9] Z H fun v3 H=>?_
 refine gT 9 [0] Z ?_
 refine gY 10 [11] rfl (fun _=>au rfl rfl ha1) ?_
 refine gT 11 [12] Z ?_
 refine gl 12 [13] Z H fun v4 H=>?_
 refine gY 13 [10,14] rfl (fun _=>cu Z rfl rfl rfl rfl rfl) ?_
 obtain ⟨b5,h6,eb5,eh6,H⟩:=H
 refine gHr 14 [15] rfl (nV Z rfl rfl rfl rfl rfl rfl rfl eb5 eh6) ?_
 obtain ⟨hy7,H⟩:=H
 refine gR rfl (bH Z rfl rfl rfl rfl hy7) ?_
 refine gZ0 ?_
 refine gA 15 [6,16] rfl (lW (s:=v2) (r:=(⟨some ⟨b5,0,none⟩,1,1⟩:Slc)) Z rfl rfl rfl rfl rfl (fM eb5 eh6) H) ?_
 rintro _ h9 ⟨s8,rfl,H⟩
 refine gY 16 [2] rfl (fun _=>au rfl rfl ha1) ?_
 refine gT 17 [18] Z ?_
 refine gs 18 [17,19] Z H fun h10 H=>?_
 refine gZ ?_
 exact kW _ rfl _ rfl ⟨(),rfl,H⟩
theorem O46:aB prog 46:=ck func46
theorem R46 (p0 p1 p2 k h) (H:je p0 p1 p2 k h):CallsH prog 46 #[.pointer p0,.int .u64 p1,.int .i64 p2] h (rU k):=by
 refine fE func46 fun w0=>?_
 refine zF [0,1,2] ?_
 refine zJ (α:=Unit) [0,2] (fun (s:Unit)=>[]) (fun (s:Unit) h=>iQ p0 p2 k h) ?_ ?_
 rintro _ h_1 H
 refine zF [0,2] (zR ?_)
 refine w4 Z ?_
 refine wN H fun a1 ha1 H=>?_
 refine w1 Z ?_
 refine wT Z H fun h2 H=>?_
 refine wY (au rfl rfl ha1) ?_
 refine w1 Z ?_
 refine wT Z H fun h3 H=>?_
 refine wY (au rfl rfl ha1) ?_
 refine w1 Z ?_
 refine wT Z H fun h4 H=>?_
 refine zW ?_
 exact kW _ rfl _ rfl ⟨(),rfl,H⟩
 refine zQ (w2 Z ?_)
 refine wN H fun a5 ha5 H=>?_
 refine w1 Z ?_
 refine wL Z H fun v6 H=>?_
 refine w1 Z (zE ?_)
 refine zI H ?_ ?_ <;> intro H
 refine zQ (w3 Z ?_)
 refine wY (au rfl rfl ha5) ?_
 refine w1 Z ?_
 refine wT Z H fun h7 H=>?_
 refine wY (au rfl rfl ha5) ?_
 refine w1 Z ?_
 refine wT Z H fun h8 H=>?_
 refine zE (zF [0,2] (zR ?_))
 refine w1 Z ?_
 refine wC O64 (R64 _ _ _ H) fun r9 h10 H=>?_
 refine zW ?_
 exact xJ () H
 refine zK ?_
 exact xJ () H
theorem O42:aB prog 42:=ck func42
theorem R42 (p0 p1 k h) (H:kM p0 p1 k h):CallsH prog 42 #[.pointer p0,.int .i64 p1] h (fun v h'=>∃ r:ah,v = .agg (ah.cs r).toArray/\k r h'):=by
 refine fE func42 fun w0=>?_
 refine zF [0,1] (zQ ?_)
 refine wB Z H fun b1 h2 H=>?_
 refine zE (zQ (w1 Z ?_))
 refine wN H fun a3 ha3 H=>?_
 refine w1 Z ?_
 refine wL Z H fun v4 H=>?_
 refine w1 Z ?_
 refine wD Z H fun a5 _ H=>?_
 refine wL Z H fun v6 H=>?_
 refine w1 Z (zE (zF [0,4,5] (zQ ?_)))
 refine w1 Z ?_
 refine wY (au rfl rfl ha3) ?_
 refine w1 Z ?_
 refine wL Z H fun v7 H=>?_
 refine wC O37 (R37 _ _ _ H) fun r8 h9 H=>?_
 refine w5 Z (zE (zF [0,4,5,6,7] (zS (zQ ?_))))
 refine w3 Z (zE ?_)
 refine zI H ?_ ?_ <;> intro H
 refine zS ?_
 refine gB [0,4,6,7] ?_
 refine gT 0 [0] Z ?_
 refine gY 1 [28] rfl (fun _=>au rfl rfl ha3) ?_
 refine gT 2 [29] Z ?_
 refine gl 3 [30] Z H fun v10 H=>?_
 refine gT 4 [6] Z ?_
 refine gT 5 [7] Z ?_
 refine gT 6 [0] Z ?_
 refine gY 7 [34] rfl (fun _=>au rfl rfl ha3) ?_
 refine gT 8 [35] Z ?_
 refine gl 9 [36] Z H fun v11 H=>?_
 refine gT 10 [0] Z ?_
 refine gY 11 [38] rfl (fun _=>au rfl rfl ha3) ?_
 refine gT 12 [39] Z ?_
 refine gl 13 [40] Z H fun v12 H=>?_
 refine gCr 14 [41] O38 (R38 _ _ _ H) fun r13 h14 H=>?_
 obtain ⟨hy15,hy16,H⟩:=H
 refine gR rfl (bH Z rfl rfl rfl rfl hy15) ?_
 refine gR rfl (bH Z rfl rfl rfl rfl hy16) ?_
 refine gZ0 ?_
 refine gY 15 [31,32,33,37,42] rfl (fun _=>cu Z rfl rfl rfl rfl rfl) ?_
 obtain ⟨h17,wh17,eh17,H⟩:=H
 refine gH 16 [4,43] rfl (Dl Z rfl rfl rfl rfl rfl (uu (by kernel_rfl)) wh17 eh17) ?_
 refine gZ ?_
 refine zX (zF [4] (zT (yT ?_)))
 obtain ⟨v18,hv18,H⟩:=H
 exact tH Z _ rfl [.agg (ah.cs v18).toArray] ⟨⟨_,_,rfl,rfl,.inr ⟨rfl,_,rfl,rfl,hv18⟩⟩,trivial⟩ ⟨v18,rfl,H⟩
 refine zK (zX (zQ (w1 Z ?_)))
 refine wY (au rfl rfl ha3) ?_
 refine w1 Z ?_
 refine wL Z H fun v19 H=>?_
 refine w1 Z ?_
 refine wC O61 (R61 _ _ _ _ _ H) fun r20 h21 H=>?_
 refine w5 Z (zE (zF [0,4,5,8] (zQ ?_)))
 refine w1 Z ?_
 refine wY (au rfl rfl ha3) ?_
 refine w1 Z ?_
 refine wL Z H fun v22 H=>?_
 refine w2 Z ?_
 refine wC O60 (R60 _ _ _ _ H) fun r23 h24 H=>?_
 refine w4 Z (zE (zF [0,4,5,8,7] (zS ?_)))
 refine gB [0,4,5,7,8] ?_
 refine gT 0 [0] Z ?_
 refine gY 1 [63] rfl (fun _=>au rfl rfl ha3) ?_
 refine gT 2 [64] Z ?_
 refine gl 3 [65] Z H fun v25 H=>?_
 refine gT 4 [5] Z ?_
 refine gT 5 [67] Z ?_
 refine gT 6 [7] Z ?_
 refine gT 7 [0] Z ?_
 refine gY 8 [70] rfl (fun _=>au rfl rfl ha3) ?_
 refine gT 9 [71] Z ?_
 refine gl 10 [72] Z H fun v26 H=>?_
 refine gT 11 [8] Z ?_
 refine gY 12 [66,68,69,73,74] rfl (fun _=>cu Z rfl rfl rfl rfl rfl) ?_
 obtain ⟨h27,wh27,eh27,H⟩:=H
 refine gH 13 [4,75] rfl (Dl Z rfl rfl rfl rfl rfl (uu (by kernel_rfl)) wh27 eh27) ?_
 refine gZ ?_
 refine zX (zF [4] (zT ?_))
 obtain ⟨v28,hv28,H⟩:=H
 exact tH Z _ rfl [.agg (ah.cs v28).toArray] ⟨⟨_,_,rfl,rfl,.inr ⟨rfl,_,rfl,rfl,hv28⟩⟩,trivial⟩ ⟨v28,rfl,H⟩
theorem O74:aB prog 74:=ck func74
theorem R74 (p0 k h) (H:lC p0 k h):CallsH prog 74 #[.pointer p0] h (rU k):=by
 refine fE func74 fun w0=>?_
 refine zF [0] (zQ ?_)
 refine w1 Z ?_
 refine wN H fun a1 ha1 H=>?_
 refine w1 Z ?_
 refine wL Z H fun v2 H=>?_
 refine wC O83 (R83 _ _ _ H) fun r3 h4 H=>?_
 refine w1 Z (zE (zQ ?_))
 refine w1 Z ?_
 refine wY (au rfl rfl ha1) ?_
 refine w1 Z ?_
 refine wL Z H fun v5 H=>?_
 refine w1 Z ?_
 refine wC O60 (R60 _ _ _ _ H) fun r6 h7 H=>?_
 refine w5 Z (zE (zF [0,2,3,4] (zQ ?_)))
 refine w2 Z ?_
 refine wY (au rfl rfl ha1) ?_
 refine w1 Z ?_
 refine wL Z H fun v8 H=>?_
 refine w2 Z ?_
 refine vU 3 [0,2,3] [(28,.bool ((decide (r3 > v8)) && (r6.2 == 0)))] ?_ ?_
 refine w1 Z ?_
 refine vJ 7 (α:=Bool) [0,2] (fun (s:Bool)=>[(36,.bool s)]) (fun (s:Bool) h=>fT p0 r3 s k h) ?_ ?_
 rintro a_ h_1 H
 refine vF [36,0,2] (zE ?_)
 refine zI H ?_ ?_ <;> intro H
 refine zR (w2 Z ?_)
 refine wN H fun a9 _ H=>?_
 refine w1 Z ?_
 refine wT Z H fun h10 H=>?_
 refine zW ?_
 exact kW _ rfl _ rfl ⟨(),rfl,H⟩
 refine zK ?_
 exact kW _ rfl _ rfl ⟨(),rfl,H⟩
 refine vI 29 H ?_ ?_ <;> intro H
 refine w2 Z ?_
 refine wY (au rfl rfl ha1) ?_
 refine w1 Z ?_
 refine wL Z H fun v11 H=>?_
 refine w2 Z ?_
 exact wJ (r6.1 == v11) H
 refine wS (wS (wS (wS (wS (wS (w1 Z ?_))))))
 exact wJ false H
 refine vG (d:=25) (fun hb=>?_) (fun hb=>?_)
 refine w3 Z ?_
 refine vK ?_
 exact congrArg (fun b=>some (Value.bool b)) (rq hb)
 refine wS (wS (w1 Z ?_))
 refine vK ?_
 exact congrArg (fun b=>some (Value.bool b)) (rF hb)
theorem O59:aB prog 59:=ck func59
theorem R59 (p0 p1 k h) (H:nQ p0 p1 k h):CallsH prog 59 #[.pointer p0,Slc.v p1] h (fun v h'=>∃ r:Int × Int,v = .tuple #[.int .u64 r.1,.int .i64 r.2]/\k r h'):=by
 refine fE func59 fun w0=>?_
 refine zF [0,1] (zQ ?_)
 refine w2 Z (zE (zQ ?_))
 refine w1 Z ?_
 refine wN H fun a1 ha1 H=>?_
 refine w1 Z ?_
 refine wL Z H fun v2 H=>?_
 refine wC O66 (R66 _ _ _ H) fun r3 h4 H=>?_
 refine w5 Z (zE (zF [0,1,6,7] (zS ?_)))
 refine gB [0,1,6,7] ?_
 refine gT 0 [0] Z ?_
 refine gY 1 [19] rfl (fun _=>au rfl rfl ha1) ?_
 refine gT 2 [20] Z ?_
 refine gl 3 [21] Z H fun v5 H=>?_
 refine gT 4 [1] Z ?_
 refine gCr 5 [23] O38 (R38 _ _ _ H) fun r6 h7 H=>?_
 obtain ⟨hy8,H⟩:=H
 refine gR rfl (bH Z rfl rfl rfl rfl hy8) ?_
 refine gZ0 ?_
 refine gY 6 [22,24] rfl (fun _=>cu Z rfl rfl rfl rfl rfl) ?_
 obtain ⟨b9,h10,eb9,eh10,H⟩:=H
 refine gH 7 [25] rfl (nV Z rfl rfl rfl rfl rfl rfl rfl eb9 eh10) ?_
 refine gT 8 [26] Z ?_
 refine gZ ?_
 refine zX (zF [0,6,7,8] (zQ ?_))
 refine w1 Z ?_
 refine wY (au rfl rfl ha1) ?_
 refine w1 Z ?_
 refine wL Z H fun v11 H=>?_
 refine w3 Z ?_
 refine wC O73 (R73 _ _ _ _ _ _ H) fun r12 h13 H=>?_
 refine w5 Z (zE (zF [0,6,7,8,9,10] (zS (zQ ?_))))
 refine w2 Z (zE ?_)
 refine zI H ?_ ?_ <;> intro H
 refine zQ (w3 Z (zE (zF [4,5] (zT (yT ?_)))))
 exact aA _ rfl _ rfl ⟨(0,r12.2),rfl,H⟩
 refine zK (zX (zQ (w2 Z ?_)))
 refine wY (au rfl rfl ha1) ?_
 refine w1 Z ?_
 refine wL Z H fun v14 H=>?_
 refine w3 Z ?_
 refine wY (cu Z rfl rfl rfl rfl rfl) ?_
 obtain ⟨b15,h16,eb15,eh16,H⟩:=H
 refine wH (nV Z rfl rfl rfl rfl rfl rfl rfl eb15 eh16) ?_
 refine wA (lW (s:=v14) (r:=(⟨some ⟨b15,0,none⟩,1,1⟩:Slc)) Z rfl rfl rfl rfl rfl (fM eb15 eh16) H) ?_
 rintro _ h18 ⟨s17,rfl,H⟩
 refine wY (au rfl rfl ha1) ?_
 refine w1 Z ?_
 refine wT Z H fun h19 H=>?_
 refine zE (zF [0,9] (zS ?_))
 refine gB [0,9] ?_
 refine gT 0 [0] Z ?_
 refine gY 1 [54] rfl (fun _=>au rfl rfl ha1) ?_
 refine gT 2 [55] Z ?_
 refine gl 3 [56] Z H fun v20 H=>?_
 refine gT 4 [0] Z ?_
 refine gY 5 [58] rfl (fun _=>au rfl rfl ha1) ?_
 refine gT 6 [59] Z ?_
 refine gl 7 [60] Z H fun v21 H=>?_
 refine gT 8 [9] Z ?_
 refine gd 9 [57,61] Z H fun a22 H=>?_
 refine gs 10 [62,63] Z H fun h23 H=>?_
 refine gZ ?_
 refine zX (zF [0,9] (zQ ?_))
 refine w1 Z ?_
 refine wC O74 (R74 _ _ _ H) fun r24 h25 H=>?_
 refine zE (zQ (w3 Z (zE (zT ?_))))
 exact aA _ rfl _ rfl ⟨(r12.1,0),rfl,H⟩
theorem BZ:aB prog 41:=ck func41
theorem Ce (p0 p1c0 k h) (H:bV p0 p1c0 k h):CallsH prog 41 #[.pointer p0,(Value.func (.func 42) #[.pointer p1c0] #[])] h (rS k):=by
 refine fE func41 fun w0=>?_
 refine zF [0,1] (zQ ?_)
 refine w1 Z (zE (zQ ?_))
 refine w1 Z (zE (zS (zQ ?_)))
 refine w1 Z ?_
 refine wN H fun a1 _ H=>?_
 refine w1 Z ?_
 refine wL Z H fun v2 H=>?_
 refine w1 Z (zE (zB ?_))
 obtain ⟨I1,μ1,H0,HI⟩:=H
 refine zO (σ:=Slc × Int) [0,1,10] (fun (s:Slc × Int)=>[(5,Slc.v s.1),(11,.int .i64 s.2)]) I1 μ1 ((⟨none,0,0⟩:Slc),0) H0 ?_
 rintro ⟨a_,b_⟩ h_1 H
 replace H:=HI a_ b_ h_1 H
 refine zF [5,11,0,1,10] (zQ ?_)
 refine w1 Z (zE (zS ?_))
 refine zI H ?_ ?_ <;> intro H
 refine zK (zX ?_)
 refine zJ (α:=Slc) [0,1,10,11] (fun (s:Slc)=>[(5,Slc.v s)]) (fun (s:Slc) h=>bI p0 p1c0 v2 b_ s k (fun s h'=>I1 s h'/\μ1 s h' < μ1 (a_,b_) h_1) h) ?_ ?_
 rintro d_ h_2 H
 refine zF [5,0,1,10,11] (zR ?_)
 refine w2 Z (zW ?_)
 exact xJ (d_,(IntKind.i64.wrap (b_ + 1))) H
 refine zB (zQ (w2 Z (zE (zQ ?_))))
 refine w2 Z ?_
 refine wN H fun a3 _ H=>?_
 refine w1 Z ?_
 refine wL Z H fun v4 H=>?_
 refine w1 Z (zE (zF [5,11,0,1,10,6,19] ?_))
 refine zI H ?_ ?_ <;> intro H
 refine zR (w4 Z ?_)
 refine Jm (vs:=[.int .i64 b_]) (cap:=[]) (fs:=[.pointer p1c0]) O42 (R42 _ _ _ _ H) rfl rfl rfl rfl rfl ?_
 rintro _ h6 ⟨r5,rfl,H⟩
 refine wY (cu Z rfl rfl rfl rfl rfl) ?_
 obtain ⟨b7,h8,eb7,eh8,H⟩:=H
 refine wH (nV Z rfl rfl rfl rfl rfl rfl rfl eb7 eh8) ?_
 refine wA (lW (s:=a_) (r:=(⟨some ⟨b7,0,none⟩,1,1⟩:Slc)) Z rfl rfl rfl rfl rfl (fM eb7 eh8) H) ?_
 rintro _ h10 ⟨s9,rfl,H⟩
 refine w1 Z (zL ?_)
 exact xJ s9 H
 refine zK (yL ?_)
 exact xJ a_ H
 refine zY (yE (yE (yH (zX (zQ (w2 Z (zE (zF [4] (zT ?_)))))))))
 exact aA _ rfl _ rfl ⟨a_,rfl,H⟩
theorem O49:aB prog 49:=ck func49
theorem R49 (p0 k h) (H:nP p0 k h):CallsH prog 49 #[.pointer p0] h (rS k):=by
 refine fE func49 fun w0=>?_
 refine zF [0] (zQ ?_)
 refine w1 Z (zE (zS (zQ ?_)))
 refine w1 Z ?_
 refine wN H fun a1 ha1 H=>?_
 refine w1 Z ?_
 refine wL Z H fun v2 H=>?_
 refine w2 Z ?_
 refine vJ 7 (α:=Bool) [0] (fun (s:Bool)=>[(17,.bool s)]) (fun (s:Bool) h=>gP p0 s k h) ?_ ?_
 rintro a_ h_1 H
 refine vF [17,0] (zE ?_)
 refine zI H ?_ ?_ <;> intro H
 refine zQ (w1 Z (zE (zT (yT ?_))))
 exact aA _ rfl _ rfl ⟨(⟨none,0,0⟩:Slc),rfl,H⟩
 refine zK (zX (zQ (w1 Z ?_)))
 refine wN H fun a3 ha3 H=>?_
 refine w1 Z ?_
 refine wL Z H fun v4 H=>?_
 refine wC O66 (R66 _ _ _ H) fun r5 h6 H=>?_
 refine w5 Z (zE (zF [0,3] (zQ ?_)))
 refine w5 Z ?_
 refine wY (au rfl rfl ha3) ?_
 refine w1 Z ?_
 refine wL Z H fun v7 H=>?_
 refine wY (au rfl rfl ha3) ?_
 refine w1 Z ?_
 refine wT Z H fun h8 H=>?_
 refine wY (au rfl rfl ha3) ?_
 refine w1 Z ?_
 refine wT Z H fun h9 H=>?_
 refine wY (au rfl rfl ha3) ?_
 refine w1 Z ?_
 refine wT Z H fun h10 H=>?_
 refine wY (au rfl rfl ha3) ?_
 refine w1 Z ?_
 refine wT Z H fun h11 H=>?_
 refine zE (zF [0,3] ?_)
 refine zJ (α:=Unit) [0,3] (fun (s:Unit)=>[]) (fun (s:Unit) h=>fB p0 r5.1 k h) ?_ ?_
 rintro _ h_2 H
 refine zF [0,3] (zS ?_)
 refine gB [0,3] ?_
 refine gT 0 [0] Z ?_
 obtain ⟨a12,ha12,H⟩:=H
 refine gY 1 [61] rfl (fun _=>au rfl rfl ha12) ?_
 refine gT 2 [62] Z ?_
 refine gl 3 [63] Z H fun v13 H=>?_
 refine gT 4 [0] Z ?_
 refine gY 5 [65] rfl (fun _=>au rfl rfl ha12) ?_
 refine gT 6 [66] Z ?_
 refine gl 7 [67] Z H fun v14 H=>?_
 refine gT 8 [3] Z ?_
 refine gd 9 [64,68] Z H fun a15 H=>?_
 refine gs 10 [69,70] Z H fun h16 H=>?_
 refine gZ ?_
 refine zX (zF [0] (zQ ?_))
 refine w1 Z ?_
 refine wC O59 (R59 _ _ _ _ H) fun r17 h18 H=>?_
 refine zE (zQ (w2 Z ?_))
 refine wY (Gq rfl rfl rfl) ?_
 refine wC BZ (Ce _ _ _ _ H) fun r19 h20 H=>?_
 refine w1 Z (zE (zF [2] (zT ?_)))
 exact aA _ rfl _ rfl ⟨r19,rfl,H⟩
 refine gB [0,3] ?_
 refine gT 0 [0] Z ?_
 refine gT 1 [0] Z ?_
 refine gT 2 [3] Z ?_
 refine gT 3 [44] Z ?_
 refine gT 5 [0] Z ?_
 refine gY 6 [47] rfl (fun _=>au rfl rfl ha3) ?_
 refine gT 7 [48] Z ?_
 refine gl 8 [49] Z H fun v21 H=>?_
 refine gT 10 [0] Z ?_
 refine gY 11 [52] rfl (fun _=>au rfl rfl ha3) ?_
 refine gT 12 [53] Z ?_
 refine gl 13 [54] Z H fun v22 H=>?_
 refine gO 4 14 H (fun H=>?_) (fun H=>?_)
 obtain ⟨b23,h24,eb23,eh24,H⟩:=H
 refine Hu 4 [45] rfl (nV Z rfl rfl rfl rfl rfl rfl rfl eb23 eh24) ?_
 obtain ⟨hy25,hy26,H⟩:=H
 refine gR rfl (bH Z rfl rfl rfl rfl hy25) ?_
 refine gR rfl (bH Z rfl rfl rfl rfl hy26) ?_
 refine gZ0 ?_
 refine gO 9 14 H (fun H=>?_) (fun H=>?_)
 refine LH 9 [46,50] O71 (R71 _ _ _ _ H) fun r27 h28 H=>?_
 obtain ⟨hy29,H⟩:=H
 refine gR rfl (bH Z rfl rfl rfl rfl hy29) ?_
 refine gZ0 ?_
 refine gY 15 [42] rfl (fun _=>au rfl rfl ha3) ?_
 refine gT 16 [57] Z ?_
 refine gO 14 17 H (fun H=>?_) (fun H=>?_)
 obtain ⟨b30,h31,ph31,qh31,rh31,th31,eb30,eh31,H⟩:=H
 refine gHI 14 [55] rfl (H8 Z rfl rfl rfl rfl rfl rfl ph31 qh31 rh31 th31 eb30 eh31) ?_
 refine gs 17 [51,58] Z H fun h32 H=>?_
 refine gY 18 [43] rfl (fun _=>au rfl rfl ha3) ?_
 refine gT 19 [59] Z ?_
 refine gs 20 [56,60] Z H fun h33 H=>?_
 refine gZ ?_
 exact xJ () H
 obtain ⟨h34,wh34,eh34,H⟩:=H
 refine gHI 17 [51,58] rfl (Fj Z rfl rfl rfl rfl rfl rfl wh34 eh34) ?_
 obtain ⟨b35,h36,ph36,qh36,rh36,th36,eb35,eh36,H⟩:=H
 refine gH 14 [55] rfl (H8 Z rfl rfl rfl rfl rfl rfl ph36 qh36 rh36 th36 eb35 eh36) ?_
 refine gY 18 [43] rfl (fun _=>au rfl rfl ha3) ?_
 refine gT 19 [59] Z ?_
 refine gs 20 [56,60] Z H fun h37 H=>?_
 refine gZ ?_
 exact xJ () H
 obtain ⟨b38,h39,ph39,qh39,rh39,th39,eb38,eh39,H⟩:=H
 refine Hu 14 [55] rfl (H8 Z rfl rfl rfl rfl rfl rfl ph39 qh39 rh39 th39 eb38 eh39) ?_
 obtain ⟨hy40,H⟩:=H
 refine gR rfl (bH Z rfl rfl rfl rfl hy40) ?_
 refine gZ0 ?_
 refine gC 9 [46,50] O71 (R71 _ _ _ _ H) fun r41 h42 H=>?_
 refine gY 15 [42] rfl (fun _=>au rfl rfl ha3) ?_
 refine gT 16 [57] Z ?_
 refine gs 17 [51,58] Z H fun h43 H=>?_
 refine gY 18 [43] rfl (fun _=>au rfl rfl ha3) ?_
 refine gT 19 [59] Z ?_
 refine gs 20 [56,60] Z H fun h44 H=>?_
 refine gZ ?_
 exact xJ () H
 obtain ⟨b45,h46,ph46,qh46,rh46,th46,eb45,eh46,H⟩:=H
 refine Hu 14 [55] rfl (H8 Z rfl rfl rfl rfl rfl rfl ph46 qh46 rh46 th46 eb45 eh46) ?_
 obtain ⟨hy47,H⟩:=H
 refine gR rfl (bH Z rfl rfl rfl rfl hy47) ?_
 refine gZ0 ?_
 obtain ⟨b48,h49,eb48,eh49,H⟩:=H
 refine gHr 4 [45] rfl (nV Z rfl rfl rfl rfl rfl rfl rfl eb48 eh49) ?_
 obtain ⟨hy50,H⟩:=H
 refine gR rfl (bH Z rfl rfl rfl rfl hy50) ?_
 refine gZ0 ?_
 refine gC 9 [46,50] O71 (R71 _ _ _ _ H) fun r51 h52 H=>?_
 refine gY 15 [42] rfl (fun _=>au rfl rfl ha3) ?_
 refine gT 16 [57] Z ?_
 refine gs 17 [51,58] Z H fun h53 H=>?_
 refine gY 18 [43] rfl (fun _=>au rfl rfl ha3) ?_
 refine gT 19 [59] Z ?_
 refine gs 20 [56,60] Z H fun h54 H=>?_
 refine gZ ?_
 exact xJ () H
 refine vI 10 H ?_ ?_ <;> intro H
 refine wS (wS (wS (wS (wS (wS (w1 Z ?_))))))
 exact wJ true H
 refine w1 Z ?_
 refine wY (au rfl rfl ha1) ?_
 refine w1 Z ?_
 refine wL Z H fun v55 H=>?_
 refine wC O70 (R70 _ _ _ H) fun r56 h57 H=>?_
 refine w2 Z ?_
 exact wJ (!r56) H
theorem O67:aB prog 67:=ck func67
theorem R67 (p0 p1 p2 p3 k h) (H:kg p0 p1 p2 p3 k h):CallsH prog 67 #[.int .i64 p0,.pointer (some p1),.pointer (some p2),.pointer (some p3)] h (fun v h'=>∃ r:ah,v = .agg (ah.cs r).toArray/\k r h'):=by
 refine fE func67 fun w0=>?_
 refine zF [0,1,2,3] (zQ ?_)
 refine wB Z H fun b1 h2 H=>?_
 refine zE (zS ?_)
 refine gB [1,2,3,5] ?_
 refine gl 0 [1] Z H fun v3 H=>?_
 obtain ⟨a4,ha4,H⟩:=H
 refine gY 1 [6] rfl (fun _=>au rfl rfl ha4) ?_
 refine gT 2 [7] Z ?_
 refine gl 3 [8] Z H fun v5 H=>?_
 refine gl 4 [2] Z H fun v6 H=>?_
 refine gl 5 [3] Z H fun v7 H=>?_
 refine gY 6 [9,10,11] rfl (fun _=>cu Z rfl rfl rfl rfl rfl) ?_
 obtain ⟨h8,wh8,eh8,H⟩:=H
 refine gH 7 [5,12] rfl (Dl Z rfl rfl rfl rfl rfl (uu (by kernel_rfl)) wh8 eh8) ?_
 refine gZ ?_
 refine zX (zF [5] (zT ?_))
 obtain ⟨v9,hv9,H⟩:=H
 exact tH Z _ rfl [.agg (ah.cs v9).toArray] ⟨⟨_,_,rfl,rfl,.inr ⟨rfl,_,rfl,rfl,hv9⟩⟩,trivial⟩ ⟨v9,rfl,H⟩
theorem H7:aB prog 41:=ck func41
theorem GK (p0 p1c0 p1c1 p1c2 k h) (H:bN p0 p1c0 p1c1 p1c2 k h):CallsH prog 41 #[.pointer p0,(Value.func (.func 67) #[] #[.pointer (some p1c0),.pointer (some p1c1),.pointer (some p1c2)])] h (rS k):=by
 refine fE func41 fun w0=>?_
 refine zF [0,1] (zQ ?_)
 refine w1 Z (zE (zQ ?_))
 refine w1 Z (zE (zS (zQ ?_)))
 refine w1 Z ?_
 refine wN H fun a1 _ H=>?_
 refine w1 Z ?_
 refine wL Z H fun v2 H=>?_
 refine w1 Z (zE (zB ?_))
 obtain ⟨I1,μ1,H0,HI⟩:=H
 refine zO (σ:=Slc × Int) [0,1,10] (fun (s:Slc × Int)=>[(5,Slc.v s.1),(11,.int .i64 s.2)]) I1 μ1 ((⟨none,0,0⟩:Slc),0) H0 ?_
 rintro ⟨a_,b_⟩ h_1 H
 replace H:=HI a_ b_ h_1 H
 refine zF [5,11,0,1,10] (zQ ?_)
 refine w1 Z (zE (zS ?_))
 refine zI H ?_ ?_ <;> intro H
 refine zK (zX ?_)
 refine zJ (α:=Slc) [0,1,10,11] (fun (s:Slc)=>[(5,Slc.v s)]) (fun (s:Slc) h=>aV p0 p1c0 p1c1 p1c2 v2 b_ s k (fun s h'=>I1 s h'/\μ1 s h' < μ1 (a_,b_) h_1) h) ?_ ?_
 rintro d_ h_2 H
 refine zF [5,0,1,10,11] (zR ?_)
 refine w2 Z (zW ?_)
 exact xJ (d_,(IntKind.i64.wrap (b_ + 1))) H
 refine zB (zQ (w2 Z (zE (zQ ?_))))
 refine w2 Z ?_
 refine wN H fun a3 _ H=>?_
 refine w1 Z ?_
 refine wL Z H fun v4 H=>?_
 refine w1 Z (zE (zF [5,11,0,1,10,6,19] ?_))
 refine zI H ?_ ?_ <;> intro H
 refine zR (w4 Z ?_)
 refine IV (vs:=[.int .i64 b_]) (cap:=[.pointer (some p1c0),.pointer (some p1c1),.pointer (some p1c2)]) O67 (R67 _ _ _ _ _ _ H) rfl rfl rfl rfl rfl ?_
 rintro _ h6 ⟨r5,rfl,H⟩
 refine wY (cu Z rfl rfl rfl rfl rfl) ?_
 obtain ⟨b7,h8,eb7,eh8,H⟩:=H
 refine wH (nV Z rfl rfl rfl rfl rfl rfl rfl eb7 eh8) ?_
 refine wA (lW (s:=a_) (r:=(⟨some ⟨b7,0,none⟩,1,1⟩:Slc)) Z rfl rfl rfl rfl rfl (fM eb7 eh8) H) ?_
 rintro _ h10 ⟨s9,rfl,H⟩
 refine w1 Z (zL ?_)
 exact xJ s9 H
 refine zK (yL ?_)
 exact xJ a_ H
 refine zY (yE (yE (yH (zX (zQ (w2 Z (zE (zF [4] (zT ?_)))))))))
 exact aA _ rfl _ rfl ⟨a_,rfl,H⟩
theorem O44:aB prog 44:=ck func44
theorem R44 (p0 k h) (H:lI p0 k h):CallsH prog 44 #[.pointer p0] h (rS k):=by
 refine fE func44 fun w0=>?_
 refine zF [0] (zQ ?_)
 refine wX H fun b1 h2 H=>?_
 refine w1 Z (zE (zS (zQ ?_)))
 refine wL Z H fun v3 H=>?_
 refine wN H fun a4 _ H=>?_
 refine w1 Z ?_
 refine wL Z H fun v5 H=>?_
 refine w1 Z (zE ?_)
 refine zI H ?_ ?_ <;> intro H
 refine zQ (w1 Z (zE (zF [2] (zT (yT ?_)))))
 exact aA _ rfl _ rfl ⟨(⟨none,0,0⟩:Slc),rfl,H⟩
 refine zK (zX (zF [1] (zQ ?_)))
 refine wL Z H fun v6 H=>?_
 refine wN H fun a7 ha7 H=>?_
 refine w1 Z ?_
 refine wL Z H fun v8 H=>?_
 refine w1 Z ?_
 refine wY (au rfl rfl ha7) ?_
 refine w1 Z ?_
 refine wT Z H fun h9 H=>?_
 refine zE (zF [1] (zS ?_))
 refine gB [1] ?_
 refine gl 0 [1] Z H fun v10 H=>?_
 refine gl 1 [1] Z H fun v11 H=>?_
 refine gl 2 [1] Z H fun v12 H=>?_
 refine gl 3 [1] Z H fun v13 H=>?_
 refine gl 4 [1] Z H fun v14 H=>?_
 obtain ⟨a15,ha15,H⟩:=H
 refine gY 5 [22] rfl (fun _=>au rfl rfl ha15) ?_
 refine gT 6 [23] Z ?_
 refine gl 7 [24] Z H fun v16 H=>?_
 refine gT 8 [25] Z ?_
 obtain ⟨a17,ha17,H⟩:=H
 refine gY 9 [18] rfl (fun _=>au rfl rfl ha17) ?_
 refine gT 10 [27] Z ?_
 obtain ⟨h18,wh18,eh18,H⟩:=H
 refine gHr 11 [28] rfl (Fj Z rfl rfl rfl rfl rfl rfl wh18 eh18) ?_
 obtain ⟨hy19,hy20,hy21,H⟩:=H
 refine gR rfl (bH Z rfl rfl rfl rfl hy19) ?_
 refine gR rfl (bH Z rfl rfl rfl rfl hy20) ?_
 refine gR rfl (bH Z rfl rfl rfl rfl hy21) ?_
 refine gZ0 ?_
 obtain ⟨a22,ha22,H⟩:=H
 refine gY 12 [19] rfl (fun _=>au rfl rfl ha22) ?_
 refine gT 13 [29] Z ?_
 obtain ⟨h23,wh23,eh23,H⟩:=H
 refine gHr 14 [30] rfl (Fj Z rfl rfl rfl rfl rfl rfl wh23 eh23) ?_
 obtain ⟨hy24,hy25,H⟩:=H
 refine gR rfl (bH Z rfl rfl rfl rfl hy24) ?_
 refine gR rfl (bH Z rfl rfl rfl rfl hy25) ?_
 refine gZ0 ?_
 obtain ⟨a26,ha26,H⟩:=H
 refine gY 15 [20] rfl (fun _=>au rfl rfl ha26) ?_
 refine gT 16 [31] Z ?_
 obtain ⟨h27,wh27,eh27,H⟩:=H
 refine gHr 17 [32] rfl (Fj Z rfl rfl rfl rfl rfl rfl wh27 eh27) ?_
 obtain ⟨hy28,H⟩:=H
 refine gR rfl (bH Z rfl rfl rfl rfl hy28) ?_
 refine gZ0 ?_
 obtain ⟨a29,ha29,H⟩:=H
 refine gY 18 [21] rfl (fun _=>au rfl rfl ha29) ?_
 refine gT 19 [33] Z ?_
 refine gs 20 [26,34] Z H fun h30 H=>?_
 refine gZ ?_
 refine zX (zF [1] (zQ ?_))
 refine wL Z H fun v31 H=>?_
 refine wC O64 (R64 _ _ _ H) fun r32 h33 H=>?_
 refine zE (zS ?_)
 refine gB [1] ?_
 refine gl 0 [1] Z H fun v34 H=>?_
 refine gl 1 [1] Z H fun v35 H=>?_
 obtain ⟨a36,ha36,H⟩:=H
 refine gY 2 [38] rfl (fun _=>au rfl rfl ha36) ?_
 refine gT 3 [39] Z ?_
 refine gl 4 [40] Z H fun v37 H=>?_
 refine gCr 5 [41] O65 (R65 _ _ _ H) fun r38 h39 H=>?_
 obtain ⟨hy40,H⟩:=H
 refine gR rfl (bH Z rfl rfl rfl rfl hy40) ?_
 refine gZ0 ?_
 obtain ⟨a41,ha41,H⟩:=H
 refine gY 6 [37] rfl (fun _=>au rfl rfl ha41) ?_
 refine gT 7 [43] Z ?_
 refine gs 8 [42,44] Z H fun h42 H=>?_
 refine gZ ?_
 refine zX (zF [1] (zS ?_))
 refine gB [1] ?_
 refine gl 0 [1] Z H fun v43 H=>?_
 obtain ⟨a44,ha44,H⟩:=H
 refine gY 1 [45] rfl (fun _=>au rfl rfl ha44) ?_
 refine gT 2 [46] Z ?_
 refine gl 3 [47] Z H fun v45 H=>?_
 refine gl 4 [1] Z H fun v46 H=>?_
 obtain ⟨a47,ha47,H⟩:=H
 refine gY 5 [49] rfl (fun _=>au rfl rfl ha47) ?_
 refine gT 6 [50] Z ?_
 refine gl 7 [51] Z H fun v48 H=>?_
 refine gC 8 [48,52] O48 (R48 _ _ _ _ H) fun r49 h50 H=>?_
 refine gZ ?_
 refine zX (zF [1] (zQ ?_))
 refine wL Z H fun v51 H=>?_
 refine wN H fun a52 _ H=>?_
 refine w1 Z ?_
 refine wL Z H fun v53 H=>?_
 refine wC O66 (R66 _ _ _ H) fun r54 h55 H=>?_
 refine w3 Z ?_
 refine wB Z H fun b56 h57 H=>?_
 refine wB Z H fun b58 h59 H=>?_
 refine wT Z H fun h60 H=>?_
 refine wT Z H fun h61 H=>?_
 refine zE (zF [1,3,4] (zQ ?_))
 refine wL Z H fun v62 H=>?_
 refine wY (Mk rfl rfl) ?_
 refine wC H7 (GK _ _ _ _ _ _ H) fun r63 h64 H=>?_
 refine w1 Z (zE (zQ ?_))
 refine w1 Z ?_
 refine wL Z H fun v65 H=>?_
 refine wC O49 (R49 _ _ _ H) fun r66 h67 H=>?_
 obtain ⟨l70,hl70,H⟩:=H
 refine wA (lW (s:=r63) (r:=r66) Z rfl rfl rfl rfl rfl hl70 H) ?_
 rintro _ h69 ⟨s68,rfl,H⟩
 refine w1 Z (zE (zF [2] (zT ?_)))
 exact aA _ rfl _ rfl ⟨s68,rfl,H⟩
theorem O14:aB prog 14:=ck func14
theorem R14 (p0 k h) (H:jm p0 k h):CallsH prog 14 #[.pointer p0] h (rS k):=by
 refine fE func14 fun w0=>?_
 refine zF [0] (zQ ?_)
 refine w1 Z (zE (zS (zQ ?_)))
 refine w2 Z (zE ?_)
 refine zI H ?_ ?_ <;> intro H
 refine zQ (w1 Z (zE (zT (yT ?_))))
 exact aA _ rfl _ rfl ⟨(⟨none,0,0⟩:Slc),rfl,H⟩
 refine zK (zX (zQ (w1 Z ?_)))
 refine wN H fun a1 ha1 H=>?_
 refine w1 Z ?_
 refine wL Z H fun v2 H=>?_
 refine w1 Z ?_
 refine wY (au rfl rfl ha1) ?_
 refine w1 Z ?_
 refine wT Z H fun h3 H=>?_
 refine zE (zF [0] (zS (zB (zQ ?_))))
 refine w1 Z ?_
 refine wY (au rfl rfl ha1) ?_
 refine w1 Z ?_
 refine wL Z H fun v4 H=>?_
 refine w2 Z ?_
 refine vJ 7 (α:=Bool) [0] (fun (s:Bool)=>[(25,.bool s)]) (fun (s:Bool) h=>fG p0 s k h) ?_ ?_
 rintro a_ h_1 H
 refine vF [25,0] ?_
 refine w1 Z (zE ?_)
 refine zI H ?_ ?_ <;> intro H
 refine zQ (w2 Z ?_)
 refine wY (Gq rfl rfl rfl) ?_
 refine wC BZ (Ce _ _ _ _ H) fun r5 h6 H=>?_
 refine w1 Z (zE (zF [2] (zT (yB (yT ?_)))))
 exact aA _ rfl _ rfl ⟨r5,rfl,H⟩
 refine zJ (α:=Bool) [0] (fun (s:Bool)=>[(30,.bool s)]) (fun (s:Bool) h=>dX p0 s k h) ?_ ?_
 rintro b_ h_2 H
 refine zF [30,0] ?_
 refine zI H ?_ ?_ <;> intro H
 refine zQ (w1 Z ?_)
 refine wC O44 (R44 _ _ _ H) fun r7 h8 H=>?_
 refine w1 Z (zE (zT (yB (yT ?_))))
 exact aA _ rfl _ rfl ⟨r7,rfl,H⟩
 refine zK (yL (zX (zQ (w1 Z (zE (zT ?_))))))
 exact aA _ rfl _ rfl ⟨(⟨none,0,0⟩:Slc),rfl,H⟩
 refine gB [0] ?_
 refine gT 0 [0] Z ?_
 obtain ⟨a9,ha9,H⟩:=H
 refine gY 1 [31] rfl (fun _=>au rfl rfl ha9) ?_
 refine gT 2 [32] Z ?_
 refine gl 3 [33] Z H fun v10 H=>?_
 refine gT 4 [34] Z ?_
 refine gT 5 [35] Z ?_
 refine gI 36 H (fun hb H=>?_) (fun hb H=>?_)
 refine gT 6 [0,36] Z ?_
 refine gY 7 [36,37] rfl (fun _=>au rfl rfl ha9) ?_
 refine gT 8 [36,38] Z ?_
 refine gl 9 [36,39] Z H fun v11 H=>?_
 refine gT 10 [0,36] Z ?_
 refine gCr 11 [36,41] O43 (R43 _ _ _ H) fun r12 h13 H=>?_
 obtain ⟨hy14,H⟩:=H
 refine gR rfl (bH Z rfl rfl rfl rfl hy14) ?_
 refine gZ0 ?_
 refine gT 12 [36,40,42] Z ?_
 refine gT 13 [36,43] Z ?_
 refine gT 14 [44] Z ?_
 refine gZ ?_
 exact xJ (decide (v11>=r12)) H
 refine gS 6 [0,36] ?_
 refine gS 7 [36,37] ?_
 refine gS 8 [36,38] ?_
 refine gS 9 [36,39] ?_
 refine gS 10 [0,36] ?_
 refine gS 11 [36,41] ?_
 refine gS 12 [36,40,42] ?_
 refine gT 13 [36,43] Z ?_
 refine gT 14 [44] Z ?_
 refine gZ ?_
 exact xJ false H
 refine vI 18 H ?_ ?_ <;> intro H
 refine w1 Z ?_
 refine wY (au rfl rfl ha1) ?_
 refine w1 Z ?_
 refine wL Z H fun v15 H=>?_
 refine w3 Z ?_
 exact wJ ((Int.tmod v15 3) == 0) H
 refine wS (wS (wS (wS (wS (wS (w1 Z ?_))))))
 exact wJ false H
theorem O23:aB prog 23:=ck func23
theorem R23 (p0 p1 k h) (H:fH p0 p1 k h):CallsH prog 23 #[.pointer p0,Slc.v p1] h (fun v h'=>∃ r:Int × Int,v = .tuple #[.int .u64 r.1,.int .i64 r.2]/\k r h'):=by
 refine fE func23 fun w0=>?_
 refine zF [0,1] (zQ ?_)
 refine w2 Z (zE (zS (zQ ?_)))
 refine w3 Z ?_
 refine vJ 6 (α:=Bool) [0,1] (fun (s:Bool)=>[(14,.bool s)]) (fun (s:Bool) h=>dL p0 p1 s k h) ?_ ?_
 rintro a_ h_1 H
 refine vF [14,0,1] (zE ?_)
 refine zI H ?_ ?_ <;> intro H
 refine zQ (w2 Z (zE (zT (yT ?_))))
 exact aA _ rfl _ rfl ⟨(0,18),rfl,H⟩
 refine zK (zX (zQ (w2 Z ?_)))
 refine wC O59 (R59 _ _ _ _ H) fun r1 h2 H=>?_
 refine w4 Z (zE (zF [4,5] (zT ?_)))
 exact aA _ rfl _ rfl ⟨(r1.1,r1.2),rfl,H⟩
 refine vI 8 H ?_ ?_ <;> intro H
 refine wS (wS (wS (wS (wS (w1 Z ?_)))))
 exact wJ true H
 refine w1 Z ?_
 refine wN H fun a3 _ H=>?_
 refine w1 Z ?_
 refine wL Z H fun v4 H=>?_
 refine w2 Z ?_
 exact wJ (v4 != 2) H
theorem O18:aB prog 18:=ck func18
theorem R18 (p0 k h) (H:dA p0 k h):CallsH prog 18 #[.pointer p0] h (rI .u64 k):=by
 refine fE func18 fun w0=>?_
 refine zF [0] (zQ ?_)
 refine w1 Z (zE (zS (zQ ?_)))
 refine w2 Z (zE ?_)
 refine zI H ?_ ?_ <;> intro H
 refine zQ (w1 Z (zE (zT (yT ?_))))
 exact aA _ rfl _ rfl ⟨0,rfl,H⟩
 refine zK (zX (zQ (w1 Z ?_)))
 refine wN H fun a1 _ H=>?_
 refine w1 Z ?_
 refine wL Z H fun v2 H=>?_
 refine w1 Z (zE (zF [2] (zT ?_)))
 exact aA _ rfl _ rfl ⟨v2,rfl,H⟩
theorem O25:aB prog 25:=ck func25
theorem R25 (p0 p1 k h) (H:jS p0 p1 k h):CallsH prog 25 #[.pointer p0,.int .u64 p1] h (fun v h'=>∃ r:ae × Int,v = .tuple #[.agg (ae.cs r.1).toArray,.int .i64 r.2]/\k r h'):=by
 refine fE func25 fun w0=>?_
 refine zF [0,1] (zQ ?_)
 refine wB Z H fun b1 h2 H=>?_
 refine w1 Z (zE (zS (zQ ?_)))
 refine w2 Z (zE ?_)
 refine zI H ?_ ?_ <;> intro H
 refine zQ ?_
 refine wY (cu Z rfl rfl rfl rfl rfl) ?_
 refine wTa Z H fun h3 H=>?_
 refine w1 Z (zE (zT (yT ?_)))
 obtain ⟨v4,hv4,H⟩:=H
 exact tH Z _ rfl [.agg (ae.cs v4).toArray,.int .i64 6] ⟨⟨_,_,rfl,rfl,.inr ⟨rfl,_,rfl,rfl,hv4⟩⟩,rfl,trivial⟩ ⟨(v4,6),rfl,H⟩
 refine zK (zX (zS (zQ (w1 Z ?_))))
 refine wN H fun a5 ha5 H=>?_
 refine w1 Z ?_
 refine wL Z H fun v6 H=>?_
 refine w1 Z ?_
 refine wC O60 (R60 _ _ _ _ H) fun r7 h8 H=>?_
 refine w5 Z (zE (zF [0,1,4,7] (zQ ?_)))
 refine w2 Z (zE ?_)
 refine zI H ?_ ?_ <;> intro H
 refine zQ ?_
 refine wY (cu Z rfl rfl rfl rfl rfl) ?_
 refine w1 Z ?_
 refine wTa Z H fun h9 H=>?_
 refine w1 Z (zE (zF [4,5] (zT (yT ?_))))
 obtain ⟨v10,hv10,H⟩:=H
 exact tH Z _ rfl [.agg (ae.cs v10).toArray,.int .i64 r7.2] ⟨⟨_,_,rfl,rfl,.inr ⟨rfl,_,rfl,rfl,hv10⟩⟩,rfl,trivial⟩ ⟨(v10,r7.2),rfl,H⟩
 refine zK (zX (zQ (w1 Z ?_)))
 refine wY (au rfl rfl ha5) ?_
 refine w1 Z ?_
 refine wL Z H fun v11 H=>?_
 refine w1 Z ?_
 refine wC O61 (R61 _ _ _ _ _ H) fun r12 h13 H=>?_
 refine w5 Z (zE (zF [4,8,9] (zS (zQ ?_))))
 refine w3 Z ?_
 refine vU 4 [4,8] [(41,.bool ((r12.2 != 0) || ((r12.1.len:Int) == 0)))] ?_ ?_
 refine zE ?_
 refine zI H ?_ ?_ <;> intro H
 refine zQ ?_
 refine wY (cu Z rfl rfl rfl rfl rfl) ?_
 refine wTa Z H fun h14 H=>?_
 refine w1 Z (zE (zT (yT ?_)))
 obtain ⟨v15,hv15,H⟩:=H
 exact tH Z _ rfl [.agg (ae.cs v15).toArray,.int .i64 13] ⟨⟨_,_,rfl,rfl,.inr ⟨rfl,_,rfl,rfl,hv15⟩⟩,rfl,trivial⟩ ⟨(v15,13),rfl,H⟩
 refine zK (zX (zQ (w1 Z ?_)))
 refine wD Z H fun a16 _ H=>?_
 refine wLa Z H fun v17 H=>?_
 refine wTa Z H fun h18 H=>?_
 refine w1 Z (zE (zT ?_))
 obtain ⟨v19,hv19,H⟩:=H
 exact tH Z _ rfl [.agg (ae.cs v19).toArray,.int .i64 0] ⟨⟨_,_,rfl,rfl,.inr ⟨rfl,_,rfl,rfl,hv19⟩⟩,rfl,trivial⟩ ⟨(v19,0),rfl,H⟩
 refine vG (d:=37) (fun hb=>?_) (fun hb=>?_)
 refine wS (wS (wS (w1 Z ?_)))
 refine vK ?_
 exact congrArg (fun b=>some (Value.bool b)) (Ag hb)
 refine w4 Z ?_
 refine vK ?_
 exact congrArg (fun b=>some (Value.bool b)) (Ah hb)
theorem O22:aB prog 22:=ck func22
theorem R22 (p0 k h) (H:gm p0 k h):CallsH prog 22 #[.pointer p0] h (rB k):=by
 refine fE func22 fun w0=>?_
 refine zF [0] (zQ ?_)
 refine w1 Z (zE (zQ ?_))
 refine w3 Z ?_
 refine vJ 6 (α:=Bool) [] (fun (s:Bool)=>[(11,.bool s)]) (fun (s:Bool) h=>lG s k h) ?_ ?_
 rintro a_ h_1 H
 refine vF [11] ?_
 refine w1 Z (zE (zT ?_))
 exact aA _ rfl _ rfl ⟨a_,rfl,H⟩
 refine vI 5 H ?_ ?_ <;> intro H
 refine w1 Z ?_
 refine wN H fun a1 _ H=>?_
 refine w1 Z ?_
 refine wL Z H fun v2 H=>?_
 refine w2 Z ?_
 exact wJ (v2 == 2) H
 refine wS (wS (wS (wS (wS (w1 Z ?_)))))
 exact wJ false H
theorem O16:aB prog 16:=ck func16
theorem R16 (p0 k h) (H:nz p0 k h):CallsH prog 16 #[.pointer p0] h (rI .i64 k):=by
 refine fE func16 fun w0=>?_
 refine zF [0] (zQ ?_)
 refine w1 Z (zE (zS (zQ ?_)))
 refine w2 Z (zE ?_)
 refine zI H ?_ ?_ <;> intro H
 refine zQ ?_
 refine wQ Z H fun x1 H=>?_
 refine zE (zT (yT ?_))
 exact aA _ rfl _ rfl ⟨x1,rfl,H⟩
 refine zK (zX (zQ (w1 Z ?_)))
 refine wN H fun a2 _ H=>?_
 refine w1 Z ?_
 refine wL Z H fun v3 H=>?_
 refine w1 Z (zE (zF [2] (zT ?_)))
 exact aA _ rfl _ rfl ⟨v3,rfl,H⟩
theorem O17:aB prog 17:=ck func17
theorem R17 (p0 k h) (H:fJ p0 k h):CallsH prog 17 #[.pointer p0] h (rI .u64 k):=by
 refine fE func17 fun w0=>?_
 refine zF [0] (zQ ?_)
 refine w1 Z (zE (zS (zQ ?_)))
 refine w2 Z (zE ?_)
 refine zI H ?_ ?_ <;> intro H
 refine zQ (w1 Z (zE (zT (yT ?_))))
 exact aA _ rfl _ rfl ⟨0,rfl,H⟩
 refine zK (zX (zQ (w1 Z ?_)))
 refine wN H fun a1 _ H=>?_
 refine w1 Z ?_
 refine wL Z H fun v2 H=>?_
 refine w1 Z (zE (zF [2] (zT ?_)))
 exact aA _ rfl _ rfl ⟨v2,rfl,H⟩
end Go.Q.Yi
end

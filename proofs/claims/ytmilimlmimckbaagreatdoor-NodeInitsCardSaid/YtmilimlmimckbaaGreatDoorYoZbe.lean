/- A part of the proof of statements of this seat: lemmas, no statement of their own. -/
import Derived.Test.YtmilimlmimckbaaGreatDoorYoZae
import Derived.Test.YtmilimlmimckbaaGreatDoorYoZaf
import Derived.Test.YtmilimlmimckbaaGreatDoorYoZay
import Derived.Test.YtmilimlmimckbaaGreatDoorYoZbc
import Derived.Test.YtmilimlmimckbaaGreatDoorYoZbd
import Derived.Test.YtmilimlmimckbaaGreatDoorYoZaw
import Derived.Test.YtmilimlmimckbaaGreatDoorYoZbb
import Derived.Test.YtmilimlmimckbaaGreatDoorYoZas
set_option linter.unusedVariables false
set_option linter.unusedSimpArgs false
set_option maxRecDepth 100000
set_option maxHeartbeats 1000000
section
namespace Go.Q.Yo
open Go.Proofs.Tryz
def zel (t0_2:Int) (t1_2:Int) (t2_2:Int) (t4_2:Slc) (t9_2:Addr) (t11_2:Addr) (t12_2:Addr) (t14_2:Addr) (t16_2:Addr) (t27_2:Int) (t28_2:Int) (k:(S_api_Mem × Int)->zaa->Prop) (nx1:(Int)->zaa->Prop) (h_2:zaa):Prop :=
  ∃ v16:Slc,zab h_2 (t14_2.add 76)=some (Slc.v v16)/\(∃ v17:S_api_Chain,CellsAt h_2 t16_2 (S_api_Chain.cs v17)/\(∃(b18:Nat) (h19:zaa),b18=h_2.size/\h19=h_2.push (.cells ((S_api_Chain.cs v17)).toArray 69)/\(App 69 33 40 [.int .u64 0,.int .u8 0,.int .u8 0,.int .u8 0,.int .u8 0,.int .u8 0,.int .u8 0,.int .u8 0,.int .u8 0,.int .u8 0,.int .u8 0,.int .u8 0,.int .u8 0,.int .u8 0,.int .u8 0,.int .u8 0,.int .u8 0,.int .u8 0,.int .u8 0,.int .u8 0,.int .u8 0,.int .u8 0,.int .u8 0,.int .u8 0,.int .u8 0,.int .u8 0,.int .u8 0,.int .u8 0,.int .u8 0,.int .u8 0,.int .u8 0,.int .u8 0,.int .u8 0] h19 v16 1 ((S_api_Chain.cs v17)) (fun s20 h21=>∃ h22:zaa,WrH h21 (t14_2.add 76)/\h22=zd7 h21 (t14_2.add 76) (Slc.v s20)/\(nx1 (IntKind.i64.wrap (t28_2+1)) h22)))))
def zke (t0_1:Int) (t1_1:Int) (t2_1:Int) (t4_1:Slc) (t9_1:Addr) (t11_1:Addr) (t12_1:Addr) (t14_1:Addr) (t27_1:Int) (t28_1:Int) (k:(S_api_Mem × Int)->zaa->Prop) (nx1:(Int)->zaa->Prop) (h_1:zaa):Prop :=
  if (decide (t28_1<t27_1)) then (∃(b13:Nat) (h14:zaa),b13=h_1.size/\h14=h_1.push (.cells (S_api_Chain.cs (⟨0,([]:List Int)⟩:S_api_Chain)).toArray 69)/\(∃ h15:zaa,WrsAt h14 (⟨b13,0,none⟩:Addr) 33/\h15=zak h14 (⟨b13,0,none⟩:Addr) 0 (S_api_Chain.cs (⟨0,([]:List Int)⟩:S_api_Chain))/\(if (t28_1 != t0_1) then (∃ v23:List Int,CellsAt h15 t11_1 (arr 32 .u8 v23)/\(zg7 v23 (⟨#[112,97,105,114]⟩:ByteArray) (zlj .u64 (shl .u64 (IntKind.u64.wrap (if t0_1<t28_1 then t0_1 else t28_1)) (8:Int).toNat) (IntKind.u64.wrap (if t0_1 > t28_1 then t0_1 else t28_1))) (fun(r24:List Int) h25=>∃ h26:zaa,WrsAt h25 ((⟨b13,0,none⟩:Addr).add 1) 32/\h26=zak h25 ((⟨b13,0,none⟩:Addr).add 1) 0 (arr 32 .u8 r24)/\(zel t0_1 t1_1 t2_1 t4_1 t9_1 t11_1 t12_1 t14_1 (⟨b13,0,none⟩:Addr) t27_1 t28_1 k nx1 h26)) h15)) else (zel t0_1 t1_1 t2_1 t4_1 t9_1 t11_1 t12_1 t14_1 (⟨b13,0,none⟩:Addr) t27_1 t28_1 k nx1 h15)))) else (∃ v27:S_api_Mem,CellsAt h_1 t14_1 (S_api_Mem.cs v27)/\(zfp v27 (fun(r28:Int) h29=>if (r28 != 0) then (∃ h30:zaa,WrsAt h29 t12_1 79/\h30=zak h29 t12_1 0 (S_api_Mem.cs (⟨0,0,0,0,0,(⟨0,([]:List Int)⟩:S_api_Share),([]:List Int),0,0,0,0,(⟨none,0,0⟩:Slc),(⟨none,0,0⟩:Slc),(⟨none,0,0⟩:Slc),(⟨none,0,0⟩:Slc),0⟩:S_api_Mem))/\(∃ v31:S_api_Mem,CellsAt h30 t12_1 (S_api_Mem.cs v31)/\k (v31,1) h30)) else (∃ v32:List Int,CellsAt h29 t9_1 (arr 32 .u8 v32)/\(zeg v32 t1_1 t2_1 t4_1 (fun(r33:Slc × Int) h34=>if (r33.2 != 0) then (∃ h35:zaa,WrsAt h34 t12_1 79/\h35=zak h34 t12_1 0 (S_api_Mem.cs (⟨0,0,0,0,0,(⟨0,([]:List Int)⟩:S_api_Share),([]:List Int),0,0,0,0,(⟨none,0,0⟩:Slc),(⟨none,0,0⟩:Slc),(⟨none,0,0⟩:Slc),(⟨none,0,0⟩:Slc),0⟩:S_api_Mem))/\(∃ v36:S_api_Mem,CellsAt h35 t12_1 (S_api_Mem.cs v36)/\k (v36,r33.2) h35)) else (∃ a37:Addr,r33.1.a=some a37/\(0:Int)<=t0_1/\t0_1<(r33.1.len:Int)/\(∃ v38:S_api_Share,CellsAt h34 (a37.add (t0_1.toNat*33)) (S_api_Share.cs v38)/\(∃ h39:zaa,WrsAt h34 (t14_1.add 5) 33/\h39=zak h34 (t14_1.add 5) 0 (S_api_Share.cs v38)/\(∃ v40:S_api_Mem,CellsAt h39 t14_1 (S_api_Mem.cs v40)/\(∃ h41:zaa,WrsAt h39 t12_1 79/\h41=zak h39 t12_1 0 (S_api_Mem.cs v40)/\(∃ v42:S_api_Mem,CellsAt h41 t12_1 (S_api_Mem.cs v42)/\k (v42,0) h41))))))) h29))) h_1))
def zlz (t0_1:Int) (t1_1:Int) (t2_1:Int) (t4_1:Slc) (t9_1:Addr) (t11_1:Addr) (t12_1:Addr) (t14_1:Addr) (t27_1:Int) (i28:Int) (k:(S_api_Mem × Int)->zaa->Prop) (h:zaa):Prop :=
  ∃(I:Int->zaa->Prop) (μ:Int->zaa->Nat),I i28 h/\∀(t28_1:Int) (h:zaa),I t28_1 h->zke t0_1 t1_1 t2_1 t4_1 t9_1 t11_1 t12_1 t14_1 t27_1 t28_1 k (fun s h'=>I s h'/\μ s h'<μ t28_1 h) h
def zlb (p0:Int) (p1:Int) (p2:Int) (p3:List Int) (p4:Slc) (p5:List Int) (k:(S_api_Mem × Int)->zaa->Prop) (h:zaa):Prop :=
  ∃(b1:Nat) (h2:zaa),b1=h.size/\h2=h.push (.cells (arr 32 .u8 p3).toArray 23)/\(∃(b3:Nat) (h4:zaa),b3=h2.size/\h4=h2.push (.cells (arr 32 .u8 p5).toArray 23)/\(∃(b5:Nat) (h6:zaa),b5=h4.size/\h6=h4.push (.cells (S_api_Mem.cs (⟨0,0,0,0,0,(⟨0,([]:List Int)⟩:S_api_Share),([]:List Int),0,0,0,0,(⟨none,0,0⟩:Slc),(⟨none,0,0⟩:Slc),(⟨none,0,0⟩:Slc),(⟨none,0,0⟩:Slc),0⟩:S_api_Mem)).toArray 34)/\(∃ v7:List Int,CellsAt h6 (⟨b1,0,none⟩:Addr) (arr 32 .u8 v7)/\(zf7 v7 (fun(r8:List Int) h9=>∃(b10:Nat) (h11:zaa),b10=h9.size/\h11=h9.push (.cells (S_api_Mem.cs (⟨0,0,0,0,0,(⟨0,([]:List Int)⟩:S_api_Share),([]:List Int),0,0,0,0,(⟨none,0,0⟩:Slc),(⟨none,0,0⟩:Slc),(⟨none,0,0⟩:Slc),(⟨none,0,0⟩:Slc),0⟩:S_api_Mem)).toArray 34)/\(∃ h12:zaa,WrsAt h11 (⟨b10,0,none⟩:Addr) 79/\h12=zak h11 (⟨b10,0,none⟩:Addr) 0 (S_api_Mem.cs (⟨p0,p1,p2,0,0,(⟨0,([]:List Int)⟩:S_api_Share),r8,0,0,0,0,(⟨none,0,0⟩:Slc),(⟨none,0,0⟩:Slc),(⟨none,0,0⟩:Slc),(⟨none,0,0⟩:Slc),0⟩:S_api_Mem))/\(zlz p0 p1 p2 p4 (⟨b1,0,none⟩:Addr) (⟨b3,0,none⟩:Addr) (⟨b5,0,none⟩:Addr) (⟨b10,0,none⟩:Addr) (if (if 32<p1 then 32 else p1) > 0 then (if 32<p1 then 32 else p1) else 0) 0 k h12))) h6))))
theorem O5:zad prog 5:=ck func5
theorem R5 (p0 p1 p2 p3 p4 p5 k h) (H:zlb p0 p1 p2 p3 p4 p5 k h):CallsH prog 5 #[.int .i64 p0,.int .i64 p1,.int .i64 p2,.agg (arr 32 .u8 p3).toArray,Slc.v p4,.agg (arr 32 .u8 p5).toArray] h (fun v h'=>∃ r:S_api_Mem × Int,v = .tuple #[.agg (S_api_Mem.cs r.1).toArray,.int .i64 r.2]/\k r h'):=by
 refine fE func5 fun w0=>?_;refine zF [0,1,2,3,4,5] (zQ ?_);refine wX H fun b1 h2 H=>?_;refine wX H fun b3 h4 H=>?_;refine wB tok H fun b5 h6 H=>?_;refine w1 tok (zE (zQ ?_));refine w3 tok ?_;refine wLa tok H fun v7 H=>?_;refine wC O14 (R14 _ _ _ H) fun r8 h9 H=>?_;refine wY (zer tok rfl rfl rfl rfl rfl) ?_;refine wB tok H fun b10 h11 H=>?_;refine wTa tok H fun h12 H=>?_;refine zE (zF [0,1,2,4,9,11,12,14] (zS (zQ ?_)));refine w4 tok (zE (zB ?_));obtain⟨I1,μ1,H0,HI⟩:=H;refine zO (σ:=Int) [0,1,2,4,9,11,12,14,27] (fun(s:Int)=>[(28,.int .i64 s)]) I1 μ1 0 H0 ?_;rintro t28_1 h_1 H;replace H:=HI t28_1 h_1 H;refine zF [28,0,1,2,4,9,11,12,14,27] (zQ ?_);refine w1 tok (zE (zS ?_));refine zI H ?_ ?_ <;> intro H
 refine zK (zX (zS (zB (zQ (w2 tok (zE (zQ ?_)))))));refine wY (zer tok rfl rfl rfl rfl rfl) ?_;refine wB tok H fun b13 h14 H=>?_;refine wTa tok H fun h15 H=>?_;refine zE ?_;refine zJ (α:=Unit) [0,1,2,4,9,11,12,14,16,27,28] (fun(s:Unit)=>[]) (fun(s:Unit) h=>zel p0 p1 p2 p4 (ad b1) (ad b3) (ad b5) (ad b10) (ad b13) (if (if 32<p1 then 32 else p1) > 0 then (if 32<p1 then 32 else p1) else 0) t28_1 k (fun s h'=>I1 s h'/\μ1 s h'<μ1 t28_1 h_1) h) ?_ ?_;rintro _ h_2 H;refine zF [0,1,2,4,9,11,12,14,16,27,28] (zR ?_);refine w1 tok ?_;refine wL tok H fun v16 H=>?_;refine wLa tok H fun v17 H=>?_;obtain⟨b18,h19,eb18,eh19,H⟩:=H;refine wH (ze7 tok rfl rfl rfl rfl rfl rfl rfl eb18 eh19) ?_;refine wA (zat (s:=v16) (r:=(⟨some ⟨b18,0,none⟩,1,1⟩:Slc)) tok rfl rfl rfl rfl rfl (zan eb18 eh19) H) ?_;rintro _ h21 ⟨s20,rfl,H⟩;refine w1 tok ?_;refine wT tok H fun h22 H=>?_;refine zL (zX (zF [0,1,2,4,9,11,12,14,27,28] (zR ?_)));refine w2 tok (zW ?_);exact xJ (IntKind.i64.wrap (t28_1+1)) H;refine zQ (w3 tok (zE ?_));refine zI H ?_ ?_ <;> intro H
 refine zR ?_;refine wLa tok H fun v23 H=>?_;refine w6 tok ?_;refine w4 tok ?_;refine wC O15 (R15 _ _ _ _ _ H) fun r24 h25 H=>?_;refine w1 tok ?_;refine wTa tok H fun h26 H=>?_;refine zW ?_;exact xJ () H;refine zK ?_;exact xJ () H;refine zY (yE (yE (yH (zX (zS (zQ ?_))))));refine wLa tok H fun v27 H=>?_;refine wC O16 (R16 _ _ _ H) fun r28 h29 H=>?_;refine w1 tok (zE ?_);refine zI H ?_ ?_ <;> intro H
 refine zQ ?_;refine wY (zer tok rfl rfl rfl rfl rfl) ?_;refine wTa tok H fun h30 H=>?_;refine w1 tok (zE (zF [12,13] (zT (yT ?_))));obtain⟨v31,hv31,H⟩:=H;exact zdz tok _ rfl [.agg (S_api_Mem.cs v31).toArray,.int .i64 1] ⟨⟨_,_,rfl,rfl,.inr ⟨rfl,_,rfl,rfl,hv31⟩⟩,rfl,trivial⟩ ⟨(v31,1),rfl,H⟩;refine zK (zX (zF [0,1,2,4,9,12,14] (zQ ?_)));refine wLa tok H fun v32 H=>?_;refine w3 tok ?_;refine wC O17 (R17 _ _ _ _ _ _ H) fun r33 h34 H=>?_;refine w5 tok (zE (zF [0,12,14,17,18] (zS (zQ ?_))));refine w2 tok (zE ?_);refine zI H ?_ ?_ <;> intro H
 refine zQ ?_;refine wY (zer tok rfl rfl rfl rfl rfl) ?_;refine w1 tok ?_;refine wTa tok H fun h35 H=>?_;refine w1 tok (zE (zF [12,13] (zT (yT ?_))));obtain⟨v36,hv36,H⟩:=H;exact zdz tok _ rfl [.agg (S_api_Mem.cs v36).toArray,.int .i64 r33.2] ⟨⟨_,_,rfl,rfl,.inr ⟨rfl,_,rfl,rfl,hv36⟩⟩,rfl,trivial⟩ ⟨(v36,r33.2),rfl,H⟩;refine zK (zX (zQ (w2 tok ?_)));refine wD tok H fun a37 _ H=>?_;refine wLa tok H fun v38 H=>?_;refine w1 tok ?_;refine wTa tok H fun h39 H=>?_;refine zE (zF [12,14] (zQ ?_));refine wLa tok H fun v40 H=>?_;refine wTa tok H fun h41 H=>?_;refine w1 tok (zE (zT ?_));obtain⟨v42,hv42,H⟩:=H;exact zdz tok _ rfl [.agg (S_api_Mem.cs v42).toArray,.int .i64 0] ⟨⟨_,_,rfl,rfl,.inr ⟨rfl,_,rfl,rfl,hv42⟩⟩,rfl,trivial⟩ ⟨(v42,0),rfl,H⟩
end Go.Q.Yo
end
section
namespace Go.Q.Yo
open Go.Q.Sg
def zfl:List Int:=sB (⟨#[112,97,105,114]⟩:ByteArray)
def fP (me i:Int):Int:=zlj .u64 (shl .u64 (IntKind.u64.wrap (if me<i then me else i)) (8:Int).toNat) (IntKind.u64.wrap (if me > i then me else i))
theorem qr8 (me i:Int):0<=fP me i:=by unfold fP zlj;rw [zji];omega
theorem Sid.of_upd' {B b c:Nat} {x y:zaa} (p:Upd c x y) (hc:B<=c) (hB:B<=x.size):Sid B b x y:=⟨p.size,fun i h1 _=>p.block i (by omega) (by omega)⟩
theorem Sid.ext {B b C:Nat} {h h':zaa} (p:Sid B b h h') (hC:C<=b) (hB:C<=B):Ext C h h':=⟨p.size,fun i hi=>p.block i (by omega) (by omega)⟩
theorem qpl (me n t x:Int) (p:List Int) (s:Slc):S_api_Mem.cs (zio me n t x [] p s)=S_api_Mem.cs (zio me n t x z32 p s):=by
 rw [zhp,zhp];have:S_api_Share.cs ⟨x,[]⟩=S_api_Share.cs ⟨x,z32⟩:=rfl;rw [this]
theorem qc6 (D:List Int):(S_api_Chain.cs ⟨0,([]:List Int)⟩).take 1++arr 32 .u8 D++(S_api_Chain.cs ⟨0,([]:List Int)⟩).drop (1+(arr 32 .u8 D).length)=S_api_Chain.cs ⟨0,D⟩:=by
 rw [List.drop_of_length_le (by rw [ch_len,zaj];exact Nat.le_refl _),List.append_nil];rfl
theorem zzj {s cs:List Int} {n t:Int} {N T:Nat} (hn:n=N) (ht:t=T) {p3:Slc} {k:Slc × Int->zaa->Prop} {h:zaa} (ls:s.length=32) (sB':isB s) (t1:1<=T) (tn:T<=N) (n1:N<=255) (C:SlcAt h p3 (b8 cs)) (lc:p3.len=cs.length) (cB:isB cs) (hl:cs.length<=100000)
  (H:∀ s' h',LsAt S_api_Share.cs 33 h' s' (zn8 cs s T N)->Ext h.size h h'->k (s',0) h'):zeg s n t p3 k h:=by
 subst hn ht;exact qaf ls sB' t1 tn n1 C lc cB hl H
def good (me n t:Int):Prop:=1<=n/\0<=me/\me<n/\1<=t/\t<=n
theorem qfk {me n t:Int} {s p5 cs:List Int} {p4:Slc} {k:S_api_Mem × Int->zaa->Prop} {h:zaa} (r:R0 h) (hm:-9223372036854775808<=me/\me<9223372036854775808) (hn:-9223372036854775808<=n/\n<9223372036854775808) (ht:-9223372036854775808<=t/\t<9223372036854775808)
  (n8:n<=8) (ls:s.length=32) (sB':isB s) (l5:p5.length=32) (C:SlcAt h p4 (b8 cs)) (lc:p4.len=cs.length) (cB:isB cs) (hl:cs.length<=100)
  (Hbad:¬ good me n t->∀ h',Ext h.size h h'->k (zio 0 0 0 0 [] [] zj8,1) h')
  (Hgood:good me n t->∀ h' s',LsAt S_api_Chain.cs 33 h' s' (chs me p5 zfl (fP me) n.toNat)->Ext h.size h h'->k (zio me n t ((me.toNat+1:Nat):Int) (shY (me.toNat+1) cs s t.toNat) (zlf s proofB) s',0) h') :
  zlb me n t s p4 p5 k h:=by
 have r0:=r.pos;unfold zlb;refine bx0 fun h2 P2 X2=>bx0 fun h4 P4 X4=>bx0 fun h6 P6 X6=>?_;have z2:=X2.size;have z4:=X4.size;have z6:=X6.size;have b2:=P2.lt;have b4:=P4.lt;have b6:=P6.lt;have S6:=(P2.ext X4 (by omega)).ext X6 (by omega);have V6:=P4.ext X6 (by omega);have X06:Ext h.size h h6:=X2.trans ((X4.mono z2).trans (X6.mono (by omega)));refine⟨s,CellsAt.of_blk S6,?_⟩;refine qay (r.ext X06 r0) ls fun h9 X9=>?_;have z9:=X9.size;obtain⟨pr,epr⟩:∃ q,q=zlf s proofB:=⟨_,rfl⟩
 have lp:pr.length=32:=by rw [epr];exact ze5 _ _
 have pB:isB pr:=by rw [epr];exact qdl _ _
 rw [← epr] at Hgood ⊢;refine bx (cs:=S_api_Mem.cs (zio me n t 0 [] pr zj8)) (by rw [zb0];exact(zb0 0 0 0 0 [] [] zj8).symm) (Nat.le_of_eq (zb0 0 0 0 0 [] [] zj8).symm) fun h12 P12 X12=>?_;have z12:=X12.size;have b12:=P12.lt;have S12:=(S6.ext X9 (by omega)).ext X12 (by omega);have V12:=(V6.ext X9 (by omega)).ext X12 (by omega);have O12:=(P6.ext X9 (by omega)).ext X12 (by omega);have X012:Ext h.size h h12:=X06.trans ((X9.mono (by omega)).trans (X12.mono (by omega)));obtain⟨b1,e1⟩:∃ b,b=h.size:=⟨_,rfl⟩
 obtain⟨b3,e3⟩:∃ b,b=h2.size:=⟨_,rfl⟩
 obtain⟨b5,e5⟩:∃ b,b=h4.size:=⟨_,rfl⟩
 obtain⟨bM,eM⟩:∃ b,b=h9.size:=⟨_,rfl⟩
 rw [← eM] at P12 b12 ⊢;rw [← e5] at O12 b6 ⊢;rw [← e3] at V12 b4 ⊢;rw [show (⟨h.size,0,none⟩:Addr)=⟨b1,0,none⟩ from by rw [e1]];rw [← e1] at S12;obtain⟨B,eB⟩:∃ b,b=h12.size:=⟨_,rfl⟩
 have e27:(if (if 32<n then 32 else n) > 0 then (if 32<n then 32 else n) else 0)=((n.toNat:Nat):Int):=by
  rw [if_neg (show ¬ (32<n) by omega)];split <;> omega
 rw [e27];unfold zlz
 refine⟨fun j h'=>∃ i:Nat,j=i/\i<=n.toNat/\∃ s',Blk h' bM (S_api_Mem.cs (zio me n t 0 [] pr s')) 34/\Row B h' 69 33 s' ((chs me p5 zfl (fP me) i).flatMap S_api_Chain.cs)/\s'.len=i/\Sid B bM h12 h',fun j _=>((n.toNat:Int)-j).toNat,
  ⟨0,rfl,by omega,zj8,P12,Row.nil _ _ _ _,rfl,Sid.refl _ _ _⟩,?_⟩
 rintro j h1 ⟨i,rfl,hi,s',M,R,li,D⟩;have ds:=D.size;have X01:Ext h.size h h1:=X012.trans (D.ext (by omega) (by omega));unfold zke;by_cases c:i<n.toNat
 ·rw [if_pos (by rw [decide_eq_true_eq];omega)]
  refine bx (cs:=S_api_Chain.cs ⟨0,([]:List Int)⟩) rfl (by rw [ch_len];exact Nat.le_refl _) fun h15 P15 X15=>?_;have z15:=X15.size;have b15:=P15.lt;have M15:=M.ext X15 M.lt;have R15:=R.ext X15 fun g hg=>(R.bd hg).2;have D15:Sid B bM h12 h15:=D.trans (Sid.of_ext (X15.mono (by omega)));have w1:IntKind.i64.wrap ((i:Int)+1)=((i+1:Nat):Int):=by rw [zac (by omega) (by omega)];omega
  obtain⟨bc,ec⟩:∃ b,b=h1.size:=⟨_,rfl⟩
  rw [← ec] at P15 b15 ⊢;by_cases q:(i:Int)=me
  ·rw [if_neg (by simp;exact q)]
   unfold zel;refine qau (c:=⟨0,z32⟩) M15 (by omega) (by omega) R15 (by rw [li,zcg]) (by rw [zcg];omega) P15 fun s20 h22 M22 R22 l22 D22=>?_;rw [w1];have es:chs me p5 zfl (fP me) (i+1)=chs me p5 zfl (fP me) i++[⟨0,z32⟩]:=by rw [zmt,if_pos q]
   rw [← es] at R22 l22;exact⟨⟨i+1,rfl,by omega,s20,M22,R22,by rw [l22,zcg],D15.trans D22⟩,by dsimp only;omega⟩
  ·rw [if_pos (by simp;exact q)]
   refine⟨p5,CellsAt.of_blk ((D15.blk V12 (by omega) (by omega))),?_⟩;refine zyu (r.ext (X01.trans (X15.mono (by have:=X01.size;omega))) r0) l5 (by decide) (qr8 me i) fun h25 X25=>?_;have z25:=X25.size;refine qaa (P15.ext X25 (by omega)) (zaj _ _ _).symm (by rw [zaj,ch_len];decide) fun h26 P26 U26=>?_;rw [qc6] at P26;have D26:Sid B bM h15 h26:=(Sid.of_ext (X25.mono (by omega))).trans (Sid.of_upd' U26 (by omega) (by omega));have M26:=U26.blk (M15.ext X25 M15.lt) (by omega);have R26:Row B h26 69 33 s' ((chs me p5 zfl (fP me) i).flatMap S_api_Chain.cs):=(R15.ext X25 fun g hg=>(R15.bd hg).2).keep fun g hg=>U26.block g (by have:=(R15.bd hg).2;omega) (by have:=(R.bd hg).2;omega);have z26:=U26.size;unfold zel;refine qau (c:=⟨0,zro p5 zfl (fP me i)⟩) M26 (by omega) (by omega) R26 (by rw [li,zcg]) (by rw [zcg];omega) P26 fun s20 h22 M22 R22 l22 D22=>?_;rw [w1];have es:chs me p5 zfl (fP me) (i+1)=chs me p5 zfl (fP me) i++[⟨0,zro p5 zfl (fP me i)⟩]:=by rw [zmt,if_neg q]
   rw [← es] at R22 l22;exact⟨⟨i+1,rfl,by omega,s20,M22,R22,by rw [l22,zcg],D15.trans (D26.trans D22)⟩,by dsimp only;omega⟩
 ·rw [if_neg (by rw [decide_eq_true_eq];omega)]
  have ei:i=n.toNat:=by omega
  have lsR:=Rw.ls_of_slc ch_len R.slc (by rw [li,zcg]) (by decide);have M':=M;rw [qpl] at M';refine⟨zio me n t 0 z32 pr s',CellsAt.of_blk M',?_⟩;have W:=zxf (x:=0) (y:=z32) (p:=pr) (c:=chT (chs me p5 zfl (fP me) i)) hm hn ht (by decide) qbl (by decide) pB lp qea (by rw [List.length_map,zcg];omega);refine qeq (ztg lsR) W fun h29 X29=>?_;have z29:=X29.size;have X029:Ext h.size h h29:=X01.trans (X29.mono X01.size);have O29:=(D.blk O12 (by omega) (by omega)).ext X29 (by omega);by_cases g:good me n t
  ·have lcn:((chT (chs me p5 zfl (fP me) i)).length:Int)=n:=by rw [List.length_map,zcg];have:=g.1;omega
   rw [qbe W g (by omega) lcn,if_neg (by decide)];obtain⟨g1,g2,g3,g4,g5⟩:=g;refine⟨s,CellsAt.of_blk ((D.blk S12 (by omega) (by omega)).ext X29 (by omega)),?_⟩;refine zzj (N:=n.toNat) (T:=t.toNat) (by omega) (by omega) ls sB' (by omega) (by omega) (by omega) (C.ext X029) lc cB (by omega) fun s33 h34 L33 X34=>?_;have z34:=X34.size;rw [if_neg (by simp)];obtain⟨a,v,ea,i0,i1,ev,ca⟩:=L33.it g2 (by simp [zn8];omega)
   have ev':v=⟨((me.toNat+1:Nat):Int),shY (me.toNat+1) cs s t.toNat⟩:=by
    unfold zn8 at ev;rw [List.getElem?_map,List.getElem?_range (by omega)] at ev;exact(Option.some.inj ev).symm
   refine⟨a,ea,i0,i1,v,ca,?_⟩;have M34:=(M.ext X29 M.lt).ext X34 (by omega);refine qaa M34 (zbi v).symm (by rw [zbi,zb0];decide) fun h39 M39 U39=>?_;rw [qds] at M39;refine⟨_,CellsAt.of_blk M39,?_⟩;have O39:=U39.blk (O29.ext X34 (by omega)) (by omega);refine zz2 (cs:=S_api_Mem.cs (zio me n t v.f_X v.f_Y pr s')) O39 (by rw [zb0];exact(zb0 0 0 0 0 [] [] zj8).symm) (Nat.le_of_eq (zb0 0 0 0 0 [] [] zj8).symm) fun h41 O41 U41=>?_;refine⟨_,CellsAt.of_blk O41,?_⟩
   have R41:Row B h41 69 33 s' ((chs me p5 zfl (fP me) n.toNat).flatMap S_api_Chain.cs):=by
    rw [← ei];refine((R.ext X29 fun g hg=>(R.bd hg).2).ext X34 fun g hg=>by have:=(R.bd hg).2;omega).keep fun g hg=>?_;have q1:=(R.bd hg).1;have q2:=(R.bd hg).2;have u39:=U39.size;rw [U41.block g (by omega) (by omega),U39.block g (by omega) (by omega)]
   have L41:=Rw.ls_of_slc ch_len R41.slc (by rw [li,zcg,ei]) (by decide);have u39:=U39.size;have:=Hgood ⟨g1,g2,g3,g4,g5⟩ h41 s' L41 (X029.trans ((X34.mono (by have:=X029.size;omega)).trans ((U39.ext (by omega) (by have:=X029.size;omega)).trans (U41.ext (by omega) (by have:=X029.size;omega)))));rw [ev'];exact this
  ·rw [qhl g,if_pos (by decide)]
   refine zz2 (cs:=S_api_Mem.cs (zio 0 0 0 0 [] [] zj8)) O29 rfl (Nat.le_of_eq (zb0 0 0 0 0 [] [] zj8).symm) fun h30 O30 U30=>?_;exact⟨zio 0 0 0 0 [] [] zj8,CellsAt.of_blk O30,Hbad g h30 (X029.trans (U30.ext (by omega) X029.size))⟩
end Go.Q.Yo
end
section
namespace Go.Q.Yo
open Go.Proofs.Tryz
def zdk (t0_3:Int) (t1_3:Int) (t2_3:Int) (t4_3:Slc) (t9_3:Addr) (t11_3:Addr) (t12_3:Addr) (t13_3:Addr) (t16_3:Int) (t17_3:Addr) (k:(S_api_Mem)->zaa->Prop) (nx1:(Int)->zaa->Prop) (nx2:(Int)->zaa->Prop) (h_3:zaa):Prop :=
  ∃ v21:Slc,zab h_3 (t13_3.add 76)=some (Slc.v v21)/\(∃ v22:S_api_Chain,CellsAt h_3 t17_3 (S_api_Chain.cs v22)/\(∃(b23:Nat) (h24:zaa),b23=h_3.size/\h24=h_3.push (.cells ((S_api_Chain.cs v22)).toArray 69)/\(App 69 33 40 [.int .u64 0,.int .u8 0,.int .u8 0,.int .u8 0,.int .u8 0,.int .u8 0,.int .u8 0,.int .u8 0,.int .u8 0,.int .u8 0,.int .u8 0,.int .u8 0,.int .u8 0,.int .u8 0,.int .u8 0,.int .u8 0,.int .u8 0,.int .u8 0,.int .u8 0,.int .u8 0,.int .u8 0,.int .u8 0,.int .u8 0,.int .u8 0,.int .u8 0,.int .u8 0,.int .u8 0,.int .u8 0,.int .u8 0,.int .u8 0,.int .u8 0,.int .u8 0,.int .u8 0] h24 v21 1 ((S_api_Chain.cs v22)) (fun s25 h26=>∃ h27:zaa,WrH h26 (t13_3.add 76)/\h27=zd7 h26 (t13_3.add 76) (Slc.v s25)/\(∃ x28:Int,x28=(IntKind.i64.wrap (t16_3+1))/\(nx2 x28 h27))))))
def zjn (t0_2:Int) (t1_2:Int) (t2_2:Int) (t4_2:Slc) (t9_2:Addr) (t11_2:Addr) (t12_2:Addr) (t13_2:Addr) (t16_2:Int) (k:(S_api_Mem)->zaa->Prop) (nx1:(Int)->zaa->Prop) (nx2:(Int)->zaa->Prop) (h_2:zaa):Prop :=
  if (decide (t16_2<t1_2)) then (∃(b18:Nat) (h19:zaa),b18=h_2.size/\h19=h_2.push (.cells (S_api_Chain.cs (⟨0,([]:List Int)⟩:S_api_Chain)).toArray 69)/\(∃ h20:zaa,WrsAt h19 (⟨b18,0,none⟩:Addr) 33/\h20=zak h19 (⟨b18,0,none⟩:Addr) 0 (S_api_Chain.cs (⟨0,([]:List Int)⟩:S_api_Chain))/\(if (t16_2 != t0_2) then (∃ v29:List Int,CellsAt h20 t11_2 (arr 32 .u8 v29)/\(zfy v29 (⟨#[112,97,105,114]⟩:ByteArray) (IntKind.u64.wrap (IntKind.i64.wrap ((IntKind.i64.wrap (256*(if t0_2<t16_2 then t0_2 else t16_2)))+(if t0_2 > t16_2 then t0_2 else t16_2)))) (fun(r30:List Int) h31=>∃ h32:zaa,WrsAt h31 ((⟨b18,0,none⟩:Addr).add 1) 32/\h32=zak h31 ((⟨b18,0,none⟩:Addr).add 1) 0 (arr 32 .u8 r30)/\(zdk t0_2 t1_2 t2_2 t4_2 t9_2 t11_2 t12_2 t13_2 t16_2 (⟨b18,0,none⟩:Addr) k nx1 nx2 h32)) h20)) else (zdk t0_2 t1_2 t2_2 t4_2 t9_2 t11_2 t12_2 t13_2 t16_2 (⟨b18,0,none⟩:Addr) k nx1 nx2 h20)))) else (∃ v33:List Int,CellsAt h_2 t9_2 (arr 32 .u8 v33)/\(zfd v33 (IntKind.u8.wrap (IntKind.i64.wrap (t0_2+1))) t2_2 t4_2 (fun(r34:S_api_Share) h35=>∃ h36:zaa,WrsAt h35 (t13_2.add 5) 33/\h36=zak h35 (t13_2.add 5) 0 (S_api_Share.cs r34)/\(∃ v37:S_api_Mem,CellsAt h36 t13_2 (S_api_Mem.cs v37)/\(∃ h38:zaa,WrsAt h36 t12_2 79/\h38=zak h36 t12_2 0 (S_api_Mem.cs v37)/\(∃ v39:S_api_Mem,CellsAt h38 t12_2 (S_api_Mem.cs v39)/\k v39 h38)))) h_2))
def zkj (t0_2:Int) (t1_2:Int) (t2_2:Int) (t4_2:Slc) (t9_2:Addr) (t11_2:Addr) (t12_2:Addr) (t13_2:Addr) (i16:Int) (k:(S_api_Mem)->zaa->Prop) (nx1:(Int)->zaa->Prop) (h:zaa):Prop :=
  ∃(I:Int->zaa->Prop) (μ:Int->zaa->Nat),I i16 h/\∀(t16_2:Int) (h:zaa),I t16_2 h->zjn t0_2 t1_2 t2_2 t4_2 t9_2 t11_2 t12_2 t13_2 t16_2 k nx1 (fun s h'=>I s h'/\μ s h'<μ t16_2 h) h
def zjl (t0_1:Int) (t1_1:Int) (t2_1:Int) (t4_1:Slc) (t9_1:Addr) (t11_1:Addr) (t12_1:Addr) (t13_1:Addr) (t14_1:Slc) (t15_1:Int) (k:(S_api_Mem)->zaa->Prop) (nx1:(Int)->zaa->Prop) (h_1:zaa):Prop :=
  if (decide (t15_1<32)) then (∃ a13:Addr,t14_1.a=some a13/\(0:Int)<=t15_1/\t15_1<(t14_1.len:Int)/\(∃ v14:Int,zab h_1 (a13.add (t15_1.toNat*1))=some (.int .u8 v14)/\((0:Int)<=t15_1/\t15_1<(32:Int)/\(∃ h16:zaa,WrH h_1 ((t13_1.add 38).add (t15_1.toNat*1))/\h16=zd7 h_1 ((t13_1.add 38).add (t15_1.toNat*1)) (.int .u8 v14)/\(∃ x17:Int,x17=(IntKind.i64.wrap (t15_1+1))/\(nx1 x17 h16)))))) else (zkj t0_1 t1_1 t2_1 t4_1 t9_1 t11_1 t12_1 t13_1 0 k nx1 h_1)
def zk4 (t0_1:Int) (t1_1:Int) (t2_1:Int) (t4_1:Slc) (t9_1:Addr) (t11_1:Addr) (t12_1:Addr) (t13_1:Addr) (t14_1:Slc) (i15:Int) (k:(S_api_Mem)->zaa->Prop) (h:zaa):Prop :=
  ∃(I:Int->zaa->Prop) (μ:Int->zaa->Nat),I i15 h/\∀(t15_1:Int) (h:zaa),I t15_1 h->zjl t0_1 t1_1 t2_1 t4_1 t9_1 t11_1 t12_1 t13_1 t14_1 t15_1 k (fun s h'=>I s h'/\μ s h'<μ t15_1 h) h
def zi8 (p0:Int) (p1:Int) (p2:Int) (p3:List Int) (p4:Slc) (p5:List Int) (k:(S_api_Mem)->zaa->Prop) (h:zaa):Prop :=
  ∃(b1:Nat) (h2:zaa),b1=h.size/\h2=h.push (.cells (arr 32 .u8 p3).toArray 22)/\(∃(b3:Nat) (h4:zaa),b3=h2.size/\h4=h2.push (.cells (arr 32 .u8 p5).toArray 22)/\(∃(b5:Nat) (h6:zaa),b5=h4.size/\h6=h4.push (.cells (S_api_Mem.cs (⟨0,0,0,0,0,(⟨0,([]:List Int)⟩:S_api_Share),([]:List Int),0,0,0,0,(⟨none,0,0⟩:Slc),(⟨none,0,0⟩:Slc),(⟨none,0,0⟩:Slc),(⟨none,0,0⟩:Slc),0⟩:S_api_Mem)).toArray 34)/\(∃(b7:Nat) (h8:zaa),b7=h6.size/\h8=h6.push (.cells (S_api_Mem.cs (⟨0,0,0,0,0,(⟨0,([]:List Int)⟩:S_api_Share),([]:List Int),0,0,0,0,(⟨none,0,0⟩:Slc),(⟨none,0,0⟩:Slc),(⟨none,0,0⟩:Slc),(⟨none,0,0⟩:Slc),0⟩:S_api_Mem)).toArray 34)/\(∃ h9:zaa,WrsAt h8 (⟨b7,0,none⟩:Addr) 79/\h9=zak h8 (⟨b7,0,none⟩:Addr) 0 (S_api_Mem.cs (⟨p0,p1,p2,0,0,(⟨0,([]:List Int)⟩:S_api_Share),([]:List Int),0,0,0,0,(⟨none,0,0⟩:Slc),(⟨none,0,0⟩:Slc),(⟨none,0,0⟩:Slc),(⟨none,0,0⟩:Slc),0⟩:S_api_Mem))/\(∃ v10:List Int,CellsAt h9 (⟨b1,0,none⟩:Addr) (arr 32 .u8 v10)/\(zhg v10 (fun(r11:Slc) h12=>zk4 p0 p1 p2 p4 (⟨b1,0,none⟩:Addr) (⟨b3,0,none⟩:Addr) (⟨b5,0,none⟩:Addr) (⟨b7,0,none⟩:Addr) r11 0 k h12) h9))))))
theorem O7:zad prog 7:=ck func7
theorem R7 (p0 p1 p2 p3 p4 p5 k h) (H:zi8 p0 p1 p2 p3 p4 p5 k h):CallsH prog 7 #[.int .i64 p0,.int .i64 p1,.int .i64 p2,.agg (arr 32 .u8 p3).toArray,Slc.v p4,.agg (arr 32 .u8 p5).toArray] h (fun v h'=>∃ r:S_api_Mem,v = .agg (S_api_Mem.cs r).toArray/\k r h'):=by
 refine fE func7 fun w0=>?_;refine zF [0,1,2,3,4,5] (zQ ?_);refine wX H fun b1 h2 H=>?_;refine wX H fun b3 h4 H=>?_;refine wB tok H fun b5 h6 H=>?_;refine zE (zQ (w3 tok ?_));refine wY (zer tok rfl rfl rfl rfl rfl) ?_;refine wB tok H fun b7 h8 H=>?_;refine wTa tok H fun h9 H=>?_;refine zE (zQ ?_);refine wLa tok H fun v10 H=>?_;refine wC O20 (R20 _ _ _ H) fun r11 h12 H=>?_;refine w1 tok (zE (zF [0,1,2,4,9,11,12,13,14] (zS (zQ ?_))));refine w1 tok (zE (zB ?_));obtain⟨I1,μ1,H0,HI⟩:=H;refine zO (σ:=Int) [0,1,2,4,9,11,12,13,14] (fun(s:Int)=>[(15,.int .i64 s)]) I1 μ1 0 H0 ?_;rintro t15_1 h_1 H;replace H:=HI t15_1 h_1 H;refine zF [15,0,1,2,4,9,11,12,13,14] (zS (zQ ?_));refine w2 tok (zE ?_);refine zI H ?_ ?_ <;> intro H
 refine zK (zX (zS (zB (zR (w3 tok ?_)))));refine wD tok H fun a13 _ H=>?_;refine wL tok H fun v14 H=>?_;refine w1 tok ?_;obtain⟨lb15,ub15,H⟩:=H;refine wY (zbw tok rfl rfl rfl rfl rfl lb15 ub15) ?_;refine wT tok H fun h16 H=>?_;refine zL (zX (zF [15,0,1,2,4,9,11,12,13,14] (zR ?_)));refine w2 tok ?_;obtain⟨x17,ex17,H⟩:=H;refine zdg tok rfl (congrArg (fun z=>(.int .i64 z:Value)) ex17) rfl rfl ?_;refine zW ?_;exact xJ x17 H;refine zY (yE (yE (yH (zX (zS (zQ (w1 tok (zE (zB ?_)))))))));obtain⟨I2,μ2,H0,HI⟩:=H;refine zO (σ:=Int) [0,1,2,4,9,11,12,13] (fun(s:Int)=>[(16,.int .i64 s)]) I2 μ2 0 H0 ?_;rintro t16_2 h_2 H;replace H:=HI t16_2 h_2 H;refine zF [16,0,1,2,4,9,11,12,13] (zS (zQ ?_));refine w3 tok (zE ?_);refine zI H ?_ ?_ <;> intro H
 refine zK (zX (zS (zB (zQ ?_))));refine wY (zer tok rfl rfl rfl rfl rfl) ?_;refine wB tok H fun b18 h19 H=>?_;refine wTa tok H fun h20 H=>?_;refine zE ?_;refine zJ (α:=Unit) [0,1,2,4,9,11,12,13,16,17] (fun(s:Unit)=>[]) (fun(s:Unit) h=>zdk p0 p1 p2 p4 (ad b1) (ad b3) (ad b5) (ad b7) t16_2 (ad b18) k (fun s h'=>I1 s h'/\μ1 s h'<μ1 t15_1 h_1) (fun s h'=>I2 s h'/\μ2 s h'<μ2 t16_2 h_2) h) ?_ ?_;rintro _ h_3 H;refine zF [0,1,2,4,9,11,12,13,16,17] (zR ?_);refine w1 tok ?_;refine wL tok H fun v21 H=>?_;refine wLa tok H fun v22 H=>?_;obtain⟨b23,h24,eb23,eh24,H⟩:=H;refine wH (ze7 tok rfl rfl rfl rfl rfl rfl rfl eb23 eh24) ?_;refine wA (zat (s:=v21) (r:=(⟨some ⟨b23,0,none⟩,1,1⟩:Slc)) tok rfl rfl rfl rfl rfl (zan eb23 eh24) H) ?_;rintro _ h26 ⟨s25,rfl,H⟩;refine w1 tok ?_;refine wT tok H fun h27 H=>?_;refine zL (zX (zF [0,1,2,4,9,11,12,13,16] (zR ?_)));refine w2 tok ?_;obtain⟨x28,ex28,H⟩:=H;refine zdg tok rfl (congrArg (fun z=>(.int .i64 z:Value)) ex28) rfl rfl ?_;refine zW ?_;exact xJ x28 H;refine zQ (w3 tok (zE ?_));refine zI H ?_ ?_ <;> intro H
 refine zR ?_;refine wLa tok H fun v29 H=>?_;refine w6 tok ?_;refine w3 tok ?_;refine wC O21 (R21 _ _ _ _ _ H) fun r30 h31 H=>?_;refine w1 tok ?_;refine wTa tok H fun h32 H=>?_;refine zW ?_;exact xJ () H;refine zK ?_;exact xJ () H;refine zY (yE (yE (yH (zX (zQ ?_)))));refine wLa tok H fun v33 H=>?_;refine w5 tok ?_;refine wC O22 (R22 _ _ _ _ _ _ H) fun r34 h35 H=>?_;refine w1 tok ?_;refine wTa tok H fun h36 H=>?_;refine zE (zF [12,13] (zQ ?_));refine wLa tok H fun v37 H=>?_;refine wTa tok H fun h38 H=>?_;refine zE (zT ?_);obtain⟨v39,hv39,H⟩:=H;exact zdz tok _ rfl [.agg (S_api_Mem.cs v39).toArray] ⟨⟨_,_,rfl,rfl,.inr ⟨rfl,_,rfl,rfl,hv39⟩⟩,trivial⟩ ⟨v39,rfl,H⟩
end Go.Q.Yo
end
section
namespace Go.Q.Yo
open Go.Q.Sg
def fD (me i:Int):Int:=IntKind.u64.wrap (IntKind.i64.wrap ((IntKind.i64.wrap (256*(if me<i then me else i)))+(if me > i then me else i)))
theorem qql (me i:Int):0<=fD me i/\fD me i<18446744073709551616:=by unfold fD;rw [zji];omega
theorem qjf:∀ a,a<8->∀ b,b<8->fD ((a:Nat):Int) ((b:Nat):Int)=fP a b:=by decide
theorem qox {me i:Int} (h0:0<=me) (h1:me<8) (i0:0<=i) (i1:i<8):fD me i=fP me i:=by
 have:=qjf me.toNat (by omega) i.toNat (by omega);rw [Int.toNat_of_nonneg h0,Int.toNat_of_nonneg i0] at this;exact this
theorem qlv {me:Int} {p5 lab:List Int} {N:Nat} (h0:0<=me) (h1:me<8) (hN:N<=8):chs me p5 lab (fD me) N=chs me p5 lab (fP me) N:=by
 unfold chs;refine List.map_congr_left fun i hi=>?_;have:=List.mem_range.1 hi;rw [qox h0 h1 (by omega) (by omega)]
theorem zvo {s cs:List Int} {x t:Int} {X T:Nat} (hx':x=X) (ht':t=T) {p3:Slc} {k:S_api_Share->zaa->Prop} {h:zaa} (ls:s.length=32) (sB':isB s) (hx:X<256) (t1:1<=T) (t2:T<=1000) (C:SlcAt h p3 (b8 cs)) (lc:p3.len=cs.length) (cB:isB cs) (hl:cs.length<=100000)
  (H:∀ h',Ext h.size h h'->k ⟨X,shY X cs s T⟩ h'):zfd s x t p3 k h:=by
 subst hx' ht';exact zyc ls sB' hx t1 t2 C lc cB hl H
theorem qaj {me n t:Int} {s p5 cs:List Int} {p4:Slc} {k:S_api_Mem->zaa->Prop} {h:zaa} (n8:n<=8) (ls:s.length=32) (sB':isB s) (l5:p5.length=32) (C:SlcAt h p4 (b8 cs)) (lc:p4.len=cs.length) (cB:isB cs) (hl:cs.length<=100) (g:good me n t)
  (H:∀ h' s',LsAt S_api_Chain.cs 33 h' s' (chs me p5 zfl (fP me) n.toNat)->Ext h.size h h'->k (zio me n t ((me.toNat+1:Nat):Int) (shY (me.toNat+1) cs s t.toNat) (zlf s proofB) s') h') :
  zi8 me n t s p4 p5 k h:=by
 obtain⟨g1,g2,g3,g4,g5⟩:=g;unfold zi8;refine bx0 fun h2 P2 X2=>bx0 fun h4 P4 X4=>bx0 fun h6 P6 X6=>?_;have z2:=X2.size;have z4:=X4.size;have z6:=X6.size;have b2:=P2.lt;have b4:=P4.lt;have b6:=P6.lt;refine bx (cs:=S_api_Mem.cs (zio me n t 0 [] [] zj8)) (by rw [zb0];exact(zb0 0 0 0 0 [] [] zj8).symm) (Nat.le_of_eq (zb0 0 0 0 0 [] [] zj8).symm) fun h9 P9 X9=>?_;have z9:=X9.size;have b9:=P9.lt;have S9:=((P2.ext X4 (by omega)).ext X6 (by omega)).ext X9 (by omega);have V9:=(P4.ext X6 (by omega)).ext X9 (by omega);have O9:=P6.ext X9 (by omega);have X09:Ext h.size h h9:=X2.trans ((X4.mono z2).trans ((X6.mono (by omega)).trans (X9.mono (by omega))));obtain⟨b1,e1⟩:∃ b,b=h.size:=⟨_,rfl⟩
 obtain⟨b3,e3⟩:∃ b,b=h2.size:=⟨_,rfl⟩
 obtain⟨b5,e5⟩:∃ b,b=h4.size:=⟨_,rfl⟩
 obtain⟨bM,eM⟩:∃ b,b=h6.size:=⟨_,rfl⟩
 rw [← eM] at P9 b9 ⊢;rw [← e5] at O9 b6 ⊢;rw [← e3] at V9 b4 ⊢;rw [show (⟨h.size,0,none⟩:Addr)=⟨b1,0,none⟩ from by rw [e1]];rw [← e1] at S9;refine⟨s,CellsAt.of_blk S9,?_⟩;refine zv5 ls fun s11 h12 R12 X12=>?_;have z12:=X12.size;obtain⟨pr,epr⟩:∃ q,q=zlf s proofB:=⟨_,rfl⟩
 have lp:pr.length=32:=by rw [epr];exact ze5 _ _
 rw [← epr] at H R12;have M12:=P9.ext X12 b9;have l11:s11.len=32:=by rw [rpb R12,lp]
 unfold zk4;refine⟨fun j h'=>∃ i:Nat,j=i/\i<=32/\Blk h' bM (S_api_Mem.cs (zio me n t 0 [] (pr.take i) zj8)) 34/\Upd bM h12 h',fun j _=>(32-j).toNat,⟨0,rfl,by omega,M12,Upd.refl _ _⟩,?_⟩;rintro j h1 ⟨i,rfl,hi,M,U⟩;have us:=U.size;unfold zjl;by_cases c:i<32
 ·rw [if_pos (by rw [decide_eq_true_eq];omega)]
  obtain⟨a,ea,ec⟩:=R12.at (j:=i) (by omega);have eb:h9.size<=a.block/\a.block<h12.size:=R12.bd (g:=a.block) (by simp [Slc.blk,ea])
  have ev:(b8 pr)[i]? = some (.int .u8 (pr.getD i 0)):=by
   rw [List.getElem?_map,List.getD_eq_getElem?_getD,List.getElem?_eq_getElem (by omega)];rfl
  rw [ev] at ec;refine⟨a,ea,by omega,by omega,pr.getD i 0,?_,by omega,by omega,?_⟩
  ·rw [Nat.mul_one,Int.toNat_natCast,← ec]
   exact zi3 (a:=a.add i) (U.block _ (by rw [zf8];omega) (by rw [zf8];omega))
  ·rw [Nat.mul_one,Int.toNat_natCast,Rw.add_add2]
   refine zn9 M (by rw [zb0];omega) fun h16 M16 U16=>?_;rw [qmq lp _ _ _ _ _ _ c] at M16;rw [show IntKind.i64.wrap ((i:Int)+1)=((i+1:Nat):Int) from by rw [zac (by omega) (by omega)];omega];exact⟨_,rfl,⟨i+1,rfl,by omega,M16,U.trans U16⟩,by dsimp only;omega⟩
 ·rw [if_neg (by rw [decide_eq_true_eq];omega)]
  rw [List.take_of_length_le (by rw [lp];omega)] at M;have X91:Ext bM h9 h1:=(X12.mono (by omega)).trans (U.ext (Nat.le_refl _) (by omega));have S1:=S9.ext X91 (by omega);have V1:=V9.ext X91 (by omega);have O1:=O9.ext X91 (by omega);have X01:Ext h.size h h1:=X09.trans (X91.mono (by omega));have b1':=M.lt;obtain⟨B,eB⟩:∃ b,b=h1.size:=⟨_,rfl⟩
  clear X12 U R12 M12;unfold zkj
  refine⟨fun j h'=>∃ i:Nat,j=i/\i<=n.toNat/\∃ s',Blk h' bM (S_api_Mem.cs (zio me n t 0 [] pr s')) 34/\Row B h' 69 33 s' ((chs me p5 zfl (fD me) i).flatMap S_api_Chain.cs)/\s'.len=i/\Sid B bM h1 h',fun j _=>((n.toNat:Int)-j).toNat,
   ⟨0,rfl,by omega,zj8,M,Row.nil _ _ _ _,rfl,Sid.refl _ _ _⟩,?_⟩
  rintro j hh ⟨i,rfl,hi,s',M,R,li,D⟩;have ds:=D.size;have X0h:Ext h.size h hh:=X01.trans (D.ext (by omega) (by omega));unfold zjn;by_cases c:i<n.toNat
  ·rw [if_pos (by rw [decide_eq_true_eq];omega)]
   refine bx (cs:=S_api_Chain.cs ⟨0,([]:List Int)⟩) rfl (by rw [ch_len];exact Nat.le_refl _) fun h15 P15 X15=>?_;have z15:=X15.size;have b15:=P15.lt;have M15:=M.ext X15 M.lt;have R15:=R.ext X15 fun g hg=>(R.bd hg).2;have D15:Sid B bM h1 h15:=D.trans (Sid.of_ext (X15.mono (by omega)));have w1:IntKind.i64.wrap ((i:Int)+1)=((i+1:Nat):Int):=by rw [zac (by omega) (by omega)];omega
   obtain⟨bc,ec⟩:∃ b,b=hh.size:=⟨_,rfl⟩
   rw [← ec] at P15 b15 ⊢;by_cases q:(i:Int)=me
   ·rw [if_neg (by simp;exact q)]
    unfold zdk;refine qau (c:=⟨0,z32⟩) M15 (by omega) (by omega) R15 (by rw [li,zcg]) (by rw [zcg];omega) P15 fun s20 h22 M22 R22 l22 D22=>?_;rw [w1];have es:chs me p5 zfl (fD me) (i+1)=chs me p5 zfl (fD me) i++[⟨0,z32⟩]:=by rw [zmt,if_pos q]
    rw [← es] at R22 l22;exact⟨_,rfl,⟨i+1,rfl,by omega,s20,M22,R22,by rw [l22,zcg],D15.trans D22⟩,by dsimp only;omega⟩
   ·rw [if_pos (by simp;exact q)]
    refine⟨p5,CellsAt.of_blk ((D15.blk V1 (by omega) (by omega))),?_⟩;refine zvh l5 (by decide) (qql me i).1 (qql me i).2 fun h25 X25=>?_;have z25:=X25.size;refine qaa (P15.ext X25 (by omega)) (zaj _ _ _).symm (by rw [zaj,ch_len];decide) fun h26 P26 U26=>?_;rw [qc6] at P26;have D26:Sid B bM h15 h26:=(Sid.of_ext (X25.mono (by omega))).trans (Sid.of_upd' U26 (by omega) (by omega));have M26:=U26.blk (M15.ext X25 M15.lt) (by omega);have R26:Row B h26 69 33 s' ((chs me p5 zfl (fD me) i).flatMap S_api_Chain.cs):=(R15.ext X25 fun g hg=>(R15.bd hg).2).keep fun g hg=>U26.block g (by have:=(R15.bd hg).2;omega) (by have:=(R.bd hg).2;omega);have z26:=U26.size;unfold zdk;refine qau (c:=⟨0,zro p5 zfl (fD me i)⟩) M26 (by omega) (by omega) R26 (by rw [li,zcg]) (by rw [zcg];omega) P26 fun s20 h22 M22 R22 l22 D22=>?_;rw [w1];have es:chs me p5 zfl (fD me) (i+1)=chs me p5 zfl (fD me) i++[⟨0,zro p5 zfl (fD me i)⟩]:=by rw [zmt,if_neg q]
    rw [← es] at R22 l22;exact⟨_,rfl,⟨i+1,rfl,by omega,s20,M22,R22,by rw [l22,zcg],D15.trans (D26.trans D22)⟩,by dsimp only;omega⟩
  ·rw [if_neg (by rw [decide_eq_true_eq];omega)]
   have ei:i=n.toNat:=by omega
   refine⟨s,CellsAt.of_blk (D.blk S1 (by omega) (by omega)),?_⟩;have wx:IntKind.u8.wrap (IntKind.i64.wrap (me+1))=((me.toNat+1:Nat):Int):=by rw [zac (by omega) (by omega),zqu (by omega) (by omega)];omega
   refine zvo wx (T:=t.toNat) (by omega) ls sB' (by omega) (by omega) (by omega) (C.ext X0h) lc cB (by omega) fun h35 X35=>?_;have z35:=X35.size;refine qaa (M.ext X35 M.lt) (zbi _).symm (by rw [zbi,zb0];decide) fun h36 M36 U36=>?_;rw [qds] at M36;have u36:=U36.size;have O36:=U36.blk ((D.blk O1 (by omega) (by omega)).ext X35 (by omega)) (by omega);refine⟨_,CellsAt.of_blk M36,?_⟩;refine zz2 (cs:=S_api_Mem.cs (zio me n t ((me.toNat+1:Nat):Int) (shY (me.toNat+1) cs s t.toNat) pr s')) O36 (by rw [zb0];exact(zb0 0 0 0 0 [] [] zj8).symm) (Nat.le_of_eq (zb0 0 0 0 0 [] [] zj8).symm) fun h38 O38 U38=>?_;refine⟨_,CellsAt.of_blk O38,?_⟩
   have R38:Row B h38 69 33 s' ((chs me p5 zfl (fP me) n.toNat).flatMap S_api_Chain.cs):=by
    rw [← qlv g2 (by omega) (by omega),← ei];refine(R.ext X35 fun g hg=>(R.bd hg).2).keep fun g hg=>?_;have q1:=(R.bd hg).1;have q2:=(R.bd hg).2;rw [U38.block g (by omega) (by omega),U36.block g (by omega) (by omega)]
   have L38:=Rw.ls_of_slc ch_len R38.slc (by rw [li,zcg,ei]) (by decide);have x0:=X0h.size;exact H h38 s' L38 (X0h.trans ((X35.mono (by omega)).trans ((U36.ext (by omega) (by omega)).trans (U38.ext (by omega) (by omega)))))
end Go.Q.Yo
end
section
namespace Go.V
open Go.Q
noncomputable section
theorem qd5 {α:Type} {d f i:Nat} {v:Option α} {t:T α (d+1)} (hi:i<3*4 ^ d) (hf:3*4 ^ d<=f):gt (d+1) f (st (d+1) i v t)=gt (d+1) f t:=by
 have hp:0<4 ^ d:=Nat.pow_pos (by decide);have h1:3<=f / 4 ^ d:=(Nat.le_div_iff_mul_le hp).2 hf;have h2:i / 4 ^ d<3:=Nat.div_lt_of_lt_mul (by omega);unfold gt st pk0;simp only;generalize i / 4 ^ d=p at *;generalize f / 4 ^ d=q at *;have c1:p=0∨p=1∨p=2:=by omega
 rw [if_pos (show 2<=q by omega),if_pos h1,if_pos (show 2<=q by omega),if_pos h1];rcases c1 with rfl | rfl | rfl <;> rfl
theorem zxx {α:Type} {f:Nat} (hf:768<=f):∀(l:List α) (i:Nat) (t:T α DT),i+l.length<=768->gt DT f (ofL l i t)=gt DT f t
 | [],i,t,_=>rfl
 | x :: r,i,t,h=>by
  have e:ofL (x :: r) i t=(up DT i).x (T α DT) t (some x) fun t=>zb3 (Nat.succ i) fun i=>ofL r i t:=rfl;rw [e,up_eq,natK_eq];simp only [List.length_cons] at h;rw [zxx hf r (i+1) _ (by omega)];exact qd5 (d:=4) (by omega) hf
theorem qhy {α:Type} {l:List α} (hl:l.length<=768) {f:Nat} {v:α} (h:gt DT f (ofL l 0 (mt α DT))=some v):l[f]? = some v:=by
 by_cases hf:768<=f
 ·rw [zxx hf l 0 _ (by omega),zmk] at h;cases h
 ·rcases qee l 0 (mt α DT) (by show 0+l.length<=4 ^ 5;have:(4:Nat) ^ 5=1024:=rfl;omega) f v (by show f<4 ^ 5;have:(4:Nat) ^ 5=1024:=rfl;omega) h with⟨_,h1⟩ | h1
  ·rw [Nat.sub_zero] at h1;exact h1
  ·rw [zmk] at h1;cases h1
theorem qi0 (p:Nat × TI) (l:List (Nat × TI)):ofT (p :: l)=st DT p.1 (some p.2) (ofT l):=by
 have e:ofT (p :: l)=(up DT p.1).x (T TI DT) (ofT l) (some p.2) fun t=>t:=rfl;rw [e,up_eq]
theorem zsg:∀ {l:List (Nat × TI)},(∀ p∈l,p.1<768)->∀ {t:Nat} {i:TI},gt DT t (ofT l)=some i->tlk l t=some i
 | [],_,t,i,h=>by
  have h':gt DT t (mt TI DT)=some i:=h
  rw [zmk] at h';cases h'
 | (s,j) :: l,hl,t,i,h=>by
  rw [qi0] at h;have hs:s<768:=hl (s,j) (by simp);have hr:∀ p∈l,p.1<768:=fun p hp=>hl p (by simp [hp]);by_cases hst:s=t
  ·subst hst
   rw [zht] at h
   cases h
   simp [tlk]
  ·have h2:gt DT t (ofT l)=some i:=by
    by_cases hf:768<=t
    ·rw [← h];exact(qd5 (d:=4) hs hf).symm
    ·rw [← h];exact(zar DT s t _ _ (by show s<4 ^ 5;have:(4:Nat) ^ 5=1024:=rfl;omega) (by show t<4 ^ 5;have:(4:Nat) ^ 5=1024:=rfl;omega) hst).symm
   have:=zsg hr h2;have hb:Nat.beq s t=false:=by rw [← Bool.not_eq_true];simpa using hst
   simp only [tlk,hb,this]
theorem qdh {m t n:Nat} (hm:m<2 ^ n) (h:Nat.testBit m t=true):t<n:=by
 apply Classical.byContradiction;intro hn;rw [Nat.testBit_lt_two_pow (Nat.lt_of_lt_of_le hm (Nat.pow_le_pow_right (by decide) (Nat.le_of_not_lt hn)))] at h
 cases h
end
end Go.V
end

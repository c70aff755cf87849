/- A part of the proof of statements of this seat: lemmas, no statement of their own. -/
import Derived.Test.YtmilimlmimckbaaGreatDoorYoZae
import Derived.Test.YtmilimlmimckbaaGreatDoorYoZaf
import Derived.Test.YtmilimlmimckbaaGreatDoorYoZah
import Derived.Test.YtmilimlmimckbaaGreatDoorYoZag
import Derived.Test.YtmilimlmimckbaaGreatDoorYoZad
import Derived.Test.YtmilimlmimckbaaGreatDoorYoZba
import Derived.Test.YtmilimlmimckbaaGreatDoorYoZas
set_option linter.unusedVariables false
set_option linter.unusedSimpArgs false
set_option maxRecDepth 100000
set_option maxHeartbeats 1000000
section
namespace Go.Q.Yo
open Go.Proofs.Tryz
def zem (t0_2:Int) (t1_2:Int) (t6_2:Int) (t5_2:Int) (k:(Int)->zaa->Prop) (nx1:(Int × Int)->zaa->Prop) (h_2:zaa):Prop :=
  ∃ x1:Int,x1=(IntKind.i64.wrap (t6_2+1))/\(nx1 (t5_2,x1) h_2)
def zef (t7_4:Int) (t5_4:Int) (k:(Int)->zaa->Prop) (nx1:(Int × Int)->zaa->Prop) (nx3:(Int × Int)->zaa->Prop) (h_4:zaa):Prop :=
  ∃ x6:Int,x6=(IntKind.i64.wrap (t7_4-1))/\(nx3 (t5_4,x6) h_4)
def zkp (t5_3:Int) (t7_3:Int) (k:(Int)->zaa->Prop) (nx1:(Int × Int)->zaa->Prop) (nx3:(Int × Int)->zaa->Prop) (h_3:zaa):Prop :=
  if (decide (t7_3>=8)) then ((0:Int)<=t7_3/\((shl .i64 1 t7_3.toNat)≠0/\(if ((Int.tmod (IntKind.i64.wrap (Int.tdiv t5_3 (shl .i64 1 t7_3.toNat))) 2)==1) then ((0:Int)<=(IntKind.i64.wrap (t7_3-8))/\(∃ x10:Int,x10=(zaq .i64 t5_3 (IntKind.i64.wrap (283*(shl .i64 1 (IntKind.i64.wrap (t7_3-8)).toNat))))/\(zef t7_3 x10 k nx1 nx3 h_3))) else (zef t7_3 t5_3 k nx1 nx3 h_3)))) else (∃ x11:Int,x11=(IntKind.u8.wrap t5_3)/\(k x11 h_3))
def zl4 (i5:Int) (i7:Int) (k:(Int)->zaa->Prop) (nx1:(Int × Int)->zaa->Prop) (h:zaa):Prop :=
  ∃(I:(Int × Int)->zaa->Prop) (μ:(Int × Int)->zaa->Nat),I (i5,i7) h/\∀(t5_3:Int) (t7_3:Int) (h:zaa),I (t5_3,t7_3) h->zkp t5_3 t7_3 k nx1 (fun s h'=>I s h'/\μ s h'<μ (t5_3,t7_3) h) h
def zkg (t0_1:Int) (t1_1:Int) (t5_1:Int) (t6_1:Int) (k:(Int)->zaa->Prop) (nx1:(Int × Int)->zaa->Prop) (h_1:zaa):Prop :=
  if (decide (t6_1<8)) then ((0:Int)<=t6_1/\((shl .i64 1 t6_1.toNat)≠0/\(if ((Int.tmod (IntKind.i64.wrap (Int.tdiv (IntKind.i64.wrap t1_1) (shl .i64 1 t6_1.toNat))) 2)==1) then ((0:Int)<=t6_1/\(∃ x5:Int,x5=(zaq .i64 t5_1 (IntKind.i64.wrap ((IntKind.i64.wrap t0_1)*(shl .i64 1 t6_1.toNat))))/\(zem t0_1 t1_1 t6_1 x5 k nx1 h_1))) else (zem t0_1 t1_1 t6_1 t5_1 k nx1 h_1)))) else (zl4 t5_1 14 k nx1 h_1)
def zma (t0_1:Int) (t1_1:Int) (i5:Int) (i6:Int) (k:(Int)->zaa->Prop) (h:zaa):Prop :=
  ∃(I:(Int × Int)->zaa->Prop) (μ:(Int × Int)->zaa->Nat),I (i5,i6) h/\∀(t5_1:Int) (t6_1:Int) (h:zaa),I (t5_1,t6_1) h->zkg t0_1 t1_1 t5_1 t6_1 k (fun s h'=>I s h'/\μ s h'<μ (t5_1,t6_1) h) h
def zis (p0:Int) (p1:Int) (k:(Int)->zaa->Prop) (h:zaa):Prop :=
  zma p0 p1 0 0 k h
def zk8 (t0_1:Int) (t1_1:Int) (t5_1:Int) (t6_1:Int) (k:(Int)->zaa->Prop) (nx1:(Int × Int)->zaa->Prop) (h_1:zaa):Prop :=
  if (decide (t6_1<t1_1)) then (zis t5_1 t0_1 (fun(r1:Int) h2=>∃ x3:Int,x3=(IntKind.i64.wrap (t6_1+1))/\(nx1 (r1,x3) h2)) h_1) else (k t5_1 h_1)
def zl7 (t0_1:Int) (t1_1:Int) (i5:Int) (i6:Int) (k:(Int)->zaa->Prop) (h:zaa):Prop :=
  ∃(I:(Int × Int)->zaa->Prop) (μ:(Int × Int)->zaa->Nat),I (i5,i6) h/\∀(t5_1:Int) (t6_1:Int) (h:zaa),I (t5_1,t6_1) h->zk8 t0_1 t1_1 t5_1 t6_1 k (fun s h'=>I s h'/\μ s h'<μ (t5_1,t6_1) h) h
def zkf (p0:Int) (p1:Int) (k:(Int)->zaa->Prop) (h:zaa):Prop :=
  zl7 p0 p1 1 0 k h
def zh6 (t1_2:Int) (t2_2:Int) (t3_2:Slc) (t4_2:Addr) (t8_2:Addr) (t9_2:Addr) (t10_2:Int) (t11_2:Int) (t12_2:Int) (k:(S_api_Share)->zaa->Prop) (nx1:(Int)->zaa->Prop) (nx2:(Int × Int)->zaa->Prop) (h_2:zaa):Prop :=
  if ((decide (t12_2<t2_2))&&(decide ((IntKind.i64.wrap ((IntKind.i64.wrap (32*(IntKind.i64.wrap (t12_2-1))))+t10_2))<(t3_2.len:Int)))) then (∃ a10:Addr,t3_2.a=some a10/\(0:Int)<=(IntKind.i64.wrap ((IntKind.i64.wrap (32*(IntKind.i64.wrap (t12_2-1))))+t10_2))/\(IntKind.i64.wrap ((IntKind.i64.wrap (32*(IntKind.i64.wrap (t12_2-1))))+t10_2))<(t3_2.len:Int)/\(∃ v11:Int,zab h_2 (a10.add ((IntKind.i64.wrap ((IntKind.i64.wrap (32*(IntKind.i64.wrap (t12_2-1))))+t10_2)).toNat*1))=some (.int .u8 v11)/\(zkf t1_2 t12_2 (fun(r12:Int) h13=>zab h13 (a10.add ((IntKind.i64.wrap ((IntKind.i64.wrap (32*(IntKind.i64.wrap (t12_2-1))))+t10_2)).toNat*1))=some (.int .u8 v11)/\(zis v11 r12 (fun(r15:Int) h16=>∃ x17:Int,x17=(IntKind.i64.wrap (t12_2+1))/\(nx2 ((zaq .u8 t11_2 r15),x17) h16)) h13)) h_2))) else ((0:Int)<=t10_2/\t10_2<(32:Int)/\(∃ h19:zaa,WrH h_2 ((t9_2.add 1).add (t10_2.toNat*1))/\h19=zd7 h_2 ((t9_2.add 1).add (t10_2.toNat*1)) (.int .u8 t11_2)/\(∃ x20:Int,x20=(IntKind.i64.wrap (t10_2+1))/\(nx1 x20 h19))))
def zjw (t1_2:Int) (t2_2:Int) (t3_2:Slc) (t4_2:Addr) (t8_2:Addr) (t9_2:Addr) (t10_2:Int) (i11:Int) (i12:Int) (k:(S_api_Share)->zaa->Prop) (nx1:(Int)->zaa->Prop) (h:zaa):Prop :=
  ∃(I:(Int × Int)->zaa->Prop) (μ:(Int × Int)->zaa->Nat),I (i11,i12) h/\∀(t11_2:Int) (t12_2:Int) (h:zaa),I (t11_2,t12_2) h->zh6 t1_2 t2_2 t3_2 t4_2 t8_2 t9_2 t10_2 t11_2 t12_2 k nx1 (fun s h'=>I s h'/\μ s h'<μ (t11_2,t12_2) h) h
def zim (t1_1:Int) (t2_1:Int) (t3_1:Slc) (t4_1:Addr) (t8_1:Addr) (t9_1:Addr) (t10_1:Int) (k:(S_api_Share)->zaa->Prop) (nx1:(Int)->zaa->Prop) (h_1:zaa):Prop :=
  if (decide (t10_1<32)) then ((0:Int)<=t10_1/\t10_1<(32:Int)/\(∃ v9:Int,zab h_1 (t4_1.add (t10_1.toNat*1))=some (.int .u8 v9)/\(zjw t1_1 t2_1 t3_1 t4_1 t8_1 t9_1 t10_1 v9 1 k nx1 h_1))) else (∃ v21:S_api_Share,CellsAt h_1 t9_1 (S_api_Share.cs v21)/\(∃ h22:zaa,WrsAt h_1 t8_1 33/\h22=zak h_1 t8_1 0 (S_api_Share.cs v21)/\(∃ v23:S_api_Share,CellsAt h22 t8_1 (S_api_Share.cs v23)/\k v23 h22)))
def zju (t1_1:Int) (t2_1:Int) (t3_1:Slc) (t4_1:Addr) (t8_1:Addr) (t9_1:Addr) (i10:Int) (k:(S_api_Share)->zaa->Prop) (h:zaa):Prop :=
  ∃(I:Int->zaa->Prop) (μ:Int->zaa->Nat),I i10 h/\∀(t10_1:Int) (h:zaa),I t10_1 h->zim t1_1 t2_1 t3_1 t4_1 t8_1 t9_1 t10_1 k (fun s h'=>I s h'/\μ s h'<μ t10_1 h) h
def zfd (p0:List Int) (p1:Int) (p2:Int) (p3:Slc) (k:(S_api_Share)->zaa->Prop) (h:zaa):Prop :=
  ∃(b1:Nat) (h2:zaa),b1=h.size/\h2=h.push (.cells (arr 32 .u8 p0).toArray 22)/\(∃(b3:Nat) (h4:zaa),b3=h2.size/\h4=h2.push (.cells (S_api_Share.cs (⟨0,([]:List Int)⟩:S_api_Share)).toArray 28)/\(∃(b5:Nat) (h6:zaa),b5=h4.size/\h6=h4.push (.cells (S_api_Share.cs (⟨0,([]:List Int)⟩:S_api_Share)).toArray 28)/\(∃ h7:zaa,WrsAt h6 (⟨b5,0,none⟩:Addr) 33/\h7=zak h6 (⟨b5,0,none⟩:Addr) 0 (S_api_Share.cs (⟨p1,([]:List Int)⟩:S_api_Share))/\(zju p1 p2 p3 (⟨b1,0,none⟩:Addr) (⟨b3,0,none⟩:Addr) (⟨b5,0,none⟩:Addr) 0 k h7))))
theorem O51:zad prog 51:=ck func51
theorem R51 (p0 p1 k h) (H:zis p0 p1 k h):CallsH prog 51 #[.int .u8 p0,.int .u8 p1] h (fun v h'=>∃ r:Int,v = .int .u8 r/\k r h'):=by
 refine fE func51 fun w0=>?_;refine zF [0,1] (zQ ?_);refine w1 tok (zE (zQ ?_));refine w1 tok (zE (zS (zQ ?_)));refine w1 tok (zE (zB ?_));obtain⟨I1,μ1,H0,HI⟩:=H;refine zO (σ:=Int × Int) [0,1] (fun(s:Int × Int)=>[(5,.int .i64 s.1),(6,.int .i64 s.2)]) I1 μ1 (0,0) H0 ?_;rintro⟨t5_1,t6_1⟩ h_1 H;replace H:=HI t5_1 t6_1 h_1 H;refine zF [5,6,0,1] (zS (zQ ?_));refine w2 tok (zE ?_);refine zI H ?_ ?_ <;> intro H
 refine zK (zX ?_);refine zJ (α:=Int) [0,1,6] (fun(s:Int)=>[(5,.int .i64 s)]) (fun(s:Int) h=>zem p0 p1 t6_1 s k (fun s h'=>I1 s h'/\μ1 s h'<μ1 (t5_1,t6_1) h_1) h) ?_ ?_;rintro t5_2 h_2 H;refine zF [5,0,1,6] (zR ?_);refine w2 tok ?_;obtain⟨x1,ex1,H⟩:=H;refine zdg tok rfl (congrArg (fun z=>(.int .i64 z:Value)) ex1) rfl rfl ?_;refine zW ?_;exact xJ (t5_2,x1) H;refine zB (zQ (w3 tok ?_));obtain⟨z2,H⟩:=H;refine wY (zvq rfl rfl rfl z2) ?_;obtain⟨z3,H⟩:=H;refine wY (qi8 rfl rfl rfl z3) ?_;refine w2 tok (zE (zF [5,6,0,1,18] ?_));refine zI H ?_ ?_ <;> intro H
 refine zR (w4 tok ?_);obtain⟨z4,H⟩:=H;refine wY (zvq rfl rfl rfl z4) ?_;refine w2 tok ?_;obtain⟨x5,ex5,H⟩:=H;refine zdg tok rfl (congrArg (fun z=>(.int .i64 z:Value)) ex5) rfl rfl ?_;refine zL ?_;exact xJ x5 H;refine zK (yL ?_);exact xJ t5_1 H;refine zY (yE (yE (yH (zX (zS (zQ (w1 tok (zE (zB ?_)))))))));obtain⟨I3,μ3,H0,HI⟩:=H;refine zO (σ:=Int × Int) [] (fun(s:Int × Int)=>[(5,.int .i64 s.1),(7,.int .i64 s.2)]) I3 μ3 (t5_1,14) H0 ?_;rintro⟨t5_3,t7_3⟩ h_3 H;replace H:=HI t5_3 t7_3 h_3 H;refine zF [5,7] (zS (zQ ?_));refine w2 tok (zE ?_);refine zI H ?_ ?_ <;> intro H
 refine zK (zX ?_);refine zJ (α:=Int) [7] (fun(s:Int)=>[(5,.int .i64 s)]) (fun(s:Int) h=>zef t7_3 s k (fun s h'=>I1 s h'/\μ1 s h'<μ1 (t5_1,t6_1) h_1) (fun s h'=>I3 s h'/\μ3 s h'<μ3 (t5_3,t7_3) h_3) h) ?_ ?_;rintro t5_4 h_4 H;refine zF [5,7] (zR ?_);refine w2 tok ?_;obtain⟨x6,ex6,H⟩:=H;refine zdg tok rfl (congrArg (fun z=>(.int .i64 z:Value)) ex6) rfl rfl ?_;refine zW ?_;exact xJ (t5_4,x6) H;refine zB (zQ (w2 tok ?_));obtain⟨z7,H⟩:=H;refine wY (zvq rfl rfl rfl z7) ?_;obtain⟨z8,H⟩:=H;refine wY (qi8 rfl rfl rfl z8) ?_;refine w2 tok (zE (zF [5,7,35] ?_));refine zI H ?_ ?_ <;> intro H
 refine zR (w3 tok ?_);obtain⟨z9,H⟩:=H;refine wY (zvq rfl rfl rfl z9) ?_;refine w2 tok ?_;obtain⟨x10,ex10,H⟩:=H;refine zdg tok rfl (congrArg (fun z=>(.int .i64 z:Value)) ex10) rfl rfl ?_;refine zL ?_;exact xJ x10 H;refine zK (yL ?_);exact xJ t5_3 H;refine zY (yE (yE (yH (zX (zQ (w2 tok ?_))))));obtain⟨x11,ex11,H⟩:=H;refine zdg tok rfl (congrArg (fun z=>(.int .u8 z:Value)) ex11) rfl rfl ?_;refine zE (zT ?_);exact x_ret _ rfl _ rfl ⟨x11,rfl,H⟩
theorem O52:zad prog 52:=ck func52
theorem R52 (p0 p1 k h) (H:zkf p0 p1 k h):CallsH prog 52 #[.int .u8 p0,.int .i64 p1] h (fun v h'=>∃ r:Int,v = .int .u8 r/\k r h'):=by
 refine fE func52 fun w0=>?_;refine zF [0,1] (zQ ?_);refine w1 tok (zE (zQ ?_));refine w1 tok (zE (zS (zQ ?_)));refine w1 tok (zE (zB ?_));obtain⟨I1,μ1,H0,HI⟩:=H;refine zO (σ:=Int × Int) [0,1] (fun(s:Int × Int)=>[(5,.int .u8 s.1),(6,.int .i64 s.2)]) I1 μ1 (1,0) H0 ?_;rintro⟨t5_1,t6_1⟩ h_1 H;replace H:=HI t5_1 t6_1 h_1 H;refine zF [5,6,0,1] (zS (zQ ?_));refine w3 tok (zE ?_);refine zI H ?_ ?_ <;> intro H
 refine zK (zX (zS (zB (zR (w2 tok ?_)))));refine wC O51 (R51 _ _ _ _ H) fun r1 h2 H=>?_;refine w1 tok (zL (zX (zR ?_)));refine w2 tok ?_;obtain⟨x3,ex3,H⟩:=H;refine zdg tok rfl (congrArg (fun z=>(.int .i64 z:Value)) ex3) rfl rfl ?_;refine zW ?_;exact xJ (r1,x3) H;refine zY (yE (yE (yH (zX (zQ (w2 tok (zE (zF [4] (zT ?_)))))))));exact x_ret _ rfl _ rfl ⟨t5_1,rfl,H⟩
theorem O22:zad prog 22:=ck func22
theorem R22 (p0 p1 p2 p3 k h) (H:zfd p0 p1 p2 p3 k h):CallsH prog 22 #[.agg (arr 32 .u8 p0).toArray,.int .u8 p1,.int .i64 p2,Slc.v p3] h (fun v h'=>∃ r:S_api_Share,v = .agg (S_api_Share.cs r).toArray/\k r h'):=by
 refine fE func22 fun w0=>?_;refine zF [0,1,2,3] (zQ ?_);refine wX H fun b1 h2 H=>?_;refine wB tok H fun b3 h4 H=>?_;refine zE (zQ (w1 tok ?_));refine wY (zer tok rfl rfl rfl rfl rfl) ?_;refine wB tok H fun b5 h6 H=>?_;refine wTa tok H fun h7 H=>?_;refine zE (zS (zQ (w1 tok (zE (zB ?_)))));obtain⟨I1,μ1,H0,HI⟩:=H;refine zO (σ:=Int) [1,2,3,4,8,9] (fun(s:Int)=>[(10,.int .i64 s)]) I1 μ1 0 H0 ?_;rintro t10_1 h_1 H;replace H:=HI t10_1 h_1 H;refine zF [10,1,2,3,4,8,9] (zS (zQ ?_));refine w2 tok (zE ?_);refine zI H ?_ ?_ <;> intro H
 refine zK (zX (zS (zB (zQ (w1 tok ?_)))));obtain⟨lb8,ub8,H⟩:=H;refine wY (zbw tok rfl rfl rfl rfl rfl lb8 ub8) ?_;refine wL tok H fun v9 H=>?_;refine w1 tok (zE (zS (zQ ?_)));refine w1 tok (zE (zB ?_));obtain⟨I2,μ2,H0,HI⟩:=H;refine zO (σ:=Int × Int) [1,2,3,4,8,9,10] (fun(s:Int × Int)=>[(11,.int .u8 s.1),(12,.int .i64 s.2)]) I2 μ2 (v9,1) H0 ?_;rintro⟨t11_2,t12_2⟩ h_2 H;replace H:=HI t11_2 t12_2 h_2 H;refine zF [11,12,1,2,3,4,8,9,10] (zS (zQ ?_));refine w4 tok ?_;refine vU 9 [1,2,3,4,8,9,10,11,12] [(34,.bool ((decide (t12_2<p2))&&(decide ((IntKind.i64.wrap ((IntKind.i64.wrap (32*(IntKind.i64.wrap (t12_2-1))))+t10_1))<(p3.len:Int)))))] ?_ ?_;refine zE ?_;refine zI H ?_ ?_ <;> intro H
 refine zK (zX (zS (zB ?_)));refine gB [1,2,3,4,8,9,10,11,12] ?_;refine gT 0 [11] tok ?_;refine gT 1 [3] tok ?_;refine gT 2 [12] tok ?_;refine gT 3 [39] tok ?_;refine gT 4 [40] tok ?_;refine gT 5 [10] tok ?_;refine gT 6 [41,42] tok ?_;obtain⟨a10,ha10,la10,ua10,H⟩:=H;refine gY 7 [38,43] rfl (fun _=>za6 tok rfl rfl ha10 rfl rfl rfl la10 ua10) ?_;obtain⟨v11,hv11,H⟩:=H;refine gL 8 [44] rfl (zbd tok rfl rfl rfl rfl hv11) ?_;refine gT 9 [1] tok ?_;refine gT 10 [12] tok ?_;refine gCr 11 [46,47] O52 (R52 _ _ _ _ H) fun r12 h13 H=>?_;obtain⟨hy14,H⟩:=H;refine gR rfl (zbd tok rfl rfl rfl rfl hy14) ?_;refine gZ0 ?_;refine gC 12 [45,48] O51 (R51 _ _ _ _ H) fun r15 h16 H=>?_;refine gT 13 [37,49] tok ?_;refine gT 14 [50] tok ?_;refine gZ ?_;refine yL (zX (zF [1,2,3,4,8,9,10,11,12] (zR ?_)));refine w2 tok ?_;obtain⟨x17,ex17,H⟩:=H;refine zdg tok rfl (congrArg (fun z=>(.int .i64 z:Value)) ex17) rfl rfl ?_;refine zW ?_;exact xJ ((zaq .u8 t11_2 r15),x17) H;refine zY (yE (yE (yH (zX (zR (w3 tok ?_))))));obtain⟨lb18,ub18,H⟩:=H;refine wY (zbw tok rfl rfl rfl rfl rfl lb18 ub18) ?_;refine wT tok H fun h19 H=>?_;refine zL (zX (zF [1,2,3,4,8,9,10] (zR ?_)));refine w2 tok ?_;obtain⟨x20,ex20,H⟩:=H;refine zdg tok rfl (congrArg (fun z=>(.int .i64 z:Value)) ex20) rfl rfl ?_;refine zW ?_;exact xJ x20 H;refine vG (d:=25) (fun hb=>?_) (fun hb=>?_);refine w6 tok ?_;refine w3 tok ?_;refine vK ?_;exact congrArg (fun b=>some (Value.bool b)) (zpi hb);refine wS (wS (wS (wS (wS (wS (wS (wS (w1 tok ?_))))))));refine vK ?_;exact congrArg (fun b=>some (Value.bool b)) (zpz hb);refine zY (yE (yE (yH (zX (zF [8,9] (zQ ?_))))));refine wLa tok H fun v21 H=>?_;refine wTa tok H fun h22 H=>?_;refine zE (zT ?_);obtain⟨v23,hv23,H⟩:=H;exact zdz tok _ rfl [.agg (S_api_Share.cs v23).toArray] ⟨⟨_,_,rfl,rfl,.inr ⟨rfl,_,rfl,rfl,hv23⟩⟩,trivial⟩ ⟨v23,rfl,H⟩
end Go.Q.Yo
end
section
namespace Go.Q.Yo
theorem qit:∀ i,i<=15->shl .i64 1 i=((2 ^ i:Nat):Int):=by decide
theorem qdz {a b:Nat} (ha:a<65536) (hb:b<65536):zaq .i64 a b=((a ^^^ b:Nat):Int):=by
 have h:a ^^^ b<2 ^ 16:=Nat.xor_lt_two_pow (by omega) (by omega);show IntKind.i64.wrap ((BitVec.ofInt 64 (a:Int) ^^^ BitVec.ofInt 64 (b:Int)).toNat)=_;rw [zzx 64 a b (by omega) (by omega),zac (by omega) (by omega)]
theorem qpm {t i:Nat} (ht:t<65536) (hi:i<=15):(Int.tmod (IntKind.i64.wrap (Int.tdiv (t:Int) (shl .i64 1 i))) 2==1)=t.testBit i:=by
 have e:Int.tdiv (t:Int) ((2 ^ i:Nat):Int)=((t / 2 ^ i:Nat):Int):=rfl;have:t / 2 ^ i<=t:=Nat.div_le_self _ _;rw [qit i hi,e,Nat.testBit_eq_decide_div_mod_eq];obtain⟨d,ed⟩:∃ d,d=t / 2 ^ i:=⟨_,rfl⟩
 rw [← ed] at this ⊢;rw [zac (by omega) (by omega)];have e2:Int.tmod ((d:Nat):Int) 2=((d % 2:Nat):Int):=rfl;rw [e2];by_cases c:d % 2=1
 ·rw [c];rfl
 ·have:d % 2=0:=by omega
  rw [this];rfl
theorem zys {a b:Nat} (ha:a<256):∀ i,i<=8->fAcc a b i<65536
 | 0,_=>by show 0<65536;decide
 | i+1,hi=>by
  show fAcc a b i ^^^ (if b.testBit i then a <<< i else 0)<65536
  have h1:=zys ha i (by omega) (b:=b)
  have h2:a <<< i<65536:=by
   rw [Nat.shiftLeft_eq];have:2 ^ i<=2 ^ 7:=Nat.pow_le_pow_right (by omega) (by omega);have:a*2 ^ i<=255*2 ^ 7:=Nat.mul_le_mul (by omega) this;omega
  refine Nat.xor_lt_two_pow (n:=16) (by omega) ?_;split <;> omega
theorem zzu {a b:Nat} {k:Int->zaa->Prop} {h:zaa} (ha:a<256) (hb:b<256) (H:k (fMul a b:Nat) h):zis a b k h:=by
 unfold zis zma;refine⟨fun q h'=>h'=h/\∃ i:Nat,i<=8/\q=(((fAcc a b i:Nat):Int),(i:Int)),fun q _=>(8-q.2).toNat,⟨rfl,0,by omega,rfl⟩,?_⟩;rintro t5 t6 h1 ⟨rfl,i,hi,e⟩
 cases e
 have hA:=zys (b:=b) ha i hi;unfold zkg;by_cases c:i<8
 ·rw [if_pos (by rw [decide_eq_true_eq];omega)]
  refine⟨by omega,by rw [show ((i:Nat):Int).toNat=i from by omega,qit i (by omega)];have:=Nat.two_pow_pos i;omega,?_⟩;rw [show ((i:Nat):Int).toNat=i from by omega,show IntKind.i64.wrap ((b:Nat):Int)=b from zac (by omega) (by omega),qpm (by omega) (by omega)];have w1:IntKind.i64.wrap ((i:Int)+1)=((i+1:Nat):Int):=by rw [zac (by omega) (by omega)];omega
  by_cases tb:b.testBit i
  ·rw [if_pos tb]
   have h2:a*2 ^ i<=255*2 ^ 7:=Nat.mul_le_mul (by omega) (Nat.pow_le_pow_right (by omega) (by omega));refine⟨by omega,_,rfl,?_⟩;unfold zem
   rw [qit i (by omega),show IntKind.i64.wrap ((a:Nat):Int)=a from zac (by omega) (by omega),show ((a:Nat):Int)*((2 ^ i:Nat):Int)=((a*2 ^ i:Nat):Int) from(Int.natCast_mul _ _).symm,
    show IntKind.i64.wrap ((a*2 ^ i:Nat):Int)=((a*2 ^ i:Nat):Int) from zac (by omega) (by omega),qdz hA (by omega),w1]
   refine⟨_,rfl,⟨rfl,i+1,by omega,?_⟩,by dsimp only;omega⟩;rw [show fAcc a b (i+1)=fAcc a b i ^^^ (a*2 ^ i) from by rw [fAcc,if_pos tb,Nat.shiftLeft_eq]]
  ·rw [if_neg tb]
   unfold zem;rw [w1];refine⟨_,rfl,⟨rfl,i+1,by omega,?_⟩,by dsimp only;omega⟩;rw [show fAcc a b (i+1)=fAcc a b i from by rw [fAcc,if_neg tb,Nat.xor_zero]]
 ·rw [if_neg (by rw [decide_eq_true_eq];omega)]
  have e8:i=8:=by omega
  subst e8;unfold zl4;refine⟨fun q h'=>h'=h1/\∃(p n:Nat),n<=7/\p<65536/\zz7 n p=zz7 7 (fAcc a b 8)/\q=((p:Int),((n+7:Nat):Int)),fun q _=>q.2.toNat,⟨rfl,_,7,by omega,hA,rfl,rfl⟩,?_⟩;rintro t5 t7 h2 ⟨rfl,p,n,hn,hp,er,e⟩
  cases e
  unfold zkp
  cases n with
  | zero =>
   rw [if_neg (by decide)];refine⟨_,rfl,?_⟩
   have:(IntKind.u8.wrap (p:Int))=((fMul a b:Nat):Int):=by
    rw [wU8];unfold fMul;rw [← er];show (p:Int) % 256=((p % 256:Nat):Int);omega
   rw [this];exact H
  | succ n =>
   rw [if_pos (by rw [decide_eq_true_eq];omega)];have en:((n+1+7:Nat):Int).toNat=n+8:=by omega
   rw [en];refine⟨by omega,by rw [qit _ (by omega)];have:=Nat.two_pow_pos (n+8);omega,?_⟩;rw [qpm hp (by omega)];have w1:IntKind.i64.wrap (((n+1+7:Nat):Int)-1)=((n+7:Nat):Int):=by rw [zac (by omega) (by omega)];omega
   have w8:IntKind.i64.wrap (((n+1+7:Nat):Int)-8)=(n:Int):=by rw [zac (by omega) (by omega)];omega
   have ef:zz7 (n+1) p=zz7 n (p ^^^ (if p.testBit (n+8) then 283 <<< n else 0)):=rfl;by_cases tb:p.testBit (n+8)
   ·rw [if_pos tb]
    have h3:283*2 ^ n<=283*2 ^ 6:=Nat.mul_le_mul (by omega) (Nat.pow_le_pow_right (by omega) (by omega));rw [w8];refine⟨by omega,_,rfl,?_⟩;unfold zef
    rw [show ((n:Nat):Int).toNat=n from by omega,qit n (by omega),show (283:Int)*((2 ^ n:Nat):Int)=((283*2 ^ n:Nat):Int) from(Int.natCast_mul 283 _).symm,
     show IntKind.i64.wrap ((283*2 ^ n:Nat):Int)=((283*2 ^ n:Nat):Int) from zac (by omega) (by omega),qdz hp (by omega),w1]
    refine⟨_,rfl,⟨rfl,p ^^^ (283*2 ^ n),n,by omega,Nat.xor_lt_two_pow (n:=16) (by omega) (by omega),?_,rfl⟩,by dsimp only;omega⟩;rw [← er,ef,if_pos tb,Nat.shiftLeft_eq]
   ·rw [if_neg tb]
    unfold zef;rw [w1];refine⟨_,rfl,⟨rfl,p,n,by omega,hp,?_,rfl⟩,by dsimp only;omega⟩;rw [← er,ef,if_neg tb,Nat.xor_zero]
theorem qh7 {a n:Nat} {k:Int->zaa->Prop} {h:zaa} (ha:a<256) (hn:n<65536) (H:k (fPow a n:Nat) h):zkf a n k h:=by
 unfold zkf zl7;refine⟨fun q h'=>h'=h/\∃ i:Nat,i<=n/\q=(((fPow a i:Nat):Int),(i:Int)),fun q _=>((n:Int)-q.2).toNat,⟨rfl,0,by omega,rfl⟩,?_⟩;rintro t5 t6 h1 ⟨rfl,i,hi,e⟩
 cases e
 unfold zk8;by_cases c:i<n
 ·rw [if_pos (by rw [decide_eq_true_eq];omega)]
  refine zzu (zrr a i) ha ?_;have w1:IntKind.i64.wrap ((i:Int)+1)=((i+1:Nat):Int):=by rw [zac (by omega) (by omega)];omega
  rw [w1];exact⟨_,rfl,⟨rfl,i+1,by omega,rfl⟩,by dsimp only;omega⟩
 ·rw [if_neg (by rw [decide_eq_true_eq];omega)]
  have:i=n:=by omega
  subst this;exact H
def zq9 (len t j:Nat):Nat:=min (t-1) ((len-j+31) / 32)
def pol (cs s:List Int) (t j:Nat):List Nat:=(s.getD j 0).toNat :: (List.range (zq9 cs.length t j)).map fun i=>(cs.getD (32*i+j) 0).toNat
theorem zlx {l:List Int} (h:isB l) (j:Nat):0<=l.getD j 0/\l.getD j 0<256:=by
 rw [List.getD_eq_getElem?_getD];by_cases c:j<l.length
 ·rw [List.getElem?_eq_getElem c];exact h _ (List.getElem_mem _)
 ·rw [List.getElem?_eq_none (by omega)];decide
theorem zx5 {cs s:List Int} {t j:Nat} (hc:isB cs) (hs:isB s):∀ a∈pol cs s t j,a<256:=by
 intro a ha;rcases List.mem_cons.1 ha with rfl | ha
 ·have:=zlx hs j;omega
 ·obtain⟨i,_,rfl⟩:=List.mem_map.1 ha
  have:=zlx hc (32*i+j);omega
def shB (x:Nat) (cs s:List Int) (t j:Nat):Int:=(fEv x (pol cs s t j):Nat)
def shY (x:Nat) (cs s:List Int) (t:Nat):List Int:=(List.range 32).map (shB x cs s t)
theorem zs2 (x:Nat) (cs s:List Int) (t:Nat):(shY x cs s t).length=32:=by simp [shY]
theorem qc2 {x:Nat} {cs s:List Int} {t j:Nat} (hj:j<32):(shY x cs s t).getD j 0=shB x cs s t j:=by
 simp [shY,List.getD_eq_getElem?_getD,hj]
theorem qor {x:Nat} {cs s:List Int} {t:Nat} (hc:isB cs) (hs:isB s):isB (shY x cs s t):=by
 intro b hb;obtain⟨j,_,rfl⟩:=List.mem_map.1 hb;have:=qef x _ (zx5 (t:=t) (j:=j) hc hs);unfold shB;omega
def sumP (x:Nat) (cs s:List Int) (j:Nat):Nat->Nat
 | 0=>(s.getD j 0).toNat
 | i+1=>sumP x cs s j i ^^^ fMul (cs.getD (32*i+j) 0).toNat (fPow x (i+1))
theorem ztf (x:Nat):∀(l:List Nat) (j a:Nat),zu4 x j (l++[a])=zu4 x j l ^^^ fMul a (fPow x (j+l.length))
 | [],j,a=>by show fMul a (fPow x j) ^^^ 0=0 ^^^ _;rw [Nat.xor_zero,Nat.zero_xor];rfl
 | b :: l,j,a=>by
  show fMul b (fPow x j) ^^^ zu4 x (j+1) (l++[a])=(fMul b (fPow x j) ^^^ zu4 x (j+1) l) ^^^ fMul a (fPow x (j+(l.length+1)))
  rw [ztf x l (j+1) a,Nat.xor_assoc,show j+1+l.length=j+(l.length+1) from by omega]
theorem zwl {x:Nat} {cs s:List Int} (hs:isB s) (j:Nat):∀ i,sumP x cs s j i=zu4 x 0 ((s.getD j 0).toNat :: (List.range i).map fun i=>(cs.getD (32*i+j) 0).toNat)
 | 0=>by
  show (s.getD j 0).toNat=fMul (s.getD j 0).toNat 1 ^^^ 0
  have:=zlx hs j
  rw [zt6 (by omega),Nat.xor_zero]
 | i+1=>by
  rw [List.range_succ,List.map_append,← List.cons_append];show _=zu4 x 0 (_++[(cs.getD (32*i+j) 0).toNat]);rw [ztf,← zwl hs j i];show _ ^^^ _=_ ^^^ fMul _ (fPow x (0+(((List.range i).map _).length+1)));rw [List.length_map,List.length_range,Nat.zero_add]
theorem zyy {x:Nat} {cs s:List Int} (hs:isB s) (j:Nat):∀ i,sumP x cs s j i<256
 | 0=>by show (s.getD j 0).toNat<256;have:=zlx hs j;omega
 | i+1=>qp8 (zyy hs j i) (zlt _ _)
theorem qb6 {x:Nat} {cs s:List Int} {t j:Nat} (hx:x<256) (hc:isB cs) (hs:isB s):sumP x cs s j (zq9 cs.length t j)=fEv x (pol cs s t j):=by
 rw [zwl hs,zwb hx _ (zx5 hc hs)];rfl
theorem zbi (v:S_api_Share):(S_api_Share.cs v).length=33:=by unfold S_api_Share.cs;rw [List.length_append,zaj];rfl
theorem zzp {x:Int} {Y:List Int} (lY:Y.length=32) {i:Nat} (hi:i<32):(S_api_Share.cs ⟨x,Y.take i⟩).set (1+i) (.int .u8 (Y.getD i 0))=S_api_Share.cs ⟨x,Y.take (i+1)⟩:=by
 unfold S_api_Share.cs;rw [Nat.add_comm];show Value.int .u8 x :: (arr 32 .u8 (Y.take i)).set i _=Value.int .u8 x :: _;rw [zpj lY hi];rfl
theorem zrl {h:zaa} {p:Slc} {l:List Int} (A:SlcAt h p (b8 l)) {i:Nat} (hi:i<l.length):∃ a,p.a=some a/\zab h (a.add i)=some (.int .u8 (l.getD i 0))/\a.block<h.size:=by
 cases ha:p.a with
 | none =>
  have:l.length=0:=by simpa using congrArg List.length (A.1 ha)
  omega
 | some a =>
  have:=A.2 a ha i (.int .u8 (l.getD i 0)) (by rw [List.getElem?_map,List.getD_eq_getElem?_getD,List.getElem?_eq_getElem hi];rfl);refine⟨a,rfl,this,?_⟩;have:=zdu this
  rwa [zf8] at this
theorem zyc {s cs:List Int} {x t:Nat} {p3:Slc} {k:S_api_Share->zaa->Prop} {h:zaa} (ls:s.length=32) (sB':isB s) (hx:x<256) (t1:1<=t) (t2:t<=1000) (C:SlcAt h p3 (b8 cs)) (lc:p3.len=cs.length) (cB:isB cs) (hl:cs.length<=100000)
  (H:∀ h',Ext h.size h h'->k ⟨x,shY x cs s t⟩ h'):zfd s x t p3 k h:=by
 unfold zfd;refine bx0 fun h2 P2 X2=>bx0 fun h4 P4 X4=>?_;have p2:=P2.lt;have p4:=P4.lt;have z2:=X2.size;have z4:=X4.size;refine bx (cs:=S_api_Share.cs ⟨x,([]:List Int)⟩) (by rw [zbi,zbi]) (by rw [zbi];omega) fun h7 P7 X7=>?_;have z7:=X7.size;have S7:=(P2.ext X4 p2).ext X7 (by omega);have O7:=P4.ext X7 p4;obtain⟨bO,eO⟩:∃ b,b=h2.size:=⟨_,rfl⟩
 obtain⟨bQ,eQ⟩:∃ b,b=h4.size:=⟨_,rfl⟩
 rw [← eO] at O7 ⊢;rw [← eQ] at P7 ⊢;have X07:Ext h.size h h7:=X2.trans ((X4.mono z2).trans (X7.mono (by omega)));have C7:=C.ext X07;have lY:=zs2 x cs s t;rw [arr_id ls] at S7
 have cb:∀ i,i<cs.length->∃ a,p3.a=some a/\zab h7 (a.add i)=some (.int .u8 (cs.getD i 0))/\a.block<h.size:=fun i hi=>by
  obtain⟨a,e1,e2,e3⟩:=zrl C hi;obtain⟨a',f1,f2,f3⟩:=zrl C7 hi;rw [e1] at f1;cases f1;exact⟨a,e1,f2,e3⟩
 unfold zju;refine⟨fun j h'=>∃ n:Nat,j=n/\n<=32/\Blk h' bQ (S_api_Share.cs ⟨x,(shY x cs s t).take n⟩) 28/\Upd bQ h7 h',fun j _=>(32-j).toNat,⟨0,rfl,by omega,P7,Upd.refl _ _⟩,?_⟩;rintro j' h1 ⟨j,rfl,hj,Q,U⟩;have us:=U.size;unfold zim;by_cases c:j<32
 ·rw [if_pos (by rw [decide_eq_true_eq];omega)]
  have g:zab h1 ((⟨h.size,0,none⟩:Addr).add (((j:Nat):Int).toNat*1))=some (.int .u8 (s.getD j 0)):=by
   rw [Nat.mul_one,Int.toNat_natCast];refine(U.blk S7 (by omega)).cl ?_;rw [List.getElem?_map,List.getD_eq_getElem?_getD,List.getElem?_eq_getElem (by omega)];rfl
  refine⟨by omega,by omega,_,g,?_⟩;have sb:=zlx sB' j;unfold zjw
  refine⟨fun q h'=>h'=h1/\∃ i:Nat,i<=zq9 cs.length t j/\q=(((sumP x cs s j i:Nat):Int),((i+1:Nat):Int)),fun q _=>((t:Int)+1-q.2).toNat,⟨rfl,0,by omega,by
   show (s.getD j 0,(1:Int))=(((s.getD j 0).toNat:Int),1)
   rw [Int.toNat_of_nonneg sb.1]⟩,?_⟩
  rintro t11 t12 hh ⟨e,i,hi,e2⟩;subst e
  cases e2
  have kb:zq9 cs.length t j<=t-1:=Nat.min_le_left _ _
  have w32:IntKind.i64.wrap ((IntKind.i64.wrap (32*(IntKind.i64.wrap (((i+1:Nat):Int)-1))))+(j:Int))=((32*i+j:Nat):Int):=by
   rw [show ((i+1:Nat):Int)-1=i from by omega,zac (x:=(i:Int)) (by omega) (by omega),zac (x:=32*(i:Int)) (by omega) (by omega),zac (by omega) (by omega)];omega
  unfold zh6;rw [w32];by_cases c2:i<zq9 cs.length t j
  ·have k1:i<t-1/\i<(cs.length-j+31) / 32:=by unfold zq9 at c2;omega
   have k2:32*i+j<cs.length:=by omega
   rw [if_pos (by rw [decide_eq_true (by omega),decide_eq_true (by omega)];rfl)];obtain⟨a,ea,ec,eb⟩:=cb (32*i+j) k2;have hb:=zlx cB (32*i+j)
   have ec1:zab hh (a.add ((((32*i+j:Nat):Int)).toNat*1))=some (.int .u8 (cs.getD (32*i+j) 0)):=by
    rw [Nat.mul_one,Int.toNat_natCast,← ec];exact zi3 (a:=a.add (32*i+j)) (U.block _ (by rw [zf8];have:=X07.size;omega) (by rw [zf8];omega))
   refine⟨a,ea,by omega,by omega,_,ec1,?_⟩;have hn:i+1<65536:=by omega
   refine qh7 hx hn ⟨ec1,?_⟩;rw [show cs.getD (32*i+j) 0=(((cs.getD (32*i+j) 0).toNat:Nat):Int) from(Int.toNat_of_nonneg hb.1).symm];refine zzu (by omega) (zrr _ _) ?_;rw [zoq (zyy sB' j i) (zlt _ _)];refine⟨_,rfl,⟨rfl,i+1,by omega,?_⟩,?_⟩
   ·rw [show IntKind.i64.wrap (((i+1:Nat):Int)+1)=((i+1+1:Nat):Int) from by rw [zac (by omega) (by omega)];omega]
    rfl
   ·rw [show IntKind.i64.wrap (((i+1:Nat):Int)+1)=((i+1+1:Nat):Int) from by rw [zac (by omega) (by omega)];omega]
    dsimp only;omega
  ·have ei:i=zq9 cs.length t j:=by omega
   have cc:¬ (((i+1:Nat):Int)<(t:Int)/\((32*i+j:Nat):Int)<(p3.len:Int)):=by
    rw [lc];intro ⟨q1,q2⟩;unfold zq9 at ei;omega
   rw [if_neg (by rw [Bool.and_eq_true,decide_eq_true_eq,decide_eq_true_eq];exact cc)];refine⟨by omega,by omega,?_⟩;rw [Nat.mul_one,Int.toNat_natCast,Rw.add_add2];refine zn9 Q (by rw [zbi];omega) fun h3 Q3 U3=>?_;rw [ei,qb6 hx cB sB'] at Q3;rw [show ((fEv x (pol cs s t j):Nat):Int)=(shY x cs s t).getD j 0 from(qc2 c).symm,zzp lY c] at Q3;rw [show IntKind.i64.wrap ((j:Int)+1)=((j+1:Nat):Int) from by rw [zac (by omega) (by omega)];omega];exact⟨_,rfl,⟨j+1,rfl,by omega,Q3,U.trans U3⟩,by dsimp only;omega⟩
 ·rw [if_neg (by rw [decide_eq_true_eq];omega)]
  have:j=32:=by omega
  subst this;rw [List.take_of_length_le (by rw [lY];exact Nat.le_refl _)] at Q;have O1:=U.blk O7 (by omega);refine⟨_,CellsAt.of_blk Q,?_⟩;refine zz2 (cs:=S_api_Share.cs ⟨x,shY x cs s t⟩) O1 (by rw [zbi,zbi]) (by rw [zbi];omega) fun h32 O32 U32=>?_;exact⟨_,CellsAt.of_blk O32,H _ (X07.trans ((U.ext (by omega) (by omega)).trans (U32.ext (by omega) (by omega))))⟩
end Go.Q.Yo
end

/- A part of the proof of statements of this seat: lemmas, no statement of their own. -/
import Derived.Test.YtmilimlmimckbaaGreatDoorYoZae
import Derived.Test.YtmilimlmimckbaaGreatDoorYoZaf
import Derived.Test.YtmilimlmimckbaaGreatDoorYoZah
import Derived.Test.YtmilimlmimckbaaGreatDoorYoZag
import Derived.Test.YtmilimlmimckbaaGreatDoorYoZad
import Derived.Test.YtmilimlmimckbaaGreatDoorYoZbb
set_option linter.unusedVariables false
set_option linter.unusedSimpArgs false
set_option maxRecDepth 100000
set_option maxHeartbeats 1000000
section
namespace Go.Q.Yo
open Go.Proofs.Tryz
def zka (p0:Int) (k:(Int)->zaa->Prop) (h:zaa):Prop :=
  ∃ x1:Int,x1=(zaq .u8 (shl .u8 p0 (1:Int).toNat) (zbe .u8 27 (IntKind.u8.wrap (0-(shr .u8 p0 (7:Int).toNat)))))/\(k x1 h)
def ziu (t1_1:Addr) (t2_1:Int) (t6_1:Int) (k:(Option Addr)->zaa->Prop) (nx1:(Int × Int)->zaa->Prop) (h_1:zaa):Prop :=
  if (decide (t6_1<255)) then ((0:Int)<=t6_1/\t6_1<(256:Int)/\(∃ h4:zaa,WrH h_1 (t1_1.add (t6_1.toNat*1))/\h4=zd7 h_1 (t1_1.add (t6_1.toNat*1)) (.int .u8 t2_1)/\((0:Int)<=t2_1/\t2_1<(256:Int)/\(∃ h6:zaa,WrH h4 ((t1_1.add 256).add (t2_1.toNat*1))/\h6=zd7 h4 ((t1_1.add 256).add (t2_1.toNat*1)) (.int .u8 (IntKind.u8.wrap t6_1))/\(zka t2_1 (fun(r7:Int) h8=>∃ x9:Int,x9=(zaq .u8 t2_1 r7)/\(nx1 (x9,(IntKind.i64.wrap (t6_1+1))) h8)) h6))))) else ((0:Int)<=255/\255<(256:Int)/\(∃ h11:zaa,WrH h_1 (t1_1.add ((255:Int).toNat*1))/\h11=zd7 h_1 (t1_1.add ((255:Int).toNat*1)) (.int .u8 t2_1)/\((0:Int)<=0/\0<(256:Int)/\(∃ h13:zaa,WrH h11 ((t1_1.add 256).add ((0:Int).toNat*1))/\h13=zd7 h11 ((t1_1.add 256).add ((0:Int).toNat*1)) (.int .u8 0)/\(k (some t1_1) h13)))))
def zj0 (t1_1:Addr) (i2:Int) (i6:Int) (k:(Option Addr)->zaa->Prop) (h:zaa):Prop :=
  ∃(I:(Int × Int)->zaa->Prop) (μ:(Int × Int)->zaa->Nat),I (i2,i6) h/\∀(t2_1:Int) (t6_1:Int) (h:zaa),I (t2_1,t6_1) h->ziu t1_1 t2_1 t6_1 k (fun s h'=>I s h'/\μ s h'<μ (t2_1,t6_1) h) h
def zhe (k:(Option Addr)->zaa->Prop) (h:zaa):Prop :=
  ∃(b1:Nat) (h2:zaa),b1=h.size/\h2=h.push (.cells (S_field_Tables.cs (⟨([]:List Int),([]:List Int)⟩:S_field_Tables)).toArray 191)/\(zj0 (⟨b1,0,none⟩:Addr) 1 0 k h2)
def zdc (p0:Option Addr) (p1:Int) (p2:Int) (k:(Int)->zaa->Prop) (h:zaa):Prop :=
  if (((p0.isNone)||(p1==0))||(p2==0)) then (k 0 h) else (∃ a1:Addr,p0=some a1/\((0:Int)<=p1/\p1<(256:Int)/\(∃ v3:Int,zab h ((a1.add 256).add (p1.toNat*1))=some (.int .u8 v3)/\((0:Int)<=p2/\p2<(256:Int)/\(∃ v5:Int,zab h ((a1.add 256).add (p2.toNat*1))=some (.int .u8 v5)/\((0:Int)<=(Int.tmod (IntKind.u64.wrap ((IntKind.u64.wrap v3)+(IntKind.u64.wrap v5))) 255)/\(Int.tmod (IntKind.u64.wrap ((IntKind.u64.wrap v3)+(IntKind.u64.wrap v5))) 255)<(256:Int)/\(∃ v7:Int,zab h (a1.add ((Int.tmod (IntKind.u64.wrap ((IntKind.u64.wrap v3)+(IntKind.u64.wrap v5))) 255).toNat*1))=some (.int .u8 v7)/\(k v7 h))))))))
def zb5 (t0_2:Option Addr) (t1_2:Slc) (t2_2:Int) (t8_2:Int) (t7_2:Int) (k:(Int)->zaa->Prop) (nx1:(Int × Int)->zaa->Prop) (h_2:zaa):Prop :=
  ∃ x2:Int,x2=(IntKind.i64.wrap (t8_2-1))/\(nx1 (t7_2,x2) h_2)
def zec (t0_1:Option Addr) (t1_1:Slc) (t2_1:Int) (t7_1:Int) (t8_1:Int) (k:(Int)->zaa->Prop) (nx1:(Int × Int)->zaa->Prop) (h_1:zaa):Prop :=
  if (decide (t8_1>=0)) then (zdc t0_1 t7_1 t2_1 (fun(r3:Int) h4=>if (!t0_1.isNone) then (∃ a5:Addr,t1_1.a=some a5/\(0:Int)<=t8_1/\t8_1<(t1_1.len:Int)/\(∃ v6:Int,zab h4 (a5.add (t8_1.toNat*1))=some (.int .u8 v6)/\(∃ x7:Int,x7=(zaq .u8 r3 v6)/\(zb5 t0_1 t1_1 t2_1 t8_1 x7 k nx1 h4)))) else (zb5 t0_1 t1_1 t2_1 t8_1 r3 k nx1 h4)) h_1) else (k t7_1 h_1)
def zeu (t0_1:Option Addr) (t1_1:Slc) (t2_1:Int) (i7:Int) (i8:Int) (k:(Int)->zaa->Prop) (h:zaa):Prop :=
  ∃(I:(Int × Int)->zaa->Prop) (μ:(Int × Int)->zaa->Nat),I (i7,i8) h/\∀(t7_1:Int) (t8_1:Int) (h:zaa),I (t7_1,t8_1) h->zec t0_1 t1_1 t2_1 t7_1 t8_1 k (fun s h'=>I s h'/\μ s h'<μ (t7_1,t8_1) h) h
def zc0 (p0:Option Addr) (p1:Slc) (p2:Int) (k:(Int)->zaa->Prop) (h:zaa):Prop :=
  ∃ x1:Int,x1=(IntKind.i64.wrap ((p1.len:Int)-1))/\(zeu p0 p1 p2 0 x1 k h)
def shamir_share_j2 (t0_2:Option Addr) (t2_2:Int) (t3_2:Int) (t4_2:Slc) (t6_2:Addr) (t10_2:Addr) (t11_2:Addr) (t12_2:Int) (t18_2:Int) (t13_2:Slc) (k:(S_api_Share)->zaa->Prop) (nx1:(Int)->zaa->Prop) (h_2:zaa):Prop :=
  zc0 t0_2 t13_2 t2_2 (fun(r12:Int) h13=>(0:Int)<=t12_2/\t12_2<(32:Int)/\(∃ h15:zaa,WrH h13 ((t11_2.add 1).add (t12_2.toNat*1))/\h15=zd7 h13 ((t11_2.add 1).add (t12_2.toNat*1)) (.int .u8 r12)/\(nx1 (IntKind.i64.wrap (t18_2+1)) h15))) h_2
def zhl (t0_3:Option Addr) (t2_3:Int) (t3_3:Int) (t4_3:Slc) (t6_3:Addr) (t10_3:Addr) (t11_3:Addr) (t12_3:Int) (t18_3:Int) (t13_3:Slc) (t14_3:Int) (k:(S_api_Share)->zaa->Prop) (nx1:(Int)->zaa->Prop) (nx3:(Slc × Int)->zaa->Prop) (h_3:zaa):Prop :=
  if (decide (t14_3<t3_3)) then (∃ x16:Int,x16=(IntKind.i64.wrap ((IntKind.i64.wrap (32*(IntKind.i64.wrap (t14_3-1))))+t12_3))/\(if (decide (x16>=(t4_3.len:Int))) then (shamir_share_j2 t0_3 t2_3 t3_3 t4_3 t6_3 t10_3 t11_3 t12_3 t18_3 t13_3 k nx1 h_3) else (∃ a17:Addr,t4_3.a=some a17/\(0:Int)<=x16/\x16<(t4_3.len:Int)/\(∃ v18:Int,zab h_3 (a17.add (x16.toNat*1))=some (.int .u8 v18)/\(∃(b19:Nat) (h20:zaa),b19=h_3.size/\h20=h_3.push (.cells ([.int .u8 v18]).toArray 5)/\(App 5 1 1 [.int .u8 0] h20 t13_3 1 ([.int .u8 v18]) (fun s21 h22=>∃ x23:Int,x23=(IntKind.i64.wrap (t14_3+1))/\(nx3 (s21,x23) h22)))))))) else (shamir_share_j2 t0_3 t2_3 t3_3 t4_3 t6_3 t10_3 t11_3 t12_3 t18_3 t13_3 k nx1 h_3)
def ziq (t0_3:Option Addr) (t2_3:Int) (t3_3:Int) (t4_3:Slc) (t6_3:Addr) (t10_3:Addr) (t11_3:Addr) (t12_3:Int) (t18_3:Int) (i13:Slc) (i14:Int) (k:(S_api_Share)->zaa->Prop) (nx1:(Int)->zaa->Prop) (h:zaa):Prop :=
  ∃(I:(Slc × Int)->zaa->Prop) (μ:(Slc × Int)->zaa->Nat),I (i13,i14) h/\∀(t13_3:Slc) (t14_3:Int) (h:zaa),I (t13_3,t14_3) h->zhl t0_3 t2_3 t3_3 t4_3 t6_3 t10_3 t11_3 t12_3 t18_3 t13_3 t14_3 k nx1 (fun s h'=>I s h'/\μ s h'<μ (t13_3,t14_3) h) h
def zhm (t0_1:Option Addr) (t2_1:Int) (t3_1:Int) (t4_1:Slc) (t6_1:Addr) (t10_1:Addr) (t11_1:Addr) (t18_1:Int) (k:(S_api_Share)->zaa->Prop) (nx1:(Int)->zaa->Prop) (h_1:zaa):Prop :=
  if (decide (t18_1<32)) then ((0:Int)<=t18_1/\t18_1<(32:Int)/\(∃ v9:Int,zab h_1 (t6_1.add (t18_1.toNat*1))=some (.int .u8 v9)/\(∃(b10:Nat) (h11:zaa),b10=h_1.size/\h11=h_1.push (.cells ([.int .u8 v9]).toArray 5)/\(ziq t0_1 t2_1 t3_1 t4_1 t6_1 t10_1 t11_1 t18_1 t18_1 (⟨some ⟨b10,0,none⟩,1,1⟩:Slc) 1 k nx1 h11)))) else (∃ v24:S_api_Share,CellsAt h_1 t11_1 (S_api_Share.cs v24)/\(∃ h25:zaa,WrsAt h_1 t10_1 33/\h25=zak h_1 t10_1 0 (S_api_Share.cs v24)/\(∃ v26:S_api_Share,CellsAt h25 t10_1 (S_api_Share.cs v26)/\k v26 h25)))
def zh8 (t0_1:Option Addr) (t2_1:Int) (t3_1:Int) (t4_1:Slc) (t6_1:Addr) (t10_1:Addr) (t11_1:Addr) (i18:Int) (k:(S_api_Share)->zaa->Prop) (h:zaa):Prop :=
  ∃(I:Int->zaa->Prop) (μ:Int->zaa->Nat),I i18 h/\∀(t18_1:Int) (h:zaa),I t18_1 h->zhm t0_1 t2_1 t3_1 t4_1 t6_1 t10_1 t11_1 t18_1 k (fun s h'=>I s h'/\μ s h'<μ t18_1 h) h
def zf3 (p0:Option Addr) (p1:List Int) (p2:Int) (p3:Int) (p4:Slc) (k:(S_api_Share)->zaa->Prop) (h:zaa):Prop :=
  ∃(b1:Nat) (h2:zaa),b1=h.size/\h2=h.push (.cells (arr 32 .u8 p1).toArray 23)/\(∃(b3:Nat) (h4:zaa),b3=h2.size/\h4=h2.push (.cells (S_api_Share.cs (⟨0,([]:List Int)⟩:S_api_Share)).toArray 28)/\(∃(b5:Nat) (h6:zaa),b5=h4.size/\h6=h4.push (.cells (S_api_Share.cs (⟨0,([]:List Int)⟩:S_api_Share)).toArray 28)/\(∃ h7:zaa,WrsAt h6 (⟨b5,0,none⟩:Addr) 33/\h7=zak h6 (⟨b5,0,none⟩:Addr) 0 (S_api_Share.cs (⟨p2,([]:List Int)⟩:S_api_Share))/\(zh8 p0 p2 p3 p4 (⟨b1,0,none⟩:Addr) (⟨b3,0,none⟩:Addr) (⟨b5,0,none⟩:Addr) 0 k h7))))
def zhk (t2_1:Int) (t3_1:Slc) (t4_1:Addr) (t10_1:Option Addr) (t25_1:Int) (t11_1:Slc) (t26_1:Int) (k:(Slc × Int)->zaa->Prop) (nx1:(Slc × Int)->zaa->Prop) (h_1:zaa):Prop :=
  if (decide (t26_1<t25_1)) then (∃ v5:List Int,CellsAt h_1 t4_1 (arr 32 .u8 v5)/\(zf3 t10_1 v5 (IntKind.u8.wrap (IntKind.i64.wrap (t26_1+1))) t2_1 t3_1 (fun(r6:S_api_Share) h7=>∃(b8:Nat) (h9:zaa),b8=h7.size/\h9=h7.push (.cells ((S_api_Share.cs r6)).toArray 28)/\(App 28 33 33 [.int .u8 0,.int .u8 0,.int .u8 0,.int .u8 0,.int .u8 0,.int .u8 0,.int .u8 0,.int .u8 0,.int .u8 0,.int .u8 0,.int .u8 0,.int .u8 0,.int .u8 0,.int .u8 0,.int .u8 0,.int .u8 0,.int .u8 0,.int .u8 0,.int .u8 0,.int .u8 0,.int .u8 0,.int .u8 0,.int .u8 0,.int .u8 0,.int .u8 0,.int .u8 0,.int .u8 0,.int .u8 0,.int .u8 0,.int .u8 0,.int .u8 0,.int .u8 0,.int .u8 0] h9 t11_1 1 ((S_api_Share.cs r6)) (fun s10 h11=>nx1 (s10,(IntKind.i64.wrap (t26_1+1))) h11))) h_1)) else (k (t11_1,0) h_1)
def zij (t2_1:Int) (t3_1:Slc) (t4_1:Addr) (t10_1:Option Addr) (t25_1:Int) (i11:Slc) (i26:Int) (k:(Slc × Int)->zaa->Prop) (h:zaa):Prop :=
  ∃(I:(Slc × Int)->zaa->Prop) (μ:(Slc × Int)->zaa->Nat),I (i11,i26) h/\∀(t11_1:Slc) (t26_1:Int) (h:zaa),I (t11_1,t26_1) h->zhk t2_1 t3_1 t4_1 t10_1 t25_1 t11_1 t26_1 k (fun s h'=>I s h'/\μ s h'<μ (t11_1,t26_1) h) h
def zeg (p0:List Int) (p1:Int) (p2:Int) (p3:Slc) (k:(Slc × Int)->zaa->Prop) (h:zaa):Prop :=
  ∃(b1:Nat) (h2:zaa),b1=h.size/\h2=h.push (.cells (arr 32 .u8 p0).toArray 23)/\(if (((decide (p2<1))||(decide (p2 > p1)))||(decide (p1 > 255))) then (k ((⟨none,0,0⟩:Slc),1) h2) else (zhe  (fun(r3:Option Addr) h4=>zij p2 p3 (⟨b1,0,none⟩:Addr) r3 p1 (⟨none,0,0⟩:Slc) 0 k h4) h2))
theorem O81:zad prog 81:=ck func81
theorem R81 (p0 k h) (H:zka p0 k h):CallsH prog 81 #[.int .u8 p0] h (fun v h'=>∃ r:Int,v = .int .u8 r/\k r h'):=by
 refine fE func81 fun w0=>?_;refine zF [0] (zQ ?_);refine w1 tok (zE (zQ ?_));refine w6 tok ?_;refine w1 tok ?_;obtain⟨x1,ex1,H⟩:=H;refine zdg tok rfl (congrArg (fun z=>(.int .u8 z:Value)) ex1) rfl rfl ?_;refine zE (zF [2] (zT ?_));exact x_ret _ rfl _ rfl ⟨x1,rfl,H⟩
theorem O41:zad prog 41:=ck func41
theorem R41 ( k h) (H:zhe k h):CallsH prog 41 #[] h (fun v h'=>∃ r:Option Addr,v = .pointer r/\k r h'):=by
 refine fE func41 fun w0=>?_;refine zQ (w1 tok (zE (zQ ?_)));refine wY (zer tok rfl rfl rfl rfl rfl) ?_;refine wX H fun b1 h2 H=>?_;refine w1 tok (zE (zQ ?_));refine w1 tok (zE (zS (zQ ?_)));refine w1 tok (zE (zB ?_));obtain⟨I1,μ1,H0,HI⟩:=H;refine zO (σ:=Int × Int) [1] (fun(s:Int × Int)=>[(2,.int .u8 s.1),(6,.int .i64 s.2)]) I1 μ1 (1,0) H0 ?_;rintro⟨t2_1,t6_1⟩ h_1 H;replace H:=HI t2_1 t6_1 h_1 H;refine zF [2,6,1] (zQ ?_);refine w1 tok (zE (zS ?_));refine zI H ?_ ?_ <;> intro H
 refine zK (zX (zS (zB (zQ (w2 tok (zE (zS ?_)))))));refine gB [1,2,3,6] ?_;refine gT 0 [1] tok ?_;refine gT 1 [3] tok ?_;refine gT 2 [1] tok ?_;refine gT 3 [2] tok ?_;refine gT 4 [2] tok ?_;refine gT 5 [3] tok ?_;refine gT 6 [14] tok ?_;refine gY 7 [9] rfl (fun _=>zut rfl rfl) ?_;refine gT 8 [16] tok ?_;obtain⟨lb3,ub3,H⟩:=H;refine gY 9 [10,17] rfl (fun _=>zbw tok rfl rfl rfl rfl rfl lb3 ub3) ?_;refine gY 11 [11] rfl (fun _=>zut rfl rfl) ?_;refine gT 12 [19] tok ?_;obtain⟨h4,wh4,eh4,H⟩:=H;refine gH 10 [13,18] rfl (qd9 tok rfl rfl rfl rfl rfl rfl wh4 eh4) ?_;obtain⟨lb5,ub5,H⟩:=H;refine gY 13 [12,20] rfl (fun _=>zbw tok rfl rfl rfl rfl rfl lb5 ub5) ?_;obtain⟨h6,wh6,eh6,H⟩:=H;refine gH 14 [15,21] rfl (qd9 tok rfl rfl rfl rfl rfl rfl wh6 eh6) ?_;refine gZ ?_;refine zX (zF [1,2,6] (zR ?_));refine w2 tok ?_;refine wC O81 (R81 _ _ _ H) fun r7 h8 H=>?_;refine w1 tok ?_;obtain⟨x9,ex9,H⟩:=H;refine zdg tok rfl (congrArg (fun z=>(.int .u8 z:Value)) ex9) rfl rfl ?_;refine zL (zX (zR (w2 tok (zW ?_))));exact xJ (x9,(IntKind.i64.wrap (t6_1+1))) H;refine zY (yE (yE (yH (zX (zQ (w2 tok ?_))))));refine wY (zut rfl rfl) ?_;refine w1 tok ?_;obtain⟨lb10,ub10,H⟩:=H;refine wY (zbw tok rfl rfl rfl rfl rfl lb10 ub10) ?_;refine wT tok H fun h11 H=>?_;refine zE (zF [1] (zQ ?_));refine w1 tok ?_;refine wY (zut rfl rfl) ?_;refine w1 tok ?_;obtain⟨lb12,ub12,H⟩:=H;refine wY (zbw tok rfl rfl rfl rfl rfl lb12 ub12) ?_;refine wT tok H fun h13 H=>?_;refine zE (zQ (w2 tok (zE (zT ?_))));exact x_ret _ rfl _ rfl ⟨(some (ad b1)),rfl,H⟩
theorem qsj:zad prog 143:=ck func143
theorem qr9 (p0 p1 p2 k h) (H:zdc p0 p1 p2 k h):CallsH prog 143 #[.pointer p0,.int .u8 p1,.int .u8 p2] h (fun v h'=>∃ r:Int,v = .int .u8 r/\k r h'):=by
 refine fE func143 fun w0=>?_;refine zF [0,1,2] (zQ ?_);refine w1 tok (zE (zS (zQ ?_)));refine w3 tok ?_;refine vU 3 [0,1,2] [(12,.bool ((p0.isNone)||(p1==0)))] ?_ ?_;refine w1 tok ?_;refine vU 3 [0,1,2] [(16,.bool (((p0.isNone)||(p1==0))||(p2==0)))] ?_ ?_;refine zE ?_;refine zI H ?_ ?_ <;> intro H
 refine zQ (w1 tok (zE (zT (yT ?_))));exact x_ret _ rfl _ rfl ⟨0,rfl,H⟩;refine zK (zX (zS ?_));refine zrh (by kernel_rfl) (by kernel_rfl) ?_;refine q_p tok rfl rfl rfl ?_;refine q_p tok rfl rfl rfl ?_;refine q_p tok rfl rfl rfl ?_;obtain⟨a1,ha1,H⟩:=H;refine q_y (zza rfl rfl ha1) rfl rfl ?_;refine q_p tok rfl rfl rfl ?_;obtain⟨lb2,ub2,H⟩:=H;refine q_y (zbw tok rfl rfl rfl rfl rfl lb2 ub2) rfl rfl ?_;obtain⟨v3,hv3,H⟩:=H;refine q_y (zbd tok rfl rfl rfl rfl hv3) rfl rfl ?_;refine q_p tok rfl rfl rfl ?_;refine q_p tok rfl rfl rfl ?_;refine q_p tok rfl rfl rfl ?_;refine q_y (zza rfl rfl ha1) rfl rfl ?_;refine q_p tok rfl rfl rfl ?_;obtain⟨lb4,ub4,H⟩:=H;refine q_y (zbw tok rfl rfl rfl rfl rfl lb4 ub4) rfl rfl ?_;obtain⟨v5,hv5,H⟩:=H;refine q_y (zbd tok rfl rfl rfl rfl hv5) rfl rfl ?_;refine q_p tok rfl rfl rfl ?_;refine q_p tok rfl rfl rfl ?_;refine q_p tok rfl rfl rfl ?_;refine q_y (zza rfl rfl ha1) rfl rfl ?_;refine q_p tok rfl rfl rfl ?_;obtain⟨lb6,ub6,H⟩:=H;refine q_y (zbw tok rfl rfl rfl rfl rfl lb6 ub6) rfl rfl ?_;obtain⟨v7,hv7,H⟩:=H;refine q_y (zbd tok rfl rfl rfl rfl hv7) rfl rfl ?_;refine q_p tok rfl rfl rfl ?_;refine zyn ?_;refine zX (zF [6] (zT ?_));exact x_ret _ rfl _ rfl ⟨v7,rfl,H⟩;refine vG (d:=13) (fun hb=>?_) (fun hb=>?_);refine wS (wS (w1 tok ?_));refine vK ?_;exact congrArg (fun b=>some (Value.bool b)) (zy2 hb);refine w3 tok ?_;refine vK ?_;exact congrArg (fun b=>some (Value.bool b)) (zzn hb);refine vG (d:=9) (fun hb=>?_) (fun hb=>?_);refine wS (wS (w1 tok ?_));refine vK ?_;exact congrArg (fun b=>some (Value.bool b)) (zy2 hb);refine w3 tok ?_;refine vK ?_;exact congrArg (fun b=>some (Value.bool b)) (zzn hb)
theorem O82:zad prog 82:=ck func82
theorem R82 (p0 p1 p2 k h) (H:zc0 p0 p1 p2 k h):CallsH prog 82 #[.pointer p0,Slc.v p1,.int .u8 p2] h (fun v h'=>∃ r:Int,v = .int .u8 r/\k r h'):=by
 refine fE func82 fun w0=>?_;refine zF [0,1,2] (zQ ?_);refine w1 tok (zE (zQ ?_));refine w1 tok (zE (zS (zQ ?_)));refine w3 tok ?_;obtain⟨x1,ex1,H⟩:=H;refine zdg tok rfl (congrArg (fun z=>(.int .i64 z:Value)) ex1) rfl rfl ?_;refine zE (zB ?_);obtain⟨I1,μ1,H0,HI⟩:=H;refine zO (σ:=Int × Int) [0,1,2] (fun(s:Int × Int)=>[(7,.int .u8 s.1),(8,.int .i64 s.2)]) I1 μ1 (0,x1) H0 ?_;rintro⟨t7_1,t8_1⟩ h_1 H;replace H:=HI t7_1 t8_1 h_1 H;refine zF [7,8,0,1,2] (zS (zQ ?_));refine w2 tok (zE ?_);refine zI H ?_ ?_ <;> intro H
 refine zK (zX ?_);refine zJ (α:=Int) [0,1,2,8] (fun(s:Int)=>[(7,.int .u8 s)]) (fun(s:Int) h=>zb5 p0 p1 p2 t8_1 s k (fun s h'=>I1 s h'/\μ1 s h'<μ1 (t7_1,t8_1) h_1) h) ?_ ?_;rintro t7_2 h_2 H;refine zF [7,0,1,2,8] (zR ?_);refine w2 tok ?_;obtain⟨x2,ex2,H⟩:=H;refine zdg tok rfl (congrArg (fun z=>(.int .i64 z:Value)) ex2) rfl rfl ?_;refine zW ?_;exact xJ (t7_2,x2) H;refine zB (zQ (w3 tok ?_));refine wC qsj (qr9 _ _ _ _ _ H) fun r3 h4 H=>?_;refine w1 tok (zE (zQ ?_));refine w2 tok (zE (zF [7,8,0,1,2,21] ?_));refine zI H ?_ ?_ <;> intro H
 refine zR (w3 tok ?_);refine wD tok H fun a5 _ H=>?_;refine wL tok H fun v6 H=>?_;refine w1 tok ?_;obtain⟨x7,ex7,H⟩:=H;refine zdg tok rfl (congrArg (fun z=>(.int .u8 z:Value)) ex7) rfl rfl ?_;refine zL ?_;exact xJ x7 H;refine zK (yL ?_);exact xJ r3 H;refine zY (yE (yE (yH (zX (zQ (w2 tok (zE (zF [6] (zT ?_)))))))));exact x_ret _ rfl _ rfl ⟨t7_1,rfl,H⟩
theorem O42:zad prog 42:=ck func42
theorem R42 (p0 p1 p2 p3 p4 k h) (H:zf3 p0 p1 p2 p3 p4 k h):CallsH prog 42 #[.pointer p0,.agg (arr 32 .u8 p1).toArray,.int .u8 p2,.int .i64 p3,Slc.v p4] h (fun v h'=>∃ r:S_api_Share,v = .agg (S_api_Share.cs r).toArray/\k r h'):=by
 refine fE func42 fun w0=>?_;refine zF [0,1,2,3,4] (zQ ?_);refine wX H fun b1 h2 H=>?_;refine wB tok H fun b3 h4 H=>?_;refine zE (zQ (w1 tok ?_));refine wY (zer tok rfl rfl rfl rfl rfl) ?_;refine wB tok H fun b5 h6 H=>?_;refine wTa tok H fun h7 H=>?_;refine zE (zS (zQ (w1 tok (zE (zB ?_)))));obtain⟨I1,μ1,H0,HI⟩:=H;refine zO (σ:=Int) [0,2,3,4,6,10,11] (fun(s:Int)=>[(18,.int .i64 s)]) I1 μ1 0 H0 ?_;rintro t18_1 h_1 H;replace H:=HI t18_1 h_1 H;refine zF [18,0,2,3,4,6,10,11] (zQ ?_);refine w1 tok (zE (zS ?_));refine zI H ?_ ?_ <;> intro H
 refine zK (zX (zS (zB (zQ (w2 tok (zE (zQ ?_)))))));refine w1 tok ?_;obtain⟨lb8,ub8,H⟩:=H;refine wY (zbw tok rfl rfl rfl rfl rfl lb8 ub8) ?_;refine wL tok H fun v9 H=>?_;obtain⟨b10,h11,eb10,eh11,H⟩:=H;refine wH (ze7 tok rfl rfl rfl rfl rfl rfl rfl eb10 eh11) ?_;refine w1 tok (zE ?_);refine zJ (α:=Slc) [0,2,3,4,6,10,11,12,18] (fun(s:Slc)=>[(13,Slc.v s)]) (fun(s:Slc) h=>shamir_share_j2 p0 p2 p3 p4 (ad b1) (ad b3) (ad b5) t18_1 t18_1 s k (fun s h'=>I1 s h'/\μ1 s h'<μ1 t18_1 h_1) h) ?_ ?_;rintro t13_2 h_2 H;refine zF [13,0,2,3,4,6,10,11,12,18] (zR ?_);refine w4 tok ?_;refine wC O82 (R82 _ _ _ _ _ H) fun r12 h13 H=>?_;refine w1 tok ?_;obtain⟨lb14,ub14,H⟩:=H;refine wY (zbw tok rfl rfl rfl rfl rfl lb14 ub14) ?_;refine wT tok H fun h15 H=>?_;refine zL (zX (zF [0,2,3,4,6,10,11,18] (zR ?_)));refine w2 tok (zW ?_);exact xJ (IntKind.i64.wrap (t18_1+1)) H;refine zQ (w1 tok (zE (zB ?_)));obtain⟨I3,μ3,H0,HI⟩:=H;refine zO (σ:=Slc × Int) [0,2,3,4,6,10,11,12,18] (fun(s:Slc × Int)=>[(13,Slc.v s.1),(14,.int .i64 s.2)]) I3 μ3 ((⟨some ⟨b10,0,none⟩,1,1⟩:Slc),1) H0 ?_;rintro⟨t13_3,t14_3⟩ h_3 H;replace H:=HI t13_3 t14_3 h_3 H;refine zF [13,14,0,2,3,4,6,10,11,12,18] (zS (zQ ?_));refine w3 tok (zE ?_);refine zI H ?_ ?_ <;> intro H
 refine zK (zX (zS (zB (zQ (w5 tok ?_)))));obtain⟨x16,ex16,H⟩:=H;refine zdg tok rfl (congrArg (fun z=>(.int .i64 z:Value)) ex16) rfl rfl ?_;refine zE (zF [13,14,0,2,3,4,6,10,11,12,18,15] (zS (zQ ?_)));refine w4 tok (zE ?_);refine zI H ?_ ?_ <;> intro H
 refine zY (yE (zM (yE (yE (yH ?_)))));exact xJ t13_3 H;refine zK (zX (zR (w3 tok ?_)));refine wD tok H fun a17 _ H=>?_;refine wL tok H fun v18 H=>?_;obtain⟨b19,h20,eb19,eh20,H⟩:=H;refine wH (ze7 tok rfl rfl rfl rfl rfl rfl rfl eb19 eh20) ?_;refine wA (zat (s:=t13_3) (r:=(⟨some ⟨b19,0,none⟩,1,1⟩:Slc)) tok rfl rfl rfl rfl rfl (zan eb19 eh20) H) ?_;rintro _ h22 ⟨s21,rfl,H⟩;refine w1 tok (zL (zX (zF [13,14,0,2,3,4,6,10,11,12,18] (zR ?_))));refine w2 tok ?_;obtain⟨x23,ex23,H⟩:=H;refine zdg tok rfl (congrArg (fun z=>(.int .i64 z:Value)) ex23) rfl rfl ?_;refine zW ?_;exact xJ (s21,x23) H;refine zY (yE (yE (yH ?_)));exact xJ t13_3 H;refine zY (yE (yE (yH (zX (zF [10,11] (zQ ?_))))));refine wLa tok H fun v24 H=>?_;refine wTa tok H fun h25 H=>?_;refine zE (zT ?_);obtain⟨v26,hv26,H⟩:=H;exact zdz tok _ rfl [.agg (S_api_Share.cs v26).toArray] ⟨⟨_,_,rfl,rfl,.inr ⟨rfl,_,rfl,rfl,hv26⟩⟩,trivial⟩ ⟨v26,rfl,H⟩
theorem O17:zad prog 17:=ck func17
theorem R17 (p0 p1 p2 p3 k h) (H:zeg p0 p1 p2 p3 k h):CallsH prog 17 #[.agg (arr 32 .u8 p0).toArray,.int .i64 p1,.int .i64 p2,Slc.v p3] h (fun v h'=>∃ r:Slc × Int,v = .tuple #[Slc.v r.1,.int .i64 r.2]/\k r h'):=by
 refine fE func17 fun w0=>?_;refine zF [0,1,2,3] (zQ ?_);refine wX H fun b1 h2 H=>?_;refine w2 tok (zE (zS (zQ ?_)));refine w3 tok ?_;refine vU 4 [1,2,3,4] [(19,.bool ((decide (p2<1))||(decide (p2 > p1))))] ?_ ?_;refine w1 tok ?_;refine vU 3 [1,2,3,4] [(23,.bool (((decide (p2<1))||(decide (p2 > p1)))||(decide (p1 > 255))))] ?_ ?_;refine zE ?_;refine zI H ?_ ?_ <;> intro H
 refine zQ (w2 tok (zE (zT (yT ?_))));exact x_ret _ rfl _ rfl ⟨((⟨none,0,0⟩:Slc),1),rfl,H⟩;refine zK (zX (zQ ?_));refine wC O41 (R41  _ _ H) fun r3 h4 H=>?_;refine w1 tok (zE (zQ ?_));refine w1 tok (zE (zS (zQ ?_)));refine w2 tok (zE (zB ?_));obtain⟨I1,μ1,H0,HI⟩:=H;refine zO (σ:=Slc × Int) [2,3,4,10,25] (fun(s:Slc × Int)=>[(11,Slc.v s.1),(26,.int .i64 s.2)]) I1 μ1 ((⟨none,0,0⟩:Slc),0) H0 ?_;rintro⟨t11_1,t26_1⟩ h_1 H;replace H:=HI t11_1 t26_1 h_1 H;refine zF [11,26,2,3,4,10,25] (zQ ?_);refine w1 tok (zE (zS ?_));refine zI H ?_ ?_ <;> intro H
 refine zK (zX (zS (zB (zQ (w2 tok (zE (zR ?_)))))));refine w2 tok ?_;refine wLa tok H fun v5 H=>?_;refine w5 tok ?_;refine wC O42 (R42 _ _ _ _ _ _ _ H) fun r6 h7 H=>?_;obtain⟨b8,h9,eb8,eh9,H⟩:=H;refine wH (ze7 tok rfl rfl rfl rfl rfl rfl rfl eb8 eh9) ?_;refine wA (zat (s:=t11_1) (r:=(⟨some ⟨b8,0,none⟩,1,1⟩:Slc)) tok rfl rfl rfl rfl rfl (zan eb8 eh9) H) ?_;rintro _ h11 ⟨s10,rfl,H⟩;refine w1 tok (zL (zX (zF [11,26,2,3,4,10,25] (zR ?_))));refine w2 tok (zW ?_);exact xJ (s10,(IntKind.i64.wrap (t26_1+1))) H;refine zY (yE (yE (yH (zX (zF [11] (zQ ?_))))));refine w3 tok (zE (zT ?_));exact x_ret _ rfl _ rfl ⟨(t11_1,0),rfl,H⟩;refine vG (d:=20) (fun hb=>?_) (fun hb=>?_);refine wS (wS (w1 tok ?_));refine vK ?_;exact congrArg (fun b=>some (Value.bool b)) (zy2 hb);refine w3 tok ?_;refine vK ?_;exact congrArg (fun b=>some (Value.bool b)) (zzn hb);refine vG (d:=15) (fun hb=>?_) (fun hb=>?_);refine wS (wS (wS (w1 tok ?_)));refine vK ?_;exact congrArg (fun b=>some (Value.bool b)) (zy2 hb);refine w4 tok ?_;refine vK ?_;exact congrArg (fun b=>some (Value.bool b)) (zzn hb)
end Go.Q.Yo
end
section
namespace Go.Q.Yo
def expL:List Nat:=[1,3,5,15,17,51,85,255,26,46,114,150,161,248,19,53,95,225,56,72,216,115,149,164,247,2,6,10,30,34,102,170,229,52,92,228,55,89,235,38,106,190,217,112,144,171,230,49,83,245,4,12,20,60,68,204,79,209,104,184,211,110,178,205,76,212,103,169,224,59,77,215,98,166,241,8,24,40,120,136,131,158,185,208,107,189,220,127,129,152,179,206,73,219,118,154,181,196,87,249,16,48,80,240,11,29,39,105,187,214,97,163,254,25,43,125,135,146,173,236,47,113,147,174,233,32,96,160,251,22,58,78,210,109,183,194,93,231,50,86,250,21,63,65,195,94,226,61,71,201,64,192,91,237,44,116,156,191,218,117,159,186,213,100,172,239,42,126,130,157,188,223,122,142,137,128,155,182,193,88,232,35,101,175,234,37,111,177,200,67,197,84,252,31,33,99,165,244,7,9,27,45,119,153,176,203,70,202,69,207,74,222,121,139,134,145,168,227,62,66,198,81,243,14,18,54,90,238,41,123,141,140,143,138,133,148,167,242,13,23,57,75,221,124,132,151,162,253,28,36,108,180,199,82,246]
def lgL:List Nat:=[0,0,25,1,50,2,26,198,75,199,27,104,51,238,223,3,100,4,224,14,52,141,129,239,76,113,8,200,248,105,28,193,125,194,29,181,249,185,39,106,77,228,166,114,154,201,9,120,101,47,138,5,33,15,225,36,18,240,130,69,53,147,218,142,150,143,219,189,54,208,206,148,19,92,210,241,64,70,131,56,102,221,253,48,191,6,139,98,179,37,226,152,34,136,145,16,126,110,72,195,163,182,30,66,58,107,40,84,250,133,61,186,43,121,10,21,155,159,94,202,78,212,172,229,243,115,167,87,175,88,168,80,244,234,214,116,79,174,233,213,231,230,173,232,44,215,117,122,235,22,11,245,89,203,95,176,156,169,81,160,127,12,246,111,23,196,73,236,216,67,31,45,164,118,123,183,204,187,62,90,251,96,177,134,59,82,161,108,170,85,41,157,151,178,135,144,97,190,220,252,188,149,207,205,55,63,91,209,83,57,132,60,65,162,109,71,20,42,158,93,86,242,211,171,68,17,146,217,35,32,46,137,180,124,184,38,119,153,227,165,103,74,237,222,197,49,254,24,13,99,140,128,192,247,112,7]
def pwL:Nat->Nat->List Nat
 | 0,_=>[]
 | n+1,x=>x :: pwL n (fMul x 3)
theorem zr9:∀(n k i:Nat),i<n->(pwL n (fPw k))[i]? = some (fPw (k+i))
 | 0,_,_,h=>by omega
 | n+1,k,0,_=>rfl
 | n+1,k,i+1,h=>by
  show (pwL n (fPw (k+1)))[i]? = _
  rw [zr9 n (k+1) i (by omega),show k+1+i=k+(i+1) from by omega]
theorem qdt:pwL 256 1=expL++[1]:=by kernel_rfl
theorem zv3 {i:Nat} (hi:i<255):expL[i]? = some (fPw i):=by
 have:=zr9 256 0 i (by omega);rw [show fPw 0=1 from rfl,qdt,Nat.zero_add,List.getElem?_append_left (by exact hi)] at this;exact this
theorem qo4:fPw 255=1:=by
 have:=zr9 256 0 255 (by omega);rw [show fPw 0=1 from rfl,qdt,Nat.zero_add] at this;exact(Option.some.inj this).symm
theorem ql7:((List.range 256).all fun a=>a==0||((lgL.getD a 0:Nat)<255&&expL.getD (lgL.getD a 0) 0==a))=true:=by kernel_rfl
theorem qf8:((List.range 255).all fun i=>expL.getD i 0 != 0&&lgL.getD (expL.getD i 0) 0==i)=true:=by kernel_rfl
def lg (a:Nat):Nat:=lgL.getD a 0
theorem qek {a:Nat} (h0:a≠0) (ha:a<256):lg a<255/\fPw (lg a)=a:=by
 have:=List.all_eq_true.1 ql7 a (List.mem_range.2 ha);simp only [Bool.or_eq_true,Bool.and_eq_true,beq_iff_eq,decide_eq_true_eq] at this;rcases this with q | ⟨q,r⟩
 ·exact absurd q h0
 ·refine⟨q,?_⟩
  have e:=zv3 q;rw [List.getD_eq_getElem?_getD,e] at r;exact r
theorem qmw {i:Nat} (hi:i<255):fPw i≠0/\lg (fPw i)=i:=by
 have:=List.all_eq_true.1 qf8 i (List.mem_range.2 hi);simp only [Bool.and_eq_true,bne_iff_ne,ne_eq,beq_iff_eq] at this;rw [List.getD_eq_getElem?_getD,zv3 hi] at this;exact this
theorem qki:((List.range 256).all fun x=>zaq .u8 (x:Int) (zaq .u8 (shl .u8 (x:Int) (1:Int).toNat) (zbe .u8 27 (IntKind.u8.wrap (0-(shr .u8 (x:Int) (7:Int).toNat)))))==((fMul x 3:Nat):Int))=true:=by kernel_rfl
theorem qoe {x:Nat} (hx:x<256):zaq .u8 (x:Int) (zaq .u8 (shl .u8 (x:Int) (1:Int).toNat) (zbe .u8 27 (IntKind.u8.wrap (0-(shr .u8 (x:Int) (7:Int).toNat)))))=((fMul x 3:Nat):Int):=by
 have:=List.all_eq_true.1 qki x (List.mem_range.2 hx);exact eq_of_beq this
structure TabAt (h:zaa) (b:Nat):Prop where
 at':∃ z:List Value,Blk h b z 191/\(∀ i,i<255->z[i]? = some (.int .u8 (fPw i:Nat)))/\(∀ a,0<a->a<256->z[256+a]? = some (.int .u8 (lg a:Nat)))
theorem TabAt.keep {h h':zaa} {b:Nat} (T:TabAt h b) (e:h'[b]? = h[b]?):TabAt h' b:=by
 obtain⟨z,P,q⟩:=T.at';exact⟨z,P.old e,q⟩
theorem TabAt.lt {h:zaa} {b:Nat} (T:TabAt h b):b<h.size:=by
 obtain⟨z,P,q⟩:=T.at';exact P.lt
theorem TabAt.ext {h h':zaa} {b:Nat} (T:TabAt h b) (X:Ext h.size h h'):TabAt h' b:=T.keep (X.block b T.lt)
theorem qbm {k:Option Addr->zaa->Prop} {h:zaa} (H:∀ h',TabAt h' h.size->Ext h.size h h'->k (some ⟨h.size,0,none⟩) h'):zhe k h:=by
 unfold zhe;refine bx0 fun h2 P2 X2=>?_;have z2:=X2.size;have p2:=P2.lt;unfold zj0
 refine⟨fun q h'=>∃ n:Nat,n<=255/\q=(((fPw n:Nat):Int),(n:Int))/\Upd h.size h2 h'/\∃ z:List Value,z.length=512/\Blk h' h.size z 191/\(∀ i,i<n->z[i]? = some (.int .u8 (fPw i:Nat)))/\(∀ i,i<n->z[256+fPw i]? = some (.int .u8 (i:Nat))),fun q _=>(255-q.2).toNat,
  ⟨0,by omega,rfl,Upd.refl _ _,_,by unfold S_field_Tables.cs;rw [List.length_append,zaj],P2,fun i hi=>by omega,fun i hi=>by omega⟩,?_⟩
 rintro t2 t6 h1 ⟨n,hn,e,U,z,lz,Z,q1,q2⟩
 cases e
 have us:=U.size;have fl:=znn n;unfold ziu;by_cases c:n<255
 ·rw [if_pos (by rw [decide_eq_true_eq];omega)]
  refine⟨by omega,by omega,?_⟩;rw [Nat.mul_one,Int.toNat_natCast];refine zn9 Z (by omega) fun h4 Z4 U4=>⟨by omega,by omega,?_⟩
  rw [Nat.mul_one,Int.toNat_natCast,Rw.add_add2,zqu (by omega) (by omega)];refine zn9 Z4 (by rw [List.length_set];omega) fun h6 Z6 U6=>?_;unfold zka;refine⟨_,rfl,_,rfl,⟨n+1,by omega,?_,U.trans (U4.trans U6),_,by rw [List.length_set,List.length_set];exact lz,Z6,fun i hi=>?_,fun i hi=>?_⟩,?_⟩
  ·rw [qoe fl,zac (by omega) (by omega)];rfl
  ·have:=znn i
   rw [List.getElem?_set,if_neg (by omega),List.getElem?_set];by_cases e:n=i
   ·subst e;rw [if_pos rfl,if_pos (by omega)]
   ·rw [if_neg e];exact q1 i (by omega)
  ·have:=znn i
   rw [List.getElem?_set,List.length_set];by_cases e:n=i
   ·subst e;rw [if_pos rfl,if_pos (by omega)]
   ·rw [if_neg,List.getElem?_set,if_neg (by omega)]
    ·exact q2 i (by omega)
    ·intro e2
     have e3:fPw n=fPw i:=by omega
     have a:=(qmw c).2;have b:=(qmw (i:=i) (by omega)).2;rw [e3,b] at a;omega
  ·rw [zac (by omega) (by omega)];dsimp only;omega
 ·rw [if_neg (by rw [decide_eq_true_eq];omega)]
  have e:n=255:=by omega
  subst e;refine⟨by omega,by omega,?_⟩;rw [show ((255:Int).toNat*1)=255 from rfl];refine zn9 Z (by omega) fun h4 Z4 U4=>⟨by omega,by omega,?_⟩
  rw [Rw.add_add2,show 256+(0:Int).toNat*1=256 from rfl];refine zn9 Z4 (by rw [List.length_set];omega) fun h6 Z6 U6=>H _ ⟨_,Z6,fun i hi=>?_,fun a a0 a1=>?_⟩ (X2.trans ((U.trans (U4.trans U6)).ext (Nat.le_refl _) z2))
  ·rw [List.getElem?_set,if_neg (by omega),List.getElem?_set,if_neg (by omega)]
   exact q1 i hi
  ·rw [List.getElem?_set,if_neg (by omega),List.getElem?_set,if_neg (by omega)]
   obtain⟨l1,l2⟩:=qek (by omega) a1;have:=q2 (lg a) l1;rw [l2] at this;exact this
theorem qls {m:Nat}:fPw (m+255)=fPw m:=by rw [zr7,qo4,zt6 (znn _)]
theorem qmh {a c b:Nat} {k:Int->zaa->Prop} {h:zaa} (T:TabAt h b) (ha:a<256) (hc:c<256) (H:k (fMul a c:Nat) h):zdc (some ⟨b,0,none⟩) a c k h:=by
 unfold zdc;by_cases a0:a=0
 ·subst a0
  rw [if_pos (by simp)];rw [qc8] at H;exact H
 by_cases c0:c=0
 ·subst c0
  rw [if_pos (by simp)];rw [qg9] at H;exact H
 rw [if_neg (by simp;omega)];obtain⟨z,P,q1,q2⟩:=T.at';obtain⟨la,ea⟩:=qek a0 ha;obtain⟨lc,ec⟩:=qek c0 hc;refine⟨_,rfl,by omega,by omega,(lg a:Nat),?_,by omega,by omega,(lg c:Nat),?_,?_⟩
 ·rw [Nat.mul_one,Int.toNat_natCast,Rw.add_add2];exact P.cl (q2 a (by omega) ha)
 ·rw [Nat.mul_one,Int.toNat_natCast,Rw.add_add2];exact P.cl (q2 c (by omega) hc)
 ·have e:Int.tmod (IntKind.u64.wrap ((IntKind.u64.wrap (lg a:Nat))+(IntKind.u64.wrap (lg c:Nat)))) 255=(((lg a+lg c) % 255:Nat):Int):=by
   rw [zdp (x:=((lg a:Nat):Int)) (by omega) (by omega),zdp (x:=((lg c:Nat):Int)) (by omega) (by omega),zdp (by omega) (by omega),← Int.natCast_add];rfl
  rw [e];have hm:(lg a+lg c) % 255<255:=Nat.mod_lt _ (by omega);refine⟨by omega,by omega,(fPw ((lg a+lg c) % 255):Nat),?_,?_⟩
  ·rw [Nat.mul_one,Int.toNat_natCast];exact P.cl (q1 _ hm)
  ·have:fPw ((lg a+lg c) % 255)=fMul a c:=by
    have e1:fMul a c=fPw (lg a+lg c):=by rw [zr7,ea,ec]
    rw [e1];by_cases d:lg a+lg c<255
    ·rw [Nat.mod_eq_of_lt d]
    ·have:(lg a+lg c) % 255+255=lg a+lg c:=by omega
     rw [← this,qls,this]
   rw [this];exact H
abbrev nI (l:List Nat):List Int:=l.map fun n:Nat=>(n:Int)
theorem qaz (x a:Nat) (l:List Nat):fEv x (a :: l)=fMul (fEv x l) x ^^^ a:=rfl
theorem Eval_ok {x b:Nat} {l:List Nat} {p1:Slc} {k:Int->zaa->Prop} {h:zaa} (T:TabAt h b) (S:SlcAt h p1 (b8 (nI l))) (sl:p1.len=l.length) (hl:l.length<=1000000) (hx:x<256) (lb:∀ a∈l,a<256) (H:k (fEv x l:Nat) h) :
  zc0 (some ⟨b,0,none⟩) p1 x k h:=by
 unfold zc0;rw [sl,zac (by omega) (by omega)];refine⟨_,rfl,?_⟩;unfold zeu;refine⟨fun q h'=>h'=h/\∃ i:Nat,i<=l.length/\q=(((fEv x (l.drop i):Nat):Int),(i:Int)-1),fun q _=>(q.2+1).toNat,⟨rfl,l.length,Nat.le_refl _,by rw [List.drop_length];rfl⟩,?_⟩;rintro t7 t8 h1 ⟨rfl,i,hi,e⟩
 cases e
 unfold zec
 cases i with
 | zero =>
  rw [if_neg (by decide)]
  rw [List.drop_zero];exact H
 | succ i =>
  rw [if_pos (by rw [decide_eq_true_eq];omega)];have hd:∀ a∈l.drop (i+1),a<256:=fun a ha=>lb a (List.mem_of_mem_drop ha);refine qmh T (qef x _ hd) hx ?_;rw [if_pos (by simp)];have ei:((i+1:Nat):Int)-1=(i:Int):=by omega
  rw [ei];obtain⟨a,ea,ec,eb⟩:=zrl S (i:=i) (by rw [List.length_map];omega)
  have el:(nI l).getD i 0=((l[i]'(by omega):Nat):Int):=by
   rw [List.getD_eq_getElem?_getD,List.getElem?_map,List.getElem?_eq_getElem (by omega)];rfl
  rw [el] at ec;refine⟨a,ea,by omega,by omega,_,by rw [Nat.mul_one,Int.toNat_natCast];exact ec,_,rfl,?_⟩;unfold zb5;rw [zoq (zlt _ _) (lb _ (List.getElem_mem _)),zac (by omega) (by omega)];refine⟨_,rfl,⟨rfl,i,by omega,?_⟩,by dsimp only;omega⟩;rw [List.drop_eq_getElem_cons (show i<l.length by omega),qaz]
end Go.Q.Yo
end
section
namespace Go.Q.Yo
theorem Upd.then {b B:Nat} {x y z:zaa} (p:Upd b x y) (q:Ext x.size y z):Upd b x z :=
 ⟨Nat.le_trans p.size q.size,fun i hi hb=>(q.block i hi).trans (p.block i hi hb)⟩
theorem qf5 (cs s:List Int) (t j:Nat):(pol cs s t j).length=zq9 cs.length t j+1:=by simp [pol]
theorem qmm {cs s:List Int} {t j i:Nat} (hi:i<zq9 cs.length t j):(pol cs s t j)[i+1]? = some (cs.getD (32*i+j) 0).toNat:=by
 simp [pol,hi]
theorem zy9 {s cs:List Int} {x t b:Nat} {p4:Slc} {k:S_api_Share->zaa->Prop} {h:zaa} (T:TabAt h b) (ls:s.length=32) (sB':isB s) (hx:x<256) (t1:1<=t) (t2:t<=1000) (C:SlcAt h p4 (b8 cs)) (lc:p4.len=cs.length) (cB:isB cs) (hl:cs.length<=100000)
  (H:∀ h',Ext h.size h h'->k ⟨x,shY x cs s t⟩ h'):zf3 (some ⟨b,0,none⟩) s x t p4 k h:=by
 unfold zf3;have tb:=T.lt;refine bx0 fun h2 P2 X2=>bx0 fun h4 P4 X4=>?_;have p2:=P2.lt;have b4:=P4.lt;have z2:=X2.size;have z4:=X4.size;refine bx (cs:=S_api_Share.cs ⟨x,([]:List Int)⟩) (by rw [zbi,zbi]) (by rw [zbi];omega) fun h7 P7 X7=>?_;have z7:=X7.size;have q7:=P7.lt;have S7:=(P2.ext X4 p2).ext X7 (by omega);have O7:=P4.ext X7 b4;obtain⟨bO,eO⟩:∃ b,b=h2.size:=⟨_,rfl⟩
 obtain⟨bQ,eQ⟩:∃ b,b=h4.size:=⟨_,rfl⟩
 rw [← eO] at O7 ⊢;rw [← eQ] at P7 ⊢;have X07:Ext h.size h h7:=X2.trans ((X4.mono z2).trans (X7.mono (by omega)));have C7:=C.ext X07;have T7:=T.ext X07;have lY:=zs2 x cs s t;rw [arr_id ls] at S7
 have cb:∀ i,i<cs.length->∃ a,p4.a=some a/\zab h7 (a.add i)=some (.int .u8 (cs.getD i 0))/\a.block<h.size:=fun i hi=>by
  obtain⟨a,e1,e2,e3⟩:=zrl C hi;obtain⟨a',f1,f2,f3⟩:=zrl C7 hi;rw [e1] at f1;cases f1;exact⟨a,e1,f2,e3⟩
 unfold zh8;refine⟨fun j h'=>∃ n:Nat,j=n/\n<=32/\Blk h' bQ (S_api_Share.cs ⟨x,(shY x cs s t).take n⟩) 28/\Upd bQ h7 h',fun j _=>(32-j).toNat,⟨0,rfl,by omega,P7,Upd.refl _ _⟩,?_⟩;rintro j' h1 ⟨j,rfl,hj,Q,U⟩;have us:=U.size;unfold zhm;by_cases c:j<32
 ·rw [if_pos (by rw [decide_eq_true_eq];omega)]
  have g:zab h1 ((⟨h.size,0,none⟩:Addr).add (((j:Nat):Int).toNat*1))=some (.int .u8 (s.getD j 0)):=by
   rw [Nat.mul_one,Int.toNat_natCast];refine(U.blk S7 (by omega)).cl ?_;rw [List.getElem?_map,List.getD_eq_getElem?_getD,List.getElem?_eq_getElem (by omega)];rfl
  refine⟨by omega,by omega,_,g,?_⟩;have sb:=zlx sB' j;refine bx0 fun h11 P11 X11=>?_;have z11:=X11.size
  have R0':Row h7.size h11 5 1 ⟨some ⟨h1.size,0,none⟩,1,1⟩ (b8 (nI ((pol cs s t j).take 1))):=by
   have e:nI ((pol cs s t j).take 1)=[s.getD j 0]:=by
    show [(((s.getD j 0).toNat:Nat):Int)]=_
    rw [Int.toNat_of_nonneg sb.1]
   rw [e];exact⟨rfl,by simp [maxLen],.inr ⟨h1.size,_,rfl,us,P11,Nat.le_refl _,by simp,by simp⟩⟩
  have pl:=zx5 (t:=t) (j:=j) cB sB';have lp:=qf5 cs s t j;have kb:zq9 cs.length t j<=t-1:=Nat.min_le_left _ _;unfold ziq;refine⟨fun q h'=>∃ i:Nat,i<=zq9 cs.length t j/\q.2=((i+1:Nat):Int)/\Row h7.size h' 5 1 q.1 (b8 (nI ((pol cs s t j).take (i+1))))/\Ext h7.size h1 h',fun q _=>((t:Int)+1-q.2).toNat,⟨0,by omega,rfl,R0',X11.mono us⟩,?_⟩;rintro t13 t14 hh ⟨i,hi,e2,R,X⟩;dsimp only at e2 R;subst e2;have xs:=X.size;have UX:Upd bQ h7 hh:=Upd.then (B:=0) U X
  have w32:IntKind.i64.wrap ((IntKind.i64.wrap (32*(IntKind.i64.wrap (((i+1:Nat):Int)-1))))+(j:Int))=((32*i+j:Nat):Int):=by
   rw [show ((i+1:Nat):Int)-1=i from by omega,zac (x:=(i:Int)) (by omega) (by omega),zac (x:=32*(i:Int)) (by omega) (by omega),zac (by omega) (by omega)];omega
  unfold zhl;rw [w32]
  have fin:i=zq9 cs.length t j->shamir_share_j2 (some ⟨b,0,none⟩) x t p4 ⟨h.size,0,none⟩ ⟨bO,0,none⟩ ⟨bQ,0,none⟩ j j t13 k (fun s_1 h'=>(∃ n:Nat,s_1=n/\n<=32/\Blk h' bQ (S_api_Share.cs ⟨x,(shY x cs s t).take n⟩) 28/\Upd bQ h7 h')/\(32-s_1).toNat<(32-(j:Int)).toNat) hh:=by
   intro ei;rw [List.take_of_length_le (by rw [lp];omega)] at R;unfold shamir_share_j2;refine Eval_ok (T7.keep (UX.block b (by omega) (by omega))) R.slc (by rw [rpb R,List.length_map]) (by rw [lp];omega) hx pl ?_;refine⟨by omega,by omega,?_⟩;rw [Nat.mul_one,Int.toNat_natCast,Rw.add_add2];have QX:Blk hh bQ (S_api_Share.cs ⟨x,(shY x cs s t).take j⟩) 28:=Q.ext X (by omega);refine zn9 QX (by rw [zbi];omega) fun h3 Q3 U3=>?_;rw [show ((fEv x (pol cs s t j):Nat):Int)=(shY x cs s t).getD j 0 from(qc2 c).symm,zzp lY c] at Q3;rw [show IntKind.i64.wrap ((j:Int)+1)=((j+1:Nat):Int) from by rw [zac (by omega) (by omega)];omega];exact⟨⟨j+1,rfl,by omega,Q3,UX.trans U3⟩,by omega⟩
  by_cases c2:i<zq9 cs.length t j
  ·have k1:i<t-1/\i<(cs.length-j+31) / 32:=by unfold zq9 at c2;omega
   have k2:32*i+j<cs.length:=by omega
   rw [if_pos (by rw [decide_eq_true_eq];omega)];refine⟨_,rfl,?_⟩;rw [if_neg (by rw [decide_eq_true_eq];omega)];obtain⟨a,ea,ec,eb⟩:=cb (32*i+j) k2;have hb:=zlx cB (32*i+j)
   have ec1:zab hh (a.add ((((32*i+j:Nat):Int)).toNat*1))=some (.int .u8 (cs.getD (32*i+j) 0)):=by
    rw [Nat.mul_one,Int.toNat_natCast,← ec];exact zi3 (a:=a.add (32*i+j)) (UX.block _ (by rw [zf8];have:=X07.size;omega) (by rw [zf8];omega))
   refine⟨a,ea,by omega,by omega,_,ec1,?_⟩;refine bx0 fun h20 P20 X20=>?_;have z20:=X20.size;have R20:=R.ext X20 fun g hg=>(R.bd hg).2;refine zkb (m:=[cs.getD (32*i+j) 0]) R20 (by omega) rfl (by rw [List.length_map,List.length_take];simp;omega) fun s21 h22 R22 X22=>?_
   have er:nI ((pol cs s t j).take (i+1))++[cs.getD (32*i+j) 0]=nI ((pol cs s t j).take (i+1+1)):=by
    rw [List.take_add_one (i:=i+1),qmm c2];show _=nI (_++[_]);unfold nI;rw [List.map_append];show _++[_]=_++[(((cs.getD (32*i+j) 0).toNat:Nat):Int)];rw [Int.toNat_of_nonneg hb.1]
   rw [er] at R22;have w2:IntKind.i64.wrap (((i+1:Nat):Int)+1)=((i+1+1:Nat):Int):=by rw [zac (by omega) (by omega)];omega
   rw [w2];exact⟨_,rfl,⟨i+1,by omega,rfl,R22,X.trans ((X20.mono (by omega)).trans X22)⟩,by dsimp only;omega⟩
  ·have ei:i=zq9 cs.length t j:=by omega
   by_cases c3:i+1<t
   ·rw [if_pos (by rw [decide_eq_true_eq];omega)]
    refine⟨_,rfl,?_⟩;rw [if_pos (by rw [decide_eq_true_eq];unfold zq9 at ei;omega)];exact fin ei
   ·rw [if_neg (by rw [decide_eq_true_eq];omega)]
    exact fin ei
 ·rw [if_neg (by rw [decide_eq_true_eq];omega)]
  have:j=32:=by omega
  subst this;rw [List.take_of_length_le (by rw [lY];exact Nat.le_refl _)] at Q;have O1:=U.blk O7 (by omega);refine⟨_,CellsAt.of_blk Q,?_⟩;refine zz2 (cs:=S_api_Share.cs ⟨x,shY x cs s t⟩) O1 (by rw [zbi,zbi]) (by rw [zbi];omega) fun h32 O32 U32=>?_;exact⟨_,CellsAt.of_blk O32,H _ (X07.trans ((U.ext (by omega) (by omega)).trans (U32.ext (by omega) (by omega))))⟩
def zn8 (cs s:List Int) (t n:Nat):List S_api_Share:=(List.range n).map fun i=>⟨((i+1:Nat):Int),shY (i+1) cs s t⟩
theorem ql9 (v:S_api_Share):∀ x∈S_api_Share.cs v,x.oneCell'=true:=by
 intro x hx;unfold S_api_Share.cs at hx;rcases List.mem_append.1 hx with hx | hx
 ·rw [List.mem_singleton] at hx;subst hx;rfl
 ·rw [zde] at hx
  obtain⟨y,_,rfl⟩:=List.mem_map.1 hx;rfl
theorem qaf {s cs:List Int} {n t:Nat} {p3:Slc} {k:Slc × Int->zaa->Prop} {h:zaa} (ls:s.length=32) (sB':isB s) (t1:1<=t) (tn:t<=n) (n1:n<=255) (C:SlcAt h p3 (b8 cs)) (lc:p3.len=cs.length) (cB:isB cs) (hl:cs.length<=100000)
  (H:∀ s' h',LsAt S_api_Share.cs 33 h' s' (zn8 cs s t n)->Ext h.size h h'->k (s',0) h'):zeg s n t p3 k h:=by
 unfold zeg;refine bx0 fun h2 P2 X2=>?_;have p2:=P2.lt;have z2:=X2.size;rw [if_neg (by simp;omega)];refine qbm fun h4 T4 X4=>?_;have z4:=X4.size;have tb:=T4.lt;have S4:=P2.ext X4 p2;have X04:Ext h.size h h4:=X2.trans (X4.mono z2);have C4:=C.ext X04;obtain⟨bT,eT⟩:∃ b,b=h2.size:=⟨_,rfl⟩
 rw [← eT] at T4 tb ⊢;unfold zij;refine⟨fun q h'=>∃ i:Nat,i<=n/\q.2=(i:Int)/\Row h4.size h' 28 33 q.1 ((zn8 cs s t i).flatMap S_api_Share.cs)/\q.1.len=i/\Ext h4.size h4 h',fun q _=>((n:Int)-q.2).toNat,⟨0,by omega,rfl,Row.nil _ _ _ _,rfl,Ext.refl _ _⟩,?_⟩;rintro t11 t26 h1 ⟨i,hi,e,R,li,X⟩;dsimp only at e R li;subst e;have xs:=X.size;unfold zhk;by_cases c:i<n
 ·rw [if_pos (by rw [decide_eq_true_eq];omega)]
  refine⟨s,CellsAt.of_blk (S4.ext X (by omega)),?_⟩;have w1:IntKind.i64.wrap ((i:Int)+1)=((i+1:Nat):Int):=by rw [zac (by omega) (by omega)];omega
  rw [w1,zqu (by omega) (by omega)];refine zy9 (T4.ext X) ls sB' (by omega) t1 (by omega) (C4.ext X) lc cB hl fun h7 X7=>?_;have z7:=X7.size;refine bx0 fun h9 P9 X9=>?_;have z9:=X9.size;have R9:=(R.ext X7 fun g hg=>(R.bd hg).2).ext X9 fun g hg=>by have:=(R.bd hg).2;omega
  refine App.row R9 (by omega) rfl (by rw [zbi]) (ql9 _) (by omega) (by simp only [maxLen];omega) fun s' h' R' l' hz ho _=>?_
  have ea:(zn8 cs s t i).flatMap S_api_Share.cs++S_api_Share.cs ⟨((i+1:Nat):Int),shY (i+1) cs s t⟩=(zn8 cs s t (i+1)).flatMap S_api_Share.cs:=by
   rw [show zn8 cs s t (i+1)=zn8 cs s t i++[⟨((i+1:Nat):Int),shY (i+1) cs s t⟩] from by unfold zn8;rw [List.range_succ,List.map_append];rfl,List.flatMap_append];simp
  rw [ea] at R';refine⟨⟨i+1,by omega,rfl,R',by dsimp only;omega,X.trans ((X7.mono xs).trans ((X9.mono (by omega)).trans ⟨hz,fun j hj=>ho j (by omega) fun e=>by have:=(R.bd e).1;omega⟩))⟩,by dsimp only;omega⟩
 ·rw [if_neg (by rw [decide_eq_true_eq];omega)]
  have:i=n:=by omega
  subst this;exact H _ _ (Rw.ls_of_slc zbi R.slc (by rw [li];simp [zn8]) (by decide)) (X04.trans (X.mono (by omega)))
end Go.Q.Yo
end

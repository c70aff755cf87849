/- A part of the proof of statements of this seat: lemmas, no statement of their own. -/
import Derived.Test.YtmilimlmimckbaaGreatDoorYoZae
import Derived.Test.YtmilimlmimckbaaGreatDoorYoZaf
import Derived.Test.YtmilimlmimckbaaGreatDoorYoZah
set_option linter.unusedVariables false
set_option linter.unusedSimpArgs false
set_option maxRecDepth 100000
set_option maxHeartbeats 1000000
section
namespace Go.Q.Yo
open Go.Proofs.Tryz
def zmb (t1_2:Slc) (t4_2:Addr) (t5_2:Addr) (t6_2:Addr) (t21_2:Int) (k:(List Int)->zaa->Prop) (nx2:(Int)->zaa->Prop) (h_2:zaa):Prop :=
  if (decide (t21_2<64)) then ((0:Int)<=t21_2/\t21_2<(64:Int)/\(∃ v13:Int,zab h_2 (t5_2.add (t21_2.toNat*1))=some (.int .u8 v13)/\((0:Int)<=t21_2/\t21_2<(64:Int)/\(∃ h15:zaa,WrH h_2 (t5_2.add (t21_2.toNat*1))/\h15=zd7 h_2 (t5_2.add (t21_2.toNat*1)) (.int .u8 (zaq .u8 v13 54))/\((0:Int)<=t21_2/\t21_2<(64:Int)/\(∃ v17:Int,zab h15 (t6_2.add (t21_2.toNat*1))=some (.int .u8 v17)/\((0:Int)<=t21_2/\t21_2<(64:Int)/\(∃ h19:zaa,WrH h15 (t6_2.add (t21_2.toNat*1))/\h19=zd7 h15 (t6_2.add (t21_2.toNat*1)) (.int .u8 (zaq .u8 v17 92))/\(nx2 (IntKind.i64.wrap (t21_2+1)) h19))))))))) else (∃ s20:Slc,(0:Int)<=0/\0<=(64:Int)/\64<=(64:Int)/\s20=zcb ⟨some t5_2,64,64⟩ 1 (0:Int).toNat (64:Int).toNat 64/\(∃(b21:Nat) (h22:zaa),b21=h_2.size/\h22=h_2.push (.cells ([Slc.v s20,Slc.v t1_2]).toArray 24)/\(zng (⟨some ⟨b21,0,none⟩,2,2⟩:Slc) (fun(r23:List Int) h24=>∃(b25:Nat) (h26:zaa),b25=h24.size/\h26=h24.push (.cells (arr 32 .u8 ([]:List Int)).toArray 29)/\(∃ h27:zaa,WrsAt h26 (⟨b25,0,none⟩:Addr) 32/\h27=zak h26 (⟨b25,0,none⟩:Addr) 0 (arr 32 .u8 r23)/\(∃ s28:Slc,(0:Int)<=0/\0<=(64:Int)/\64<=(64:Int)/\s28=zcb ⟨some t6_2,64,64⟩ 1 (0:Int).toNat (64:Int).toNat 64/\(∃ s29:Slc,(0:Int)<=0/\0<=(32:Int)/\32<=(32:Int)/\s29=zcb ⟨some (⟨b25,0,none⟩:Addr),32,32⟩ 1 (0:Int).toNat (32:Int).toNat 32/\(∃(b30:Nat) (h31:zaa),b30=h27.size/\h31=h27.push (.cells ([Slc.v s28,Slc.v s29]).toArray 24)/\(zng (⟨some ⟨b30,0,none⟩,2,2⟩:Slc) (fun(r32:List Int) h33=>∃ h34:zaa,WrsAt h33 t4_2 32/\h34=zak h33 t4_2 0 (arr 32 .u8 r32)/\(∃ v35:List Int,CellsAt h34 t4_2 (arr 32 .u8 v35)/\k v35 h34)) h31)))))) h22)))
def zn5 (t1_2:Slc) (t4_2:Addr) (t5_2:Addr) (t6_2:Addr) (i21:Int) (k:(List Int)->zaa->Prop) (h:zaa):Prop :=
  ∃(I:Int->zaa->Prop) (μ:Int->zaa->Nat),I i21 h/\∀(t21_2:Int) (h:zaa),I t21_2 h->zmb t1_2 t4_2 t5_2 t6_2 t21_2 k (fun s h'=>I s h'/\μ s h'<μ t21_2 h) h
def zg9 (t1_1:Slc) (t4_1:Addr) (t5_1:Addr) (t6_1:Addr) (t0_1:Slc) (k:(List Int)->zaa->Prop) (h_1:zaa):Prop :=
  ∃ s7:Slc,(0:Int)<=0/\0<=(64:Int)/\64<=(64:Int)/\s7=zcb ⟨some t5_1,64,64⟩ 1 (0:Int).toNat (64:Int).toNat 64/\(∃ l8:List Value,Cpy 1 h_1 s7 t0_1 l8 (fun h9=>∃ v10:List Int,CellsAt h9 t5_1 (arr 64 .u8 v10)/\(∃ h11:zaa,WrsAt h9 t6_1 64/\h11=zak h9 t6_1 0 (arr 64 .u8 v10)/\(zn5 t1_1 t4_1 t5_1 t6_1 0 k h11))))
def zkq (p0:Slc) (p1:Slc) (k:(List Int)->zaa->Prop) (h:zaa):Prop :=
  ∃(b1:Nat) (h2:zaa),b1=h.size/\h2=h.push (.cells (arr 32 .u8 ([]:List Int)).toArray 29)/\(∃(b3:Nat) (h4:zaa),b3=h2.size/\h4=h2.push (.cells (arr 64 .u8 ([]:List Int)).toArray 186)/\(∃(b5:Nat) (h6:zaa),b5=h4.size/\h6=h4.push (.cells (arr 64 .u8 ([]:List Int)).toArray 186)/\(if (decide ((p0.len:Int) > 64)) then (∃(b36:Nat) (h37:zaa),b36=h6.size/\h37=h6.push (.cells ([Slc.v p0]).toArray 24)/\(zng (⟨some ⟨b36,0,none⟩,1,1⟩:Slc) (fun(r38:List Int) h39=>∃(b40:Nat) (h41:zaa),b40=h39.size/\h41=h39.push (.cells (arr 32 .u8 ([]:List Int)).toArray 29)/\(∃ h42:zaa,WrsAt h41 (⟨b40,0,none⟩:Addr) 32/\h42=zak h41 (⟨b40,0,none⟩:Addr) 0 (arr 32 .u8 r38)/\(∃ s43:Slc,(0:Int)<=0/\0<=(32:Int)/\32<=(32:Int)/\s43=zcb ⟨some (⟨b40,0,none⟩:Addr),32,32⟩ 1 (0:Int).toNat (32:Int).toNat 32/\(zg9 p1 (⟨b1,0,none⟩:Addr) (⟨b3,0,none⟩:Addr) (⟨b5,0,none⟩:Addr) s43 k h42)))) h37)) else (zg9 p1 (⟨b1,0,none⟩:Addr) (⟨b3,0,none⟩:Addr) (⟨b5,0,none⟩:Addr) p0 k h6))))
def zau (p0:Slc) (k:(Slc)->zaa->Prop) (h:zaa):Prop :=
  if (p0.a.isNone) then (k (⟨none,0,0⟩:Slc) h) else (∃(b1:Nat) (h2:zaa),b1=h.size/\h2=h.push (.cells ([]).toArray 5)/\(∃ l5:List Value,SlcAt h2 p0 l5/\App 5 1 1 [.int .u8 0] h2 (⟨some ⟨b1,0,none⟩,0,0⟩:Slc) p0.len l5 (fun s3 h4=>k s3 h4)))
def zn0 (t13_1:Int) (t1_1:Int) (t7_1:Slc) (t14_1:Int) (k:(Slc)->zaa->Prop) (nx1:(Int × Slc × Int)->zaa->Prop) (h_1:zaa):Prop :=
  if (decide (t14_1<t13_1)) then (∃(b3:Nat) (h4:zaa),b3=h_1.size/\h4=h_1.push (.cells ([.int .u8 (IntKind.u8.wrap t1_1)]).toArray 5)/\(App 5 1 1 [.int .u8 0] h4 t7_1 1 ([.int .u8 (IntKind.u8.wrap t1_1)]) (fun s5 h6=>∃ x7:Int,x7=(shr .u64 t1_1 (8:Int).toNat)/\(nx1 (x7,s5,(IntKind.i64.wrap (t14_1+1))) h6)))) else (k t7_1 h_1)
def zvt (t13_1:Int) (i1:Int) (i7:Slc) (i14:Int) (k:(Slc)->zaa->Prop) (h:zaa):Prop :=
  ∃(I:(Int × Slc × Int)->zaa->Prop) (μ:(Int × Slc × Int)->zaa->Nat),I (i1,i7,i14) h/\∀(t1_1:Int) (t7_1:Slc) (t14_1:Int) (h:zaa),I (t1_1,t7_1,t14_1) h->zn0 t13_1 t1_1 t7_1 t14_1 k (fun s h'=>I s h'/\μ s h'<μ (t1_1,t7_1,t14_1) h) h
def zj4 (p0:Slc) (p1:Int) (p2:Int) (k:(Slc)->zaa->Prop) (h:zaa):Prop :=
  zau p0 (fun(r1:Slc) h2=>if (decide (p2 > 8)) then (k r1 h2) else (zvt p2 p1 r1 0 k h2)) h
def zfk (t0_1:Slc) (t1_1:Slc) (t2_1:Int) (t8_1:Slc) (t9_1:Slc) (t10_1:Int) (k:(Slc × Int)->zaa->Prop) (nx1:(Slc × Slc × Int)->zaa->Prop) (h_1:zaa):Prop :=
  if (decide ((t8_1.len:Int)<t2_1)) then (∃(b1:Nat) (h2:zaa),b1=h_1.size/\h2=h_1.push (.cells ([]).toArray 5)/\(∃ l5:List Value,SlcAt h2 t9_1 l5/\App 5 1 1 [.int .u8 0] h2 (⟨some ⟨b1,0,none⟩,0,0⟩:Slc) t9_1.len l5 (fun s3 h4=>∃ l8:List Value,SlcAt h4 t1_1 l8/\App 5 1 1 [.int .u8 0] h4 s3 t1_1.len l8 (fun s6 h7=>∃(b9:Nat) (h10:zaa),b9=h7.size/\h10=h7.push (.cells ([.int .u8 t10_1]).toArray 5)/\(App 5 1 1 [.int .u8 0] h10 s6 1 ([.int .u8 t10_1]) (fun s11 h12=>zkq t0_1 s11 (fun(r13:List Int) h14=>∃(b15:Nat) (h16:zaa),b15=h14.size/\h16=h14.push (.cells (arr 32 .u8 ([]:List Int)).toArray 29)/\(∃ h17:zaa,WrsAt h16 (⟨b15,0,none⟩:Addr) 32/\h17=zak h16 (⟨b15,0,none⟩:Addr) 0 (arr 32 .u8 r13)/\(∃ s18:Slc,(0:Int)<=0/\0<=(32:Int)/\32<=(32:Int)/\s18=zcb ⟨some (⟨b15,0,none⟩:Addr),32,32⟩ 1 (0:Int).toNat (32:Int).toNat 32/\(∃ l21:List Value,SlcAt h17 s18 l21/\App 5 1 1 [.int .u8 0] h17 t8_1 s18.len l21 (fun s19 h20=>∃ x22:Int,x22=(IntKind.u8.wrap (t10_1+1))/\(nx1 (s19,s18,x22) h20)))))) h12)))))) else (∃ s23:Slc,(0:Int)<=0/\(0:Int)<=t2_1/\(t2_1:Int)<=t2_1/\t2_1<=(t8_1.cap:Int)/\s23=zcb t8_1 1 (0:Int).toNat t2_1.toNat t2_1.toNat/\(k (s23,0) h_1))
def zoh (t0_1:Slc) (t1_1:Slc) (t2_1:Int) (i8:Slc) (i9:Slc) (i10:Int) (k:(Slc × Int)->zaa->Prop) (h:zaa):Prop :=
  ∃(I:(Slc × Slc × Int)->zaa->Prop) (μ:(Slc × Slc × Int)->zaa->Nat),I (i8,i9,i10) h/\∀(t8_1:Slc) (t9_1:Slc) (t10_1:Int) (h:zaa),I (t8_1,t9_1,t10_1) h->zfk t0_1 t1_1 t2_1 t8_1 t9_1 t10_1 k (fun s h'=>I s h'/\μ s h'<μ (t8_1,t9_1,t10_1) h) h
def zd5 (p0:Slc) (p1:Slc) (p2:Int) (k:(Slc × Int)->zaa->Prop) (h:zaa):Prop :=
  if ((decide (p2<0))||(decide (p2 > 8160))) then (k ((⟨none,0,0⟩:Slc),1) h) else (zoh p0 p1 p2 (⟨none,0,0⟩:Slc) (⟨none,0,0⟩:Slc) 1 k h)
def zg7 (p0:List Int) (p1:ByteArray) (p2:Int) (k:(List Int)->zaa->Prop) (h:zaa):Prop :=
  ∃(b1:Nat) (h2:zaa),b1=h.size/\h2=h.push (.cells (arr 32 .u8 p0).toArray 23)/\(∃(b3:Nat) (h4:zaa),b3=h2.size/\h4=h2.push (.cells (arr 32 .u8 ([]:List Int)).toArray 23)/\(∃ s5:Slc,(0:Int)<=0/\0<=(32:Int)/\32<=(32:Int)/\s5=zcb ⟨some (⟨b1,0,none⟩:Addr),32,32⟩ 1 (0:Int).toNat (32:Int).toNat 32/\((p1.size<=maxLen/\S2B 5 h4 p1 (fun s6 h7=>∃(b8:Nat) (h9:zaa),b8=h7.size/\h9=h7.push (.cells ([.int .u8 0]).toArray 5)/\(App 5 1 1 [.int .u8 0] h9 s6 1 ([.int .u8 0]) (fun s10 h11=>zj4 s10 p2 8 (fun(r12:Slc) h13=>zd5 s5 r12 32 (fun(r14:Slc × Int) h15=>∃ a16:Addr,r14.1.a=some a16/\32<=r14.1.len/\(∃ v17:List Int,CellsAt h15 a16 (arr 32 .u8 v17)/\(∃ h18:zaa,WrsAt h15 (⟨b3,0,none⟩:Addr) 32/\h18=zak h15 (⟨b3,0,none⟩:Addr) 0 (arr 32 .u8 v17)/\(∃ v19:List Int,CellsAt h18 (⟨b3,0,none⟩:Addr) (arr 32 .u8 v19)/\k v19 h18)))) h13) h11))))/\(∃(b20:Nat) (h21:zaa),b20=h4.size/\h21=h4.push (.cells ([.int .u8 0]).toArray 5)/\(p1.size<=maxLen/\S2B 5 h21 p1 (fun s22 h23=>∃ l26:List Value,SlcAt h23 (⟨some ⟨b20,0,none⟩,1,1⟩:Slc) l26/\App 5 1 1 [.int .u8 0] h23 s22 (⟨some ⟨b20,0,none⟩,1,1⟩:Slc).len l26 (fun s24 h25=>zj4 s24 p2 8 (fun(r27:Slc) h28=>zd5 s5 r27 32 (fun(r29:Slc × Int) h30=>∃ a31:Addr,r29.1.a=some a31/\32<=r29.1.len/\(∃ v32:List Int,CellsAt h30 a31 (arr 32 .u8 v32)/\(∃ h33:zaa,WrsAt h30 (⟨b3,0,none⟩:Addr) 32/\h33=zak h30 (⟨b3,0,none⟩:Addr) 0 (arr 32 .u8 v32)/\(∃ v34:List Int,CellsAt h33 (⟨b3,0,none⟩:Addr) (arr 32 .u8 v34)/\k v34 h33)))) h28) h25)))))))
def zf7 (p0:List Int) (k:(List Int)->zaa->Prop) (h:zaa):Prop :=
  ∃(b1:Nat) (h2:zaa),b1=h.size/\h2=h.push (.cells (arr 32 .u8 p0).toArray 23)/\(∃(b3:Nat) (h4:zaa),b3=h2.size/\h4=h2.push (.cells (arr 32 .u8 ([]:List Int)).toArray 29)/\(∃ s5:Slc,(0:Int)<=0/\0<=(32:Int)/\32<=(32:Int)/\s5=zcb ⟨some (⟨b1,0,none⟩:Addr),32,32⟩ 1 (0:Int).toNat (32:Int).toNat 32/\(∃(b6:Nat) (h7:zaa),b6=h4.size/\h7=h4.push (.cells ([.int .u8 112,.int .u8 114,.int .u8 111,.int .u8 111,.int .u8 102]).toArray 5)/\(∃ h8:zaa,h8=h4.push (.cells ([.int .u8 112,.int .u8 114,.int .u8 111,.int .u8 111,.int .u8 102]).toArray 5 (5,6))/\(zkq s5 (⟨some ⟨b6,0,none⟩,5,5⟩:Slc) (fun(r9:List Int) h10=>∃ h11:zaa,WrsAt h10 (⟨b3,0,none⟩:Addr) 32/\h11=zak h10 (⟨b3,0,none⟩:Addr) 0 (arr 32 .u8 r9)/\(∃ v12:List Int,CellsAt h11 (⟨b3,0,none⟩:Addr) (arr 32 .u8 v12)/\k v12 h11)) h8)))))
theorem O37:zad prog 37:=ck func37
theorem R37 (p0 p1 k h) (H:zkq p0 p1 k h):CallsH prog 37 #[Slc.v p0,Slc.v p1] h (fun v h'=>∃ r:List Int,v = .agg (arr 32 .u8 r).toArray/\k r h'):=by
 refine fE func37 fun w0=>?_;refine zF [0,1] (zQ ?_);refine wB tok H fun b1 h2 H=>?_;refine zE (zQ ?_);refine wB tok H fun b3 h4 H=>?_;refine wB tok H fun b5 h6 H=>?_;refine zE ?_;refine zJ (α:=Slc) [1,4,5,6] (fun(s:Slc)=>[(0,Slc.v s)]) (fun(s:Slc) h=>zg9 p1 (ad b1) (ad b3) (ad b5) s k h) ?_ ?_;rintro t0_1 h_1 H;refine zF [0,1,4,5,6] (zQ ?_);obtain⟨s7,ps7,qs7,rs7,es7,H⟩:=H;refine wYe (zej (L:=0) (H:=64) tok rfl rfl rfl rfl rfl rfl ps7 qs7 rs7) (congrArg Slc.v es7) ?_;refine w1 tok ?_;obtain⟨l8,H⟩:=H;refine wA (zw1 (d:=s7) (s:=t0_1) tok rfl rfl rfl rfl rfl H) ?_;rintro _ h9 ⟨rfl,H⟩;refine zE (zQ ?_);refine wLa tok H fun v10 H=>?_;refine wTa tok H fun h11 H=>?_;refine zE (zS (zQ (w1 tok (zE (zB ?_)))));obtain⟨I2,μ2,H0,HI⟩:=H;refine zO (σ:=Int) [1,4,5,6] (fun(s:Int)=>[(21,.int .i64 s)]) I2 μ2 0 H0 ?_;rintro t21_2 h_2 H;replace H:=HI t21_2 h_2 H;refine zF [21,1,4,5,6] (zQ ?_);refine w1 tok (zE (zS ?_));refine zI H ?_ ?_ <;> intro H
 refine zK (zX (zS (zB (zQ (w2 tok (zE (zQ ?_)))))));refine w1 tok ?_;obtain⟨lb12,ub12,H⟩:=H;refine wY (zbw tok rfl rfl rfl rfl rfl lb12 ub12) ?_;refine wL tok H fun v13 H=>?_;refine w1 tok ?_;obtain⟨lb14,ub14,H⟩:=H;refine wY (zbw tok rfl rfl rfl rfl rfl lb14 ub14) ?_;refine wT tok H fun h15 H=>?_;refine zE (zF [21,1,4,5,6,8] (zR ?_));refine w1 tok ?_;obtain⟨lb16,ub16,H⟩:=H;refine wY (zbw tok rfl rfl rfl rfl rfl lb16 ub16) ?_;refine wL tok H fun v17 H=>?_;refine w1 tok ?_;obtain⟨lb18,ub18,H⟩:=H;refine wY (zbw tok rfl rfl rfl rfl rfl lb18 ub18) ?_;refine wT tok H fun h19 H=>?_;refine zL (zX (zR (w2 tok (zW ?_))));exact xJ (IntKind.i64.wrap (t21_2+1)) H;refine zY (yE (yE (yH (zX (zQ ?_)))));obtain⟨s20,ps20,qs20,rs20,es20,H⟩:=H;refine wYe (zej (L:=0) (H:=64) tok rfl rfl rfl rfl rfl rfl ps20 qs20 rs20) (congrArg Slc.v es20) ?_;refine w1 tok ?_;obtain⟨b21,h22,eb21,eh22,H⟩:=H;refine wH (ze7 tok rfl rfl rfl rfl rfl rfl rfl eb21 eh22) ?_;refine wC O71 (R71 _ _ _ H) fun r23 h24 H=>?_;refine wB tok H fun b25 h26 H=>?_;refine wTa tok H fun h27 H=>?_;refine zE (zF [4,6,9] (zS ?_));refine gB [4,6,9] ?_;obtain⟨s28,ps28,qs28,rs28,es28,H⟩:=H;refine gYe 0 [6] rfl (fun _=>zej (L:=0) (H:=64) tok rfl rfl rfl rfl rfl rfl ps28 qs28 rs28) (congrArg Slc.v es28) ?_;obtain⟨s29,ps29,qs29,rs29,es29,H⟩:=H;refine gYe 1 [9] rfl (fun _=>zej (L:=0) (H:=32) tok rfl rfl rfl rfl rfl rfl ps29 qs29 rs29) (congrArg Slc.v es29) ?_;obtain⟨b30,h31,eb30,eh31,H⟩:=H;refine gH 2 [39,40] rfl (ze7 tok rfl rfl rfl rfl rfl rfl rfl eb30 eh31) ?_;refine gC 3 [41] O71 (R71 _ _ _ H) fun r32 h33 H=>?_;obtain⟨h34,wh34,eh34,H⟩:=H;refine gH 4 [4,42] rfl (zrx tok rfl rfl rfl rfl rfl (qin (by kernel_rfl)) wh34 eh34) ?_;refine gZ ?_;refine zX (zT ?_);obtain⟨v35,hv35,H⟩:=H;exact zdz tok _ rfl [.agg (arr 32 .u8 v35).toArray] ⟨⟨_,_,rfl,rfl,.inr ⟨rfl,_,rfl,rfl,hv35⟩⟩,trivial⟩ ⟨v35,rfl,H⟩;refine zQ (w3 tok (zE ?_));refine zI H ?_ ?_ <;> intro H
 refine zQ (w1 tok ?_);obtain⟨b36,h37,eb36,eh37,H⟩:=H;refine wH (ze7 tok rfl rfl rfl rfl rfl rfl rfl eb36 eh37) ?_;refine wC O71 (R71 _ _ _ H) fun r38 h39 H=>?_;refine wB tok H fun b40 h41 H=>?_;refine wTa tok H fun h42 H=>?_;refine zE (zF [1,4,5,6,7] (zR ?_));obtain⟨s43,ps43,qs43,rs43,es43,H⟩:=H;refine wYe (zej (L:=0) (H:=32) tok rfl rfl rfl rfl rfl rfl ps43 qs43 rs43) (congrArg Slc.v es43) ?_;refine w1 tok (zW ?_);exact xJ s43 H;refine zK ?_;exact xJ p0 H
theorem O77:zad prog 77:=ck func77
theorem R77 (p0 k h) (H:zau p0 k h):CallsH prog 77 #[Slc.v p0] h (fun v h'=>∃ r:Slc,v=Slc.v r/\k r h'):=by
 refine fE func77 fun w0=>?_;refine zF [0] (zQ ?_);refine w1 tok (zE (zS (zQ ?_)));refine w2 tok (zE ?_);refine zI H ?_ ?_ <;> intro H
 refine zQ (w1 tok (zE (zT (yT ?_))));exact x_ret _ rfl _ rfl ⟨(⟨none,0,0⟩:Slc),rfl,H⟩;refine zK (zX (zQ ?_));obtain⟨b1,h2,eb1,eh2,H⟩:=H;refine wH (ze7 tok rfl rfl rfl rfl rfl rfl rfl eb1 eh2) ?_;refine w1 tok ?_;obtain⟨l5,hl5,H⟩:=H;refine wA (zat (s:=(⟨some ⟨b1,0,none⟩,0,0⟩:Slc)) (r:=p0) tok rfl rfl rfl rfl rfl hl5 H) ?_;rintro _ h4 ⟨s3,rfl,H⟩;refine w1 tok (zE (zT ?_));exact x_ret _ rfl _ rfl ⟨s3,rfl,H⟩
theorem zlg:zad prog 39:=ck func39
theorem zj9 (p0 p1 p2 k h) (H:zj4 p0 p1 p2 k h):CallsH prog 39 #[Slc.v p0,.int .u64 p1,.int .i64 p2] h (fun v h'=>∃ r:Slc,v=Slc.v r/\k r h'):=by
 refine fE func39 fun w0=>?_;refine zF [0,1,2] (zQ ?_);refine w1 tok (zE (zQ ?_));refine w1 tok ?_;refine wC O77 (R77 _ _ _ H) fun r1 h2 H=>?_;refine w1 tok (zE (zS (zQ ?_)));refine w2 tok (zE ?_);refine zI H ?_ ?_ <;> intro H
 refine zQ (w2 tok (zE (zF [6] (zT (yT ?_)))));exact x_ret _ rfl _ rfl ⟨r1,rfl,H⟩;refine zK (zX (zS (zQ (w2 tok (zE (zF [1,7,13,14] (zB ?_)))))));obtain⟨I1,μ1,H0,HI⟩:=H;refine zO (σ:=Int × Slc × Int) [13] (fun(s:Int × Slc × Int)=>[(1,.int .u64 s.1),(7,Slc.v s.2.1),(14,.int .i64 s.2.2)]) I1 μ1 (p1,r1,0) H0 ?_;rintro⟨t1_1,t7_1,t14_1⟩ h_1 H;replace H:=HI t1_1 t7_1 t14_1 h_1 H;refine zF [1,7,14,13] (zQ ?_);refine w1 tok (zE (zS ?_));refine zI H ?_ ?_ <;> intro H
 refine zK (zX (zS (zB (zQ (w3 tok ?_)))));obtain⟨b3,h4,eb3,eh4,H⟩:=H;refine wH (ze7 tok rfl rfl rfl rfl rfl rfl rfl eb3 eh4) ?_;refine wA (zat (s:=t7_1) (r:=(⟨some ⟨b3,0,none⟩,1,1⟩:Slc)) tok rfl rfl rfl rfl rfl (zan eb3 eh4) H) ?_;rintro _ h6 ⟨s5,rfl,H⟩;refine w1 tok (zE (zR ?_));refine w2 tok ?_;obtain⟨x7,ex7,H⟩:=H;refine zdg tok rfl (congrArg (fun z=>(.int .u64 z:Value)) ex7) rfl rfl ?_;refine zL (zX (zF [1,7,14,13] (zR ?_)));refine w2 tok (zW ?_);exact xJ (x7,s5,(IntKind.i64.wrap (t14_1+1))) H;refine zY (yE (yE (yH (zX (zQ (w2 tok (zE (zT ?_))))))));exact x_ret _ rfl _ rfl ⟨t7_1,rfl,H⟩
theorem O38:zad prog 38:=ck func38
theorem R38 (p0 p1 p2 k h) (H:zd5 p0 p1 p2 k h):CallsH prog 38 #[Slc.v p0,Slc.v p1,.int .i64 p2] h (fun v h'=>∃ r:Slc × Int,v = .tuple #[Slc.v r.1,.int .i64 r.2]/\k r h'):=by
 refine fE func38 fun w0=>?_;refine zF [0,1,2] (zQ ?_);refine w2 tok (zE (zS (zQ ?_)));refine w3 tok ?_;refine vU 3 [0,1,2] [(18,.bool ((decide (p2<0))||(decide (p2 > 8160))))] ?_ ?_;refine zE ?_;refine zI H ?_ ?_ <;> intro H
 refine zQ (w2 tok (zE (zT (yT ?_))));exact x_ret _ rfl _ rfl ⟨((⟨none,0,0⟩:Slc),1),rfl,H⟩;refine zK (zX (zQ (w2 tok (zE (zS (zQ ?_))))));refine w1 tok (zE (zB ?_));obtain⟨I1,μ1,H0,HI⟩:=H;refine zO (σ:=Slc × Slc × Int) [0,1,2] (fun(s:Slc × Slc × Int)=>[(8,Slc.v s.1),(9,Slc.v s.2.1),(10,.int .u8 s.2.2)]) I1 μ1 ((⟨none,0,0⟩:Slc),(⟨none,0,0⟩:Slc),1) H0 ?_;rintro⟨t8_1,t9_1,t10_1⟩ h_1 H;replace H:=HI t8_1 t9_1 t10_1 h_1 H;refine zF [8,9,10,0,1,2] (zS (zQ ?_));refine w4 tok (zE ?_);refine zI H ?_ ?_ <;> intro H
 refine zK (zX (zS (zB (zQ ?_))));obtain⟨b1,h2,eb1,eh2,H⟩:=H;refine wH (ze7 tok rfl rfl rfl rfl rfl rfl rfl eb1 eh2) ?_;refine w1 tok ?_;obtain⟨l5,hl5,H⟩:=H;refine wA (zat (s:=(⟨some ⟨b1,0,none⟩,0,0⟩:Slc)) (r:=t9_1) tok rfl rfl rfl rfl rfl hl5 H) ?_;rintro _ h4 ⟨s3,rfl,H⟩;refine w1 tok ?_;obtain⟨l8,hl8,H⟩:=H;refine wA (zat (s:=s3) (r:=p1) tok rfl rfl rfl rfl rfl hl8 H) ?_;rintro _ h7 ⟨s6,rfl,H⟩;refine w1 tok ?_;obtain⟨b9,h10,eb9,eh10,H⟩:=H;refine wH (ze7 tok rfl rfl rfl rfl rfl rfl rfl eb9 eh10) ?_;refine wA (zat (s:=s6) (r:=(⟨some ⟨b9,0,none⟩,1,1⟩:Slc)) tok rfl rfl rfl rfl rfl (zan eb9 eh10) H) ?_;rintro _ h12 ⟨s11,rfl,H⟩;refine w1 tok (zE (zF [8,10,0,1,2,11] (zQ ?_)));refine w2 tok ?_;refine wC O37 (R37 _ _ _ _ H) fun r13 h14 H=>?_;refine wB tok H fun b15 h16 H=>?_;refine wTa tok H fun h17 H=>?_;refine zE (zQ ?_);obtain⟨s18,ps18,qs18,rs18,es18,H⟩:=H;refine wYe (zej (L:=0) (H:=32) tok rfl rfl rfl rfl rfl rfl ps18 qs18 rs18) (congrArg Slc.v es18) ?_;refine w1 tok (zE (zR ?_));refine w2 tok ?_;obtain⟨l21,hl21,H⟩:=H;refine wA (zat (s:=t8_1) (r:=s18) tok rfl rfl rfl rfl rfl hl21 H) ?_;rintro _ h20 ⟨s19,rfl,H⟩;refine w1 tok (zL (zX (zF [8,10,0,1,2,9] (zR ?_))));refine w2 tok ?_;obtain⟨x22,ex22,H⟩:=H;refine zdg tok rfl (congrArg (fun z=>(.int .u8 z:Value)) ex22) rfl rfl ?_;refine zW ?_;exact xJ (s19,s18,x22) H;refine zY (yE (yE (yH (zX (zF [8,2] (zQ ?_))))));refine w3 tok ?_;obtain⟨s23,ps23,qs23,rs23,ts23,es23,H⟩:=H;refine wYe (zz0 (s:=t8_1) (L:=0) (H:=p2) (M:=p2) tok rfl rfl rfl rfl rfl rfl rfl (by simp) ps23 qs23 rs23 ts23) (congrArg Slc.v es23) ?_;refine w2 tok (zE (zT ?_));exact x_ret _ rfl _ rfl ⟨(s23,0),rfl,H⟩;refine vG (d:=15) (fun hb=>?_) (fun hb=>?_);refine wS (wS (w1 tok ?_));refine vK ?_;exact congrArg (fun b=>some (Value.bool b)) (zy2 hb);refine w3 tok ?_;refine vK ?_;exact congrArg (fun b=>some (Value.bool b)) (zzn hb)
theorem O15:zad prog 15:=ck func15
theorem R15 (p0 p1 p2 k h) (H:zg7 p0 p1 p2 k h):CallsH prog 15 #[.agg (arr 32 .u8 p0).toArray,.string p1,.int .u64 p2] h (fun v h'=>∃ r:List Int,v = .agg (arr 32 .u8 r).toArray/\k r h'):=by
 refine fE func15 fun w0=>?_;refine zF [0,1,2] (zQ ?_);refine wX H fun b1 h2 H=>?_;refine wB tok H fun b3 h4 H=>?_;refine zE (zS ?_);refine gB [1,2,3,6] ?_;obtain⟨s5,ps5,qs5,rs5,es5,H⟩:=H;refine gYe 0 [3] rfl (fun _=>zej (L:=0) (H:=32) tok rfl rfl rfl rfl rfl rfl ps5 qs5 rs5) (congrArg Slc.v es5) ?_;refine gT 1 [1] tok ?_;refine gT 5 [2] tok ?_;refine gO 2 3 H (fun H=>?_) (fun H=>?_);obtain⟨ms6,H⟩:=H;refine gAI 2 [11] rfl (qas (s:=p1) tok rfl rfl rfl rfl rfl ms6 H) ?_;rintro _ h7 ⟨s6,rfl,H⟩;obtain⟨b8,h9,eb8,eh9,H⟩:=H;refine gH 3 [] rfl (ze7 tok rfl rfl rfl rfl rfl rfl rfl eb8 eh9) ?_;refine gA 4 [12,13] rfl (zat (s:=s6) (r:=(⟨some ⟨b8,0,none⟩,1,1⟩:Slc)) tok rfl rfl rfl rfl rfl (zan eb8 eh9) H) ?_;rintro _ h11 ⟨s10,rfl,H⟩;refine gC 6 [14,15] zlg (zj9 _ _ _ _ _ H) fun r12 h13 H=>?_;refine gC 7 [10,16] O38 (R38 _ _ _ _ _ H) fun r14 h15 H=>?_;refine gT 8 [17] tok ?_;refine gT 9 [9] tok ?_;refine gT 10 [9] tok ?_;refine gT 11 [18] tok ?_;refine gT 12 [19] tok ?_;refine gZ ?_;refine zX (zF [6,7] (zQ ?_));refine w1 tok ?_;obtain⟨a16,ha16,ua16,H⟩:=H;refine wY (qhu tok rfl rfl ha16 rfl ua16) ?_;refine wLa tok H fun v17 H=>?_;refine wTa tok H fun h18 H=>?_;refine zE (zT ?_);obtain⟨v19,hv19,H⟩:=H;exact zdz tok _ rfl [.agg (arr 32 .u8 v19).toArray] ⟨⟨_,_,rfl,rfl,.inr ⟨rfl,_,rfl,rfl,hv19⟩⟩,trivial⟩ ⟨v19,rfl,H⟩;obtain⟨b20,h21,eb20,eh21,H⟩:=H;refine gHI 3 [] rfl (ze7 tok rfl rfl rfl rfl rfl rfl rfl eb20 eh21) ?_;obtain⟨ms22,H⟩:=H;refine gA 2 [11] rfl (qas (s:=p1) tok rfl rfl rfl rfl rfl ms22 H) ?_;rintro _ h23 ⟨s22,rfl,H⟩;obtain⟨l26,hl26,H⟩:=H;refine gA 4 [12,13] rfl (zat (s:=s22) (r:=(⟨some ⟨b20,0,none⟩,1,1⟩:Slc)) tok rfl rfl rfl rfl rfl hl26 H) ?_;rintro _ h25 ⟨s24,rfl,H⟩;refine gC 6 [14,15] zlg (zj9 _ _ _ _ _ H) fun r27 h28 H=>?_;refine gC 7 [10,16] O38 (R38 _ _ _ _ _ H) fun r29 h30 H=>?_;refine gT 8 [17] tok ?_;refine gT 9 [9] tok ?_;refine gT 10 [9] tok ?_;refine gT 11 [18] tok ?_;refine gT 12 [19] tok ?_;refine gZ ?_;refine zX (zF [6,7] (zQ ?_));refine w1 tok ?_;obtain⟨a31,ha31,ua31,H⟩:=H;refine wY (qhu tok rfl rfl ha31 rfl ua31) ?_;refine wLa tok H fun v32 H=>?_;refine wTa tok H fun h33 H=>?_;refine zE (zT ?_);obtain⟨v34,hv34,H⟩:=H;exact zdz tok _ rfl [.agg (arr 32 .u8 v34).toArray] ⟨⟨_,_,rfl,rfl,.inr ⟨rfl,_,rfl,rfl,hv34⟩⟩,trivial⟩ ⟨v34,rfl,H⟩
theorem O14:zad prog 14:=ck func14
theorem R14 (p0 k h) (H:zf7 p0 k h):CallsH prog 14 #[.agg (arr 32 .u8 p0).toArray] h (fun v h'=>∃ r:List Int,v = .agg (arr 32 .u8 r).toArray/\k r h'):=by
 refine fE func14 fun w0=>?_;refine zF [0] (zQ ?_);refine wX H fun b1 h2 H=>?_;refine wB tok H fun b3 h4 H=>?_;refine zE (zQ ?_);obtain⟨s5,ps5,qs5,rs5,es5,H⟩:=H;refine wYe (zej (L:=0) (H:=32) tok rfl rfl rfl rfl rfl rfl ps5 qs5 rs5) (congrArg Slc.v es5) ?_;obtain⟨b6,h7,eb6,eh7,H⟩:=H;refine wH (ze7 tok rfl rfl rfl rfl rfl rfl rfl eb6 eh7) ?_;obtain⟨h8,eh8,H⟩:=H;refine wH (qdd tok rfl rfl rfl rfl eb6 eh7 rfl eh8) ?_;refine wC O37 (R37 _ _ _ _ H) fun r9 h10 H=>?_;refine wTa tok H fun h11 H=>?_;refine zE (zT ?_);obtain⟨v12,hv12,H⟩:=H;exact zdz tok _ rfl [.agg (arr 32 .u8 v12).toArray] ⟨⟨_,_,rfl,rfl,.inr ⟨rfl,_,rfl,rfl,hv12⟩⟩,trivial⟩ ⟨v12,rfl,H⟩
end Go.Q.Yo
end
section
namespace Go.Q.Yo
def rcL:List Int:=[1116352408,1899447441,3049323471,3921009573,961987163,1508970993,2453635748,2870763221,3624381080,310598401,607225278,1426881987,1925078388,2162078206,2614888103,3248222580,3835390401,4022224774,264347078,604807628,770255983,1249150122,1555081692,1996064986,2554220882,2821834349,2952996808,3210313671,3336571891,3584528711,113926993,338241895,666307205,773529912,1294757372,1396182291,1695183700,1986661051,2177026350,2456956037,2730485921,2820302411,3259730800,3345764771,3516065817,3600352804,4094571909,275423344,430227734,506948616,659060556,883997877,958139571,1322822218,1537002063,1747873779,1955562222,2024104815,2227730452,2361852424,2428436474,2756734187,3204031479,3329325298]
abbrev u32s (l:List Int):List Value:=l.map (Value.int .u32)
theorem zs6 (l:List Int):∀ v∈u32s l,v.oneCell'=true:=fun v hv=>by obtain⟨a,_,rfl⟩:=List.mem_map.1 hv;rfl
def R0 (h:zaa):Prop:=CellsAt h ⟨0,0,none⟩ (u32s rcL)
theorem R0.pos {h:zaa} (r:R0 h):0<h.size:=by
 have:=r 0 _ rfl;rw [add_mk] at this;exact zdu this
theorem R0.ext {B:Nat} {h h':zaa} (r:R0 h) (X:Ext B h h') (hB:0<B):R0 h':=fun j v hj=>by
 have:=r j v hj;rw [X.cell (by rw [add_mk];exact hB)];exact this
theorem zcq {n:Nat} {k:IntKind} {l:List Int} (hl:l.length=n):arr n k l=l.map (Value.int k):=by
 rw [zde];congr 1;unfold nrm;apply List.ext_getElem
 ·simp [hl]
 ·intro i h1 h2
  simp [h2]
theorem qkx (x:Int):0<=IntKind.u64.wrap x:=by
 unfold IntKind.wrap;simp [IntKind.signed,IntKind.bits];omega
def zth (x n:Int):Int:=zlj .u32 (shl .u32 x (zbe .u64 (IntKind.u64.wrap n) 31).toNat) (shr .u32 x (IntKind.u64.wrap (32-zbe .u64 (IntKind.u64.wrap n) 31)).toNat)
theorem zqr {x n:Int} {k:Int->zaa->Prop} {h:zaa} (H:k (zth x n) h):zas x n k h:=by
 unfold zas;exact⟨_,rfl,qkx _,qkx _,_,rfl,H⟩
def zfo (n a b c:Int) (cut:Bool):Int :=
 zaq .u32 (zaq .u32 (zth n (IntKind.i64.wrap (0-a))) (zth n (IntKind.i64.wrap (0-b)))) (if cut then shr .u32 n (IntKind.u64.wrap c).toNat else zth n (IntKind.i64.wrap (0-c)))
theorem zk3 {n a b c:Int} {cut:Bool} {k:Int->zaa->Prop} {h:zaa} (H:k (zfo n a b c cut) h):zd2 n a b c cut k h:=by
 unfold zd2;refine zqr ?_;unfold zfo at H
 cases cut with
 | true =>
  rw [if_pos rfl] at H ⊢;refine⟨qkx _,_,rfl,?_⟩;unfold zds
  exact zqr (zqr ⟨_,rfl,H⟩)
 | false =>
  rw [if_neg (by simp)] at H ⊢;unfold zds;exact zqr (zqr ⟨_,rfl,H⟩)
theorem qam (a:Addr) (i j:Nat):(a.add i).add j=a.add (i+j):=by
 unfold Addr.add;by_cases hi:i=0
 ·subst hi;simp
 ·by_cases hj:j=0
  ·subst hj;simp
  ·rw [if_neg hi,if_neg hj,if_neg (by omega)]
   simp [Nat.add_assoc]
theorem qc7 {h:zaa} {s:Slc} {vs:List Value} {lo hi m:Nat} (S:SlcAt h s vs) (hv:0<vs.length) (l1:lo<hi) (l2:hi<=vs.length) (l3:hi<=m) :
  ∃ a,(zcb s 1 lo hi m).a=some a/\(zcb s 1 lo hi m).len=hi-lo/\∀ j,lo+j<vs.length->zab h (a.add j)=vs[lo+j]?:=by
 cases ha:s.a with
 | none=>have:=S.1 ha;rw [this] at hv;simp at hv
 | some a =>
  refine⟨a.add lo,?_,rfl,fun j hj=>?_⟩
  ·unfold zcb
   simp only;rw [if_neg (by omega),ha,Nat.mul_one];rfl
  ·rw [qam a lo j]
   have hj2:vs[lo+j]? = some vs[lo+j]:=List.getElem?_eq_getElem hj;rw [S.2 a ha (lo+j) _ hj2,hj2]
def zkn (bl:List Int) (i:Nat):Int:=zlj .u32 (zlj .u32 (zlj .u32 (shl .u32 (IntKind.u32.wrap (bl.getD (4*i) 0)) (24:Int).toNat) (shl .u32 (IntKind.u32.wrap (bl.getD (4*i+1) 0)) (16:Int).toNat)) (shl .u32 (IntKind.u32.wrap (bl.getD (4*i+2) 0)) (8:Int).toNat)) (IntKind.u32.wrap (bl.getD (4*i+3) 0))
def zp2 (bl W:List Int) (n:Nat):Int :=
 if n<16 then zkn bl n else IntKind.u32.wrap (IntKind.u32.wrap (IntKind.u32.wrap (W.getD (n-16) 0+zfo (W.getD (n-15) 0) 7 18 3 true)+W.getD (n-7) 0)+zfo (W.getD (n-2) 0) 17 19 10 true)
def zb1 (bl:List Int):Nat->List Int
 | 0=>List.replicate 64 0
 | n+1=>(zb1 bl n).set n (zp2 bl (zb1 bl n) n)
theorem zgr (bl:List Int):∀ n,(zb1 bl n).length=64
 | 0=>rfl
 | n+1=>by rw [zb1,List.length_set];exact zgr bl n
theorem zjy {h:zaa} {b E:Nat} {W:List Int} (B:Blk h b (u32s W) E) {i:Nat} (hi:i<W.length):zab h ⟨b,i,none⟩=some (.int .u32 (W.getD i 0)):=by
 rw [B.cell];simp [hi]
theorem qa6 {s:Slc} {bl:List Int} {k:List Int->zaa->Prop} {h:zaa} (S:SlcAt h s (b8 bl)) (l:s.len=64) (lb:bl.length=64) (lc:s.len<=s.cap) (H:∀ h',Ext h.size h h'->k (zb1 bl 64) h'):zfx s k h:=by
 unfold zfx;refine⟨_,_,rfl,rfl,_,_,rfl,rfl,?_⟩;have P:=Blk.push h (arr 64 .u32 ([]:List Int)) 401;have W2:=Ext.push h (.cells (arr 64 .u32 ([]:List Int)).toArray 401) (Nat.le_refl _);have pl:=P.lt;generalize h.push (.cells (arr 64 .u32 ([]:List Int)).toArray 401)=h2 at *;have z2:=W2.size;have Q:Blk (h2.push (.cells (arr 64 .u32 ([]:List Int)).toArray 401)) h2.size (u32s (zb1 bl 0)) 401:=Blk.push h2 (arr 64 .u32 ([]:List Int)) 401;have W3:=Ext.push h2 (.cells (arr 64 .u32 ([]:List Int)).toArray 401) (Nat.le_refl _);generalize h2.push (.cells (arr 64 .u32 ([]:List Int)).toArray 401)=h4 at *;have P4:=P.ext W3 pl;have X4:Ext h.size h h4:=W2.trans (W3.mono z2);obtain⟨b3,eb3⟩:∃ y,y=h2.size:=⟨_,rfl⟩
 obtain⟨b1,eb1⟩:∃ y,y=h.size:=⟨_,rfl⟩
 rw [← eb3] at Q pl z2 ⊢;rw [← eb1] at P4 X4 pl z2 H ⊢;clear P;unfold zin;refine⟨fun i h'=>0<=i/\i<=64/\Blk h' b3 (u32s (zb1 bl i.toNat)) 401/\Blk h' b1 (arr 64 .u32 ([]:List Int)) 401/\Ext b1 h h',fun i _=>(64-i).toNat,⟨by omega,by omega,Q,P4,X4⟩,?_⟩;rintro i h5 ⟨i0,i1,Q5,P5,X5⟩;have lw:=zgr bl i.toNat;unfold zhs;by_cases c:i<64
 ·rw [if_pos (by rw [decide_eq_true_eq];exact c)]
  have step:∀ h6,Ext h5.size h5 h6->WrH h6 ⟨b3,i.toNat,none⟩/\∀ v,v=zp2 bl (zb1 bl i.toNat) i.toNat->zcz s ⟨b1,0,none⟩ ⟨b3,0,none⟩ i k (fun i' h'=>(0<=i'/\i'<=64/\Blk h' b3 (u32s (zb1 bl i'.toNat)) 401/\Blk h' b1 (arr 64 .u32 ([]:List Int)) 401/\Ext b1 h h')/\(64-i').toNat<(64-i).toNat) (zd7 h6 ⟨b3,i.toNat,none⟩ (.int .u32 v)):=fun h6 X6=>by
   have Q6:=Q5.ext X6 Q5.lt;have P6:=P5.ext X6 P5.lt;refine⟨Q6.wr (by rw [List.length_map,lw];omega),fun v hv=>?_⟩;unfold zcz;rw [zac (by omega) (by omega)];refine⟨⟨by omega,by omega,?_,P6.old (setH_other (by show b1≠b3;omega)),?_⟩,by omega⟩
   ·have:=Q6.set (i:=i.toNat) (v:=.int .u32 v)
    rw [show (i+1).toNat=i.toNat+1 from by omega,zb1,u32s,List.map_set,← hv];exact this
   ·refine X5.trans ⟨by rw [setH_size];exact X6.size,fun j hj=>?_⟩
    rw [setH_other (by show j≠b3;omega)];exact X6.block j (by have:=P5.lt;omega)
  by_cases d:i<16
  ·rw [if_pos (by rw [decide_eq_true_eq];exact d)]
   have S5:SlcAt h5 s (b8 bl):=S.ext (by rw [← eb1];exact X5);have lbb:(b8 bl).length=64:=by rw [List.length_map,lb]
   rw [zac (x:=4*i) (by omega) (by omega)];obtain⟨a,ha,hl,hc⟩:=qc7 (lo:=(4*i).toNat) (hi:=((s.len:Nat):Int).toNat) (m:=((s.cap:Nat):Int).toNat) S5 (by omega) (by omega) (by omega) (by omega);refine⟨_,by omega,by omega,by omega,by omega,rfl,?_⟩;generalize zcb s 1 (4*i).toNat ((s.len:Nat):Int).toNat ((s.cap:Nat):Int).toNat=s5 at *
   have cj:∀ j:Nat,j<4->zab h5 (a.add (j*1))=some (.int .u8 (bl.getD (4*i.toNat+j) 0)):=fun j hj=>by
    rw [Nat.mul_one,hc j (by omega),show (4*i).toNat+j=4*i.toNat+j from by omega];have:4*i.toNat+j<bl.length:=by omega
    simp [this]
   refine⟨a,ha,by omega,by omega,_,cj 0 (by omega),a,ha,by omega,by omega,_,cj 1 (by omega),a,ha,by omega,by omega,_,cj 2 (by omega),a,ha,by omega,by omega,_,cj 3 (by omega),i0,c,?_⟩;obtain⟨w1,w2⟩:=step h5 (Ext.refl _ _);refine⟨_,by rw [add_mk,Nat.zero_add,Nat.mul_one];exact w1,rfl,?_⟩;rw [add_mk,Nat.zero_add,Nat.mul_one];refine w2 _ ?_;unfold zp2 zkn;rw [if_pos (by omega)];rfl
  ·rw [if_neg (by rw [decide_eq_true_eq];exact d)]
   rw [zac (x:=i-16) (by omega) (by omega),zac (x:=i-15) (by omega) (by omega),zac (x:=i-7) (by omega) (by omega),zac (x:=i-2) (by omega) (by omega)]
   have cj:∀(h6:zaa),Ext h5.size h5 h6->∀ j:Nat,j<=i.toNat->zab h6 ((⟨b3,0,none⟩:Addr).add ((i-(j:Int)).toNat*1))=some (.int .u32 ((zb1 bl i.toNat).getD (i.toNat-j) 0)):=fun h6 X6 j hj=>by
    rw [add_mk,Nat.zero_add,Nat.mul_one,zjy (Q5.ext X6 Q5.lt) (by omega),show (i-(j:Int)).toNat=i.toNat-j from by omega]
   have X0:=Ext.refl h5.size h5;refine⟨by omega,by omega,_,cj h5 X0 16 (by omega),by omega,by omega,_,cj h5 X0 15 (by omega),by omega,by omega,_,cj h5 X0 7 (by omega),by omega,by omega,_,cj h5 X0 2 (by omega),zk3 ⟨cj h5 X0 2 (by omega),cj h5 X0 7 (by omega),cj h5 X0 16 (by omega),zk3 ⟨cj h5 X0 7 (by omega),cj h5 X0 16 (by omega),i0,c,?_⟩⟩⟩;obtain⟨w1,w2⟩:=step h5 X0;refine⟨_,by rw [add_mk,Nat.zero_add,Nat.mul_one];exact w1,rfl,?_⟩;rw [add_mk,Nat.zero_add,Nat.mul_one];refine w2 _ ?_;unfold zp2;rw [if_neg (by omega)]
 ·rw [if_neg (by rw [decide_eq_true_eq];exact c)]
  have e:i.toNat=64:=by omega
  rw [e] at Q5 lw;have ea:arr 64 .u32 (zb1 bl 64)=u32s (zb1 bl 64):=zcq lw;refine⟨zb1 bl 64,by rw [ea];exact CellsAt.of_blk Q5,_,WrsAt.of_blk P5 (by show 64<=64;omega),rfl,zb1 bl 64,?_,?_⟩
  ·exact CellsAt.of_blk (P5.sets_all (by rw [ea,List.length_map,lw];rfl))
  ·exact H _ (X5.trans (Ext.sets _ _ _ (Nat.le_refl _)))
end Go.Q.Yo
end
section
namespace Go.Q.Yo
abbrev zg2 (x:Int):Int:=IntKind.u32.wrap x
def zz1 (V:List Int) (w c:Int):Int:=zg2 (zg2 (zg2 (zg2 (V.getD 7 0+zfo (V.getD 4 0) 6 11 25 false)+zaq .u32 (zbe .u32 (V.getD 4 0) (V.getD 5 0)) (zbe .u32 (zaq .u32 4294967295 (V.getD 4 0)) (V.getD 6 0)))+c)+w)
def qey (V:List Int):Int:=zg2 (zfo (V.getD 0 0) 2 13 22 false+zaq .u32 (zaq .u32 (zbe .u32 (V.getD 0 0) (V.getD 1 0)) (zbe .u32 (V.getD 0 0) (V.getD 2 0))) (zbe .u32 (V.getD 1 0) (V.getD 2 0)))
def zuy (V:List Int):List Int:=V.take 1++V.take 7
def rnd (V:List Int) (w c:Int):List Int:=((zuy V).set 0 (zg2 (zz1 V w c+qey V))).set 4 (zg2 ((zuy V).getD 4 0+zz1 V w c))
def zhw (V0 W:List Int):Nat->List Int
 | 0=>V0
 | n+1=>rnd (zhw V0 W n) (W.getD n 0) (rcL.getD n 0)
def zjj (H V:List Int):Nat->List Int
 | 0=>H
 | n+1=>(zjj H V n).set n (zg2 ((zjj H V n).getD n 0+V.getD n 0))
def zlh (H bl:List Int):List Int:=zjj H (zhw H (zb1 bl 64) 64) 8
theorem zy8 {V:List Int} (h:V.length=8):(zuy V).length=8:=by unfold zuy;rw [List.length_append,List.length_take,List.length_take];omega
theorem qfo {V:List Int} (w c:Int) (h:V.length=8):(rnd V w c).length=8:=by unfold rnd;rw [List.length_set,List.length_set];exact zy8 h
theorem zql {V0 W:List Int} (h:V0.length=8):∀ n,(zhw V0 W n).length=8
 | 0=>h
 | n+1=>qfo _ _ (zql h n)
theorem znh {H V:List Int} (h:H.length=8):∀ n,(zjj H V n).length=8
 | 0=>h
 | n+1=>by rw [zjj,List.length_set];exact znh h n
theorem qbu {H bl:List Int} (h:H.length=8):(zlh H bl).length=8:=znh h 8
theorem qny {h:zaa} (r:R0 h) {i:Nat} (hi:i<64):zab h ((⟨0,0,none⟩:Addr).add (i*1))=some (.int .u32 (rcL.getD i 0)):=by
 rw [Nat.mul_one];have hl:i<rcL.length:=hi;exact r i _ (by simp [hl])
theorem zwi {sz:Nat} {h:zaa} {d s:Slc} {news:List Value} {k:zaa->Prop} {a:Addr} (ha:d.a=some a) (h1:∃ all,SlcAt h s all/\all.length=s.len*sz/\news=all.take (min s.len d.len*sz)) (h2:∀ v∈news,v.oneCell'=true) (h3:WrsAt h a news.length) (K:k (zak h a 0 news)):Cpy sz h d s news k:=by
 refine⟨h1,h2,fun hn=>(by rw [ha] at hn;cases hn),fun b hb=>?_,?_⟩
 ·rw [ha] at hb;cases hb;exact h3
 ·rw [ha];exact K
theorem qgw {H:List Int} {s:Slc} {bl:List Int} {k:List Int->zaa->Prop} {h:zaa} (r:R0 h) (hH:H.length=8) (S:SlcAt h s (b8 bl)) (l:s.len=64) (lb:bl.length=64) (lc:s.len<=s.cap)
  (F:∀ h',Ext h.size h h'->k (zlh H bl) h'):zd6 H s k h:=by
 have r0:=r.pos;unfold zd6;have eH:arr 8 .u32 H=u32s H:=zcq hH;refine⟨_,_,rfl,rfl,_,_,rfl,rfl,?_⟩;have P:=Blk.push h (arr 8 .u32 H) 274;have W2:=Ext.push h (.cells (arr 8 .u32 H).toArray 274) (Nat.le_refl _);have pl:=P.lt;generalize h.push (.cells (arr 8 .u32 H).toArray 274)=h2 at *;have z2:=W2.size;have Q:=Blk.push h2 (arr 8 .u32 ([]:List Int)) 274;have W3:=Ext.push h2 (.cells (arr 8 .u32 ([]:List Int)).toArray 274) (Nat.le_refl _);have ql:=Q.lt;generalize h2.push (.cells (arr 8 .u32 ([]:List Int)).toArray 274)=h4 at *;have P4:=P.ext W3 pl;have X4:Ext h.size h h4:=W2.trans (W3.mono z2);have z4:=X4.size;have z24:=W3.size;refine⟨H,CellsAt.of_blk P4,_,_,rfl,rfl,?_⟩;have V:=Blk.push h4 (arr 8 .u32 ([]:List Int)) 274;have W5:=Ext.push h4 (.cells (arr 8 .u32 ([]:List Int)).toArray 274) (Nat.le_refl _);generalize h4.push (.cells (arr 8 .u32 ([]:List Int)).toArray 274)=h7 at *;refine⟨_,WrsAt.of_blk V (by show 8<=8;omega),rfl,?_⟩;have V8:Blk (zak h7 ⟨h4.size,0,none⟩ 0 (arr 8 .u32 H)) h4.size (arr 8 .u32 H) 274:=V.sets_all (by rw [eH,List.length_map,hH];rfl);have X8:Ext h4.size h4 (zak h7 ⟨h4.size,0,none⟩ 0 (arr 8 .u32 H)):=W5.trans (Ext.sets _ _ _ (Nat.le_refl _));generalize zak h7 ⟨h4.size,0,none⟩ 0 (arr 8 .u32 H)=h8 at *;have z8:=X8.size;have vl:=V8.lt;obtain⟨b6,eb6⟩:∃ y,y=h4.size:=⟨_,rfl⟩
 obtain⟨b3,eb3⟩:∃ y,y=h2.size:=⟨_,rfl⟩
 obtain⟨b1,eb1⟩:∃ y,y=h.size:=⟨_,rfl⟩
 have X08:Ext b1 h h8:=by rw [eb1];exact X4.trans (X8.mono z4)
 have P8:=P4.ext X8 (by omega);have Q8:=Q.ext X8 (by omega);have S8:SlcAt h8 s (b8 bl):=S.ext (by rw [← eb1];exact X08);refine qa6 S8 l lb lc fun h10 X10=>?_;have P10:=P8.ext X10 (by omega);have Q10:=Q8.ext X10 (by omega);have V10:=V8.ext X10 vl;have X010:Ext b1 h h10:=X08.trans (X10.mono (by omega));rw [← eb6] at V10 ⊢;rw [← eb3] at Q10 ⊢;rw [← eb1] at P10 F r0 ⊢;rw [eH] at P10 V10;clear P P4 P8 Q Q8 V V8 W2 W3 W5 X4 X8 X10 X08 S8;have dis:b1≠b3/\b1≠b6/\b3≠b6/\b1<=b3/\b1<=b6:=by omega
 generalize eW:zb1 bl 64=W at *;unfold zgq;refine⟨fun i h'=>0<=i/\i<=64/\Blk h' b1 (u32s H) 274/\Blk h' b3 (arr 8 .u32 ([]:List Int)) 274/\Blk h' b6 (u32s (zhw H W i.toNat)) 274/\Ext b1 h h',fun i _=>(64-i).toNat,⟨by omega,by omega,P10,Q10,V10,X010⟩,?_⟩;rintro i h1 ⟨i0,i1,P1,Q1,V1,X1⟩;have lv:=zql (W:=W) hH i.toNat;unfold zf5;by_cases c:i<64
 ·rw [if_pos (by rw [decide_eq_true_eq];exact c)]
  generalize eV:zhw H W i.toNat=Vi at *
  have cv:∀ j:Nat,j<8->zab h1 ((⟨b6,0,none⟩:Addr).add ((j:Int).toNat*1))=some (.int .u32 (Vi.getD j 0)):=fun j hj=>by
   rw [add_mk,Nat.zero_add,Nat.mul_one,Int.toNat_natCast,zjy V1 (by omega)]
  have cr:=qny (r.ext X1 r0) (i:=i.toNat) (by omega)
  refine⟨i0,c,_,rfl,by omega,by omega,_,cv 0 (by omega),by omega,by omega,_,cv 4 (by omega),by omega,by omega,_,cv 7 (by omega),by omega,by omega,_,cv 5 (by omega),by omega,by omega,_,cv 6 (by omega),i0,c,_,cr,zk3 ⟨cr,cv 6 (by omega),cv 5 (by omega),cv 7 (by omega),
   by omega,by omega,_,cv 1 (by omega),by omega,by omega,_,cv 2 (by omega),by omega,by omega,_,cv 1 (by omega),by omega,by omega,_,cv 2 (by omega),zk3 ⟨cv 2 (by omega),cv 1 (by omega),cv 2 (by omega),cv 1 (by omega),_,by omega,by omega,by omega,rfl,_,by omega,by omega,by omega,rfl,u32s (Vi.take 7),?_⟩⟩⟩
  have lu:(u32s Vi).length=8:=by rw [List.length_map,lv]
  have l7:(u32s (Vi.take 7)).length=7:=by rw [List.length_map,List.length_take];omega
  refine zwi (a:=⟨b6,1,none⟩) ?_ ⟨u32s (Vi.take 7),?_,?_,?_⟩ (zs6 _) (fun j hj=>?_) ?_
  ·show some ((⟨b6,0,none⟩:Addr).add 1)=_
   rw [add_mk]
  ·refine⟨fun hn=>?_,fun a ha j v hj=>?_⟩
   ·have:some (((⟨b6,0,none⟩:Addr).add 0))=none:=hn
    cases this
   have ea:a=⟨b6,0,none⟩:=by
    have:some (((⟨b6,0,none⟩:Addr).add 0))=some a:=ha;rw [add_mk] at this;exact(Option.some.inj this).symm
   rw [ea,add_mk,Nat.zero_add,V1.cell];rw [u32s,List.map_take,List.getElem?_take] at hj;split at hj
   ·exact hj
   ·cases hj
  ·rw [l7];rfl
  ·exact(List.take_of_length_le (by rw [l7];show 7<=min (7-0) (8-1)*1;omega)).symm
  ·rw [add_mk]
   exact V1.wr (by omega)
  ·skip
   have V2:Blk (zak h1 ⟨b6,1,none⟩ 0 (u32s (Vi.take 7))) b6 (u32s (zuy Vi)) 274:=by
    have:=Blk.sets (u32s (Vi.take 7)) 1 0 V1 (by rw [l7,lu];omega);rw [l7,List.drop_of_length_le (by rw [lu];omega),List.append_nil] at this;rw [show u32s (zuy Vi)=(u32s Vi).take (1+0)++u32s (Vi.take 7) from by unfold zuy;rw [u32s,List.map_append,List.map_take]];exact this
   have o2:∀ j,j≠b6->(zak h1 ⟨b6,1,none⟩ 0 (u32s (Vi.take 7)))[j]? = h1[j]?:=fun j hj=>setsH_other _ _ hj;have s2:(zak h1 ⟨b6,1,none⟩ 0 (u32s (Vi.take 7))).size=h1.size:=setsH_size _ _;generalize zak h1 ⟨b6,1,none⟩ 0 (u32s (Vi.take 7))=h2' at *;have lm:(zuy Vi).length=8:=zy8 lv;have lmu:(u32s (zuy Vi)).length=8:=by rw [List.length_map,lm]
   refine⟨by omega,by omega,(zuy Vi).getD 4 0,?_,by omega,by omega,_,?_,rfl,by omega,by omega,_,?_,rfl,?_⟩
   ·rw [add_mk];exact zjy V2 (by omega)
   ·rw [add_mk];exact V2.wr (by rw [lmu];omega)
   ·rw [add_mk,add_mk];exact V2.set.wr (by rw [List.length_set,lmu];omega)
   ·rw [add_mk,add_mk]
    have V4:=(V2.set (i:=0+(0:Int).toNat*1) (v:=.int .u32 (zg2 (zz1 Vi (W.getD i.toNat 0) (rcL.getD i.toNat 0)+qey Vi)))).set (i:=0+(4:Int).toNat*1) (v:=.int .u32 (zg2 ((zuy Vi).getD 4 0+zz1 Vi (W.getD i.toNat 0) (rcL.getD i.toNat 0))));rw [zac (by omega) (by omega)];refine⟨⟨by omega,by omega,P1.old ?_,Q1.old ?_,?_,?_⟩,by dsimp only;omega⟩
    ·rw [setH_other dis.2.1,setH_other dis.2.1];exact o2 _ dis.2.1
    ·rw [setH_other dis.2.2.1,setH_other dis.2.2.1];exact o2 _ dis.2.2.1
    ·rw [show (i+1).toNat=i.toNat+1 from by omega,zhw,eV]
     unfold rnd;rw [u32s,List.map_set,List.map_set];exact V4
    ·refine X1.trans ⟨by rw [setH_size,setH_size,s2];exact Nat.le_refl _,fun j hj=>?_⟩
     rw [setH_other (show j≠b6 by omega),setH_other (show j≠b6 by omega)];exact o2 j (by omega)
 ·rw [if_neg (by rw [decide_eq_true_eq];exact c)]
  have e:i.toNat=64:=by omega
  rw [e] at V1 lv;generalize eV:zhw H W 64=Vf at *;have hf:zlh H bl=zjj H Vf 8:=by unfold zlh;rw [eW,eV]
  unfold zgu;refine⟨fun j h'=>0<=j/\j<=8/\Blk h' b1 (u32s (zjj H Vf j.toNat)) 274/\Blk h' b3 (arr 8 .u32 ([]:List Int)) 274/\Blk h' b6 (u32s Vf) 274/\Ext b1 h h',fun j _=>(8-j).toNat,⟨by omega,by omega,P1,Q1,V1,X1⟩,?_⟩;rintro j h2' ⟨j0,j1,P2,Q2,V2,X2⟩;have la:=znh (V:=Vf) hH j.toNat;unfold zfu;by_cases cj:j<8
  ·rw [if_pos (by rw [decide_eq_true_eq];exact cj)]
   refine⟨j0,cj,_,by rw [add_mk,Nat.zero_add,Nat.mul_one];exact zjy P2 (by omega),j0,cj,_,by rw [add_mk,Nat.zero_add,Nat.mul_one];exact zjy V2 (by omega),j0,cj,_,by rw [add_mk,Nat.zero_add,Nat.mul_one];exact P2.wr (by rw [List.length_map];omega),rfl,?_⟩;rw [add_mk,Nat.zero_add,Nat.mul_one,zac (by omega) (by omega)];refine⟨⟨by omega,by omega,?_,Q2.old (setH_other dis.1.symm),V2.old (setH_other dis.2.1.symm),X2.trans (Ext.set _ _ (Nat.le_refl _))⟩,by dsimp only;omega⟩;rw [show (j+1).toNat=j.toNat+1 from by omega,zjj,u32s,List.map_set];exact P2.set
  ·rw [if_neg (by rw [decide_eq_true_eq];exact cj)]
   have e2:j.toNat=8:=by omega
   rw [e2] at P2 la;have ea:arr 8 .u32 (zjj H Vf 8)=u32s (zjj H Vf 8):=zcq la;refine⟨zjj H Vf 8,by rw [ea];exact CellsAt.of_blk P2,_,WrsAt.of_blk Q2 (by show 8<=8;omega),rfl,zjj H Vf 8,CellsAt.of_blk (Q2.sets_all (by rw [ea,List.length_map,la];rfl)),?_⟩;rw [← hf];exact F _ (X2.trans (Ext.sets _ _ _ dis.2.2.2.1))
end Go.Q.Yo
end

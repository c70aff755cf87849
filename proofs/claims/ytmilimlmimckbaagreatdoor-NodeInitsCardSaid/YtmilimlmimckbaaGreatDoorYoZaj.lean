/- A part of the proof of statements of this seat: lemmas, no statement of their own. -/
import Derived.Test.YtmilimlmimckbaaGreatDoorYoZai
import Derived.Test.YtmilimlmimckbaaGreatDoorYoZab
set_option linter.unusedVariables false
set_option linter.unusedSimpArgs false
set_option maxRecDepth 100000
section
namespace Go.Q.Yo
theorem Row.cut0 {B:Nat} {h:zaa} {E w:Nat} {s:Slc} {xs:List Value} (R:Row B h E w s xs):Row B h E w ⟨s.a,0,s.cap⟩ []:=by
 refine⟨by simp,R.2.1,?_⟩;rcases R.2.2 with⟨a,b,c⟩ | ⟨g,cur,a,b,c,d,e,f⟩
 ·exact .inl ⟨a,rfl,c⟩
 ·exact .inr ⟨g,cur,a,b,c,Nat.zero_le _,e,by simp⟩
theorem zte (n:Nat):(Builtin.zeroCells ([.int .u8 0]:List Value).toArray n).toList=b8 (List.replicate n 0):=by
 rw [zcm];unfold zkc;simp
theorem qep {n:Int} {k:Slc->zaa->Prop} {h:zaa} (n0:0<=n) (n1:n<=1000000) (H:∀ s' h',Row h.size h' 5 1 s' []->Ext h.size h h'->k s' h'):zbv ⟨none,0,0⟩ n k h:=by
 unfold zbv;rw [if_neg (by rw [decide_eq_true_eq];omega)];unfold zb6;refine⟨_,rfl,?_⟩
 have e0:IntKind.i64.wrap (n-IntKind.i64.wrap ((((⟨none,0,0⟩:Slc).cap:Nat):Int)-(((⟨none,0,0⟩:Slc).len:Nat):Int)))=n:=by
  rw [show ((((⟨none,0,0⟩:Slc).cap:Nat):Int)-(((⟨none,0,0⟩:Slc).len:Nat):Int))=0 from rfl,zac (x:=0) (by omega) (by omega),zac (by omega) (by omega)];omega
 rw [e0];by_cases c:n > 0
 ·rw [if_pos (by rw [decide_eq_true_eq];exact c)]
  refine⟨⟨none,0,0⟩,by omega,by simp,by simp,by simp,rfl,n0,by show 0<0+n.toNat;omega,by omega,?_⟩;rw [zte];refine App.row2 (Row.nil h.size h 5 1) (Nat.le_refl _) rfl (by simp) (znk _) (by simp only;omega) (by simp only [maxLen];omega) fun s3 h4 R3 l3 z3 kp _ _=>?_;have Rc:=Row.cut0 R3;refine⟨⟨s3.a,0,s3.cap⟩,by omega,by simp,by simp,by omega,?_,?_⟩
  ·unfold zcb
   simp only [Int.toNat_zero,Int.toNat_natCast,Nat.sub_zero,Nat.zero_mul];congr 1;split
   ·rfl
   ·cases s3.a <;> rfl
  ·unfold zay
   exact H _ _ Rc ⟨z3,fun i hi=>kp i hi (by simp [Slc.blk])⟩
 ·rw [if_neg (by rw [decide_eq_true_eq];exact c)]
  unfold zay;exact H _ _ (Row.nil _ _ _ _) (Ext.refl _ _)
abbrev zdf (L:List (Slc × List Int)):List Int:=(L.map (·.2)).flatten
theorem znu {L:List (Slc × List Int)} {i:Nat} (hi:i<L.length):zdf (L.take (i+1))=zdf (L.take i)++L[i].2:=by
 unfold zdf;rw [List.take_add_one,List.getElem?_eq_getElem hi,Option.toList_some,List.map_append,List.flatten_append];simp only [List.map_cons,List.map_nil,List.flatten_cons,List.flatten_nil,List.append_nil]
theorem zse {L:List (Slc × List Int)} (i:Nat):(zdf (L.take i)).length<=(zdf L).length:=by
 conv=>rhs;rw [← List.take_append_drop i L]
 rw [zdf,zdf,List.map_append,List.flatten_append,List.length_append];omega
theorem zq5 {p0:Slc} {L:List (Slc × List Int)} {k:Slc->zaa->Prop} {h:zaa} (S:SlcAt h p0 (L.map fun q=>Slc.v q.1)) (l:p0.len=L.length) (A:∀ q∈L,SlcAt h q.1 (b8 q.2)/\q.1.len=q.2.length) (m:L.length<=10) (fl:(zdf L).length<=100000)
  (H:∀ s' h',Row h.size h' 5 1 s' (b8 (zdf L))->Ext h.size h h'->k s' h'):zba p0 k h:=by
 have get:∀ {h'},Ext h.size h h'->∀ i:Int,0<=i->(hi:i.toNat<L.length)->∃ a,p0.a=some a/\zab h' (a.add (i.toNat*1))=some (Slc.v L[i.toNat].1):=fun {h'} X i i0 hi=>by
  have S':=S.ext X;have hg:(L.map fun q=>Slc.v q.1)[i.toNat]? = some (Slc.v L[i.toNat].1):=by simp [hi]
  cases ha:p0.a with
  | none=>have:=S'.1 ha;rw [this] at hg;simp at hg
  | some a=>exact⟨a,rfl,by rw [Nat.mul_one];exact S'.2 a ha _ _ hg⟩
 unfold zba zc2;refine⟨fun q h'=>h'=h/\0<=q.2/\q.2<=L.length/\q.1=((zdf (L.take q.2.toNat)).length:Nat),fun q _=>(L.length-q.2).toNat,⟨rfl,by omega,by omega,rfl⟩,?_⟩;rintro t i h' ⟨rfl,i0,i1,et⟩;dsimp only at i0 i1 et;unfold zcs;have le:=zse (L:=L) i.toNat;by_cases c:i<L.length
 ·rw [if_pos (by rw [decide_eq_true_eq];omega)]
  have hi:i.toNat<L.length:=by omega
  obtain⟨a,ha,hc⟩:=get (Ext.refl _ _) i i0 hi;obtain⟨_,lq⟩:=A _ (List.getElem_mem hi);have le2:=zse (L:=L) (i.toNat+1);have ft:=congrArg List.length (znu hi);rw [List.length_append] at ft;refine⟨a,ha,i0,by omega,_,hc,_,rfl,?_⟩;rw [zac (by omega) (by omega),if_neg (by rw [decide_eq_true_eq];omega)];unfold zbl;rw [zac (by omega) (by omega)];refine⟨⟨rfl,by dsimp only;omega,by dsimp only;omega,?_⟩,by dsimp only;omega⟩;dsimp only;rw [show (i+1).toNat=i.toNat+1 from by omega,ft,lq,et];omega
 ·rw [if_neg (by rw [decide_eq_true_eq];omega)]
  refine qep (by omega) (by omega) fun s5 h5 R5 X5=>?_;unfold zc3;refine⟨fun q h''=>0<=q.2/\q.2<=L.length/\Row h'.size h'' 5 1 q.1 (b8 (zdf (L.take q.2.toNat)))/\Ext h'.size h' h'',fun q _=>(L.length-q.2).toNat,⟨by omega,by omega,by simpa [zdf] using R5,X5⟩,?_⟩;rintro s j h6 ⟨j0,j1,R6,X6⟩;dsimp only at j0 j1 R6;unfold zcx;by_cases d:j<L.length
  ·rw [if_pos (by rw [decide_eq_true_eq];omega)]
   have hj:j.toNat<L.length:=by omega
   obtain⟨a,ha,hc⟩:=get X6 j j0 hj;obtain⟨Aq,lq⟩:=A _ (List.getElem_mem hj);have le2:=zse (L:=L) (j.toNat+1);have ft:=congrArg List.length (znu hj);rw [List.length_append] at ft;have ls:s.len=(zdf (L.take j.toNat)).length:=by have:=R6.len;rw [this,List.length_map]
   refine⟨a,ha,j0,by omega,_,hc,b8 L[j.toNat].2,Aq.ext X6,?_⟩;refine App.row2 R6 X6.size rfl (by rw [List.length_map,lq];omega) (znk _) (by omega) (by simp only [maxLen];omega) fun s7 h7 R7 _ z7 kp _ _=>?_;rw [zac (by omega) (by omega)];refine⟨⟨by dsimp only;omega,by dsimp only;omega,?_,X6.trans ⟨z7,fun i hi=>kp i (by have:=X6.size;omega) fun e=>by have:=(R6.bd e).1;omega⟩⟩,by dsimp only;omega⟩;dsimp only;rw [show (j+1).toNat=j.toNat+1 from by omega,znu hj,b8,List.map_append];exact R7
  ·rw [if_neg (by rw [decide_eq_true_eq];omega)]
   rw [show j.toNat=L.length from by omega,List.take_length] at R6;exact H s h6 R6 X6
end Go.Q.Yo
end
section
namespace Go.Q.Yo
theorem qo1 {n:Nat} (h:n<1000000):zbe .i64 (n:Int) 63=((n % 64:Nat):Int):=by
 have e:(BitVec.ofInt 64 (n:Int) &&& BitVec.ofInt 64 63).toNat=n % 64:=by
  rw [BitVec.toNat_and];have e1:(BitVec.ofInt 64 (n:Int)).toNat=n:=by simp;omega
  have e2:(BitVec.ofInt 64 63).toNat=63:=by decide
  rw [e1,e2];exact Nat.and_two_pow_sub_one_eq_mod n 6
 show IntKind.i64.wrap (((BitVec.ofInt 64 (n:Int) &&& BitVec.ofInt 64 63).toNat:Nat):Int)=_
 rw [e];have:=Nat.mod_lt n (show 64 > 0 by omega);exact zac (by omega) (by omega)
def zfh (n:Nat):Int:=shl .u64 (IntKind.u64.wrap (n:Int)) (3:Int).toNat
def qb4 (z:Int):List Int:=[56,48,40,32,24,16,8,0].map fun i=>IntKind.u8.wrap (shr .u64 z (IntKind.u64.wrap i).toNat)
def zl8 (n:Nat):Nat:=(119-n % 64) % 64
def padD (bs:List Int):List Int:=bs++[128]++List.replicate (zl8 bs.length) 0++qb4 (zfh bs.length)
theorem zun (bs:List Int):∃ c,(padD bs).length=64*(c+1):=by
 refine⟨(bs.length+9+zl8 bs.length) / 64-1,?_⟩;unfold padD;rw [List.length_append,List.length_append,List.length_append,List.length_replicate];show bs.length+1+zl8 bs.length+8=_;unfold zl8;omega
def startL:List Int:=[1779033703,3144134277,1013904242,2773480762,1359893119,2600822924,528734635,1541459225]
def zgg (M:List Int):Nat->List Int
 | 0=>startL
 | n+1=>zlh (zgg M n) ((M.drop (64*n)).take 64)
theorem zkv (M:List Int):∀ n,(zgg M n).length=8
 | 0=>rfl
 | n+1=>qbu (zkv M n)
def zvr (H:List Int) (i:Int):Int:=IntKind.u8.wrap (shr .u32 (H.getD (shr .i64 i (2:Int).toNat).toNat 0) (IntKind.u64.wrap (24-IntKind.u64.wrap (8*zbe .u64 (IntKind.u64.wrap i) 3))).toNat)
def outUp (H:List Int):Nat->List Int
 | 0=>List.replicate 32 0
 | n+1=>(outUp H n).set n (zvr H n)
theorem zkx (H:List Int):∀ n,(outUp H n).length=32
 | 0=>rfl
 | n+1=>by rw [outUp,List.length_set];exact zkx H n
def shaD (bs:List Int):List Int:=outUp (zgg (padD bs) ((padD bs).length / 64)) 32
theorem zmz (bs:List Int):(shaD bs).length=32:=zkx _ _
theorem zze (bs:List Int):∀ b∈shaD bs,0<=b/\b<256:=by
 have g:∀(H:List Int) n,∀ b∈outUp H n,0<=b/\b<256:=fun H n=>by
  induction n with
  | zero=>intro b hb;have:=(List.mem_replicate.1 hb).2;omega
  | succ n ih =>
   intro b hb;rcases List.mem_or_eq_of_mem_set hb with h | h
   ·exact ih b h
   ·rw [h];unfold zvr IntKind.wrap;simp [IntKind.signed,IntKind.bits];omega
 exact g _ _
theorem qcm {k:List Int->zaa->Prop} {h:zaa} (H:∀ h',Ext h.size h h'->k startL h'):zko k h:=by
 unfold zko;refine⟨_,_,rfl,rfl,?_⟩;have P:=Blk.push h (arr 8 .u32 ([]:List Int)) 274;have W:=Ext.push h (.cells (arr 8 .u32 ([]:List Int)).toArray 274) (Nat.le_refl _);generalize h.push (.cells (arr 8 .u32 ([]:List Int)).toArray 274)=h2 at *;refine⟨_,WrsAt.of_blk P (by show 8<=8;omega),rfl,startL,CellsAt.of_blk (P.sets_all rfl),?_⟩;exact H _ (W.trans (Ext.sets _ _ _ (Nat.le_refl _)))
theorem shr2 {i:Int} (h0:0<=i):shr .i64 i (2:Int).toNat=i / 4:=by
 unfold shr;rw [show (2:Int) ^ (min (2:Int).toNat IntKind.i64.bits)=4 from rfl,Int.fdiv_eq_ediv_of_nonneg _ (by omega)]
theorem qj2 {b2 b6 b7:Nat} {Hs:List Int} {B:Nat} {h0 h:zaa} {k:List Int->zaa->Prop} {nx1:Slc->zaa->Prop} {nx2:Slc × Int->zaa->Prop} {nx3:Slc->zaa->Prop} (P2:Blk h b2 (arr 32 .u8 ([]:List Int)) 29) (P6:Blk h b6 (u32s Hs) 274) (P7:Blk h b7 (arr 32 .u8 ([]:List Int)) 29)
  (d:b2≠b6/\b2≠b7/\b6≠b7) (Bb:B<=b2/\B<=b7) (lH:Hs.length=8) (X:Ext B h0 h) (H:∀ h',Ext B h0 h'->k (outUp Hs 32) h'):znd ⟨b2,0,none⟩ ⟨b6,0,none⟩ ⟨b7,0,none⟩ 0 k nx1 nx2 nx3 h:=by
 unfold znd;have P7':Blk h b7 (b8 (outUp Hs 0)) 29:=P7;refine⟨fun i h'=>0<=i/\i<=32/\Blk h' b2 (arr 32 .u8 ([]:List Int)) 29/\Blk h' b6 (u32s Hs) 274/\Blk h' b7 (b8 (outUp Hs i.toNat)) 29/\Ext B h0 h',fun i _=>(32-i).toNat,⟨by omega,by omega,P2,P6,P7',X⟩,?_⟩;rintro i h1 ⟨i0,i1,Q2,Q6,Q7,X1⟩;have lo:=zkx Hs i.toNat;unfold zo0;by_cases c:i<32
 ·rw [if_pos (by rw [decide_eq_true_eq];exact c)]
  have e2:=shr2 i0;refine⟨by omega,by omega,Hs.getD (shr .i64 i (2:Int).toNat).toNat 0,by rw [add_mk,Nat.zero_add,Nat.mul_one];exact zjy Q6 (by omega),qkx _,i0,c,_,by rw [add_mk,Nat.zero_add,Nat.mul_one];exact Q7.wr (by rw [List.length_map];omega),rfl,?_⟩;rw [add_mk,Nat.zero_add,Nat.mul_one,zac (by omega) (by omega)];refine⟨⟨by omega,by omega,Q2.old (setH_other d.2.1),Q6.old (setH_other d.2.2),?_,X1.trans (Ext.set _ _ Bb.2)⟩,by dsimp only;omega⟩;rw [show (i+1).toNat=i.toNat+1 from by omega,outUp,b8,List.map_set];have:=Q7.set (i:=i.toNat) (v:=.int .u8 (zvr Hs i));rw [show ((i.toNat:Nat):Int)=i from by omega];exact this
 ·rw [if_neg (by rw [decide_eq_true_eq];exact c)]
  rw [show i.toNat=32 from by omega] at Q7 lo;have ea:arr 32 .u8 (outUp Hs 32)=b8 (outUp Hs 32):=zcq lo;refine⟨outUp Hs 32,by rw [ea];exact CellsAt.of_blk Q7,_,WrsAt.of_blk Q2 (by show 32<=32;omega),rfl,outUp Hs 32,CellsAt.of_blk (Q2.sets_all (by rw [ea,List.length_map,lo];rfl)),?_⟩;exact H _ (X1.trans (Ext.sets _ _ _ Bb.1))
attribute [irreducible] shaD
end Go.Q.Yo
end
section
namespace Go.Q.Yo
theorem zw2 (z:Int) {j:Nat} (hj:j<8):(qb4 z)[j]? = some (IntKind.u8.wrap (shr .u64 z (IntKind.u64.wrap (56-8*(j:Int))).toNat)):=by
 have:j=0∨j=1∨j=2∨j=3∨j=4∨j=5∨j=6∨j=7:=by omega
 rcases this with rfl | rfl | rfl | rfl | rfl | rfl | rfl | rfl <;> rfl
theorem qgx {g o n c:Nat} (hc:c≠0):zcb ⟨some ⟨g,o,none⟩,n,c⟩ 1 (0:Int).toNat (64:Int).toNat ((c:Nat):Int).toNat=⟨some ⟨g,o,none⟩,64,c⟩:=by
 unfold zcb;simp only [Int.toNat_natCast,Int.toNat_zero,Nat.sub_zero,Nat.zero_mul];rw [if_neg hc];simp only [Option.map_some,add_mk,Nat.add_zero];rfl
theorem zv9 {g o n c:Nat} (hc:c≠64):zcb ⟨some ⟨g,o,none⟩,n,c⟩ 1 (64:Int).toNat ((n:Nat):Int).toNat ((c:Nat):Int).toNat=⟨some ⟨g,o+64,none⟩,n-64,c-64⟩:=by
 unfold zcb;simp only [Int.toNat_natCast];rw [if_neg (by show ¬ c=64;exact hc)];simp only [Option.map_some,add_mk];rfl
theorem qc5 {p0:Slc} {L:List (Slc × List Int)} {k:List Int->zaa->Prop} {h:zaa} (r:R0 h) (S:SlcAt h p0 (L.map fun q=>Slc.v q.1)) (l:p0.len=L.length) (A:∀ q∈L,SlcAt h q.1 (b8 q.2)/\q.1.len=q.2.length) (mL:L.length<=10) (m:(zdf L).length<=60000)
  (H:∀ h',Ext h.size h h'->k (shaD (zdf L)) h'):zng p0 k h:=by
 obtain⟨bs,ef⟩:∃ bs,bs=zdf L:=⟨_,rfl⟩
 rw [← ef] at m H;have r0:=r.pos;unfold zng;refine⟨_,_,rfl,rfl,?_⟩;have P:=Blk.push h (arr 32 .u8 ([]:List Int)) 29;have W:=Ext.push h (.cells (arr 32 .u8 ([]:List Int)).toArray 29) (Nat.le_refl _);have pl:=P.lt;generalize h.push (.cells (arr 32 .u8 ([]:List Int)).toArray 29)=h2 at *;have z2:=W.size;refine zq5 (L:=L) (S.ext W) l (fun q hq=>⟨(A q hq).1.ext W,(A q hq).2⟩) mL (by rw [← ef];omega) fun s4 h4 R4 X4=>?_;rw [← ef] at R4;have z4:=X4.size;have l4:s4.len=bs.length:=by have:=R4.len;rw [this,List.length_map]
 obtain⟨b1,eb1⟩:∃ y,y=h.size:=⟨_,rfl⟩
 have P4:=P.ext X4 pl;have X04:Ext b1 h h4:=by rw [eb1];exact W.trans (X4.mono z2)
 have R4':Row (b1+1) h4 5 1 s4 (b8 bs):=R4.mono (by omega);rw [← eb1] at P4 r0 H ⊢;have zb4:b1+1<=h4.size:=by omega
 clear P W X4 R4 S;refine⟨_,rfl,_,_,rfl,rfl,?_⟩;rw [l4,show shl .u64 (IntKind.u64.wrap ((bs.length:Nat):Int)) (3:Int).toNat=zfh bs.length from rfl];have W7:=Ext.push h4 (.cells ([.int .u8 128]:List Value).toArray 5) (Nat.le_refl _);have R7:=R4'.pushed (.cells ([.int .u8 128]:List Value).toArray 5);generalize h4.push (.cells ([.int .u8 128]:List Value).toArray 5)=h7 at *;have z7:=W7.size;have P7:=P4.ext W7 P4.lt;have X07:Ext b1 h h7:=X04.trans (W7.mono (by omega))
 -- one byte more
 have app:∀ {t:Slc} {h1:zaa} {l1:List Int} {v:Int} {K:Slc->zaa->Prop},Row (b1+1) h1 5 1 t (b8 l1)->Blk h1 b1 (arr 32 .u8 ([]:List Int)) 29->Ext b1 h h1->l1.length<=61000->b1+1<=h1.size ->
   (∀ t' h2,Row (b1+1) h2 5 1 t' (b8 (l1++[v]))->Blk h2 b1 (arr 32 .u8 ([]:List Int)) 29->Ext b1 h h2->t'.len=l1.length+1->b1+1<=h2.size->K t' h2)->App 5 1 1 [.int .u8 0] h1 t 1 [.int .u8 v] K:=fun {t h1 l1 v K} R B X hl hz F=>by
  have lt:t.len=l1.length:=by have:=R.len;rw [this,List.length_map]
  refine App.row2 R hz rfl (by simp) (fun x hx=>by rw [List.mem_singleton] at hx;rw [hx];rfl) (by omega) (by simp only [maxLen];omega) fun t' h2 R2 l2 z2 kp _ _=>?_;have ne:∀ i,i<=b1->t.blk≠some i:=fun i hi e=>by have:=(R.bd e).1;omega
  refine F t' h2 (by rw [b8,List.map_append];exact R2) (B.old (kp b1 B.lt (ne b1 (Nat.le_refl _)))) (X.trans ⟨z2,fun i hi=>kp i (by omega) (ne i (by omega))⟩) (by omega) (by omega)
 refine app R7 P7 X07 (by omega) (by omega) fun s8 h9 R9 P9 X9 l9 z9=>?_
 -- bytes 00
 unfold zrn;refine⟨fun t h'=>∃ j,j<=zl8 bs.length/\Row (b1+1) h' 5 1 t (b8 (bs++[128]++List.replicate j 0))/\Blk h' b1 (arr 32 .u8 ([]:List Int)) 29/\Ext b1 h h'/\t.len=bs.length+1+j/\b1+1<=h'.size,fun t _=>bs.length+1+zl8 bs.length-t.len,⟨0,Nat.zero_le _,by simpa using R9,P9,X9,by omega,z9⟩,?_⟩;rintro t h1 ⟨j,hj,R1,P1,X1,lt,z1⟩;have pn:zl8 bs.length<64:=by unfold zl8;omega
 have pm:(bs.length+1+zl8 bs.length) % 64=56:=by unfold zl8;omega
 unfold zo7;rw [lt,qo1 (by omega)];by_cases c:(bs.length+1+j) % 64=56
 ·have ej:j=zl8 bs.length:=by omega
  rw [if_neg (by rw [c];decide)];rw [ej] at R1;clear lt c hj
  -- the size
  unfold zrg;refine⟨fun q h'=>∃ i:Nat,i<=8/\q.2=56-8*(i:Int)/\Row (b1+1) h' 5 1 q.1 (b8 (bs++[128]++List.replicate (zl8 bs.length) 0++(qb4 (zfh bs.length)).take i))/\Blk h' b1 (arr 32 .u8 ([]:List Int)) 29/\Ext b1 h h'/\b1+1<=h'.size,fun q _=>(q.2+8).toNat,⟨0,Nat.zero_le _,rfl,by simpa using R1,P1,X1,z1⟩,?_⟩;rintro t2 q2 h2' ⟨i,hi,e2,R2,P2,X2,z2'⟩;dsimp only at e2 R2;unfold zo5;by_cases c2:i<8
  ·rw [if_pos (by rw [decide_eq_true_eq];omega)]
   refine⟨qkx _,_,_,rfl,rfl,?_⟩;have W3:=Ext.push h2' (.cells ([.int .u8 (IntKind.u8.wrap (shr .u64 (zfh bs.length) (IntKind.u64.wrap q2).toNat))]:List Value).toArray 5) (Nat.le_refl _);have R3:=R2.pushed (.cells ([.int .u8 (IntKind.u8.wrap (shr .u64 (zfh bs.length) (IntKind.u64.wrap q2).toNat))]:List Value).toArray 5);generalize h2'.push (.cells ([.int .u8 (IntKind.u8.wrap (shr .u64 (zfh bs.length) (IntKind.u64.wrap q2).toNat))]:List Value).toArray 5)=h3 at *;have z3:=W3.size;have ll:(qb4 (zfh bs.length)).length=8:=rfl;refine app R3 (P2.ext W3 P2.lt) (X2.trans (W3.mono (by omega))) (by simp only [List.length_append,List.length_replicate,List.length_take,ll,List.length_singleton];omega) (by omega) fun t' h4' R4 P4' X4' _ z4'=>?_;refine⟨_,rfl,?_⟩;rw [zac (by omega) (by omega)];refine⟨⟨i+1,by omega,by dsimp only;omega,?_,P4',X4',z4'⟩,by dsimp only;omega⟩;rw [List.take_add_one,zw2 _ c2,Option.toList_some,← List.append_assoc,← e2];exact R4
  ·rw [if_neg (by rw [decide_eq_true_eq];omega)]
   have e8:i=8:=by omega
   rw [e8,List.take_of_length_le (show (qb4 (zfh bs.length)).length<=8 from Nat.le_refl _)] at R2
   change Row (b1+1) h2' 5 1 t2 (b8 (padD bs)) at R2
   obtain⟨c',lM⟩:=zun bs;generalize eM:padD bs=M at *;have lt2:t2.len=64*(c'+1):=by have:=R2.len;rw [this,List.length_map,lM]
   refine qcm fun h21 X21=>?_;have z21:=X21.size;refine⟨_,_,rfl,rfl,?_⟩;have Q:=Blk.push h21 (arr 8 .u32 ([]:List Int)) 274;have W22:=Ext.push h21 (.cells (arr 8 .u32 ([]:List Int)).toArray 274) (Nat.le_refl _);generalize h21.push (.cells (arr 8 .u32 ([]:List Int)).toArray 274)=h23 at *;refine⟨_,WrsAt.of_blk Q (by show 8<=8;omega),rfl,?_⟩;have Q24:Blk (zak h23 ⟨h21.size,0,none⟩ 0 (arr 8 .u32 startL)) h21.size (u32s (zgg M 0)) 274:=Q.sets_all rfl;have X24:Ext h21.size h21 (zak h23 ⟨h21.size,0,none⟩ 0 (arr 8 .u32 startL)):=W22.trans (Ext.sets _ _ _ (Nat.le_refl _));generalize zak h23 ⟨h21.size,0,none⟩ 0 (arr 8 .u32 startL)=h24 at *;have X224:Ext h2'.size h2' h24:=X21.trans (X24.mono z21);have z24:=X224.size;have R24:=R2.ext X224 fun g hg=>(R2.bd hg).2;obtain⟨b22,eb⟩:∃ y,y=h21.size:=⟨_,rfl⟩
   have P24:=P2.ext X224 P2.lt;have pl2:=P2.lt;rw [← eb] at Q24 ⊢;have bb:b1<b22:=by omega
   obtain⟨g,zs,et,gB,Bg,lc,gb⟩:=R24.opened (by omega);have gl:g<h2'.size:=(R2.bd gb).2;have gn:g≠b22:=by omega
   have lbg:(b8 M++zs).length>=t2.len:=by rw [List.length_append,List.length_map];omega
   have capl:64*(c'+1)<=t2.cap:=by omega
   generalize t2.cap=cp at *;rw [lt2] at et;rw [et];unfold zqq;refine⟨fun t h'=>∃ j,j<=c'/\t=⟨some ⟨g,64*j,none⟩,64*(c'+1-j),cp-64*j⟩/\Blk h' g (b8 M++zs) 5/\Blk h' b1 (arr 32 .u8 ([]:List Int)) 29/\Blk h' b22 (u32s (zgg M j)) 274/\Ext b1 h h',fun t _=>t.len,⟨0,Nat.zero_le _,rfl,Bg,P24,Q24,X2.trans (X224.mono (by omega))⟩,?_⟩;rintro t3 h5 ⟨j3,hj3,rfl,B5,P5,Q5,X5⟩;have Q5l:=Q5.lt;unfold zoz;have lb:=zkv M j3;have e8:arr 8 .u32 (zgg M j3)=u32s (zgg M j3):=zcq lb;refine⟨zgg M j3,by rw [e8];exact CellsAt.of_blk Q5,_,by omega,by omega,by show (64:Int)<=((cp-64*j3:Nat):Int);omega,by omega,rfl,?_⟩;rw [qgx (by omega)]
   have hd:((b8 M++zs).drop (64*j3)).take 64=b8 ((M.drop (64*j3)).take 64):=by
    rw [List.drop_append_of_le_length (by rw [List.length_map];omega),List.take_append_of_le_length (by rw [List.length_drop,List.length_map];omega),← List.map_drop,← List.map_take]
   refine qgw (bl:=(M.drop (64*j3)).take 64) (r.ext X5 r0) lb (B5.slc hd) rfl (by rw [List.length_take,List.length_drop];omega) (by show 64<=cp-64*j3;omega) fun h6 X6=>?_;have z6:=X6.size;have Q6:=Q5.ext X6 Q5.lt;have P6:=P5.ext X6 P5.lt;have B6:=B5.ext X6 B5.lt;have lb1:=zkv M (j3+1);have e9:arr 8 .u32 (zlh (zgg M j3) ((M.drop (64*j3)).take 64))=u32s (zgg M (j3+1)):=zcq lb1;refine⟨_,WrsAt.of_blk Q6 (by rw [List.length_map,lb];omega),rfl,?_⟩;rw [e9];have Q7:Blk (zak h6 ⟨b22,0,none⟩ 0 (u32s (zgg M (j3+1)))) b22 (u32s (zgg M (j3+1))) 274:=Q6.sets_all (by rw [List.length_map,List.length_map,lb,lb1]);have o7:∀ i,i≠b22->(zak h6 ⟨b22,0,none⟩ 0 (u32s (zgg M (j3+1))))[i]? = h6[i]?:=fun i hi=>setsH_other _ _ hi;have X7:Ext b1 h (zak h6 ⟨b22,0,none⟩ 0 (u32s (zgg M (j3+1)))):=(X5.trans (X6.mono (by omega))).trans (Ext.sets _ _ _ (by show b1<=b22;omega));generalize zak h6 ⟨b22,0,none⟩ 0 (u32s (zgg M (j3+1)))=h7' at *;have P7':=P6.old (o7 b1 (by omega));have B7':=B6.old (o7 g gn);refine⟨_,by omega,by show (64:Int)<=((64*(c'+1-j3):Nat):Int);omega,by show ((64*(c'+1-j3):Nat):Int)<=((cp-64*j3:Nat):Int);omega,by omega,rfl,?_⟩;by_cases last:j3=c'
   ·rw [if_pos (by
     show ((((64*(c'+1-j3):Nat):Int).toNat-(64:Int).toNat:Nat):Int)==0
     rw [last];simp)]
    refine⟨_,_,rfl,rfl,?_⟩;have U:=Blk.push h7' (arr 32 .u8 ([]:List Int)) 29;have W8:=Ext.push h7' (.cells (arr 32 .u8 ([]:List Int)).toArray 29) (Nat.le_refl _);have q7:=Q7.lt;have p7:=P7'.lt;generalize h7'.push (.cells (arr 32 .u8 ([]:List Int)).toArray 29)=h8 at *;refine qj2 (B:=b1) (h0:=h) (P7'.ext W8 p7) (Q7.ext W8 q7) U ⟨by omega,by omega,by omega⟩ ⟨Nat.le_refl _,by omega⟩ lb1 (X7.trans (W8.mono (by omega))) fun h' X'=>?_;have:=H h' X';unfold shaD at this;rw [eM,lM,show 64*(c'+1) / 64=j3+1 from by omega] at this;exact this
   ·rw [if_neg (by
     show ¬ (((((64*(c'+1-j3):Nat):Int).toNat-(64:Int).toNat:Nat):Int)==0)=true
     simp;omega)]
    rw [zv9 (by omega)];refine⟨⟨j3+1,by omega,?_,B7',P7',Q7,X7⟩,by show 64*(c'+1-j3)-64<64*(c'+1-j3);omega⟩;congr 1 <;> omega
 ·rw [if_pos (by simp;omega)]
  refine⟨_,_,rfl,rfl,?_⟩;have W3:=Ext.push h1 (.cells ([.int .u8 0]:List Value).toArray 5) (Nat.le_refl _);have R3:=R1.pushed (.cells ([.int .u8 0]:List Value).toArray 5);generalize h1.push (.cells ([.int .u8 0]:List Value).toArray 5)=h3 at *;have z3:=W3.size;refine app R3 (P1.ext W3 P1.lt) (X1.trans (W3.mono (by omega))) (by simp only [List.length_append,List.length_replicate,List.length_singleton];omega) (by omega) fun t' h4' R4 P4' X4' lt' z4'=>?_;have nj:j≠zl8 bs.length:=fun e=>c (by rw [e];exact pm);simp only [List.length_append,List.length_replicate,List.length_singleton] at lt';refine⟨⟨j+1,by omega,?_,P4',X4',by omega,z4'⟩,by dsimp only;omega⟩;rw [List.replicate_succ',← List.append_assoc];exact R4
end Go.Q.Yo
end
section
namespace Go.V
noncomputable section
structure Q (α:Type) where
 (a b c d:α)
abbrev T (α:Type) (d:Nat):Type:=Nat.rec (Option α) (fun _ t=>Q t) d
def pk {β:Type 1} (i:Nat) (a b c d:β):β:=Bool.rec (Bool.rec a b (Nat.ble 1 i)) (Bool.rec c d (Nat.ble 3 i)) (Nat.ble 2 i)
structure Ac (α:Type) (d:Nat) where
 f:(β:Type)->T α d->(Option α->β)->β
def Ac.x {α:Type} {d:Nat} (x:Ac α d):(β:Type)->T α d->(Option α->β)->β:=Ac.rec (fun f=>f) x
def ac {α:Type} (d:Nat):Nat->Ac α d :=
 Nat.rec (motive:=fun d=>Nat->Ac α d) (fun _=>⟨fun _ t K=>K t⟩)
  (fun n ih i=>pk (Nat.div i (Nat.pow 4 n))
   ⟨fun β t K=>Q.rec (motive:=fun _=>β) (fun a _ _ _=>(ih (Nat.mod i (Nat.pow 4 n))).x β a K) (show Q (T α n) from t)⟩
   ⟨fun β t K=>Q.rec (motive:=fun _=>β) (fun _ b _ _=>(ih (Nat.mod i (Nat.pow 4 n))).x β b K) (show Q (T α n) from t)⟩
   ⟨fun β t K=>Q.rec (motive:=fun _=>β) (fun _ _ c _=>(ih (Nat.mod i (Nat.pow 4 n))).x β c K) (show Q (T α n) from t)⟩
   ⟨fun β t K=>Q.rec (motive:=fun _=>β) (fun _ _ _ d=>(ih (Nat.mod i (Nat.pow 4 n))).x β d K) (show Q (T α n) from t)⟩) d
structure Up (α:Type) (d:Nat) where
 f:(β:Type)->T α d->Option α->(T α d->β)->β
def Up.x {α:Type} {d:Nat} (x:Up α d):(β:Type)->T α d->Option α->(T α d->β)->β:=Up.rec (fun f=>f) x
def up {α:Type} (d:Nat):Nat->Up α d :=
 Nat.rec (motive:=fun d=>Nat->Up α d) (fun _=>⟨fun _ _ v K=>K v⟩)
  (fun n ih i=>pk (Nat.div i (Nat.pow 4 n))
   ⟨fun β t v K=>Q.rec (motive:=fun _=>β) (fun a b c d=>(ih (Nat.mod i (Nat.pow 4 n))).x β a v fun x=>K (Q.mk (α:=T α n) x b c d)) (show Q (T α n) from t)⟩
   ⟨fun β t v K=>Q.rec (motive:=fun _=>β) (fun a b c d=>(ih (Nat.mod i (Nat.pow 4 n))).x β b v fun x=>K (Q.mk (α:=T α n) a x c d)) (show Q (T α n) from t)⟩
   ⟨fun β t v K=>Q.rec (motive:=fun _=>β) (fun a b c d=>(ih (Nat.mod i (Nat.pow 4 n))).x β c v fun x=>K (Q.mk (α:=T α n) a b x d)) (show Q (T α n) from t)⟩
   ⟨fun β t v K=>Q.rec (motive:=fun _=>β) (fun a b c d=>(ih (Nat.mod i (Nat.pow 4 n))).x β d v fun x=>K (Q.mk (α:=T α n) a b c x)) (show Q (T α n) from t)⟩) d
def mt (α:Type) (d:Nat):T α d:=Nat.rec (motive:=fun d=>T α d) none (fun n t=>Q.mk (α:=T α n) t t t t) d
def pk0 {β:Type} (i:Nat) (a b c d:β):β:=if 2<=i then (if 3<=i then d else c) else (if 1<=i then b else a)
def gt {α:Type}:(d:Nat)->Nat->T α d->Option α
 | 0,_,t=>t
 | d+1,i,t=>gt d (i % 4 ^ d) (pk0 (i / 4 ^ d) (Q.a (α:=T α d) t) (Q.b (α:=T α d) t) (Q.c (α:=T α d) t) (Q.d (α:=T α d) t))
def st {α:Type}:(d:Nat)->Nat->Option α->T α d->T α d
 | 0,_,v,_=>v
 | d+1,i,v,t =>
  let a:=Q.a (α:=T α d) t;let b:=Q.b (α:=T α d) t;let c:=Q.c (α:=T α d) t;let e:=Q.d (α:=T α d) t
  pk0 (i / 4 ^ d) (Q.mk (α:=T α d) (st d (i % 4 ^ d) v a) b c e) (Q.mk (α:=T α d) a (st d (i % 4 ^ d) v b) c e) (Q.mk (α:=T α d) a b (st d (i % 4 ^ d) v c) e) (Q.mk (α:=T α d) a b c (st d (i % 4 ^ d) v e))
theorem qk0 {β:Type 1} {γ:Sort _} (F:β->γ) (i:Nat) (a b c d:β):F (pk i a b c d)=if 2<=i then (if 3<=i then F d else F c) else (if 1<=i then F b else F a):=by
 unfold pk;by_cases h2:2<=i
 ·rw [if_pos h2,show Nat.ble 2 i=true from by simpa using h2]
  by_cases h3:3<=i
  ·rw [if_pos h3,show Nat.ble 3 i=true from by simpa using h3]
  ·rw [if_neg h3,show Nat.ble 3 i=false from by rw [← Bool.not_eq_true,Nat.ble_eq];exact h3]
 ·rw [if_neg h2,show Nat.ble 2 i=false from by rw [← Bool.not_eq_true,Nat.ble_eq];exact h2]
  by_cases h1:1<=i
  ·rw [if_pos h1,show Nat.ble 1 i=true from by simpa using h1]
  ·rw [if_neg h1,show Nat.ble 1 i=false from by rw [← Bool.not_eq_true,Nat.ble_eq];exact h1]
theorem zmm {α:Type}:∀(d i:Nat) (β:Type) (t:T α d) (K:Option α->β),(ac d i).x β t K=K (gt d i t)
 | 0,i,β,t,K=>rfl
 | d+1,i,β,t,K=>by
  have ih:=fun j t=>zmm (α:=α) d j β t K;show Ac.x (pk _ _ _ _ _) β t K=_;rw [qk0 (fun x=>Ac.x (d:=d+1) x β t K)];unfold gt pk0;rw [show Nat.div i (Nat.pow 4 d)=i / 4 ^ d from rfl];by_cases h2:2<=i / 4 ^ d
  ·by_cases h3:3<=i / 4 ^ d
   ·simp only [if_pos h2,if_pos h3];exact ih _ _
   ·simp only [if_pos h2,if_neg h3];exact ih _ _
  ·by_cases h1:1<=i / 4 ^ d
   ·simp only [if_neg h2,if_pos h1];exact ih _ _
   ·simp only [if_neg h2,if_neg h1];exact ih _ _
theorem up_eq {α:Type}:∀(d i:Nat) (β:Type) (t:T α d) (v:Option α) (K:T α d->β),(up d i).x β t v K=K (st d i v t)
 | 0,i,β,t,v,K=>rfl
 | d+1,i,β,t,v,K=>by
  have ih:=fun j t K=>up_eq (α:=α) d j β t v K;show Up.x (pk _ _ _ _ _) β t v K=_;rw [qk0 (fun x=>Up.x (d:=d+1) x β t v K)];unfold st pk0;rw [show Nat.div i (Nat.pow 4 d)=i / 4 ^ d from rfl];by_cases h2:2<=i / 4 ^ d
  ·by_cases h3:3<=i / 4 ^ d
   ·simp only [if_pos h2,if_pos h3];exact ih _ _ _
   ·simp only [if_pos h2,if_neg h3];exact ih _ _ _
  ·by_cases h1:1<=i / 4 ^ d
   ·simp only [if_neg h2,if_pos h1];exact ih _ _ _
   ·simp only [if_neg h2,if_neg h1];exact ih _ _ _
theorem zht {α:Type}:∀(d i:Nat) (v:Option α) (t:T α d),gt d i (st d i v t)=v
 | 0,_,_,_=>rfl
 | d+1,i,v,t=>by
  have ih:=fun j t=>zht (α:=α) d j v t;unfold gt st pk0;simp only;split <;> split <;> exact ih _ _
theorem zar {α:Type}:∀(d i j:Nat) (v:Option α) (t:T α d),i<4 ^ d->j<4 ^ d->i≠j->gt d j (st d i v t)=gt d j t
 | 0,i,j,v,t,hi,hj,h=>by simp at hi hj;omega
 | d+1,i,j,v,t,hi,hj,h=>by
  have hp:0<4 ^ d:=Nat.pow_pos (by decide);have e1:=Nat.div_add_mod i (4 ^ d);have e2:=Nat.div_add_mod j (4 ^ d);have l1:i / 4 ^ d<4:=Nat.div_lt_of_lt_mul (by rw [Nat.pow_succ] at hi;omega);have l2:j / 4 ^ d<4:=Nat.div_lt_of_lt_mul (by rw [Nat.pow_succ] at hj;omega);have ih:=fun t (hn:i % 4 ^ d≠j % 4 ^ d)=>zar (α:=α) d (i % 4 ^ d) (j % 4 ^ d) v t (Nat.mod_lt _ hp) (Nat.mod_lt _ hp) hn;have hq:i / 4 ^ d=j / 4 ^ d->i % 4 ^ d≠j % 4 ^ d:=fun h1 h2=>h (by rw [← e1,← e2,h1,h2]);clear e1 e2;unfold gt st pk0;simp only;generalize i / 4 ^ d=p at *;generalize j / 4 ^ d=q at *;have c1:p=0∨p=1∨p=2∨p=3:=by omega
  have c2:q=0∨q=1∨q=2∨q=3:=by omega
  rcases c1 with rfl | rfl | rfl | rfl <;> rcases c2 with rfl | rfl | rfl | rfl <;> first | rfl | exact ih _ (hq rfl)
theorem zmk {α:Type}:∀(d i:Nat),gt d i (mt α d)=none
 | 0,_=>rfl
 | d+1,i=>by
  have ih:=fun j=>zmk (α:=α) d j;unfold gt pk0;split <;> split <;> exact ih _
end
end Go.V
end
section
namespace Go.V
inductive AV where
 | b (x:Bool) | i (k:IntKind) (x:Int) | s (l:List Nat)
 | p (b o:Nat) | sl (b o l c:Nat) | es (b o r c:Nat) | r (k b:Nat) | nl (k:Nat)
 | f (g:Nat) (fs cs:List AV) | ic (t:Nat) (v:AV) | ag (l:List AV) | tu (l:List AV)
def BIG:Nat:=1180591620717411303424
def SM:Nat:=1099511627776
structure Pl where
 b:Nat
 o:Nat
 k:Nat
abbrev Ph:=Nat->Option Pl
def Ph.le (φ ψ:Ph):Prop:=∀ b x,φ b=some x->ψ b=some x
theorem Ph.le.rfl {φ:Ph}:φ.le φ:=fun _ _ h=>h
theorem Ph.le.trans {φ ψ χ:Ph} (h:φ.le ψ) (k:ψ.le χ):φ.le χ:=fun b x e=>k b x (h b x e)
def bytes (l:List Nat):ByteArray:=⟨(l.map UInt8.ofNat).toArray⟩
def za1 (k c:Nat):Nat:=if c<SM then c else k-(BIG-c)
def qh1:Nat->Value
 | 0=>.pointer none
 | 1=>.slice none 0 0
 | 2=>.map none
 | 3=>.nilFunc
 | 4=>.nilIface
 | _=>.chan none
mutual
def cv (φ:Ph):AV->Option Value
 | .b x=>some (.bool x)
 | .i k x=>some (.int k x)
 | .s l=>match l.all (fun n=>Nat.blt n 256) with | true=>some (.string (bytes l)) | false=>none
 | .p b o=>(φ b).map fun x=>.pointer (some ⟨x.b,x.o+o,none⟩)
 | .sl b o l c=>match φ b with | some x=>(match Nat.ble l (za1 x.k c) with | true=>some (.slice (some ⟨x.b,x.o+o,none⟩) l (za1 x.k c)) | false=>none) | none=>none
 | .es b o r c=>(φ b).map fun x=>.slice (some ⟨x.b,x.o+(match za1 x.k c with | 0=>o | _=>o+r),none⟩) 0 (za1 x.k c)
 | .r k b=>(φ b).map fun x=>if k=2 then .map (some x.b) else .chan (some x.b)
 | .nl k=>some (qh1 k)
 | .f g fs cs=>match cvs φ fs,cvs φ cs with | some a,some c=>some (.func (.func g) a.toArray c.toArray) | _,_=>none
 | .ic t v=>match cv φ v with | some u=>some (.iface t u) | none=>none
 | .ag l=>match cvs φ l with | some a=>(match a.all (fun v=>v.oneCell') with | true=>some (.agg a.toArray) | false=>none) | none=>none
 | .tu l=>match cvs φ l with | some a=>some (.tuple a.toArray) | none=>none
def cvs (φ:Ph):List AV->Option (List Value)
 | []=>some []
 | v :: r=>match cv φ v,cvs φ r with | some u,some us=>some (u :: us) | _,_=>none
end
mutual
theorem zh9 {φ ψ:Ph} (h:φ.le ψ):∀(v:AV) (u:Value),cv φ v=some u->cv ψ v=some u
 | .b x,u,e=>e
 | .i k x,u,e=>e
 | .s l,u,e=>e
 | .p b o,u,e=>by
  simp only [cv,Option.map_eq_some_iff] at e ⊢
  obtain⟨x,e1,e2⟩:=e;exact⟨x,h _ _ e1,e2⟩
 | .sl b o l c,u,e=>by
  simp only [cv] at e ⊢
  cases h1:φ b with
  | none=>simp [h1] at e
  | some x=>simp only [h1] at e;rw [h _ _ h1];exact e
 | .es b o r c,u,e=>by
  simp only [cv,Option.map_eq_some_iff] at e ⊢
  obtain⟨x,e1,e2⟩:=e;exact⟨x,h _ _ e1,e2⟩
 | .r k b,u,e=>by
  simp only [cv,Option.map_eq_some_iff] at e ⊢
  obtain⟨x,e1,e2⟩:=e;exact⟨x,h _ _ e1,e2⟩
 | .nl k,u,e=>e
 | .f g fs cs,u,e=>by
  simp only [cv] at e ⊢
  cases h1:cvs φ fs with
  | none=>simp [h1] at e
  | some a =>
   cases h2:cvs φ cs with
   | none=>simp [h1,h2] at e
   | some c =>
    simp only [h1,h2] at e
    rw [ze0 h _ _ h1,ze0 h _ _ h2];exact e
 | .ic t v,u,e=>by
  simp only [cv] at e ⊢
  cases h1:cv φ v with
  | none=>simp [h1] at e
  | some a=>simp only [h1] at e;rw [zh9 h _ _ h1];exact e
 | .ag l,u,e=>by
  simp only [cv] at e ⊢
  cases h1:cvs φ l with
  | none=>simp [h1] at e
  | some a=>simp only [h1] at e;rw [ze0 h _ _ h1];exact e
 | .tu l,u,e=>by
  simp only [cv] at e ⊢
  cases h1:cvs φ l with
  | none=>simp [h1] at e
  | some a=>simp only [h1] at e;rw [ze0 h _ _ h1];exact e
theorem ze0 {φ ψ:Ph} (h:φ.le ψ):∀(l:List AV) (us:List Value),cvs φ l=some us->cvs ψ l=some us
 | [],us,e=>e
 | v :: r,us,e=>by
  simp only [cvs] at e ⊢
  cases h1:cv φ v with
  | none=>simp [h1] at e
  | some u =>
   cases h2:cvs φ r with
   | none=>simp [h1,h2] at e
   | some w =>
    simp only [h1,h2] at e;rw [zh9 h _ _ h1,ze0 h _ _ h2];exact e
end
theorem zcp {φ:Ph} {v:AV} {r:List AV} {us:List Value} (e:cvs φ (v :: r)=some us):∃ u w,us=u :: w/\cv φ v=some u/\cvs φ r=some w:=by
 simp only [cvs] at e
 cases h1:cv φ v with
 | none=>simp [h1] at e
 | some u =>
  cases h2:cvs φ r with
  | none=>simp [h1,h2] at e
  | some w=>simp only [h1,h2,Option.some.injEq] at e;exact⟨u,w,e.symm,rfl,rfl⟩
theorem zbh {φ:Ph} {v:AV} {r:List AV} {u:Value} {w:List Value} (h1:cv φ v=some u) (h2:cvs φ r=some w):cvs φ (v :: r)=some (u :: w):=by
 simp only [cvs,h1,h2]
theorem cvs_len {φ:Ph}:∀(l:List AV) (us:List Value),cvs φ l=some us->us.length=l.length
 | [],us,e=>by simp only [cvs,Option.some.injEq] at e;subst e;rfl
 | v :: r,us,e=>by
  obtain⟨u,w,rfl,_,h2⟩:=zcp e;simp [cvs_len r w h2]
theorem zg5 {φ:Ph}:∀(l m:List AV) (us ws:List Value),cvs φ l=some us->cvs φ m=some ws->cvs φ (l++m)=some (us++ws)
 | [],m,us,ws,e,e'=>by simp only [cvs,Option.some.injEq] at e;subst e;exact e'
 | v :: r,m,us,ws,e,e'=>by
  obtain⟨u,w,rfl,h1,h2⟩:=zcp e;exact zbh h1 (zg5 r m w ws h2 e')
theorem zdn {φ:Ph}:∀(l:List AV) (us:List Value),cvs φ l=some us->∀(j:Nat) (v:AV),l[j]? = some v->∃ u,us[j]? = some u/\cv φ v=some u
 | [],us,e,j,v,hj=>by simp at hj
 | x :: r,us,e,j,v,hj=>by
  obtain⟨u,w,rfl,h1,h2⟩:=zcp e
  cases j with
  | zero=>simp at hj;subst hj;exact⟨u,by simp,h1⟩
  | succ j=>simp at hj;obtain⟨y,h3,h4⟩:=zdn r w h2 j v hj;exact⟨y,by simpa using h3,h4⟩
def qnb:AV->Bool | .ag _=>false | .tu _=>false | _=>true
theorem qbz (k:Nat):(qh1 k).oneCell'=true:=by
 unfold qh1;split <;> rfl
theorem zss {φ:Ph} {v:AV} {u:Value} (h:cv φ v=some u):u.oneCell'=qnb v:=by
 cases v <;> simp only [cv,Option.map_eq_some_iff] at h
 case b x=>cases h;rfl
 case i k x=>cases h;rfl
 case s l=>split at h <;> cases h;rfl
 case p b o=>obtain⟨x,_,rfl⟩:=h;rfl
 case sl b o l c=>split at h;(split at h <;> cases h;rfl);cases h
 case es b o r c=>obtain⟨x,_,rfl⟩:=h;rfl
 case r k b=>obtain⟨x,_,rfl⟩:=h;split <;> rfl
 case nl k=>cases h;exact qbz k
 case f g fs cs=>split at h <;> cases h;rfl
 case ic t v=>split at h <;> cases h;rfl
 case ag l=>split at h;(split at h <;> cases h;rfl);cases h
 case tu l=>split at h <;> cases h;rfl
theorem zfn {φ:Ph} {l:List AV} {u:Value}:cv φ (.ag l)=some u ↔ ∃ us,cvs φ l=some us/\(∀ w∈us,w.oneCell'=true)/\u = .agg us.toArray:=by
 simp only [cv];constructor
 ·intro h
  split at h
  ·rename_i a h1
   split at h
   ·rename_i h2
    cases h
    exact⟨a,h1,fun w hw=>List.all_eq_true.1 h2 w hw,rfl⟩
   ·cases h
  ·cases h
 ·rintro⟨us,h1,h2,rfl⟩
  simp only [h1,List.all_eq_true.2 h2]
theorem zzw {φ:Ph} {l:List AV} {u:Value}:cv φ (.tu l)=some u ↔ ∃ us,cvs φ l=some us/\u = .tuple us.toArray:=by
 simp only [cv];constructor
 ·intro h
  split at h
  ·rename_i a h1;cases h;exact⟨a,h1,rfl⟩
  ·cases h
 ·rintro⟨us,h1,rfl⟩;simp only [h1]
theorem zv1 {φ:Ph} {b o:Nat} {u:Value} (h:cv φ (.p b o)=some u):∃ x,φ b=some x/\u = .pointer (some ⟨x.b,x.o+o,none⟩):=by
 simp only [cv,Option.map_eq_some_iff] at h;obtain⟨x,h1,rfl⟩:=h;exact⟨x,h1,rfl⟩
theorem zdj {φ:Ph} {b o l c:Nat} {u:Value}:cv φ (.sl b o l c)=some u ↔ ∃ x,φ b=some x/\l<=za1 x.k c/\u = .slice (some ⟨x.b,x.o+o,none⟩) l (za1 x.k c):=by
 simp only [cv];constructor
 ·intro h
  split at h
  ·rename_i x h1
   split at h
   ·rename_i h2;cases h;exact⟨x,h1,Nat.le_of_ble_eq_true h2,rfl⟩
   ·cases h
  ·cases h
 ·rintro⟨x,h1,h2,rfl⟩
  simp only [h1,Nat.ble_eq_true_of_le h2]
theorem zu8 {φ:Ph} {b o r c:Nat} {u:Value} (h:cv φ (.es b o r c)=some u):∃ x,φ b=some x/\u = .slice (some ⟨x.b,x.o+(match za1 x.k c with | 0=>o | _=>o+r),none⟩) 0 (za1 x.k c):=by
 simp only [cv,Option.map_eq_some_iff] at h;obtain⟨x,h1,rfl⟩:=h;exact⟨x,h1,rfl⟩
theorem zog {φ:Ph} {l:List Nat} {u:Value}:cv φ (.s l)=some u ↔ (∀ n∈l,n<256)/\u = .string (bytes l):=by
 simp only [cv];constructor
 ·intro h
  split at h
  ·rename_i h1
   cases h
   exact⟨fun n hn=>by have:=List.all_eq_true.1 h1 n hn;rwa [Nat.blt_eq] at this,rfl⟩
  ·cases h
 ·rintro⟨h1,rfl⟩
  rw [show l.all (fun n=>Nat.blt n 256)=true from List.all_eq_true.2 fun n hn=>by rw [Nat.blt_eq];exact h1 n hn]
theorem znx {l m:List Nat} (hl:∀ n∈l,n<256) (hm:∀ n∈m,n<256) (h:bytes l=bytes m):l=m:=by
 have e:=congrArg (fun b=>b.data.toList.map UInt8.toNat) h;simp only [bytes,List.map_map] at e
 have key:∀ l:List Nat,(∀ n∈l,n<256)->l.map (UInt8.toNat ∘ UInt8.ofNat)=l:=fun l hl=>by
  rw [List.map_congr_left (g:=id) fun n hn=>by simp [Nat.mod_eq_of_lt (hl n hn)]];simp
 rwa [key l hl,key m hm] at e
theorem zbq (l:List Nat):(bytes l).size=l.length:=by simp [bytes,ByteArray.size]
theorem zzm {φ:Ph}:∀(l:List AV) (us:List Value),cvs φ l=some us ↔ us.length=l.length/\∀(j:Nat) (v:AV),l[j]? = some v->∃ u,us[j]? = some u/\cv φ v=some u:=by
 intro l
 induction l with
 | nil =>
  intro us;constructor
  ·intro h;simp only [cvs,Option.some.injEq] at h;subst h;exact⟨rfl,fun j v h=>by simp at h⟩
  ·rintro⟨h,_⟩;rw [List.eq_nil_of_length_eq_zero h];rfl
 | cons v r ih =>
  intro us;constructor
  ·intro h;exact⟨cvs_len _ _ h,fun j x hx=>zdn _ _ h j x hx⟩
  ·rintro⟨h1,h2⟩
   cases us with
   | nil=>simp at h1
   | cons u us =>
    obtain⟨w,hw,hv⟩:=h2 0 v rfl;simp at hw;subst hw;refine zbh hv ((ih us).2 ⟨by simpa using h1,fun j x hx=>?_⟩);obtain⟨w,hw,hv⟩:=h2 (j+1) x (by simpa using hx);exact⟨w,by simpa using hw,hv⟩
theorem zmv {φ:Ph} {l:List AV} {us:List Value} (h:cvs φ l=some us) (n:Nat):cvs φ (l.take n)=some (us.take n):=by
 rw [zzm] at h ⊢;refine⟨by simp [h.1],fun j v hj=>?_⟩;rw [List.getElem?_take] at hj ⊢;split at hj
 ·rename_i hlt;rw [if_pos hlt];exact h.2 j v hj
 ·cases hj
theorem ztu {φ:Ph} {l:List AV} {us:List Value} (h:cvs φ l=some us) (n:Nat):cvs φ (l.drop n)=some (us.drop n):=by
 rw [zzm] at h ⊢;refine⟨by simp [h.1],fun j v hj=>?_⟩;rw [List.getElem?_drop] at hj ⊢;exact h.2 _ v hj
noncomputable def cells (v:AV):List AV:=AV.rec (motive_1:=fun _=>List AV) (motive_2:=fun _=>Unit) (fun x=>[.b x]) (fun k x=>[.i k x]) (fun l=>[.s l]) (fun b o=>[.p b o]) (fun b o l c=>[.sl b o l c]) (fun b o r c=>[.es b o r c]) (fun k b=>[.r k b]) (fun k=>[.nl k]) (fun g fs cs _ _=>[.f g fs cs]) (fun t v _=>[.ic t v]) (fun l _=>l) (fun l _=>[.tu l]) () (fun _ _ _ _=>()) v
theorem cells_ok {φ:Ph} {v:AV} {u:Value} (h:cv φ v=some u) (hu:∀ us,u≠.tuple us):cvs φ (cells v)=some u.cells.toList/\∀ w∈u.cells.toList,w.oneCell'=true:=by
 have h1:=zss h
 have key:qnb v=true->cells v=[v]->cvs φ (cells v)=some u.cells.toList/\∀ w∈u.cells.toList,w.oneCell'=true:=fun ha he=>by
  rw [ha] at h1;have hc:u.cells = #[u]:=by cases u <;> first | rfl | (simp [Value.oneCell'] at h1)
  rw [he,hc];exact⟨zbh h rfl,fun w hw=>by simp at hw;subst hw;exact h1⟩
 cases v
 case ag l =>
  obtain⟨us,h2,h3,rfl⟩:=zfn.1 h;exact⟨by simpa [cells,Value.cells] using h2,by simpa [Value.cells] using h3⟩
 case tu l =>
  obtain⟨us,h2,rfl⟩:=zzw.1 h;exact absurd rfl (hu _)
 all_goals exact key rfl rfl
end Go.V
end

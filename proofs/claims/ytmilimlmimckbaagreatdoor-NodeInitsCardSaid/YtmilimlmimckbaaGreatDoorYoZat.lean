/- A part of the proof of statements of this seat: lemmas, no statement of their own. -/
import Derived.Test.YtmilimlmimckbaaGreatDoorYoZas
set_option linter.unusedVariables false
set_option linter.unusedSimpArgs false
set_option maxRecDepth 100000
section
namespace Go.Q.Yo
theorem qf0 {n:Nat} {key:List Int} (hk:key.length<=n):(arr n .u8 ([]:List Int)).take (0+0)++b8 key++(arr n .u8 ([]:List Int)).drop (0+0+(b8 key).length)=arr n .u8 key:=by
 apply List.ext_getElem?;intro i;simp only [Nat.add_zero,List.take_zero,List.nil_append,Nat.zero_add]
 conv=>rhs;rw [zde,List.getElem?_map]
 by_cases hi:i<n
 ·rw [zgf _ _ hi]
  by_cases h2:i<key.length
  ·rw [List.getElem?_append_left (by rw [List.length_map];exact h2),List.getElem?_map,List.getElem?_eq_getElem h2]
   simp [List.getD_eq_getElem?_getD,List.getElem?_eq_getElem h2]
  ·rw [List.getElem?_append_right (by rw [List.length_map];omega),List.getElem?_drop,zde,List.getElem?_map,zgf _ _ (by rw [List.length_map];omega)]
   simp [List.getD_eq_getElem?_getD];rw [List.getElem?_eq_none (by omega)];simp
 ·rw [List.getElem?_eq_none (by rw [List.length_append,List.length_drop,zaj,List.length_map];omega),List.getElem?_eq_none (by rw [zhb];omega)];rfl
def zmj (key:List Int) (x:Int) (n:Nat):List Int:=(List.range 64).map fun j=>if j<n then zaq .u8 (key.getD j 0) x else key.getD j 0
theorem zeb (key:List Int) (x:Int) (n:Nat):(zmj key x n).length=64:=by simp [zmj]
theorem zki {key:List Int} {x:Int} {n j:Nat} (hj:j<64):(zmj key x n)[j]? = some (if j<n then zaq .u8 (key.getD j 0) x else key.getD j 0):=by
 simp [zmj,hj]
theorem zw4 (key:List Int) (x:Int):arr 64 .u8 key=b8 (zmj key x 0):=by
 rw [zde];congr 1
theorem zq1 {key:List Int} {x:Int} {n:Nat} (hn:n<64):(b8 (zmj key x n)).set n (.int .u8 (zaq .u8 (key.getD n 0) x))=b8 (zmj key x (n+1)):=by
 rw [← List.map_set];congr 1;apply List.ext_getElem?;intro j;by_cases hj:j<64
 ·rw [List.getElem?_set,zki hj,zki hj,zeb]
  by_cases e:n=j
  ·subst e;rw [if_pos rfl,if_pos hj,if_pos (Nat.lt_succ_self _)]
  ·rw [if_neg e]
   by_cases c:j<n
   ·rw [if_pos c,if_pos (by omega)]
   ·rw [if_neg c,if_neg (by omega)]
 ·rw [List.getElem?_eq_none (by rw [List.length_set,zeb];omega),List.getElem?_eq_none (by rw [zeb];omega)]
def zp5 (key:List Int) (x:Int):List Int:=zmj key x 64
theorem zdd (key:List Int) (x:Int):(zp5 key x).length=64:=zeb _ _ _
def zlf (key msg:List Int):List Int:=shaD (zp5 key 92++shaD (zp5 key 54++msg))
theorem ze5 (key msg:List Int):(zlf key msg).length=32:=zmz _
theorem qdl (key msg:List Int):isB (zlf key msg):=zze _
theorem qdg {b E:Nat} {s t:Slc} {x y:List Int} {k:List Int->zaa->Prop} {h:zaa} (r:R0 h) (P:Blk h b [s.v,t.v] E) (A:SlcAt h s (b8 x)) (ls:s.len=x.length) (A':SlcAt h t (b8 y)) (lt:t.len=y.length) (m:x.length+y.length<=60000)
  (H:∀ h',Ext h.size h h'->k (shaD (x++y)) h'):zng (⟨some ⟨b,0,none⟩,2,2⟩:Slc) k h:=by
 have e:zdf [(s,x),(t,y)]=x++y:=by simp [zdf]
 refine qc5 (L:=[(s,x),(t,y)]) r (P.slc (n:=2) rfl) rfl (fun q hq=>?_) (by simp) (by rw [e,List.length_append];exact m) (fun h' X=>by rw [e];exact H h' X);rcases List.mem_cons.1 hq with rfl | hq
 ·exact⟨A,ls⟩
 ·rw [List.mem_singleton] at hq;subst hq;exact⟨A',lt⟩
theorem qc4 {p0 p1:Slc} {key msg:List Int} {k:List Int->zaa->Prop} {h:zaa} (r:R0 h) (A:SlcAt h p0 (b8 key)) (l0:p0.len=key.length) (hk:key.length<=64) (M:SlcAt h p1 (b8 msg)) (l1:p1.len=msg.length) (hm:msg.length<=50000)
  (H:∀ h',Ext h.size h h'->k (zlf key msg) h'):zkq p0 p1 k h:=by
 have r0:=r.pos;unfold zkq;refine bx0 fun h2 P2 X2=>bx0 fun h4 P4 X4=>bx0 fun h6 P6 X6=>?_;have z2:=X2.size;have z4:=X4.size;have z6:=X6.size;have p2:=P2.lt;have p4:=P4.lt;have p6:=P6.lt;rw [if_neg (by rw [decide_eq_true_eq];omega)];unfold zg9;obtain⟨B,eB⟩:∃ B,B=h.size:=⟨_,rfl⟩
 obtain⟨b3,e3⟩:∃ b,b=h2.size:=⟨_,rfl⟩
 obtain⟨b5,e5⟩:∃ b,b=h4.size:=⟨_,rfl⟩
 rw [← eB] at P2 ⊢;rw [← e3] at P4 ⊢;rw [← e5] at P6 ⊢;have X06:Ext B h h6:=by rw [eB];exact X2.trans ((X4.mono z2).trans (X6.mono (by omega)))
 have Q2:Blk h6 B (arr 32 .u8 ([]:List Int)) 29:=(P2.ext X4 (by omega)).ext X6 (by omega);have Q4:Blk h6 b3 (arr 64 .u8 ([]:List Int)) 186:=P4.ext X6 (by omega);have lz:(arr 64 .u8 ([]:List Int)).length=64:=zaj _ _ _;have A6:=A.ext (by rw [← eB];exact X06);refine⟨_,by decide,by decide,by decide,rfl,?_⟩;rw [show zcb ⟨some (⟨b3,0,none⟩:Addr),64,64⟩ 1 (0:Int).toNat (64:Int).toNat 64=⟨some ⟨b3,0,none⟩,64,64⟩ from rfl];refine⟨b8 key,zwi (a:=⟨b3,0,none⟩) rfl ⟨b8 key,A6,by rw [List.length_map,l0,Nat.mul_one],?_⟩ (znk key) (WrsAt.of_blk Q4 (by rw [lz,List.length_map];exact hk)) ?_⟩
 ·show b8 key=(b8 key).take (min p0.len 64*1)
  rw [Nat.mul_one,List.take_of_length_le (by rw [List.length_map];omega)]
 have Z9:=Blk.sets (b8 key) 0 0 Q4 (by rw [lz,List.length_map];omega);rw [qf0 hk] at Z9;obtain⟨h9,e9⟩:∃ x,x=zak h6 ⟨b3,0,none⟩ 0 (b8 key):=⟨_,rfl⟩
 rw [← e9] at Z9 ⊢;have U9:Upd b3 h6 h9:=by rw [e9];exact⟨by rw [setsH_size];exact Nat.le_refl _,fun i _ hi=>setsH_other _ _ hi⟩
 have Q9:=U9.blk P6 (by omega);have O9:=U9.blk Q2 (by omega);refine⟨key,CellsAt.of_blk Z9,?_⟩;refine zz2 Q9 (by rw [zaj,zaj]) (by rw [lz];omega) fun h11 Q11 U11=>?_;have Z11:=U11.blk Z9 (by omega);have O11:=U11.blk O9 (by omega);have X11:Ext B h h11:=X06.trans ((U9.ext (by omega) (by omega)).trans (U11.ext (by omega) (by have:=U9.size;omega)));rw [zw4 key 54] at Z11;rw [zw4 key 92] at Q11;clear Z9 Q9 O9 U9 U11 e9;unfold zn5;refine⟨fun i h'=>0<=i/\i<=64/\Blk h' b3 (b8 (zmj key 54 i.toNat)) 186/\Blk h' b5 (b8 (zmj key 92 i.toNat)) 186/\Blk h' B (arr 32 .u8 ([]:List Int)) 29/\Ext B h h',fun i _=>(64-i).toNat,⟨by omega,by omega,Z11,Q11,O11,X11⟩,?_⟩;rintro i h1 ⟨i0,i1,Z,Q,O,X⟩;unfold zmb;have l5:(b8 (zmj key 54 i.toNat)).length=64:=by rw [List.length_map,zeb]
 have l6:(b8 (zmj key 92 i.toNat)).length=64:=by rw [List.length_map,zeb]
 have zl:=Z.lt;have ql:=Q.lt;by_cases c:i<64
 ·rw [if_pos (by rw [decide_eq_true_eq];exact c),zac (by omega) (by omega)]
  have hi:i.toNat<64:=by omega
  have g5:zab h1 ((⟨b3,0,none⟩:Addr).add (i.toNat*1))=some (.int .u8 (key.getD i.toNat 0)):=by
   rw [Nat.mul_one];refine Z.cl ?_;rw [List.getElem?_map,zki hi,if_neg (Nat.lt_irrefl _)];rfl
  refine⟨i0,c,_,g5,i0,c,?_⟩;rw [Nat.mul_one];refine zn9 Z (by omega) fun h15 Z15 U15=>?_;rw [zq1 hi] at Z15;have Q15:=U15.blk Q (by omega);have O15:=U15.blk O (by omega)
  have g6:zab h15 ((⟨b5,0,none⟩:Addr).add i.toNat)=some (.int .u8 (key.getD i.toNat 0)):=by
   refine Q15.cl ?_;rw [List.getElem?_map,zki hi,if_neg (Nat.lt_irrefl _)];rfl
  refine⟨i0,c,_,g6,i0,c,?_⟩;refine zn9 Q15 (by omega) fun h19 Q19 U19=>?_;rw [zq1 hi] at Q19;have s15:=U15.size;have xs:=X.size;have E15:Ext B h1 h15:=U15.ext (by omega) (by omega);have E19:Ext B h15 h19:=U19.ext (by omega) (by omega);refine⟨⟨by omega,by omega,by rw [show (i+1).toNat=i.toNat+1 from by omega];exact U19.blk Z15 (by omega),by rw [show (i+1).toNat=i.toNat+1 from by omega];exact Q19,U19.blk O15 (by omega),X.trans (E15.trans E19)⟩,by dsimp only;omega⟩
 ·rw [if_neg (by rw [decide_eq_true_eq];exact c)]
  have e64:i.toNat=64:=by omega
  rw [e64] at Z Q;have xs:=X.size;refine⟨_,by decide,by decide,by decide,rfl,?_⟩;rw [show zcb ⟨some (⟨b3,0,none⟩:Addr),64,64⟩ 1 (0:Int).toNat (64:Int).toNat 64=⟨some ⟨b3,0,none⟩,64,64⟩ from rfl];refine bx0 fun h22 P22 X22=>?_;have z22:=X22.size;have Z22:=Z.ext X22 zl;have Q22:=Q.ext X22 ql;have O22:=O.ext X22 (by omega);have M22:=(M.ext (by rw [← eB];exact X)).ext X22;have Xa:Ext B h h22:=X.trans (X22.mono (by omega));refine qdg (x:=zp5 key 54) (y:=msg) (r.ext Xa (by omega)) P22 (Z22.slc (n:=64) (by rw [List.drop_zero,List.take_of_length_le (by rw [List.length_map,zeb];exact Nat.le_refl _)];rfl)) (by rw [zdd]) M22 l1 (by rw [zdd];omega) fun h24 X24=>?_;have z24:=X24.size;have Q24:=Q22.ext X24 (by omega);have O24:=O22.ext X24 (by omega);have ls:=zmz (zp5 key 54++msg);refine bx (cs:=arr 32 .u8 (shaD (zp5 key 54++msg))) (by rw [zaj,zaj]) (by rw [zaj];omega) fun h27 P27 X27=>?_;have z27:=X27.size;have Q27:=Q24.ext X27 (by omega);have O27:=O24.ext X27 (by omega);refine⟨_,by decide,by decide,by decide,rfl,_,by decide,by decide,by decide,rfl,?_⟩;rw [show zcb ⟨some (⟨b5,0,none⟩:Addr),64,64⟩ 1 (0:Int).toNat (64:Int).toNat 64=⟨some ⟨b5,0,none⟩,64,64⟩ from rfl,show zcb ⟨some (⟨h24.size,0,none⟩:Addr),32,32⟩ 1 (0:Int).toNat (32:Int).toNat 32=⟨some ⟨h24.size,0,none⟩,32,32⟩ from rfl];refine bx0 fun h31 P31 X31=>?_;have z31:=X31.size;have Q31:=Q27.ext X31 (by omega);have S31:=P27.ext X31 P27.lt;have O31:=O27.ext X31 (by omega);rw [arr_id ls] at S31;have Xb:Ext B h h31:=Xa.trans ((X24.mono (by omega)).trans ((X27.mono (by omega)).trans (X31.mono (by omega))));refine qdg (x:=zp5 key 92) (y:=shaD (zp5 key 54++msg)) (r.ext Xb (by omega)) P31 (Q31.slc (n:=64) (by rw [List.drop_zero,List.take_of_length_le (by rw [List.length_map,zeb];exact Nat.le_refl _)];rfl)) (by rw [zdd]) (S31.slc (n:=32) (by rw [List.drop_zero,List.take_of_length_le (by rw [List.length_map,ls];exact Nat.le_refl _)])) (by rw [ls]) (by rw [zdd,ls];omega) fun h33 X33=>?_;have O33:=O31.ext X33 (by omega);have z33:=X33.size;refine zz2 (cs:=arr 32 .u8 (zlf key msg)) O33 (by rw [zaj,zaj]) (by rw [zaj];omega) fun h34 O34 U34=>?_;exact⟨_,CellsAt.of_blk O34,H _ (by rw [← eB];exact Xb.trans ((X33.mono (by omega)).trans (U34.ext (by omega) (by omega))))⟩
end Go.Q.Yo
end
section
namespace Go.Q.Yo
theorem zxc {t:ByteArray} {k:Slc->zaa->Prop} {h:zaa} (H:∀ s' h',Row h.size h' 5 1 s' (b8 (sB t))->Ext h.size h h'->k s' h'):S2B 5 h t k:=by
 intro c hc hm;have hl:(b8 (sB t)++List.replicate (c-t.size) (Value.int .u8 0)).length=c:=by simp [zev];omega
 have P:=Blk.pushM h (b8 (sB t)++List.replicate (c-t.size) (Value.int .u8 0)) 5 (lo:=c) (hi:=c+1) (by omega);refine H _ _ ⟨by simp [zev],hm,.inr ⟨h.size,_,rfl,Nat.le_refl _,P,hc,by rw [hl,Nat.mul_one];exact Nat.le_refl _,?_⟩⟩ (Ext.push h _ (Nat.le_refl _));rw [List.take_left' (by simp [zev])]
theorem rpb {B E:Nat} {h:zaa} {s:Slc} {l:List Int} (R:Row B h E 1 s (b8 l)):s.len=l.length:=by have:=R.len;simpa using this
theorem zwa (h:zaa):Row h.size (h.push (.cells ([]:List Value).toArray 5)) 5 1 ⟨some ⟨h.size,0,none⟩,0,0⟩ [] :=
 ⟨by simp,by simp [maxLen],.inr ⟨h.size,[],rfl,Nat.le_refl _,Blk.push _ _ _,Nat.le_refl _,by simp,by simp⟩⟩
theorem zwx {p0 p1:Slc} {key info:List Int} {k:Slc × Int->zaa->Prop} {h:zaa} (r:R0 h) (A:SlcAt h p0 (b8 key)) (l0:p0.len=key.length) (hk:key.length<=64) (M:SlcAt h p1 (b8 info)) (l1:p1.len=info.length) (hm:info.length<=40000)
  (H:∀ s' h',SlcAt h' s' (b8 (zlf key (info++[1])))->s'.len=32->Ext h.size h h'->k (s',0) h'):zd5 p0 p1 32 k h:=by
 unfold zd5;rw [if_neg (by decide)];have lD:=ze5 key (info++[1]);refine⟨fun q h'=>(q=(⟨none,0,0⟩,⟨none,0,0⟩,1)/\h'=h)∨(∃ t,Row h.size h' 5 1 q.1 (b8 (zlf key (info++[1])))/\q=(q.1,t,2)/\Ext h.size h h'),fun q _=>32-q.1.len,.inl ⟨rfl,rfl⟩,?_⟩;rintro t8 t9 t10 h1 (⟨e,rfl⟩ | ⟨t,R,e,X⟩)
 ·cases e
  unfold zfk;rw [if_pos (by decide)];have E2:=zwa h1;have X2:=Ext.push h1 (.cells ([]:List Value).toArray 5) (Nat.le_refl _);refine⟨_,_,rfl,rfl,[],⟨fun _=>rfl,fun a ha=>by cases ha⟩,?_⟩;obtain⟨h2,e2⟩:∃ x,x=h1.push (.cells ([]:List Value).toArray 5):=⟨_,rfl⟩
  rw [← e2] at E2 X2 ⊢;have z2:=X2.size;refine zkb (l:=[]) (m:=[]) E2 z2 rfl (by simp) fun s3 h4 R4 X4=>?_;have z4:=X4.size;have Y4:Ext h1.size h1 h4:=X2.trans X4;refine⟨b8 info,M.ext Y4,?_⟩;refine zkb (l:=[]++[]) (m:=info) R4 (by omega) l1 (by simp;omega) fun s6 h7 R7 X7=>?_;have z7:=X7.size;have Y7:=Y4.trans X7;refine bx0 fun h10 P10 X10=>?_;have z10:=X10.size;have R10:=R7.ext X10 fun g hg=>(R7.bd hg).2;refine zkb (l:=[]++[]++info) (m:=[1]) R10 (by omega) rfl (by simp;omega) fun s11 h12 R12 X12=>?_;rw [show ([]:List Int)++[]++info++[1]=info++[1] from rfl] at R12;have z12:=X12.size;have Y12:Ext h1.size h1 h12:=Y7.trans ((X10.mono (by omega)).trans X12);refine qc4 (r.ext Y12 r.pos) (A.ext Y12) l0 hk R12.slc (rpb R12) (by simp;omega) fun h14 X14=>?_;have z14:=X14.size;refine bx (cs:=arr 32 .u8 (zlf key (info++[1]))) (by rw [zaj,zaj]) (by rw [zaj];omega) fun h17 P17 X17=>?_;have z17:=X17.size;rw [arr_id lD] at P17;refine⟨_,by decide,by decide,by decide,rfl,?_⟩;rw [show zcb ⟨some (⟨h14.size,0,none⟩:Addr),32,32⟩ 1 (0:Int).toNat (32:Int).toNat 32=⟨some ⟨h14.size,0,none⟩,32,32⟩ from rfl];have Y17:Ext h1.size h1 h17:=Y12.trans ((X14.mono (by omega)).trans (X17.mono (by omega)));refine⟨b8 (zlf key (info++[1])),P17.slc (n:=32) (by rw [List.drop_zero,List.take_of_length_le (by rw [List.length_map,lD];exact Nat.le_refl _)]),?_⟩;refine zkb (l:=[]) (m:=zlf key (info++[1])) (Row.nil h1.size h17 5 1) (by omega) (by rw [lD]) (by rw [lD];simp) fun s19 h20 R20 X20=>?_;rw [List.nil_append] at R20;refine⟨_,rfl,?_⟩;refine⟨.inr ⟨_,R20,rfl,Y17.trans X20⟩,?_⟩;have:=(rpb R20)
  dsimp only;rw [this,lD];decide
 ·dsimp only at R
  have et:t9=t/\t10=2:=by
   have:=congrArg Prod.snd e;exact⟨congrArg Prod.fst this,congrArg Prod.snd this⟩
  have lt:t8.len=32:=by have:=(rpb R);rw [this,lD]
  unfold zfk;rw [if_neg (by rw [decide_eq_true_eq,lt];decide)]
  have hc:t8.len<=t8.cap:=by
   obtain⟨g,zs,_,_,_,lc,_⟩:=R.opened (by omega);exact lc
  refine⟨_,by decide,by decide,by decide,by omega,rfl,?_⟩;obtain⟨g,zs,et8,gB,Bg,lc,gb⟩:=R.opened (by omega);have es:zcb t8 1 (0:Int).toNat (32:Int).toNat (32:Int).toNat=⟨some ⟨g,0,none⟩,32,32⟩:=by rw [et8];rfl
  rw [es];exact H _ _ (Bg.slc (n:=32) (by rw [List.drop_zero,List.take_append_of_le_length (by rw [List.length_map,lD];exact Nat.le_refl _),List.take_of_length_le (by rw [List.length_map,lD];exact Nat.le_refl _)])) rfl X
def zro (key lab:List Int) (n:Int):List Int:=zlf key (lab++[0]++formL n 8++[1])
theorem zp4 (key lab:List Int) (n:Int):(zro key lab n).length=32:=ze5 _ _
theorem qo3 {D:List Int} {k:List Int->zaa->Prop} {b:Nat} {h h':zaa} {s:Slc} {E:Nat} (lD:D.length=32) (S:SlcAt h' s (b8 D)) (sl:s.len=32) (O:Blk h b (arr 32 .u8 ([]:List Int)) E) (X:Ext (b+1) h h') (H:∀ h'',h'.size<=h''.size->(∀ j,j<h'.size->j≠b->h''[j]? = h'[j]?)->k D h'') :
  ∃ a16:Addr,s.a=some a16/\32<=s.len/\(∃ v17:List Int,CellsAt h' a16 (arr 32 .u8 v17)/\(∃ h18:zaa,WrsAt h' (⟨b,0,none⟩:Addr) 32/\h18=zak h' (⟨b,0,none⟩:Addr) 0 (arr 32 .u8 v17)/\(∃ v19:List Int,CellsAt h18 (⟨b,0,none⟩:Addr) (arr 32 .u8 v19)/\k v19 h18))):=by
 have O':=O.ext X (Nat.lt_succ_self _)
 cases ha:s.a with
 | none =>
  have:=S.1 ha;have:=congrArg List.length this;rw [List.length_map,lD] at this
  cases this
 | some a =>
  refine⟨a,rfl,by omega,D,by rw [arr_id lD];exact S.2 a ha,?_⟩;refine zz2 (cs:=arr 32 .u8 D) O' (by rw [zaj,zaj]) (by rw [zaj];omega) fun h'' O'' U=>?_;exact⟨D,CellsAt.of_blk O'',H _ U.size fun j hj hn=>U.block j hj hn⟩
theorem zyu {key:List Int} {lab:ByteArray} {n:Int} {k:List Int->zaa->Prop} {h:zaa} (r:R0 h) (lk:key.length=32) (ll:lab.size<=1000) (n0:0<=n) (H:∀ h',Ext h.size h h'->k (zro key (sB lab) n) h'):zg7 key lab n k h:=by
 unfold zg7;refine bx0 fun h2 P2 X2=>bx0 fun h4 P4 X4=>?_;have p2:=P2.lt;have p4:=P4.lt;have z2:=X2.size;have z4:=X4.size;have K4:Blk h4 h.size (b8 key) 23:=by rw [show b8 key=arr 32 .u8 key from(arr_id lk).symm];exact P2.ext X4 p2
 obtain⟨bO,eO⟩:∃ b,b=h2.size:=⟨_,rfl⟩
 rw [← eO] at P4 ⊢;have X04:Ext h.size h h4:=X2.trans (X4.mono z2);have lD:=zp4 key (sB lab) n;have lS:(sB lab).length=lab.size:=zev lab;have l8:(formL n 8).length=8:=zbc _ _
 have fin:∀ h15,Ext h4.size h4 h15->∀ h'',h15.size<=h''.size->(∀ j,j<h15.size->j≠bO->h''[j]? = h15[j]?)->k (zro key (sB lab) n) h'':=fun h15 X15 h'' s1 s2 =>
  H _ ⟨by have:=X15.size;have:=X04.size;omega,fun j hj=>by rw [s2 j (by have:=X15.size;omega) (by omega),X15.block j (by omega)];exact X04.block j hj⟩
 refine⟨_,by decide,by decide,by decide,rfl,?_⟩;rw [show zcb ⟨some (⟨h.size,0,none⟩:Addr),32,32⟩ 1 (0:Int).toNat (32:Int).toNat 32=⟨some ⟨h.size,0,none⟩,32,32⟩ from rfl];have KS:∀ {h'},Ext h4.size h4 h'->SlcAt h' ⟨some ⟨h.size,0,none⟩,32,32⟩ (b8 key):=fun X=>((K4.ext X (by omega)).slc (n:=32) (by rw [List.drop_zero,List.take_of_length_le (by rw [List.length_map,lk];exact Nat.le_refl _)]))
 have tail:∀ {s:Slc} {h':zaa},Ext h4.size h4 h'->SlcAt h' s (b8 (sB lab++[0]))->s.len=(sB lab++[0]).length->zj4 s n 8 (fun(r12:Slc) h13=>zd5 ⟨some ⟨h.size,0,none⟩,32,32⟩ r12 32 (fun(r14:Slc × Int) h15=>∃ a16:Addr,r14.1.a=some a16/\32<=r14.1.len/\(∃ v17:List Int,CellsAt h15 a16 (arr 32 .u8 v17)/\(∃ h18:zaa,WrsAt h15 (⟨bO,0,none⟩:Addr) 32/\h18=zak h15 (⟨bO,0,none⟩:Addr) 0 (arr 32 .u8 v17)/\(∃ v19:List Int,CellsAt h18 (⟨bO,0,none⟩:Addr) (arr 32 .u8 v19)/\k v19 h18)))) h13) h':=by
  intro s h' X S sl;refine Put_ok sl S (by simp [lS];omega) (by decide) (by decide) n0 fun s12 h13 R13 X13=>?_;have z':=X.size;have Y13:Ext h4.size h4 h13:=X.trans (X13.mono z');refine zwx (r.ext (X04.trans (Y13.mono (by omega))) r.pos) (KS Y13) lk.symm (by omega) R13.slc (rpb R13) (by simp [lS,zbc];omega) fun s14 h15 S15 l15 X15=>?_;have Y15:Ext h4.size h4 h15:=Y13.trans (X15.mono (Nat.le_trans z' X13.size));exact qo3 lD S15 l15 P4 (Y15.mono (by omega)) fun h'' s1 s2=>fin h15 Y15 h'' s1 s2
 have e8:(8:Int).toNat=8:=rfl;constructor
 ·refine⟨by simp only [maxLen];omega,zxc fun s6 h7 R7 X7=>?_⟩
  have z7:=X7.size;refine bx0 fun h9 P9 X9=>?_;have z9:=X9.size;have R9:=R7.ext X9 fun g hg=>(R7.bd hg).2;refine zkb (m:=[0]) R9 (by omega) rfl (by simp [lS];omega) fun s10 h11 R11 X11=>?_;exact tail (X7.trans ((X9.mono (by omega)).trans X11)) R11.slc (rpb R11)
 ·refine bx0 fun h21 P21 X21=>?_
  have z21:=X21.size;have p21:=P21.lt;refine⟨by simp only [maxLen];omega,zxc fun s22 h23 R23 X23=>?_⟩;have z23:=X23.size;have P23:=P21.ext X23 p21;refine⟨b8 [0],P23.slc (n:=1) rfl,?_⟩;refine zkb (m:=[0]) R23 (by omega) rfl (by simp [lS];omega) fun s24 h25 R25 X25=>?_;exact tail (X21.trans ((X23.mono (by omega)).trans (X25.mono (by omega)))) R25.slc (rpb R25)
def proofB:List Int:=[112,114,111,111,102]
theorem qay {key:List Int} {k:List Int->zaa->Prop} {h:zaa} (r:R0 h) (lk:key.length=32) (H:∀ h',Ext h.size h h'->k (zlf key proofB) h'):zf7 key k h:=by
 unfold zf7;refine bx0 fun h2 P2 X2=>bx0 fun h4 P4 X4=>?_;have p2:=P2.lt;have p4:=P4.lt;have z2:=X2.size;have z4:=X4.size;have K4:Blk h4 h.size (b8 key) 23:=by rw [show b8 key=arr 32 .u8 key from(arr_id lk).symm];exact P2.ext X4 p2
 obtain⟨bO,eO⟩:∃ b,b=h2.size:=⟨_,rfl⟩
 rw [← eO] at P4 ⊢;have X04:Ext h.size h h4:=X2.trans (X4.mono z2);refine⟨_,by decide,by decide,by decide,rfl,?_⟩;rw [show zcb ⟨some (⟨h.size,0,none⟩:Addr),32,32⟩ 1 (0:Int).toNat (32:Int).toNat 32=⟨some ⟨h.size,0,none⟩,32,32⟩ from rfl];refine⟨_,_,rfl,rfl,_,rfl,?_⟩;have P8:Blk (h4.push (.cells ([.int .u8 112,.int .u8 114,.int .u8 111,.int .u8 111,.int .u8 102]:List Value).toArray 5 (5,6))) h4.size (b8 proofB) 5:=Blk.pushM h4 (b8 proofB) 5 (Nat.le_refl _);have X8:=Ext.push h4 (.cells ([.int .u8 112,.int .u8 114,.int .u8 111,.int .u8 111,.int .u8 102]:List Value).toArray 5 (5,6)) (Nat.le_refl _);obtain⟨h8,e8⟩:∃ x,x=h4.push (.cells ([.int .u8 112,.int .u8 114,.int .u8 111,.int .u8 111,.int .u8 102]:List Value).toArray 5 (5,6)):=⟨_,rfl⟩
 rw [← e8] at P8 X8 ⊢;have z8:=X8.size;have lm:=ze5 key proofB;refine qc4 (msg:=proofB) (r.ext (X04.trans (X8.mono (by omega))) r.pos) ((K4.ext X8 (by omega)).slc (n:=32) (by rw [List.drop_zero,List.take_of_length_le (by rw [List.length_map,lk];exact Nat.le_refl _)])) lk.symm (by omega) (P8.slc (n:=5) rfl) rfl (by decide) fun h10 X10=>?_;have O10:=(P4.ext X8 (by omega)).ext X10 (by omega);refine zz2 (cs:=arr 32 .u8 (zlf key proofB)) O10 (by rw [zaj,zaj]) (by rw [zaj];omega) fun h11 O11 U11=>?_;have z10:=X10.size;exact⟨_,CellsAt.of_blk O11,H _ (X04.trans ((X8.mono (by omega)).trans ((X10.mono (by omega)).trans (U11.ext (by omega) (by omega)))))⟩
end Go.Q.Yo
end

/- A part of the proof of statements of this seat: lemmas, no statement of their own. -/
import Derived.Test.YthjafnfadiijgaaYiZau
set_option linter.unusedVariables false
set_option linter.unusedSimpArgs false
set_option maxRecDepth 100000
section
/- A member takes entries. -/
namespace Go.Q.Yi
open Rf
structure WFm (m:Msg):Prop where
 t:0<=m.term/\m.term < 18446744073709551616
 i:0<=m.index/\m.index < 18446744073709551616
 l:0<=m.logTerm/\m.logTerm < 18446744073709551616
 c:0<=m.commit/\m.commit < 18446744073709551616
 e:o9 m.aK
 z:m.aK.length<=1000
 s:isB m.aQ/\m.aQ.length<=1099511627776
def Ct (O:bz) (h:Heap) (v:aj) (x:qj):Prop:=∀ S:bz,(∀ g,S g->O g∨∃ cs E,Blk h g cs E/\E≠65/\E≠5)->Imm S h fun h=>uQ h v x
section
variable {O O':bz} {h h':Heap} {L:RLy} {r:RS}
theorem xx (r:RS) (m:Msg) {i:Nat} {x:Ent} (hx:m.aK[i]? = some x):r.lL m i (m.aK.drop i)=if W (m.index + i + 1)<=r.log.ix∨r.log.mat (W (m.index + i + 1)) x.1=true then r.lL m (i + 1) (m.aK.drop (i + 1))
  else ⟨2,(if i > 0/\W (W (m.index + i + 1) - 1) > r.log.ix then (m.aK.getD (i - 1) (0,[])).1 else (r.log.aH (W (W (m.index + i + 1) - 1))).1),0,W (W (m.index + i + 1) - 1),m.aK.drop i,[]⟩:=by
 have hi:=(List.getElem?_eq_some_iff.1 hx).1
 have e:m.aK.drop i=x :: m.aK.drop (i + 1):=by
  rw [List.drop_eq_getElem_cons hi]
  rw [List.getElem?_eq_getElem hi] at hx
  cases hx; rfl
 rw [e]
 rfl
theorem Ap {p i:Int}:IntKind.u64.wrap (IntKind.u64.wrap (p + i) + 1)=W (p + i + 1):=by
 unfold W IntKind.wrap
 simp [IntKind.signed,IntKind.bits]
theorem Cs {v:ah} {m:Msg} {k:KP aj} (R:aB O h L r) (MV:rH h v m) (wm:WFm m)
  (H:∀ v' h',Ct O h' v' (r.fresh m)->Ext h.size h h'->k v' h'):mq (some ⟨L.b,0,none⟩) v k h:=by
 unfold mq
 refine ⟨_,_,rfl,rfl,?_⟩
 have X1:=Ext.push h (.cells (ah.cs v).toArray 26) (Nat.le_refl _)
 have C1:=Blk.push h (ah.cs v) 26
 generalize h.push (.cells (ah.cs v).toArray 26)=h1 at *
 have z1:=X1.size
 refine ⟨_,_,rfl,rfl,?_⟩
 have X2:=Ext.push h1 (.cells (aj.cs ⟨0,0,0,0,⟨none,0,0⟩,⟨none,0,0⟩⟩).toArray 107) (Nat.le_refl _)
 have D2:=Blk.push h1 (aj.cs ⟨0,0,0,0,⟨none,0,0⟩,⟨none,0,0⟩⟩) 107
 have C2:=C1.ext X2 C1.lt
 have cl:=C1.lt
 generalize h1.push (.cells (aj.cs ⟨0,0,0,0,⟨none,0,0⟩,⟨none,0,0⟩⟩).toArray 107)=h2 at *
 have z2:=X2.size
 have X02:Ext h.size h h2:=X1.trans (X2.mono z1)
 have R2:=R.ext X02
 obtain ⟨b1,e1⟩:∃ y,y=h.size:=⟨_,rfl⟩
 obtain ⟨b3,e3⟩:∃ y,y=h1.size:=⟨_,rfl⟩
 rw [← e1] at C2 cl ⊢
 rw [← e3] at D2 ⊢
 have dl:=D2.lt
 refine ⟨_,rfl,_,R2.c 4,sK R2.p.l ⟨v.dF,by rw [C2.get]; rfl,?_⟩⟩
 have vl:=MV.e.l
 have mz:=wm.z
 have x0:=R.p.l.x0
 rw [vl]
 have ob:=R.ob
 -- what is written at the end
 have wr:∀ {h5:Heap} {x:aj},Ext h2.size h2 h5->Ct O h5 x (r.fresh m)->∃ h37:Heap,bZ h5 (⟨b3,0,none⟩:Addr) 6/\h37=aO h5 (⟨b3,0,none⟩:Addr) 0 (aj.cs x)/\(∃ v38:aj,aD h37 (⟨b3,0,none⟩:Addr) (aj.cs v38)/\k v38 h37):=fun {h5 x} X5 F=>by
  have P5:=D2.ext X5 dl
  refine ⟨_,bZ.dL P5 (by show 6<=6; omega),rfl,?_⟩
  have P6:=P5.jN (vs:=aj.cs x) rfl
  have z5:=X5.size
  have X6:Ext h.size h5 (aO h5 ⟨b3,0,none⟩ 0 (aj.cs x)):=Ext.sets _ _ _ (by show h.size<=b3; omega)
  have old:∀ g,g≠b3->(aO h5 ⟨b3,0,none⟩ 0 (aj.cs x))[g]? = h5[g]?:=fun g hg=>kD _ _ hg
  generalize aO h5 ⟨b3,0,none⟩ 0 (aj.cs x)=h6 at *
  refine ⟨x,aD.dL P6,H x h6 (fun S hS=>?_) (X02.trans ((X5.mono (by omega)).trans X6))⟩
  refine (F (fun g=>S g∨g=b3) fun g hg=>?_).step ⟨X6.size,fun g hg hn=>old g fun e=>hn (.inr e)⟩ fun g hg=>.inl (.inl hg)
  by_cases e:g=b3
  ·subst e; exact .inr ⟨_,_,P5,by decide⟩
  ·exact (hg.resolve_right e |> hS g).imp id fun ⟨cs,E,K,hE⟩=>⟨cs,E,K.old (old g e).symm,hE⟩
 unfold pW
 refine ⟨fun i h'=>∃ n:Nat,i=n/\n<=m.aK.length/\r.fresh m=r.lL m n (m.aK.drop n)/\Ext h2.size h2 h',fun i _=>(m.aK.length - i).toNat,⟨0,rfl,Nat.zero_le _,rfl,Ext.refl _ _⟩,?_⟩
 rintro i h3 ⟨n,rfl,n1,en,X3⟩
 have z3:=X3.size
 have R3:=R2.ext X3
 have C3:=C2.ext X3 (by omega)
 have V3:=(MV.ext X02).ext X3
 unfold oU
 by_cases hn:n < m.aK.length
 ·rw [if_pos (by simp; omega)]
  obtain ⟨x,hx⟩:∃ x,m.aK[n]? = some x:=⟨_,List.getElem?_eq_getElem hn⟩
  have okx:=wm.e x (List.mem_of_getElem? hx)
  obtain ⟨a,u,ha,c1,c2⟩:=V3.e.get hx
  refine ⟨a,ha,by omega,by omega,u,by rw [Int.toNat_natCast]; exact c1,_,_,rfl,rfl,?_⟩
  have P0:=Blk.push h3 (ae.cs ⟨0,⟨none,0,0⟩⟩) 65
  have P1:=P0.jN (vs:=ae.cs u) (by simp [ae.cs])
  have X4:Ext h3.size h3 (aO (h3.push (.cells (ae.cs ⟨0,⟨none,0,0⟩⟩).toArray 65)) ⟨h3.size,0,none⟩ 0 (ae.cs u)):=(Ext.push h3 _ (Nat.le_refl _)).trans (Ext.sets _ _ _ (Nat.le_refl _))
  refine ⟨_,bZ.dL P0 (by simp [ae.cs]),rfl,?_⟩
  generalize aO (h3.push (.cells (ae.cs ⟨0,⟨none,0,0⟩⟩).toArray 65)) ⟨h3.size,0,none⟩ 0 (ae.cs u)=h4 at *
  have z4:=X4.size
  have X24:Ext h2.size h2 h4:=X3.trans (X4.mono z3)
  have R4:=R3.ext X4
  have C4:=C3.ext X4 (by omega)
  have V4:=V3.ext X4
  have ci:af h4 ((⟨b1,0,none⟩:Addr).add 2)=some (.int .u64 m.index):=by rw [C4.get,← MV.k.2.2.1]; rfl
  have ce:af h4 ((⟨b1,0,none⟩:Addr).add 6)=some (Slc.v v.dF):=by rw [C4.get]; rfl
  refine ⟨_,ci,_,rfl,?_⟩
  rw [aL (x:=(n:Int)) (by omega) (by omega),Ap]
  have step:=xx r m hx
  rw [← en] at step
  obtain ⟨w0,w1⟩:=uu (m.index + n + 1)
  obtain ⟨w2,w3⟩:=uu (W (m.index + n + 1) - 1)
  have skip:(W (m.index + n + 1)<=r.log.ix∨r.log.mat (W (m.index + n + 1)) x.1=true)->dW (some ⟨L.b,0,none⟩) ⟨b1,0,none⟩ ⟨b3,0,none⟩ r.log.ix n (W (m.index + n + 1)) v.dF (m.aK.length:Int) n true k (fun i h'=>(∃ n:Nat,i=n/\n<=m.aK.length/\r.fresh m=r.lL m n (m.aK.drop n)/\Ext h2.size h2 h')/\(m.aK.length - i).toNat < ((m.aK.length:Int) - n).toNat) h4:=fun hs=>by
   unfold dW
   rw [if_pos rfl,ay (by omega) (by omega)]
   rw [if_pos hs] at step
   exact ⟨⟨n + 1,by omega,by omega,step,X24⟩,by omega⟩
  have take:¬ (W (m.index + n + 1)<=r.log.ix∨r.log.mat (W (m.index + n + 1)) x.1=true)->dW (some ⟨L.b,0,none⟩) ⟨b1,0,none⟩ ⟨b3,0,none⟩ r.log.ix n (W (m.index + n + 1)) v.dF (m.aK.length:Int) n false k (fun i h'=>(∃ n:Nat,i=n/\n<=m.aK.length/\r.fresh m=r.lL m n (m.aK.drop n)/\Ext h2.size h2 h')/\(m.aK.length - i).toNat < ((m.aK.length:Int) - n).toNat) h4:=fun hs=>by
   rw [if_neg hs] at step
   unfold dW
   rw [if_neg (by simp)]
   have eW:IntKind.u64.wrap (W (m.index + n + 1) - 1)=W (W (m.index + n + 1) - 1):=rfl
   rw [eW]
   have j3:∀ T:Int,r.fresh m=⟨2,T,0,W (W (m.index + n + 1) - 1),m.aK.drop n,[]⟩->iM ⟨b1,0,none⟩ ⟨b3,0,none⟩ n (W (m.index + n + 1)) T k (fun i h'=>(∃ n:Nat,i=n/\n<=m.aK.length/\r.fresh m=r.lL m n (m.aK.drop n)/\Ext h2.size h2 h')/\(m.aK.length - i).toNat < ((m.aK.length:Int) - n).toNat) h4:=fun T eT=>by
    unfold iM
    have cc:=V4.e.c
    refine ⟨_,ce,_,by omega,by omega,by omega,Int.le_refl _,rfl,?_⟩
    have A:=V4.e.sub (l:=(n:Int).toNat) (u:=(v.dF.len:Int).toNat) (m:=(v.dF.cap:Int).toNat) (by omega) (by omega) (by omega) (by omega)
    rw [Int.toNat_natCast,List.take_of_length_le (by simp; omega)] at A
    rw [Int.toNat_natCast]
    generalize dC v.dF 2 n (v.dF.len:Int).toNat (v.dF.cap:Int).toNat=s6 at A ⊢
    refine xw A (wm.e.drop n) (by simp; omega) (Int.le_refl _) (by simp; omega) ⟨Int.le_refl _,by decide⟩ fun b5 s5 h5 Lg5 hb5 hs5 X5=>?_
    have L5:=Lg5 (fun _=>False) (fun _ h=>h.elim)
    have z5:=X5.size
    refine uL L5 fun s7 h7 vs F7 X7=>?_
    have z7:=X7.size
    have X27:Ext h2.size h2 h7:=X24.trans ((X5.mono (by omega)).trans (X7.mono (by omega)))
    refine wr X27 fun S hS h' p=>?_
    rw [eT]
    have hS':∀ {B E w:Nat} {s:Slc} {xs:List Value},Row B h7 E w s xs->(E=65∨E=5)->h5.size<=B->∀ g,s.blk=some g->¬ S g:=fun Rw hE hB g hg h8=>by
     rcases hS g h8 with h6 | ⟨cs,E',K,hE'⟩
     ·have:=(Rw.bd hg).1; have:=ob g h6; omega
     ·rcases hE with rfl | rfl
      ·exact Rw.aW K hE'.1.symm hg
      ·exact Rw.aW K hE'.2.symm hg
    have F8:lT h5.size h' s7 (m.aK.drop n) vs:=⟨p.row F7.r (hS' F7.r (.inl rfl) (Nat.le_refl _)),F7.l,fun i v e hv he=>⟨(F7.e i v e hv he).1,p.row (F7.e i v e hv he).2 (hS' (F7.e i v e hv he).2 (.inr rfl) (Nat.le_refl _))⟩⟩
    exact ⟨⟨rfl,rfl,rfl,rfl⟩,F8.aK,nk h',rfl⟩
   refine ⟨_,rfl,_,R4.c 4,p9 R4.p.l w2 w3 ?_⟩
   by_cases hc:n > 0/\W (W (m.index + n + 1) - 1) > r.log.ix
   ·rw [if_pos (by simp; omega)]
    rw [if_pos hc] at step
    obtain ⟨y,hy⟩:∃ y,m.aK[n - 1]? = some y:=⟨_,List.getElem?_eq_getElem (by omega)⟩
    obtain ⟨a2,u2,ha2,d1,d2⟩:=V4.e.get hy
    have:=d1 0 (.int .u64 u2.bP) rfl
    rw [dI,Nat.add_zero,d2.t] at this
    rw [ay (by omega) (by omega),show ((n:Int) - 1).toNat=n - 1 from by omega]
    refine ⟨_,ce,a2,ha2,by omega,by omega,_,this,j3 _ ?_⟩
    rw [step,List.getD_eq_getElem?_getD,hy]; rfl
   ·rw [if_neg (by simp; omega)]
    rw [if_neg hc] at step
    exact j3 _ step
  by_cases hle:W (m.index + n + 1)<=r.log.ix
  ·rw [if_pos (by simpa using hle)]
   exact skip (.inl hle)
  ·rw [if_neg (by simpa using hle)]
   refine ⟨_,rfl,_,R4.c 4,x.1,by rw [P1.cell,← c2.t]; rfl,vN R4.p.l w0 w1 ?_⟩
   cases hm:r.log.mat (W (m.index + n + 1)) x.1 with
   | true=>exact skip (.inr hm)
   | false=>exact take fun h=>h.elim hle fun h2=>by rw [hm] at h2; cases h2
 ·rw [if_neg (by simp; omega)]
  have:m.aK.drop n=[]:=List.drop_of_length_le (by omega)
  rw [this] at en
  exact wr X3 (by rw [en]; exact fun S _ h' _=>⟨⟨rfl,rfl,rfl,rfl⟩,cZ.nil h',nk h',rfl⟩)
end
end Go.Q.Yi
end
section
/- A member takes what comes. -/
namespace Go.Q.Yi
open Rf
section
variable {O O':bz} {h h':Heap} {L:RLy} {r:RS}
theorem CR {r5:RS} {h5:Heap} {L5:RLy} (q:Res O h L r5 h5 L5):WrH h5 ((⟨L.b,0,none⟩:Addr).add 9)/\Res O h L { r5 with ticks:=0 } (setH h5 ((⟨L.b,0,none⟩:Addr).add 9) (.int .i64 0)) L5/\Stp (own L5) h5 (setH h5 ((⟨L.b,0,none⟩:Addr).add 9) (.int .i64 0)):=by
 have M5:=q.R
 have w5:=M5.wf
 rw [← q.b]
 obtain ⟨w,f⟩:=M5.k.put (i:=9) (v:=.int .i64 0) (by show 9 < 14; omega)
 obtain ⟨K6,U6⟩:=f _ rfl
 have S6:Stp (own L5) h5 (setH h5 ((⟨L5.b,0,none⟩:Addr).add 9) (.int .i64 0)):=.dD U6 (.inl (.inl rfl))
 exact ⟨w,q.trans (Res.of (M5.yM K6 U6 ⟨w5.n,w5.me,w5.tm,w5.vt,w5.cm,⟨Int.le_refl _,by show (0:Int)<=1000000000; omega⟩,w5.ld,w5.nx,w5.hs,w5.bl,w5.sn,w5.kp⟩ ⟨rfl,rfl,rfl,rfl,rfl,rfl,rfl⟩) S6),S6⟩
theorem wV {r5:RS} {h5:Heap} {L5:RLy} {c:Int} (q:Res O h L r5 h5 L5) (hc:0<=c/\c < 18446744073709551616):WrH h5 ((⟨L.b,0,none⟩:Addr).add 6)/\Res O h L { r5 with commit:=c } (setH h5 ((⟨L.b,0,none⟩:Addr).add 6) (.int .u64 c)) L5/\Stp (own L5) h5 (setH h5 ((⟨L.b,0,none⟩:Addr).add 6) (.int .u64 c)):=by
 have M5:=q.R
 have w5:=M5.wf
 rw [← q.b]
 obtain ⟨w,f⟩:=M5.k.put (i:=6) (v:=.int .u64 c) (by show 6 < 14; omega)
 obtain ⟨K6,U6⟩:=f _ rfl
 have S6:Stp (own L5) h5 (setH h5 ((⟨L5.b,0,none⟩:Addr).add 6) (.int .u64 c)):=.dD U6 (.inl (.inl rfl))
 exact ⟨w,q.trans (Res.of (M5.yM K6 U6 ⟨w5.n,w5.me,w5.tm,w5.vt,hc,w5.tk,w5.ld,w5.nx,w5.hs,w5.bl,w5.sn,w5.kp⟩ ⟨rfl,rfl,rfl,rfl,rfl,rfl,rfl⟩) S6),S6⟩
theorem Res.c {r5:RS} {h5:Heap} {L5:RLy} (q:Res O h L r5 h5 L5) (i:Nat):af h5 ((⟨L.b,0,none⟩:Addr).add i)=(rcs L5 r5)[i]?:=by rw [← q.b]; exact q.R.c i
theorem qi {t:Int}:(r.aR t).keeps.length<=r.keeps.length + 1:=by
 unfold RS.aR RS.fI
 split <;> simp
theorem Bc {t:Int}:(r.aR t).n=r.n/\(r.aR t).me=r.me/\(r.aR t).log=r.log/\(r.aR t).commit=r.commit/\(r.aR t).aQ=r.aQ:=by
 unfold RS.aR RS.fI
 split <;> exact ⟨rfl,rfl,rfl,rfl,rfl⟩
theorem rG {from':Int} {v:ah} {m:Msg} {k:KP Slc} (R:aB O h L r) (hk:r.keeps.length < 999990) (MV:Imm O h fun h=>rH h v m) (wm:WFm m)
  (H:∀ s h' L',Res O h L (r.kP from' m).1 h' L'->aJ (G O L') h' s (r.kP from' m).2->(∀ g,s.blk=some g->h.size<=g)->k s h'):kG (some ⟨L.b,0,none⟩) from' v k h:=by
 have V:=MV.now
 unfold kG
 refine ⟨_,_,rfl,rfl,?_⟩
 have X:=Ext.push h (.cells (ah.cs v).toArray 26) (Nat.le_refl _)
 have C:=Blk.push h (ah.cs v) 26
 have R2:=R.ext X
 have I2:=MV.ext X
 generalize h.push (.cells (ah.cs v).toArray 26)=h2 at *
 obtain ⟨b1,eb⟩:∃ y,y=h.size:=⟨_,rfl⟩
 rw [← eb] at C ⊢
 have z2:=X.size
 have q2:Res O h L r h2 L:=Res.of R2 (.bi X)
 unfold RS.kP at H
 refine ⟨m.term,by rw [C.get,← V.k.2.1]; rfl,tZ R2 (by omega) wm.t fun h5 L5 q5=>?_⟩
 have C5:=q5.S.blk C (R2.lZ C (by decide))
 have q25:=q2.trans ⟨q5.R.sub (fun g hg=>hg.elim (fun h=>h.elim .inl (fun h=>.inl (R.ow g h))) .inr) fun g hg=>.inr hg,q5.S,q5.F,q5.b⟩
 have I5:Imm (G O L5) h5 fun h=>rH h v m:=q5.imm R2 I2
 obtain ⟨w,q7,S7⟩:=CR q25
 refine ⟨_,rfl,_,w,rfl,?_⟩
 have C7:=S7.blk C5 (q25.R.lZ C5 (by decide))
 have I7:=I5.stp (S7.mono fun g hg=>.inl (.inr hg))
 generalize setH h5 ((⟨L.b,0,none⟩:Addr).add 9) (.int .i64 0)=h7 at *
 change Res O h L (r.lu from' m) h7 L5 at q7
 have k1:(r.lu from' m).keeps.length < 999995:=by show (r.aR m.term).keeps.length < _; have:=qi (r:=r) (t:=m.term); omega
 generalize r.lu from' m=r1 at *
 refine ⟨m.index,by rw [C7.get,← V.k.2.2.1]; rfl,_,q7.c 6,?_⟩
 have j1:∀ {h8:Heap} {L8:RLy} {r8:RS},Res O h L r8 h8 L8->r1.oC m=r8->fH (some ⟨L.b,0,none⟩) from' k h8:=fun {h8 L8 r8} q e=>by
  rw [e] at H
  unfold fH
  refine ⟨_,rfl,_,q.c 6,?_⟩
  rw [← q.b]
  have z8:=q.S.size
  exact nJ q.R fun s h' M X' sb=>H s h' L8 (q.ext X') M fun g hg=>by have:=sb g hg; omega
 show if (decide (m.index > r1.commit))=true then _ else _
 by_cases hc:m.index > r1.commit
 ·rw [if_pos (decide_eq_true hc)]
  refine ⟨m.index,by rw [C7.get,← V.k.2.2.1]; rfl,m.logTerm,by rw [C7.get,← V.k.2.2.2.1]; rfl,v.lW,by rw [C7.get]; rfl,?_⟩
  have R7:=q7.R
  rw [← q7.b]
  refine AL R7 (by omega) (I7.imp fun _ V=>V.s) V.sl wm.s.1 wm.s.2 wm.i wm.l fun h8 L8 q8=>?_
  have C8:=q8.S.blk C7 (R7.lZ C7 (by decide))
  have q78:=q7.trans q8
  obtain ⟨w,q9,_⟩:=wV q78 wm.i
  refine ⟨m.index,by rw [C8.get,← V.k.2.2.1]; rfl,_,by rw [q7.b]; exact w,rfl,?_⟩
  rw [q7.b]
  exact j1 q9 (by unfold RS.oC; rw [if_pos hc])
 ·rw [if_neg (by rw [decide_eq_false hc]; simp)]
  exact j1 q7 (by unfold RS.oC; rw [if_neg hc])
theorem xM {from' last:Int} {b1:Nat} {v:ah} {m:Msg} {r5:RS} {h5:Heap} {L5:RLy} {k:KP Slc} (q:Res O h L r5 h5 L5) (C:Blk h5 b1 (ah.cs v) 26) (V:v.qo=m.commit) (mc:0<=m.commit/\m.commit < 18446744073709551616) (lb:0<=last/\last < 18446744073709551616)
  (H:∀ s h' L',Res O h L { r5 with commit:=max r5.commit (min m.commit last) } h' L'->aJ (G O L') h' s (r5.answer from' 4 true last)->(∀ g,s.blk=some g->h.size<=g)->k s h'):fq (some ⟨L.b,0,none⟩) from' ⟨b1,0,none⟩ last k h5:=by
 have cb:=q.R.wf.cm
 unfold fq
 refine ⟨_,rfl,_,q.c 6,m.commit,by rw [C.get,← V]; rfl,?_⟩
 have e:(if (if last < m.commit then last else m.commit) > r5.commit then (if last < m.commit then last else m.commit) else r5.commit)=max r5.commit (min m.commit last):=by
  split <;> split <;> omega
 show ∃ h29:Heap,_/\h29=setH h5 _ (.int .u64 (if (if last < m.commit then last else m.commit) > r5.commit then (if last < m.commit then last else m.commit) else r5.commit))/\_
 rw [e]
 obtain ⟨w,q6,_⟩:=wV (c:=max r5.commit (min m.commit last)) q (by omega)
 refine ⟨_,w,rfl,?_⟩
 generalize setH h5 ((⟨L.b,0,none⟩:Addr).add 6) (.int .u64 (max r5.commit (min m.commit last)))=h6 at *
 have z6:=q6.S.size
 rw [← q6.b]
 exact nJ (r:={ r5 with commit:=max r5.commit (min m.commit last) }) q6.R fun s h' M X' sb=>H s h' L5 (q6.ext X') M fun g hg=>by have:=sb g hg; omega
theorem rZ {from':Int} {v:ah} {m:Msg} {k:KP Slc} (R:aB O h L r) (hk:r.keeps.length < 999990) (MV:Imm O h fun h=>rH h v m) (wm:WFm m)
  (H:∀ s h' L',Res O h L (r.appends from' m).1 h' L'->aJ (G O L') h' s (r.appends from' m).2->(∀ g,s.blk=some g->h.size<=g)->k s h'):lQ (some ⟨L.b,0,none⟩) from' v k h:=by
 have V:=MV.now
 unfold lQ
 refine ⟨_,_,rfl,rfl,?_⟩
 have X:=Ext.push h (.cells (ah.cs v).toArray 26) (Nat.le_refl _)
 have C:=Blk.push h (ah.cs v) 26
 have R2:=R.ext X
 have I2:=MV.ext X
 generalize h.push (.cells (ah.cs v).toArray 26)=h2 at *
 obtain ⟨b1,eb⟩:∃ y,y=h.size:=⟨_,rfl⟩
 rw [← eb] at C ⊢
 have z2:=X.size
 have q2:Res O h L r h2 L:=Res.of R2 (.bi X)
 unfold RS.appends RS.ou at H
 refine ⟨m.term,by rw [C.get,← V.k.2.1]; rfl,tZ R2 (by omega) wm.t fun h5 L5 q5=>?_⟩
 have C5:=q5.S.blk C (R2.lZ C (by decide))
 have q25:=q2.trans ⟨q5.R.sub (fun g hg=>hg.elim (fun h=>h.elim .inl (fun h=>.inl (R.ow g h))) .inr) fun g hg=>.inr hg,q5.S,q5.F,q5.b⟩
 have I5:Imm (G O L5) h5 fun h=>rH h v m:=q5.imm R2 I2
 obtain ⟨w,q7,S7⟩:=CR q25
 refine ⟨_,rfl,_,w,rfl,?_⟩
 have C7:=S7.blk C5 (q25.R.lZ C5 (by decide))
 have I7:=I5.stp (S7.mono fun g hg=>.inl (.inr hg))
 generalize setH h5 ((⟨L.b,0,none⟩:Addr).add 9) (.int .i64 0)=h7 at *
 change Res O h L (r.lu from' m) h7 L5 at q7
 have k1:(r.lu from' m).keeps.length < 999995:=by show (r.aR m.term).keeps.length < _; have:=qi (r:=r) (t:=m.term); omega
 generalize r.lu from' m=r1 at *
 have R7:=q7.R
 refine ⟨v,aD.dL C7,?_⟩
 rw [← q7.b]
 refine Cs R7 I7.now wm fun v9 h10 F10 X10=>?_
 have q10:=q7.ext X10
 have R10:=q10.R
 have z10:=X10.size
 have C10:=C7.ext X10 C7.lt
 refine ⟨_,_,rfl,rfl,?_⟩
 have D11:=Blk.push h10 (aj.cs ⟨0,0,0,0,⟨none,0,0⟩,⟨none,0,0⟩⟩) 107
 have D12:=D11.jN (vs:=aj.cs v9) rfl
 have X12:Ext h10.size h10 (aO (h10.push (.cells (aj.cs ⟨0,0,0,0,⟨none,0,0⟩,⟨none,0,0⟩⟩).toArray 107)) ⟨h10.size,0,none⟩ 0 (aj.cs v9)):=(Ext.push h10 _ (Nat.le_refl _)).trans (Ext.sets _ _ _ (Nat.le_refl _))
 refine ⟨_,bZ.dL D11 (by show 6<=6; omega),rfl,?_⟩
 generalize aO (h10.push (.cells (aj.cs ⟨0,0,0,0,⟨none,0,0⟩,⟨none,0,0⟩⟩).toArray 107)) ⟨h10.size,0,none⟩ 0 (aj.cs v9)=h12 at *
 obtain ⟨b11,e11⟩:∃ y,y=h10.size:=⟨_,rfl⟩
 rw [← e11] at D12 ⊢
 have z12:=X12.size
 have q12:=q10.ext X12
 have R12:=q12.R
 have C12:=C10.ext X12 C10.lt
 have I12:=(I7.ext X10).ext X12
 have F12:Imm (G O L5) h12 fun h=>uQ h v9 (r1.fresh m):=(F10 (G O L5) fun g hg=>.inl hg).ext X12
 have n11:¬ own L5 b11:=fun h=>by have:=R10.ob' h; omega
 refine ⟨_,R12.c 4,m.index,by rw [C12.get,← V.k.2.2.1]; rfl,m.logTerm,by rw [C12.get,← V.k.2.2.2.1]; rfl,v.dF,by rw [C12.get]; rfl,?_⟩
 refine wz R12.p.l R12.ob (I12.imp fun _ V=>V.e) wm.e wm.i.1 wm.i.2 wm.z fun h19 s19 A19 S19 f19=>?_
 have q19:=AU R12 A19 S19 f19
 have q119:=q12.trans q19
 have C19:=q19.S.blk C12 (R12.lZ C12 (by decide))
 have D19:=q19.S.blk D12 n11
 have F19:=q19.imm R12 F12
 have ab:=ui (l:=r1.log) (p:=m.index) (t:=m.logTerm) (more:=m.aK)
 obtain ⟨L6,eL6⟩:∃ y,y=({ L5 with es:=s19 }:RLy):=⟨_,rfl⟩
 rw [← eL6] at q19 q119 F19
 have h2:r1.wh m = { r1 with log:=(r1.log.append m.index m.logTerm m.aK).1,keeps:=if (r1.fresh m).aK.length > 0 then r1.keeps ++ [r1.fresh m] else r1.keeps,commit:=max r1.commit (min m.commit (r1.log.append m.index m.logTerm m.aK).2.1) }:=rfl
 have hE:=uW (l:=r1.log) (p:=m.index) (t:=m.logTerm) (more:=m.aK)
 generalize r1.log.append m.index m.logTerm m.aK=A at *
 by_cases he:A.2.2=0
 ·rw [if_neg (by simpa using he)]
  rw [if_neg (show ¬ A.2.2≠0 by simpa using he),h2] at H
  have n6:¬ own L6 b11:=fun h=>(q19.F b11 h).elim n11 fun h=>by have:=D12.lt; omega
  have fl:v9.dF.len=(r1.fresh m).aK.length:=F19.now.e.l
  refine ⟨v9.dF,by rw [D19.get]; rfl,?_⟩
  have ends:∀ {h40:Heap} {L7:RLy} {r7:RS},Res O h L r7 h40 L7->Blk h40 b1 (ah.cs v) 26->r7 = { r1 with log:=A.1,keeps:=if (r1.fresh m).aK.length > 0 then r1.keeps ++ [r1.fresh m] else r1.keeps }->fq (some ⟨L5.b,0,none⟩) from' ⟨b1,0,none⟩ A.2.1 k h40:=fun {h40 L7 r7} q Cb e=>by
   rw [q7.b]
   refine xM (m:=m) q Cb V.k.2.2.2.2.1 wm.c ab fun s h' L' q' M sb=>H s h' L' ?_ ?_ sb
   ·subst e; exact q'
   ·subst e; exact M
  by_cases hf:(r1.fresh m).aK.length > 0
  ·rw [if_pos (by simp; omega)]
   have e5:L5.b=L6.b:=by rw [eL6]
   have R19:=q119.R
   rw [e5]
   refine ⟨_,R19.c 13,v9,aD.dL D19,_,_,rfl,rfl,?_⟩
   have X36:=Ext.push h19 (.cells (aj.cs v9).toArray 107) (Nat.le_refl _)
   have q36:=q119.ext X36
   have C36:=C19.ext X36 C19.lt
   have F36:=F19.ext X36
   generalize h19.push (.cells (aj.cs v9).toArray 107)=h36 at *
   have R36:=q36.R
   refine ⟨R36.c 13,rM (x:=r1.fresh m) R36 (by show r1.keeps.length < _; omega) (F36.mono fun g hg=>.inl (hg.elim (fun h=>.inl (.inl h)) .inr)) fun h40 L7 q40=>?_⟩
   have C40:=q40.S.blk C36 (R36.lZ C36 (by decide))
   rw [← e5]
   exact ends (q36.trans q40) C40 (by rw [if_pos hf])
  ·rw [if_neg (by simp; omega)]
   exact ends q119 C19 (by rw [if_neg hf])
 ·rw [if_pos (by simpa using he)]
  rw [if_pos he] at H
  have e5:L5.b=L6.b:=by rw [eL6]
  have e1:=hE he
  have q6:Res O h L r1 h19 L6:=by have:=q119; rw [e1] at this; exact this
  have R6:=q6.R
  have c19:af h19 ((⟨L5.b,0,none⟩:Addr).add 4)=some (.pointer (some ⟨L6.lb,0,none⟩)):=by rw [e5,R6.c 4]; rfl
  refine ⟨_,c19,qB R6.p.l ⟨m.index,by rw [C19.get,← V.k.2.2.1]; rfl,?_⟩⟩
  have ib:=wm.i
  have e:(if IntKind.u64.wrap ((if 1 > m.index then 1 else m.index) - 1) < r1.log.last then IntKind.u64.wrap ((if 1 > m.index then 1 else m.index) - 1) else r1.log.last)=min r1.log.last (max m.index 1 - 1):=by
   have:(if 1 > m.index then 1 else m.index)=max m.index 1:=by split <;> omega
   rw [this,aL (by omega) (by omega)]
   split <;> omega
  rw [e,e5]
  have z6:=q6.S.size
  exact nJ R6 fun s h' M X' sb=>H s h' L6 (q6.ext X') M fun g hg=>by have:=sb g hg; omega
end
end Go.Q.Yi
end
section
/- A member takes whatever comes. -/
namespace Go.Q.Yi
open Rf
section
variable {O O':bz} {h h':Heap} {L:RLy} {r:RS}
theorem Res.step {r1 r2:RS} {h1 h2:Heap} {L1:RLy} (q:Res O h L r1 h1 L1) (M:aB (G O L1) h2 L1 r2) (S:Stp (own L1) h1 h2):Res O h L r2 h2 L1:=q.trans (Res.of M S)
theorem yO (x:RS):x.settle.next=x.next:=by unfold RS.settle; split <;> rfl
theorem rq {from':Int} {v:ah} {m:Msg} {k:KP Slc} (R:aB O h L r) (V:v.mO=m.kind/\v.bP=m.term/\v.kY=m.index/\v.qm=m.logTerm/\v.qo=m.commit/\v.yw=m.yes) (ib:0<=m.index/\m.index < 18446744073709551616) (f0:0<=from') (f1:from' < r.n)
  (H:∀ s h' L',Res O h L (r.appended from' m).1 h' L'->aJ (G O L') h' s (r.appended from' m).2->(∀ g,s.blk=some g->h.size<=g)->k s h'):kK (some ⟨L.b,0,none⟩) from' v k h:=by
 have wf:=R.wf
 have nb:=wf.n
 unfold kK
 refine ⟨_,_,rfl,rfl,?_⟩
 have X:=Ext.push h (.cells (ah.cs v).toArray 26) (Nat.le_refl _)
 have C:=Blk.push h (ah.cs v) 26
 have R2:=R.ext X
 generalize h.push (.cells (ah.cs v).toArray 26)=h2 at *
 obtain ⟨b1,eb⟩:∃ y,y=h.size:=⟨_,rfl⟩
 rw [← eb] at C ⊢
 have z2:=X.size
 have q2:Res O h L r h2 L:=Res.of R2 (.bi X)
 have M2:=q2.R
 have ci:∀ {h':Heap},Blk h' b1 (ah.cs v) 26->af h' ((⟨b1,0,none⟩:Addr).add 2)=some (.int .u64 m.index):=fun C=>by rw [C.get,← V.2.2.1]; rfl
 unfold RS.appended at H
 have none':(r.appended from' m)=(r,[])->k ⟨none,0,0⟩ h2:=fun e=>H _ h2 L (by unfold RS.appended at e; rw [e]; exact q2) (by unfold RS.appended at e; rw [e]; exact aJ.nil _ _) fun g hg=>by simp [Slc.blk] at hg
 refine ⟨_,rfl,_,R2.c 7,?_⟩
 by_cases hr:r.role=2
 ·rw [if_neg (by simpa using hr)]
  have ld:=wf.ld hr
  rw [if_neg (by simpa using hr)] at H
  have W1:∀ x,IntKind.u64.wrap x=W x:=fun _=>rfl
  refine ⟨m.yes,by rw [C.get,← V.2.2.2.2.2]; rfl,?_⟩
  -- a letter of its own
  have mail:∀ {r5:RS} {h5:Heap},Res O h L r5 h5 L->from' < r5.next.length->((∀ s h' L',Res O h L r5 h' L'->aJ (G O L') h' s [(from',r5.due from')]->(∀ g,s.blk=some g->h.size<=g)->k s h'))->jQ (some ⟨L.b,0,none⟩) from' (fun (r13:ah) h14=>∃ (b15:Nat) (h16:Heap),b15=h14.size/\h16=h14.push (.cells ((aF.cs (⟨from',r13⟩:aF))).toArray 45)/\(k (⟨some ⟨b15,0,none⟩,1,1⟩:Slc) h16)) h5:=fun {r5 h5} q hl K=>by
   have R5:=q.R
   refine CE R5 f0 hl fun w h6 D X6=>⟨_,_,rfl,rfl,?_⟩
   have z5:=q.S.size
   have z6:=X6.size
   exact K _ _ L ((q.ext X6).ext (Ext.push h6 _ (Nat.le_refl _))) (yo D (fun g hg=>by have:=R5.ob g hg; omega)) fun g hg=>by simp [Slc.blk] at hg; omega
  cases hy:m.yes with
  | false =>
   rw [if_pos (by simp)]
   rw [hy,if_pos rfl] at H
   unfold RS.back at H
   have nbd:0<=W (r.next.getD from'.toNat 0 - 1)/\W (r.next.getD from'.toNat 0 - 1) < 18446744073709551616:=uu _
   have ibd:=uu (m.index + 1)
   obtain ⟨a,ha,i0,i1,w6,M6,S6⟩:=xh (i:=from') (v:=max 1 (min (W (r.next.getD from'.toNat 0 - 1)) (W (m.index + 1)))) M2 f0 (by omega) (by omega)
   obtain ⟨a2,ha2,_,_,c2⟩:=qH M2.p.nx f0 (by omega)
   rw [ha] at ha2; cases ha2
   refine ⟨_,R2.c 11,_,R2.c 11,a,ha,i0,i1,_,c2,_,ci C,a,ha,i0,i1,?_⟩
   have e:(if (if IntKind.u64.wrap (m.index + 1) < IntKind.u64.wrap (r.next.getD from'.toNat 0 - 1) then IntKind.u64.wrap (m.index + 1) else IntKind.u64.wrap (r.next.getD from'.toNat 0 - 1)) > 1 then (if IntKind.u64.wrap (m.index + 1) < IntKind.u64.wrap (r.next.getD from'.toNat 0 - 1) then IntKind.u64.wrap (m.index + 1) else IntKind.u64.wrap (r.next.getD from'.toNat 0 - 1)) else 1)=max 1 (min (W (r.next.getD from'.toNat 0 - 1)) (W (m.index + 1))):=by
    rw [W1,W1]; split <;> split <;> omega
   rw [e]
   refine ⟨_,w6,rfl,mail (q2.step M6 S6) (by simp; omega) H⟩
  | true =>
   rw [if_neg (by simp)]
   rw [hy,if_neg (by simp)] at H
   refine ⟨_,R2.c 4,qB R2.p.l ⟨_,ci C,?_⟩⟩
   by_cases hm:m.index > r.log.last
   ·rw [if_pos (by simpa using hm)]
    exact none' (by unfold RS.appended; rw [if_neg (by simpa using hr),hy,if_neg (by simp),if_pos hm])
   ·rw [if_neg (by simpa using hm)]
    rw [if_neg hm] at H
    unfold RS.nZ at H
    have hb:=fun x (hx:x∈r.has)=>wf.hs x hx
    have nb':=fun x (hx:x∈r.next)=>wf.nx x hx
    have gd:∀ {l:List Int},from' < l.length->(∀ x∈l,0<=x/\x < 18446744073709551616)->0<=l.getD from'.toNat 0/\l.getD from'.toNat 0 < 18446744073709551616:=fun {l} hl hx=>by
     obtain ⟨y,hy⟩:∃ y,l[from'.toNat]? = some y:=⟨_,List.getElem?_eq_getElem (by omega)⟩
     rw [List.getD_eq_getElem?_getD,hy]; exact hx y (List.mem_of_getElem? hy)
    have hg:=gd (l:=r.has) (by omega) hb
    have ng:=gd (l:=r.next) (by omega) nb'
    have ibd:=uu (m.index + 1)
    obtain ⟨a,ha,i0,i1,w6,M6,S6⟩:=vo (i:=from') (v:=max (r.has.getD from'.toNat 0) m.index) M2 f0 (by omega) (by omega)
    obtain ⟨a2,ha2,_,_,c2⟩:=qH M2.p.hs f0 (by omega)
    rw [ha] at ha2; cases ha2
    refine ⟨_,R2.c 12,_,R2.c 12,a,ha,i0,i1,_,c2,_,ci C,a,ha,i0,i1,?_⟩
    have e:(if m.index > r.has.getD from'.toNat 0 then m.index else r.has.getD from'.toNat 0)=max (r.has.getD from'.toNat 0) m.index:=by split <;> omega
    rw [e]
    refine ⟨_,w6,rfl,?_⟩
    have q6:=q2.step M6 S6
    have C6:=S6.blk C (M2.lZ C (by decide))
    have R6:=q6.R
    generalize setH h2 (a.add (from'.toNat * 1)) (.int .u64 (max (r.has.getD from'.toNat 0) m.index))=h6 at *
    obtain ⟨a3,ha3,i0,i1,w7,M7,S7⟩:=xh (i:=from') (v:=max (r.next.getD from'.toNat 0) (W (m.index + 1))) R6 f0 (by show from' < r.next.length; omega) (by omega)
    obtain ⟨a4,ha4,_,_,c4⟩:=qH R6.p.nx f0 (by show from' < r.next.length; omega)
    rw [ha3] at ha4; cases ha4
    refine ⟨_,R6.c 11,_,R6.c 11,a3,ha3,i0,i1,_,c4,_,ci C6,a3,ha3,i0,i1,?_⟩
    have e:(if IntKind.u64.wrap (m.index + 1) > r.next.getD from'.toNat 0 then IntKind.u64.wrap (m.index + 1) else r.next.getD from'.toNat 0)=max (r.next.getD from'.toNat 0) (W (m.index + 1)):=by rw [W1]; split <;> omega
    rw [e]
    refine ⟨_,w7,rfl,?_⟩
    have q7:=q6.step M7 S7
    have R7:=q7.R
    generalize setH h6 (a3.add (from'.toNat * 1)) (.int .u64 (max (r.next.getD from'.toNat 0) (W (m.index + 1))))=h7 at *
    refine wU R7 (by simp; exact ld.2) fun h8 M8 S8=>?_
    have q8:=q7.step M8 S8
    have R8:=q8.R
    have nl:=yO { r with has:=r.has.set from'.toNat (max (r.has.getD from'.toNat 0) m.index),next:=r.next.set from'.toNat (max (r.next.getD from'.toNat 0) (W (m.index + 1))) }
    obtain ⟨a5,ha5,i0,i1,c5⟩:=qH R8.p.nx f0 (by rw [nl]; simp; omega)
    refine ⟨_,R8.c 11,a5,ha5,i0,i1,_,c5,?_⟩
    by_cases hl:(RS.settle { r with has:=r.has.set from'.toNat (max (r.has.getD from'.toNat 0) m.index),next:=r.next.set from'.toNat (max (r.next.getD from'.toNat 0) (W (m.index + 1))) }).next.getD from'.toNat 0<=r.log.last
    ·rw [if_pos (by simpa using hl)]
     rw [if_pos hl] at H
     exact mail q8 (by rw [nl]; simp; omega) H
    ·rw [if_neg (by simpa using hl)]
     rw [if_neg hl] at H
     exact H _ h8 L q8 (aJ.nil _ _) fun g hg=>by simp [Slc.blk] at hg
 ·rw [if_pos (by simpa using hr)]
  exact none' (by unfold RS.appended; rw [if_pos (by simpa using hr)])
theorem F6 {l:List Int} {v n:Int} (hl:l.Nodup/\∀ x∈l,0<=x/\x < n):(RS.say l v n).Nodup/\∀ x∈RS.say l v n,0<=x/\x < n:=by
 unfold RS.say
 split
 ·exact hl
 ·rename_i h
  refine ⟨List.nodup_append.2 ⟨hl.1,by simp,fun a ha b hb=>by simp at hb; subst hb; intro e; subst e; exact h (.inr (.inr ha))⟩,fun x hx=>?_⟩
  rcases List.mem_append.1 hx with hx | hx
  ·exact hl.2 x hx
  ·simp at hx; subst hx; omega
/-- one that asks, or another, counts a vote -/
theorem vC {from':Int} {m:Msg} {b:Bool} {k:KP Slc} (R:aB O h L r) (ha:r.role=1->∃ l,r.ballot=some l) (hk:r.keeps.length < 999990) (f0:0<=from') (f1:from' < r.n) (hb:b=true ↔ (r.role=1/\m.yes=true))
  (H:∀ s h' L',Res O h L (r.counted from' m).win.1 h' L'->aJ (G O L') h' s (r.counted from' m).win.2->(∀ g,s.blk=some g->h.size<=g)->k s h'):jm (some ⟨L.b,0,none⟩) from' b k h:=by
 have wf:=R.wf
 have nb:=wf.n
 unfold jm
 unfold RS.counted at H
 have j2:∀ {r5:RS} {h5:Heap},Res O h L r5 h5 L->(r5.role=1->∃ l,r5.ballot=some l)->r5.keeps.length < 999990->(∀ s h' L',Res O h L r5.win.1 h' L'->aJ (G O L') h' s r5.win.2->(∀ g,s.blk=some g->h.size<=g)->k s h')->jy (some ⟨L.b,0,none⟩) k h5:=fun {r5 h5} q hA hK K=>by
  unfold jy
  have R5:=q.R
  have z5:=q.S.size
  exact uO R5 hA (by omega) fun s h' L' q' M sb=>K s h' L' (q.trans q') (M.sub fun g hg=>hg.elim (fun h=>.inl (.inl h)) .inr) fun g hg=>by have:=sb g hg; omega
 have q0:Res O h L r h L:=Res.of R (Stp.refl _ _)
 cases b with
 | false =>
  rw [if_neg (by simp)]
  rw [if_neg fun h=>by have:=hb.2 h; cases this] at H
  exact j2 q0 ha hk H
 | true =>
  rw [if_pos rfl]
  have hc:=hb.1 rfl
  rw [if_pos hc] at H
  obtain ⟨l,el⟩:=ha hc.1
  obtain ⟨nd,lbd⟩:=wf.bl l el
  obtain ⟨y1,y2,y3⟩:=xK (n:=r.n.toNat) (by omega) nd fun x hx=>by have:=lbd x hx; omega
  have B:=R.p.bl
  rw [el] at B
  obtain ⟨c,ec⟩:∃ c,L.bal=some c:=by
   cases hb:L.bal with
   | none=>rw [hb] at B; exact B.elim
   | some c=>exact ⟨c,rfl⟩
  rw [ec] at B
  have cc:=R.c 10
  have e10:L.bal.map (fun c=>(⟨c,0,none⟩:Addr))=some ⟨c,0,none⟩:=by rw [ec]; rfl
  refine ⟨_,rfl,_,cc,?_⟩
  rw [e10]
  have ei:((from'.toNat:Nat):Int)=from':=Int.toNat_of_nonneg f0
  have e3:=y3 from'.toNat
  rw [ei] at e3
  refine BU (n:=r.n) (y:=bits l) (p:=from') B (by omega) nb.2 y1 (by omega) (fun p0 p1 hz h5 B5 U5=>?_) fun hn=>?_
  ·rw [hz] at e3
   have hm:from' ∉ l:=fun hm=>by rw [if_pos hm] at e3; cases e3
   rw [← Ba] at B5
   have es:RS.say l from' r.n=l ++ [from']:=by unfold RS.say; rw [if_neg (by rintro (h | h | h); omega; omega; exact hm h)]
   have eM:r.ballot.map (fun l=>RS.say l from' r.n)=some (l ++ [from']):=by rw [el]; simp [es]
   rw [eM] at H
   have hs:=F6 (v:=from') (n:=r.n) ⟨nd,lbd⟩
   rw [es] at hs
   obtain ⟨M5,S5⟩:=EN (l:=l ++ [from']) R ec B5 U5 hs
   exact j2 (Res.of M5 S5) (fun _=>⟨_,rfl⟩) hk H
  ·have hm:from'∈l:=by
    by_cases hm:from'∈l
    ·exact hm
    ·rw [if_neg hm] at e3; have:=hn f0 f1; omega
   have es:RS.say l from' r.n=l:=by unfold RS.say; rw [if_pos (.inr (.inr hm))]
   have eM:r.ballot.map (fun l=>RS.say l from' r.n)=r.ballot:=by rw [el]; simp [es]
   rw [eM] at H
   exact j2 q0 ha hk H
/-- a member takes a message -/
theorem Dw {from':Int} {v:ah} {m:Msg} {k:KP Slc} (R:aB O h L r) (ha:r.role=1->∃ l,r.ballot=some l) (hk:r.keeps.length < 999900) (MV:Imm O h fun h=>rH h v m) (wm:WFm m)
  (H:∀ s h' L',Res O h L (r.take from' m).1 h' L'->aJ (G O L') h' s (r.take from' m).2->(∀ g,s.blk=some g->h.size<=g)->k s h'):mJ (some ⟨L.b,0,none⟩) from' v k h:=by
 have wf:=R.wf
 have nb:=wf.n
 have V:=MV.now
 unfold mJ
 refine ⟨_,_,rfl,rfl,?_⟩
 have X:=Ext.push h (.cells (ah.cs v).toArray 26) (Nat.le_refl _)
 have C:=Blk.push h (ah.cs v) 26
 have R2:=R.ext X
 have I2:=MV.ext X
 generalize h.push (.cells (ah.cs v).toArray 26)=h2 at *
 obtain ⟨b1,eb⟩:∃ y,y=h.size:=⟨_,rfl⟩
 rw [← eb] at C ⊢
 have z2:=X.size
 have q2:Res O h L r h2 L:=Res.of R2 (.bi X)
 have ck:∀ {h':Heap},Blk h' b1 (ah.cs v) 26->af h' (⟨b1,0,none⟩:Addr)=some (.int .i64 m.kind):=fun C=>by rw [C.cell,← V.k.1]; rfl
 have ct:∀ {h':Heap},Blk h' b1 (ah.cs v) 26->af h' ((⟨b1,0,none⟩:Addr).add 1)=some (.int .u64 m.term):=fun C=>by rw [C.get,← V.k.2.1]; rfl
 have cy:∀ {h':Heap},Blk h' b1 (ah.cs v) 26->af h' ((⟨b1,0,none⟩:Addr).add 5)=some (.bool m.yes):=fun C=>by rw [C.get,← V.k.2.2.2.2.2]; rfl
 unfold RS.take at H
 -- what is taken, of a term that is its own
 have j1:∀ {r5:RS} {h5:Heap} {L5:RLy},Res O h L r5 h5 L5->Blk h5 b1 (ah.cs v) 26->Imm (G O L5) h5 (fun h=>rH h v m)->(r5.role=1->∃ l,r5.ballot=some l)->r5.keeps.length < 999990->r5.n=r.n->0<=from'->from' < r.n ->
   (∀ s h' L',Res O h L (r5.take2 from' m).1 h' L'->aJ (G O L') h' s (r5.take2 from' m).2->(∀ g,s.blk=some g->h.size<=g)->k s h')->jr (some ⟨L.b,0,none⟩) from' ⟨b1,0,none⟩ k h5:=fun {r5 h5 L5} q C5 I5 hA hK hn f0 f1 K=>by
  have R5:=q.R
  have z5:=q.S.size
  have up:∀ {a:RS × List lY},r5.take2 from' m=a->∀ s h' L',Res (G O L5) h5 L5 a.1 h' L'->aJ (G (G O L5) L') h' s a.2->(∀ g,s.blk=some g->h5.size<=g)->k s h':=fun {a} e s h' L' q' M sb=>K s h' L' (by rw [e]; exact q.trans q') (by rw [e]; exact M.sub fun g hg=>hg.elim (fun h=>.inl (.inl h)) .inr) fun g hg=>by have:=sb g hg; omega
  have et:r5.take2 from' m=if m.kind=1 then r5.nE from' m else if m.kind=2 then (r5.counted from' m).win else if m.kind=3 then r5.appends from' m else if m.kind=4 then r5.appended from' m else r5.kP from' m:=rfl
  unfold jr
  refine ⟨_,ck C5,?_⟩
  rw [← q.b]
  by_cases h1:m.kind=1
  ·rw [if_pos (by simpa using h1)]
   rw [if_pos h1] at et
   exact ⟨v,aD.dL C5,uR R5 hK V.k f0 (by omega) (up et)⟩
  rw [if_neg (by simpa using h1)]
  rw [if_neg h1] at et
  by_cases h2:m.kind=2
  ·rw [if_pos (by simpa using h2)]
   rw [if_pos h2] at et
   refine ⟨_,rfl,_,R5.c 7,?_⟩
   by_cases hr:r5.role=1
   ·rw [if_pos (by simpa using hr)]
    exact ⟨_,cy C5,vC R5 hA hK f0 (by omega) ⟨fun h=>⟨hr,h⟩,fun h=>h.2⟩ (up et)⟩
   ·rw [if_neg (by simpa using hr)]
    exact vC R5 hA hK f0 (by omega) ⟨(fun h=>by cases h),fun h=>absurd h.1 hr⟩ (up et)
  rw [if_neg (by simpa using h2)]
  rw [if_neg h2] at et
  by_cases h3:m.kind=3
  ·rw [if_pos (by simpa using h3)]
   rw [if_pos h3] at et
   exact ⟨v,aD.dL C5,rZ R5 hK I5 wm (up et)⟩
  rw [if_neg (by simpa using h3)]
  rw [if_neg h3] at et
  by_cases h4:m.kind=4
  ·rw [if_pos (by simpa using h4)]
   rw [if_pos h4] at et
   exact ⟨v,aD.dL C5,rq R5 V.k wm.i f0 (by omega) (up et)⟩
  rw [if_neg (by simpa using h4)]
  rw [if_neg h4] at et
  exact ⟨v,aD.dL C5,rG R5 hK I5 wm (up et)⟩
 have bad:(from' < 0∨from'>=r.n∨from'=r.me∨m.kind < 1∨m.kind > 5)->k ⟨none,0,0⟩ h2:=fun hb=>by
  rw [if_pos hb] at H
  exact H _ h2 L q2 (aJ.nil _ _) fun g hg=>by simp [Slc.blk] at hg
 have g7:∀ b:Bool,(b=true ↔ (from' < 0∨from'>=r.n∨from'=r.me∨m.kind < 1∨m.kind > 5))->jM (some ⟨L.b,0,none⟩) from' ⟨b1,0,none⟩ b k h2:=fun b hb=>by
  unfold jM
  cases b with
  | true=>rw [if_pos rfl]; exact bad (hb.1 rfl)
  | false =>
   rw [if_neg (by simp)]
   have hg:¬ (from' < 0∨from'>=r.n∨from'=r.me∨m.kind < 1∨m.kind > 5):=fun h=>by have:=hb.2 h; cases this
   rw [if_neg hg] at H
   refine ⟨_,ct C,_,rfl,_,R2.c 2,?_⟩
   show if (decide (m.term < r.term))=true then _ else _
   by_cases h1:m.term < r.term
   ·rw [if_pos (decide_eq_true h1)]
    rw [if_pos h1] at H
    exact ⟨v,aD.dL C,DX q2.R V.k.1 fun s h' M X' sb=>H s h' L (q2.ext X') M fun g hg=>by have:=sb g hg; omega⟩
   rw [if_neg (by rw [decide_eq_false h1]; simp)]
   rw [if_neg h1] at H
   refine ⟨_,ct C,_,R2.c 2,?_⟩
   show if (decide (m.term > r.term))=true then _ else _
   by_cases h2:m.term > r.term
   ·rw [if_pos (decide_eq_true h2)]
    rw [if_pos h2] at H
    refine ⟨_,ct C,tZ R2 (by omega) wm.t fun h5 L5 q5=>?_⟩
    have q25:=q2.trans ⟨q5.R.sub (fun g hg=>hg.elim (fun h=>h.elim .inl (fun h=>.inl (R.ow g h))) .inr) fun g hg=>.inr hg,q5.S,q5.F,q5.b⟩
    refine j1 q25 (q5.S.blk C (R2.lZ C (by decide))) (q5.imm R2 I2) (fun e=>by cases e) ?_ ?_ (by omega) (by omega) H
    ·show (r.aR m.term).keeps.length < _; have:=qi (r:=r) (t:=m.term); omega
    ·exact (Bc (r:=r) (t:=m.term)).1
   ·rw [if_neg (by rw [decide_eq_false h2]; simp)]
    rw [if_neg h2] at H
    exact j1 q2 C (I2.mono fun g hg=>.inl (hg.elim id (R.ow g))) ha (by omega) rfl (by omega) (by omega) H
 have g6:∀ b:Bool,(b=true ↔ (from' < 0∨from'>=r.n∨from'=r.me∨m.kind < 1))->jE (some ⟨L.b,0,none⟩) from' ⟨b1,0,none⟩ b k h2:=fun b hb=>by
  unfold jE
  cases b with
  | true=>rw [if_pos rfl]; exact g7 _ ⟨fun _=>by have:=hb.1 rfl; omega,fun _=>rfl⟩
  | false =>
   rw [if_neg (by simp)]
   have hg:¬ (from' < 0∨from'>=r.n∨from'=r.me∨m.kind < 1):=fun h=>by have:=hb.2 h; cases this
   exact ⟨_,ck C,g7 _ (by rw [decide_eq_true_eq]; omega)⟩
 have g5:∀ b:Bool,(b=true ↔ (from' < 0∨from'>=r.n∨from'=r.me))->jD (some ⟨L.b,0,none⟩) from' ⟨b1,0,none⟩ b k h2:=fun b hb=>by
  unfold jD
  cases b with
  | true=>rw [if_pos rfl]; exact g6 _ ⟨fun _=>by have:=hb.1 rfl; omega,fun _=>rfl⟩
  | false =>
   rw [if_neg (by simp)]
   have hg:¬ (from' < 0∨from'>=r.n∨from'=r.me):=fun h=>by have:=hb.2 h; cases this
   exact ⟨_,ck C,g6 _ (by rw [decide_eq_true_eq]; omega)⟩
 have g4:∀ b:Bool,(b=true ↔ (from' < 0∨from'>=r.n))->jF (some ⟨L.b,0,none⟩) from' ⟨b1,0,none⟩ b k h2:=fun b hb=>by
  unfold jF
  cases b with
  | true=>rw [if_pos rfl]; exact g5 _ ⟨fun _=>by have:=hb.1 rfl; omega,fun _=>rfl⟩
  | false =>
   rw [if_neg (by simp)]
   have hg:¬ (from' < 0∨from'>=r.n):=fun h=>by have:=hb.2 h; cases this
   refine ⟨_,rfl,_,R2.c0,g5 _ ?_⟩
   rw [beq_iff_eq]; omega
 by_cases hf:from' < 0
 ·rw [if_pos (by simpa using hf)]
  exact g4 true ⟨fun _=>.inl hf,fun _=>rfl⟩
 ·rw [if_neg (by simpa using hf)]
  refine ⟨_,rfl,_,R2.c 1,g4 _ ?_⟩
  show decide (from'>=r.n)=true ↔ _
  rw [decide_eq_true_eq]; omega
theorem Dl {k:KP (Int × Slc)} (R:aB O h L r) (H:∀ s h',Row h.size h' 5 1 s (b8 r.aQ)->Ext h.size h h'->k (r.log.ix,s) h'):mP (some ⟨L.b,0,none⟩) k h:=by
 unfold mP
 rw [if_neg (by simp)]
 have wf:=R.wf
 exact ⟨_,rfl,_,R.c 4,sK R.p.l ⟨_,R.c 5,pQ R.p.sl R.p.sn.now (by have:=wf.sn.2; omega) H⟩⟩
theorem EC {p:Int} {p2:Slc} {aQ:List Int} {k:KP Int} (R:aB O h L r) (hk:r.keeps.length < 1000000) (I:Imm O h fun h=>SlcAt h p2 (b8 aQ)) (hl:p2.len=aQ.length) (hB:isB aQ) (hz:aQ.length<=1099511627776) (p0:0<=p/\p < 18446744073709551616)
  (H:∀ h' L',Res O h L (r.nG p aQ).1 h' L'->k (r.nG p aQ).2 h'):nQ (some ⟨L.b,0,none⟩) p p2 k h:=by
 unfold nQ
 rw [if_neg (by simp)]
 unfold RS.nG at H
 refine ⟨_,rfl,_,R.c 6,?_⟩
 show if (decide (p > r.commit))=true then _ else _
 by_cases h1:p > r.commit
 ·rw [if_pos (decide_eq_true h1)]
  rw [if_pos h1] at H
  exact H h L (Res.of R (Stp.refl _ _))
 rw [if_neg (by rw [decide_eq_false h1]; simp)]
 rw [if_neg h1] at H
 refine ⟨_,R.c 4,p9 R.p.l p0.1 p0.2 ?_⟩
 by_cases h2:(r.log.aH p).2=0
 ·rw [if_neg (by simpa using h2)]
  rw [if_neg (by simpa using h2)] at H
  have tb:0<=(r.log.aH p).1/\(r.log.aH p).1 < 18446744073709551616:=by
   have:=R.p.l.t0
   unfold Lg.aH
   split
   ·simp
   ·split
    ·simp
    ·split
     ·exact this
     ·rename_i h5 h6 h7
      have hlast:r.log.last=r.log.ix + r.log.es.length:=rfl
      obtain ⟨e,he⟩:∃ e,r.log.es[(p - r.log.ix - 1).toNat]? = some e:=⟨_,List.getElem?_eq_getElem (by omega)⟩
      rw [List.getD_eq_getElem?_getD,he]
      exact (R.p.l.ok _ (List.mem_of_getElem? he)).1
  exact AL R hk I hl hB hz p0 tb H
 ·rw [if_pos (by simpa using h2)]
  rw [if_pos (by simpa using h2)] at H
  exact H h L (Res.of R (Stp.refl _ _))
end
end Go.Q.Yi
end
section
/- What is to be kept is handed out. -/
namespace Go.Q.Yi
open Rf
section
variable {O O':bz} {h h':Heap} {L:RLy} {r:RS}
/-- what is to be kept is handed out -/
theorem De {k:KP Slc} (R:aB O h L r)
  (H:∀ h' ks,Row 0 h' 107 6 L.keeps (ks.flatMap aj.cs)->Imm O h' (fun h=>uU h ks r.keeps)->aB O h' { L with keeps:=⟨none,0,0⟩ } { r with keeps:=[] }->Stp (fun g=>g=L.b) h h'->k L.keeps h'):mo (some ⟨L.b,0,none⟩) k h:=by
 have P:=R.p
 have wf:=R.wf
 unfold mo
 rw [if_neg (by simp)]
 obtain ⟨w,f⟩:=R.k.put (i:=13) (v:=Slc.v ⟨none,0,0⟩) (by show 13 < 14; omega)
 refine ⟨_,rfl,_,R.c 13,_,w,rfl,?_⟩
 obtain ⟨K2,U2⟩:=f _ rfl
 generalize setH h ((⟨L.b,0,none⟩:Addr).add 13) (Slc.v ⟨none,0,0⟩)=h2 at *
 have P2:=P.upd R.k U2 R.Ob (by decide)
 obtain ⟨ks,Kk,Ik⟩:=P2.kp
 refine H h2 ks Kk Ik ⟨K2,⟨P2.l,P2.sn,P2.sl,P2.nx,P2.hs,P2.dj,⟨[],Row.nil _ _ _ _,fun h' _=>⟨rfl,by simp⟩⟩,P2.bl⟩,fun g hg=>?_,fun g hg=>Nat.lt_of_lt_of_le (R.ob g hg) U2.size,⟨wf.n,wf.me,wf.tm,wf.vt,wf.cm,wf.tk,wf.ld,wf.nx,wf.hs,wf.bl,wf.sn,by show 0<=1000000; omega⟩⟩ (.dD U2 (.inl rfl))
 rcases hg with hg | hg | hg | hg | hg | hg | hg
 ·exact R.ow _ (.inl hg)
 ·exact R.ow _ (.inr (.inl hg))
 ·exact R.ow _ (.inr (.inr (.inl hg)))
 ·exact R.ow _ (.inr (.inr (.inr (.inl hg))))
 ·exact R.ow _ (.inr (.inr (.inr (.inr (.inl hg)))))
 ·simp [Slc.blk] at hg
 ·exact R.ow _ (.inr (.inr (.inr (.inr (.inr (.inr hg))))))
end
end Go.Q.Yi
end

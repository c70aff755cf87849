/- A part of the proof of statements of this seat: lemmas, no statement of their own. -/
import Derived.Test.YthjafnfadiijgaaYiZbc
set_option linter.unusedVariables false
set_option linter.unusedSimpArgs false
set_option linter.unusedSectionVars false
set_option maxRecDepth 100000
section
/- RaftSafe. -/
namespace Go.Q.Yi
open Rf
theorem BQ {p0 p1:Slc} {v:ae} {x:Ent} {k:KP Bool} {h:Heap} {a1:Addr} {u:ae} (b:Nat) (e0:p0=⟨some ⟨b,0,none⟩,1,1⟩) (K:Blk h b (ae.cs v) 65) (V:oD h v x) (l1:p1.len=1) (ha:p1.a=some a1) (cu:aD h a1 (ae.cs u)) (U:oD h u x) (z:x.2.length<=1099511627776) (H:k true h):qA p0 p1 k h:=by
 subst e0
 unfold qA
 rw [if_neg (by simp [l1])]
 unfold rX
 refine ⟨fun i h'=>(i=0∨i=1)/\h'=h,fun i _=>(1 - i).toNat,⟨.inl rfl,rfl⟩,?_⟩
 rintro i h' ⟨hi,rfl⟩
 unfold rz
 rcases hi with rfl | rfl
 ·rw [if_pos (by simp)]
  refine ⟨_,rfl,by omega,by show (0:Int) < 1; omega,v.bP,?_,a1,ha,by omega,by omega,u.bP,?_,?_⟩
  ·have:=K.get 0
   rw [show (0:Int).toNat * 2=0 from rfl,this]; rfl
  ·have:=cu 0 (.int .u64 u.bP) rfl
   rwa [show (0:Int).toNat * 2=0 from rfl]
  ·rw [if_neg (by rw [V.t,U.t]; simp)]
   refine ⟨_,rfl,by omega,by show (0:Int) < 1; omega,v.lS,?_,a1,ha,by omega,by omega,u.lS,?_,xy V.c V.l U.c U.l (by omega) ?_⟩
   ·have:=K.get 1
    rw [show (0:Int).toNat * 2=0 from rfl,dI,Nat.zero_add,this]; rfl
   ·have:=cu 1 (Slc.v u.lS) rfl
    rwa [show (0:Int).toNat * 2=0 from rfl,dI,Nat.zero_add]
   ·unfold nP
    rw [if_neg (by simp)]
    refine ⟨_,rfl,?_⟩
    rw [ay (by omega) (by omega)]
    exact ⟨⟨.inr (by omega),rfl⟩,by dsimp only; omega⟩
 ·rw [if_neg (by simp)]
  exact H
section
variable [QC] {n:Int} {O:bz} {h h':Heap} {M:MLy} {R:Int->RS} {S:Int->SS} {Ls Ls0:List Let} {kn:List Ent} {ld:List Int} {i:Int} {B T B':Nat}
/-- what is stored is what there is -/
theorem Co {k:KP Bool} {nx1:KP Int} (A:Sx n B T O h M R S Ls kn ld) (hB:B<=100000) (H:∀ h',Ext h.size h h'->k true h'):kX (some ⟨M.w,0,none⟩) 0 k nx1 h:=by
 obtain ⟨G,g⟩:=id A.G
 have n1:=A.W.n1
 unfold kX
 refine ⟨fun j h'=>(0<=j/\j<=n)/\Ext h.size h h',fun j _=>(100 - j).toNat,⟨by omega,Ext.refl _ _⟩,?_⟩
 rintro j h1 ⟨⟨j0,j1⟩,X1⟩
 have W1:=A.W.ext X1
 have z1:=X1.size
 unfold pG
 refine ⟨_,rfl,M.m,W1.c0,?_⟩
 have eml:=W1.ml
 by_cases hj:j < (M.m.len:Int)
 ·rw [if_pos (by simpa using hj)]
  have hi:In n j:=⟨j0,by omega⟩
  obtain ⟨a,ha,i0,i1,cr,cs⟩:=W1.mr hi
  have mi:=g.core.mi j hi.1 hi.2
  have eS:=(g.sy j hi.1 hi.2).1
  have Ri:=W1.r j hi
  have Si:=W1.s j hi
  rw [eS] at Si
  refine ⟨M.m,W1.c0,a,ha,i0,i1,_,cs,M.m,W1.c0,a,ha,i0,i1,_,cr,?_⟩
  refine Dl Ri fun sn h2 Tn X2=>?_
  have z2:=X2.size
  have X02:Ext h.size h h2:=X1.trans (X2.mono z1)
  have Ri2:=Ri.ext X2
  have Si2:=Si.ext X2
  have t0:af h2 ⟨(M.ss j).b,0,none⟩=some (.int .u64 (R j).term):=Si2.k.cell
  refine ⟨_,rfl,_,t0,pM Ri2 ⟨t0,?_⟩⟩
  rw [if_neg (by simp)]
  refine ⟨_,Si2.c 2,_,rfl,_,Si2.l.c0,?_⟩
  rw [if_neg (by simp [ofR])]
  refine ⟨_,Si2.c 3,xy Si2.sn.now Si2.sl Tn.slc (by have:=Tn.len; simpa [ofR] using this) (by have:=Ri.wf.sn.2; show (R j).aQ.length<=_; omega) ?_⟩
  rw [decide_eq_true (by rfl)]
  unfold gM
  rw [if_neg (by simp)]
  refine ⟨_,rfl,_,Si2.c 2,yt Si2.l ⟨_,rfl,?_⟩⟩
  have wl:=Ri.wl
  have rl:=mi.rep.last
  have bf:=mi.bf
  have x0:=mi.rep.i0
  have xl:=mi.rep.i1
  have es:=mi.rep.es
  have sl2:=Si2.l.len
  show nA _ j _ _ (R j).log.ix (R j).log.last (IntKind.u64.wrap ((R j).log.ix + 1)) k _ _ h2
  rw [aL (x:=(R j).log.ix + 1) (by omega) (by omega)]
  unfold nA
  refine ⟨fun p h'=>((R j).log.ix + 1<=p/\p<=(R j).log.last + 1)/\Ext h.size h h',fun p _=>(1000000 - p).toNat,⟨by omega,X02⟩,?_⟩
  rintro p h3 ⟨⟨p0,p1⟩,X3⟩
  have W3:=A.W.ext X3
  have z3:=X3.size
  have Ri3:=W3.r j hi
  have Si3:=W3.s j hi
  rw [eS] at Si3
  unfold pK
  by_cases hp:p<=(R j).log.last
  ·rw [if_pos (by simpa using hp)]
   refine sN Ri3 (by omega) fun v h4 ht Tv X4=>?_
   have z4:=X4.size
   obtain ⟨_,_,x,hx,ex⟩:(R j).log.ix < p/\p<=(G.F j).length/\∃ x,(G.F j)[p.toNat - 1]? = some x/\(R j).entry p=(x,0):=by
    rcases sF mi (k:=p) (by omega) with q | ⟨q,_⟩
    ·exact q
    ·omega
   rw [ex] at ht Tv ⊢
   have X5:Ext h4.size h4 (aO (h4.push (.cells (ae.cs ⟨0,⟨none,0,0⟩⟩).toArray 65)) ⟨h4.size,0,none⟩ 0 (ae.cs v)):=(Ext.push h4 _ (Nat.le_refl _)).trans (Ext.sets _ _ _ (Nat.le_refl _))
   have P5:=(Blk.push h4 (ae.cs ⟨0,⟨none,0,0⟩⟩) 65).jN (vs:=ae.cs v) rfl
   refine ⟨_,_,rfl,rfl,_,bZ.dL (Blk.push h4 _ _) (by show 2<=2; omega),rfl,?_⟩
   obtain ⟨bb,ebb⟩:∃ c,c=h4.size:=⟨_,rfl⟩
   rw [← ebb] at P5 ⊢
   have X35:Ext h3.size h3 (aO (h4.push (.cells (ae.cs ⟨0,⟨none,0,0⟩⟩).toArray 65)) ⟨bb,0,none⟩ 0 (ae.cs v)):=X4.trans (by rw [ebb]; exact X5.mono z4)
   have Tv5:Row h3.size (aO (h4.push (.cells (ae.cs ⟨0,⟨none,0,0⟩⟩).toArray 65)) ⟨bb,0,none⟩ 0 (ae.cs v)) 5 1 v.lS (b8 x.2):=by rw [ebb]; exact Tv.ext X5 fun g hg=>(Tv.bd hg).2
   generalize aO (h4.push (.cells (ae.cs ⟨0,⟨none,0,0⟩⟩).toArray 65)) ⟨bb,0,none⟩ 0 (ae.cs v)=h5 at *
   have z5:=X35.size
   have Si5:=Si3.ext X35
   rw [if_neg (by simp)]
   have l3:=Si5.l.len
   obtain ⟨vs,vl,vc,Iv⟩:=Si5.l.e
   have vl2:=Iv.now.2.1
   have le:(ofR (R j)).log=(R j).log:=rfl
   rw [le] at l3 vl2
   have pl:p<=(R j).log.ix + (R j).log.es.length:=hp
   refine ⟨v,aD.dL P5,_,rfl,_,Si5.c 2,_,rfl,(M.ss j).es,Si5.l.c2,?_⟩
   rw [aL (x:=p - (R j).log.ix) (by omega) (by omega),aL (x:=p - (R j).log.ix - 1) (by omega) (by omega)]
   refine ⟨_,by omega,by omega,by omega,by omega,rfl,_,_,rfl,rfl,?_⟩
   have X6:=Ext.push h5 (.cells (ae.cs v).toArray 65) (Nat.le_refl _)
   have K6:=Blk.push h5 (ae.cs v) 65
   have Si6:=Si5.ext X6
   have Tv6:=Tv5.ext X6 fun g hg=>(Tv5.bd hg).2
   refine ⟨Si6.l.c2,Si6.c 2,?_⟩
   have hes:(R j).log.es[(p - (R j).log.ix - 1).toNat]? = some x:=by
    rw [es,List.getElem?_drop,show (R j).log.ix.toNat + (p - (R j).log.ix - 1).toNat=p.toNat - 1 from by omega]
    exact hx
   obtain ⟨u,hu⟩:∃ u,vs[(p - (R j).log.ix - 1).toNat]? = some u:=⟨_,List.getElem?_eq_getElem (by omega)⟩
   have LS:=LsAt.qh (cs:=ae.cs) (w:=2) (fun x=>rfl) Iv.now.1 vl (by decide)
   have LB:=(LS.sub (a:=(p - (R j).log.ix - 1).toNat) (b:=(p - (R j).log.ix).toNat) (m:=((M.ss j).es.cap:Int).toNat) (by omega) (by omega) (by omega)).ext X6
   generalize dC (M.ss j).es 2 (p - (R j).log.ix - 1).toNat (p - (R j).log.ix).toNat ((M.ss j).es.cap:Int).toNat=s36 at LB ⊢
   obtain ⟨a1,ha1,cu⟩:=LB.at' 0 u (by rw [List.getElem?_drop,List.getElem?_take,if_pos (by omega),Nat.add_zero]; exact hu)
   have UE:=(Iv.now.2.2 _ u x hu hes).ext X6
   have z6:=X6.size
   generalize h5.push (.cells (ae.cs v).toArray 65)=h6 at *
   rw [Nat.zero_mul] at cu
   have cu':aD h6 a1 (ae.cs u):=fun q w hq=>by
    have:=cu q w hq
    rwa [dI,Nat.zero_add] at this
   refine BQ (x:=x) (v:=v) (u:=u) h5.size rfl K6 ⟨ht,Tv6.slc,by simpa using Tv6.len⟩ (by rw [LB.l,List.length_drop,List.length_take]; omega) ha1 cu' UE ((wl.ok x (List.mem_of_getElem? hes)).2.2) ?_
   unfold kZ
   rw [if_neg (by simp)]
   refine ⟨_,rfl,?_⟩
   rw [aL (by omega) (by omega)]
   exact ⟨⟨by omega,X3.trans ((X35.mono z3).trans (X6.mono (by omega)))⟩,by dsimp only; omega⟩
  ·rw [if_neg (by simpa using hp),aL (x:=(R j).log.last + 1) (by omega) (by omega)]
   refine sN Ri3 (by omega) fun v h4 ht Tv X4=>?_
   have z4:=X4.size
   have e6:((R j).entry ((R j).log.last + 1)).2=6:=by
    rcases sF mi (k:=(R j).log.last + 1) (by omega) with q | ⟨_,_,q⟩
    ·omega
    ·exact q (by omega)
   have X5:Ext h4.size h4 (aO (h4.push (.cells (ae.cs ⟨0,⟨none,0,0⟩⟩).toArray 65)) ⟨h4.size,0,none⟩ 0 (ae.cs v)):=(Ext.push h4 _ (Nat.le_refl _)).trans (Ext.sets _ _ _ (Nat.le_refl _))
   refine ⟨_,_,rfl,rfl,_,bZ.dL (Blk.push h4 _ _) (by show 2<=2; omega),rfl,?_⟩
   rw [e6,if_neg (by simp)]
   refine ⟨_,rfl,?_⟩
   rw [ay (by omega) (by omega)]
   exact ⟨⟨by omega,X3.trans ((X4.mono z3).trans (X5.mono (by omega)))⟩,by dsimp only; omega⟩
 ·rw [if_neg (by simpa using hj)]
  exact zy fun h' X=>H h' (X1.trans (X.mono z1))
end
theorem RaftSafe_ok {size:Int} {script:Slc} {acts:List S_quaestorlaw26_Act} {k:KP Bool} {h:Heap} (s0:0<=size/\size < 256) (L:LsAt S_quaestorlaw26_Act.cs 3 h script acts) (H:∀ h',Ext h.size h h'->k true h'):pV size script k h:=by
 letI:QC:=⟨fun h'=>Ext h.size h h'⟩
 unfold pV
 have hm:0<=Int.tmod size 5/\Int.tmod size 5 < 5:=by
  rw [Int.tmod_eq_emod_of_nonneg s0.1]; omega
 rw [ay (x:=Int.tmod size 5) (by omega) (by omega),ay (by omega) (by omega)]
 refine Cr (by omega) (fun h' X=>X) fun O h1 M A=>?_
 generalize 1 + Int.tmod size 5=n at A
 unfold qc
 have fin:∀ {B T:Nat} {O:bz} {h2:Heap} {M2:MLy} {R S Ls kn ld} {nx:KP Int},Sx n B T O h2 M2 R S Ls kn ld->B<=100000->M2.w=M.w->kX (some ⟨M.w,0,none⟩) 0 k nx h2:=fun {B T O h2 M2 R S Ls kn ld nx} A2 hB e=>by
  rw [← e]
  exact Co A2 hB fun h' X=>by
   have X0:Ext h.size h h2:=A2.W.im.now
   exact H h' (X0.trans (X.mono X0.size))
 refine ⟨fun t h'=>(0<=t/\t<=120)/\∃ (B:Nat) (O:bz) (M':MLy) (R:Int->RS) (S:Int->SS) (Ls:List Let) (kn:List Ent) (ld:List Int),Sx n B t.toNat O h' M' R S Ls kn ld/\(B:Int)<=2 * t/\M'.w=M.w,fun t _=>(1000 - t).toNat,⟨by omega,0,O,M,_,_,_,_,_,A,by omega,rfl⟩,?_⟩
 rintro t h2 ⟨⟨t0,t1⟩,B,O2,M2,R,S,Ls,kn,ld,A2,hB,ew⟩
 have LA:LsAt S_quaestorlaw26_Act.cs 3 h2 script acts:=L.ext A2.W.im.now
 unfold pJ
 by_cases ht:t < (script.len:Int)/\t < 120
 ·rw [if_pos (by simpa using ht)]
  obtain ⟨a,x,ha,_,l1,_,ca⟩:=LA.it (i:=t) t0 (by have:=LA.l; omega)
  refine ⟨a,ha,t0,ht.1,x,ca,?_⟩
  rw [← ew]
  refine Gv A2 (by omega) (by omega) fun B' O' h' M' R' S' Ls' kn' ld' b A' e=>?_
  refine ⟨_,rfl,false,by rw [← e]; exact A'.W.c 4,?_⟩
  rw [if_neg (by simp)]
  refine ⟨_,rfl,?_⟩
  rw [ay (by omega) (by omega)]
  exact ⟨⟨by omega,B',O',M',R',S',Ls',kn',ld',by rw [show (t + 1).toNat=t.toNat + 1 from by omega]; exact A',by omega,e⟩,by dsimp only; omega⟩
 ·rw [if_neg (by simpa using ht)]
  exact fin A2 (by omega) ew
end Go.Q.Yi
end

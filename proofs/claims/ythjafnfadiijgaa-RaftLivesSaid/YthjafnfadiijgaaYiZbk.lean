/- A part of the proof of statements of this seat: lemmas, no statement of their own. -/
import Derived.Test.YthjafnfadiijgaaYiZbj
set_option linter.unusedVariables false
set_option linter.unusedSimpArgs false
set_option linter.unusedSectionVars false
set_option maxRecDepth 100000
section
/- A letter comes; a member begins anew. -/
namespace Go.Q.Yi
open Rf
section
variable [QC] {n:Int} {O:bz} {h h':Heap} {M:MLy} {R:Int->RS} {S:Int->SS} {Ls Ls0:List Let} {kn:List Ent} {ld:List Int} {i:Int} {B T B':Nat}
theorem Md {r':RS} {L':RLy} {out:List gQ} {s:Slc} {k:KP Unit} (W:WAt n O h M R S Ls kn ld) (G0:Wi n B R S Ls0 kn ld) (sub0:∀ x∈Ls,x∈Ls0) (ll:Ls.length<=3000) (kl:kn.length<=300) (dl:ld.length<=300) (lw:∀ x∈Ls,WFm x.2.2) (aks:∀ i,In n i->(R i).role=1->∃ l,(R i).ballot=some l) (tks:∀ i,In n i->(R i).ticks<=T)
  (hi:In n i) (q:Res O h (M.rs i) r' h' L') (Mo:aP (Yi.G O L') h' s out) (ol:out.length<=100000) (hB:B<=B') (hB':B'<=10000000)
  (gh:∀ G,WG n B G R S Ls0 kn ld->∃ G',Core n B' G' (upd R i r')/\Pst n G G'/\Lts n B' G' i out) (to:∀ x∈out,0<=x.1/\x.1 < n) (sy:Sy (S i) r') (kp:Kpt r') (ow:∀ x∈out,WFm x.2) (ak:r'.role=1->∃ l,r'.ballot=some l) (tk:r'.ticks<=T + 1)
  (H:∀ O' h' M' S' kn' ld',Sx n B' (T + 1) O' h' M' (PW.act ⟨R,Ls⟩ i (r',out)).R S' (PW.act ⟨R,Ls⟩ i (r',out)).q kn' ld'->M'.w=M.w->k () h'):bF (some ⟨M.w,0,none⟩) i s k h':=by
 obtain ⟨G,g⟩:=G0
 refine EE (M:=Ab M i L') (B:=B') (T:=T + 1) (W.act hi q) Mo ol ll kl dl hi sy kp (g.act hi.1 hi.2 hB hB' (gh G g) to fun x hx=>(EU _ _ _ x hx).imp (sub0 x) id) lw ow (fun j hj hr=>?_) (fun j hj=>?_) fun O' h' M' kn' ld' A' e=>H O' h' M' _ kn' ld' A' e
 ·by_cases c:j=i
  ·subst c; rw [upd_same] at hr ⊢; exact ak hr
  ·rw [aL c] at hr ⊢; exact aks j hj hr
 ·by_cases c:j=i
  ·subst c; rw [upd_same]; exact tk
  ·rw [aL c]; have:=tks j hj; omega
theorem yF {x:Let} {v:ai} {b:Nat} {k:KP Unit} (W:WAt n O h M R S Ls kn ld) (G0:Wi n B R S Ls0 kn ld) (sub0:∀ x∈Ls,x∈Ls0) (hx:x∈Ls0) (ll:Ls.length<=3000) (kl:kn.length<=300) (dl:ld.length<=300) (lw:∀ x∈Ls0,WFm x.2.2) (aks:∀ i,In n i->(R i).role=1->∃ l,(R i).ballot=some l) (tks:∀ i,In n i->(R i).ticks<=T) (hB:B + 2<=10000000)
  (Bx:Blk h b (ai.cs v) 109) (nb:¬ O b) (hv:v.uw=x.1/\v.Dt=x.2.1/\Imm O h fun h=>uE h v.f_M x.2.2)
  (H:∀ B' O' h' M' S' kn' ld',B'<=B + 2->Sx n B' (T + 1) O' h' M' (PW.sJ ⟨R,Ls⟩ x).R S' (PW.sJ ⟨R,Ls⟩ x).q kn' ld'->M'.w=M.w->k () h'):fU (some ⟨M.w,0,none⟩) ⟨b,0,none⟩ k h:=by
 obtain ⟨e1,e2,V⟩:=hv
 have to:In n x.2.1:=by
  obtain ⟨G,g⟩:=G0
  exact (g.ls x hx).2.1
 have wm:=lw x hx
 obtain ⟨i,ei⟩:∃ i,i=x.2.1:=⟨_,rfl⟩
 rw [← ei] at to e2
 have Ri:=W.r i to
 obtain ⟨a,ha,i0,i1,cr,_⟩:=W.mr to
 have b1:af h ((⟨b,0,none⟩:Addr).add 1)=some (.int .i64 i):=by rw [Bx.get,← e2]; rfl
 have gk:∀ G,WG n B G R S Ls0 kn ld->((R i).keeps=[]/\(R i).n=n/\(R i).me=i/\lok (R i).log/\Sy (S i) (R i)/\(x.2.2.kind=3->0<=x.2.2.index/\x.2.2.index + x.2.2.aM.length<=100000000)/\(x.2.2.kind=5->0<=x.2.2.index/\x.2.2.index<=1000000000)):=fun G g=>by
  have m:=g.core.mi i to.1 to.2
  have hl:=m.rep.last
  have hb:=m.bf
  refine ⟨(g.sy i to.1 to.2).2,m.rn,m.me,?_,g.syi to.1 to.2,(g.ls x hx).2.2.2.2,fun k5=>?_⟩
  ·unfold Yi.lok; omega
  ·obtain ⟨l1,l2,l3,_⟩:=(g.ls x hx).1.k5 k5
   have:=(g.core.el _ _ l1).bd
   exact ⟨l2,by omega⟩
 obtain ⟨kp0,rn,me,lk,sy,k3,k5⟩:(R i).keeps=[]/\(R i).n=n/\(R i).me=i/\lok (R i).log/\Sy (S i) (R i)/\(x.2.2.kind=3->0<=x.2.2.index/\x.2.2.index + x.2.2.aM.length<=100000000)/\(x.2.2.kind=5->0<=x.2.2.index/\x.2.2.index<=1000000000):=by
  obtain ⟨G,g⟩:=G0
  exact gk G g
 unfold fU
 refine ⟨i,b1,_,rfl,M.m,W.c0,i,b1,a,ha,i0,i1,_,cr,v.uw,by rw [Bx.cell]; rfl,v.f_M,?_,?_⟩
 ·intro q w hq
  rw [fI]
  have:=Bx.get (2 + q)
  rw [this]
  show ([Value.int .i64 v.uw,.int .i64 v.Dt] ++ ah.cs v.f_M)[2 + q]? = some w
  rw [List.getElem?_append_right (by simp)]
  simpa using hq
 rw [e1]
 refine Ip Ri (aks i to) (by rw [kp0]; simp) V wm fun s h2 L2 q Mo _=>?_
 have Bx2:=q.S.blk Bx fun ho=>nb (Ri.ow _ ho)
 refine ⟨by rw [Bx2.get,← e2]; rfl,?_⟩
 obtain ⟨u,lt,_⟩:=RS.yj (r:=R i) (f:=x.1) (m:=x.2.2)
 refine Md (B':=B + 1) W G0 sub0 ll kl dl (fun x hx=>lw x (sub0 x hx)) aks tks to q Mo ?_ (by omega) (by omega) (fun G g=>?_) (fun y hy=>?_) (sy.take k3 Ri.wl.x0) (Kpt.take (fun k hk=>by rw [kp0] at hk; cases hk) lk wm.z k3 k5) (JA Ri.wl wm q.R.wl) (u.ak (aks i to)) ?_ fun O' h' M' S' kn' ld' A' e=>H (B + 1) O' h' M' S' kn' ld' (by omega) (by unfold PW.sJ; dsimp only; rw [← ei]; exact A') e
 ·have l1:=RS.take_len (r:=R i) (f:=x.1) (m:=x.2.2)
  have:=W.n1
  rw [rn] at l1
  omega
 ·obtain ⟨l1,l2,l3,l4,_⟩:=g.ls x hx
  rw [← ei] at l1
  exact CP g.core to.1 to.2 (by omega) l1 l4
 ·have:=(lt y hy).1
  rw [rn] at this
  exact ⟨this.1,this.2.1⟩
 ·have:=u.tk
  have:=tks i to
  omega
theorem yM {p:Int} {kp:Bool} {k:KP Unit} (A:Sx n B T O h M R S Ls kn ld) (p0:0<=p) (p1:p < Ls.length) (hB:B + 2<=10000000)
  (H:∀ x,Ls[p.toNat]? = some x->∀ B' O' h' M' S' kn' ld',B'<=B + 2->Sx n B' (T + 1) O' h' M' (PW.sJ ⟨R,if kp then Ls else Ls.eraseIdx p.toNat⟩ x).R S' (PW.sJ ⟨R,if kp then Ls else Ls.eraseIdx p.toNat⟩ x).q kn' ld'->M'.w=M.w->k () h'):jf (some ⟨M.w,0,none⟩) p kp k h:=by
 have W:=A.W
 have ltl:=W.l.len
 obtain ⟨ls,T0,e,I⟩:=id W.l
 have Lt:=LsAt.tJ (cs:=ai.cs) (w:=10) (fun _=>rfl) T0.slc (by omega) (by decide)
 obtain ⟨x,hx⟩:∃ x,Ls[p.toNat]? = some x:=⟨_,List.getElem?_eq_getElem (by omega)⟩
 obtain ⟨v,hv⟩:∃ v,ls[p.toNat]? = some v:=⟨_,List.getElem?_eq_getElem (by omega)⟩
 obtain ⟨a,ha,cv⟩:=Lt.at' _ _ hv
 have hI:=I _ v x hv hx
 unfold jf
 refine ⟨_,rfl,M.lt,W.c 1,a,ha,p0,by omega,v,cv,_,_,rfl,rfl,_,dE.eQ (Blk.push h _ _) (by show 10<=10; omega),rfl,?_⟩
 have P1:=(Blk.push h (ai.cs ⟨0,0,⟨0,0,0,0,0,false,⟨none,0,0⟩,⟨none,0,0⟩⟩⟩) 109).jZ (vs:=ai.cs v) rfl
 have X:Ext h.size h (aU (h.push (.cells (ai.cs ⟨0,0,⟨0,0,0,0,0,false,⟨none,0,0⟩,⟨none,0,0⟩⟩⟩).toArray 109)) ⟨h.size,0,none⟩ 0 (ai.cs v)):=(Ext.push h _ (Nat.le_refl _)).trans (Ext.sets _ _ _ (Nat.le_refl _))
 have A2:=A.ext X
 have V2:=hI.2.2.ext X
 have nb:¬ O h.size:=fun hO=>by have:=W.ob _ hO; omega
 obtain ⟨bb,ebb⟩:∃ c,c=h.size:=⟨_,rfl⟩
 rw [← ebb] at P1 A2 V2 nb ⊢
 generalize aU (h.push (.cells (ai.cs ⟨0,0,⟨0,0,0,0,0,false,⟨none,0,0⟩,⟨none,0,0⟩⟩⟩).toArray 109)) ⟨bb,0,none⟩ 0 (ai.cs v)=h2 at *
 cases kp with
 | true =>
  rw [if_neg (by simp)]
  exact yF A2.W A2.G (fun _ h=>h) (List.mem_of_getElem? hx) A2.ll A2.kl A2.dl A2.lw A2.ak A2.tk hB P1 nb ⟨hI.1,hI.2.1,V2⟩ (H x hx)
 | false =>
  rw [if_pos (by simp)]
  refine zD (k:=fU (some ⟨M.w,0,none⟩) ⟨bb,0,none⟩ k) A2 p0 p1 fun O3 h3 s3 A3 G3=>?_
  exact yF (M:={ M with lt:=s3 }) A3.W A2.G (fun x hx=>List.mem_of_mem_eraseIdx hx) (List.mem_of_getElem? hx) A3.ll A3.kl A3.dl A2.lw A3.ak A3.tk hB (G3.p.blk P1 nb) (fun hO=>(G3.o _ hO).elim nb fun q=>by have:=P1.lt; omega) ⟨hI.1,hI.2.1,G3.imm V2⟩ (H x hx)
/-- a member is put in another's place -/
theorem WAt.renew {h0:Heap} (W0:WAt n O h0 M R S Ls kn ld) (X0:Ext h0.size h0 h) (hi:In n i) {r':RS} {L':RLy} (R':aC (fun g=>O g∨own L' g) h L' r') (fr:∀ g,own L' g->h0.size<=g) {a:Addr} (ha:M.m.a=some a) :
  WrH h (a.add (i.toNat * 2))/\WAt n (fun g=>O g∨own L' g) (setH h (a.add (i.toNat * 2)) (.pointer (some ⟨L'.b,0,none⟩))) (Ab M i L') (upd R i r') S Ls kn ld:=by
 have W:=W0.ext X0
 have hb':M.m.blk=some a.block:=by simp [Slc.blk,ha]
 have ml:=W.ml
 have i0:=hi.1
 have i1:=hi.2
 have ag:a=⟨a.block,0,none⟩:=by
  rcases W.m.2.2 with ⟨k,_⟩ | ⟨g,cur,a1,_⟩
  ·rw [k] at ha; cases ha
  ·rw [ha] at a1; cases a1; rfl
 generalize a.block=g0 at *
 subst ag
 rw [add_mk,Nat.zero_add]
 obtain ⟨w,R2,_⟩:=Rw.wI (v:=.pointer (some ⟨L'.b,0,none⟩)) W.m ha (j:=i.toNat * 2) (by omega)
 have P:Stp (fun g=>M.m.blk=some g) h (setH h ⟨g0,i.toNat * 2,none⟩ (.pointer (some ⟨L'.b,0,none⟩))):=.set (.inl hb')
 have hm:(mbs n M)[i.toNat]? = some ⟨some ⟨(M.rs i).b,0,none⟩,some ⟨(M.ss i).b,0,none⟩⟩:=by
  unfold mbs
  rw [List.getElem?_map,List.getElem?_range (by omega)]
  simp only [Option.map_some]
  rw [show ((i.toNat:Nat):Int)=i from by omega]
 have es:=BJ (cs:=ax.cs) (w:=2) (fun _=>rfl) (mbs n M) i.toNat 0 _ ⟨some ⟨L'.b,0,none⟩,some ⟨(M.ss i).b,0,none⟩⟩ (.pointer (some ⟨L'.b,0,none⟩)) (by omega) hm rfl
 rw [Nat.add_zero] at es
 rw [es] at R2
 have em:(mbs n M).set i.toNat ⟨some ⟨L'.b,0,none⟩,some ⟨(M.ss i).b,0,none⟩⟩=mbs n (Ab M i L'):=by
  refine List.ext_getElem? fun j=>?_
  by_cases c:j=i.toNat
  ·subst c
   rw [List.getElem?_set_self (by simp [mbs]; omega)]
   unfold mbs
   rw [List.getElem?_map,List.getElem?_range (by omega)]
   simp only [Option.map_some]
   rw [show ((i.toNat:Nat):Int)=i from by omega,lX]; rfl
  ·rw [List.getElem?_set_ne (fun e=>c e.symm)]
   unfold mbs
   rw [List.getElem?_map,List.getElem?_map]
   by_cases cj:j < n.toNat
   ·rw [List.getElem?_range cj]
    simp only [Option.map_some]
    rw [iO (show (j:Int)≠i from fun e=>c (by omega))]; rfl
   ·rw [List.getElem?_eq_none (by simp; omega)]; rfl
 rw [em] at R2
 generalize setH h ⟨g0,i.toNat * 2,none⟩ (.pointer (some ⟨L'.b,0,none⟩))=h2 at *
 obtain ⟨_,TL,_⟩:=W0.l
 obtain ⟨_,TK,_⟩:=W0.k
 have P0:Stp (fun g=>M.m.blk=some g) h0 h2:=(Stp.bu (O:=fun g=>M.m.blk=some g) X0).trans' P
 have PO:∀ g,M.m.blk=some g->O g∨h0.size<=g:=fun g hg=>.inl (W0.ow.m g hg)
 have hO:∀ g,(O g∨own L' g)->O g∨h0.size<=g:=fun g hg=>hg.imp id (fr g)
 have hw:∀ g,O g->O g∨own L' g:=fun g hg=>.inl hg
 have mlt:∀ g,own L' g->¬ M.m.blk=some g:=fun g ho hg=>by have:=fr g ho; have:=W0.ob g (W0.ow.m g hg); omega
 have ob:∀ g,(O g∨own L' g)->g < h2.size:=fun g hg=>by have:=R'.ob g hg; have:=P.size; omega
 have ow:=W0.ow
 have old:∀ j,In n j->∀ g,own (M.rs j) g->¬ own L' g:=fun j hj g h1 h2=>by have:=fr g h2; have:=(W0.r j hj).ob' h1; omega
 refine ⟨w,W0.n1,P0.blk W0.w (fun e=>W0.m.aZ W0.w (by decide) e),R2,fun j hj=>?_,fun j k hj hk hn g h1 h2=>?_,fun j hj=>?_,W0.sd,W0.l.move P0 PO hO (fun g hg e=>TL.rA W0.m (by decide) hg e),W0.k.move P0 PO hO (fun g hg e=>TK.rA W0.m (by decide) hg e),fun j hj g hg h1=>?_,P0.row W0.d (fun g hg e=>W0.d.rA W0.m (by decide) hg e),⟨hw _ ow.w,fun g hg=>hw g (ow.m g hg),fun g hg=>hw g (ow.l g hg),fun g hg=>hw g (ow.k g hg),fun g hg=>hw g (ow.d g hg)⟩,ob,W0.im.step (P0.mono PO) hO⟩
 ·by_cases c:j=i
  ·subst c
   rw [lX,upd_same]
   exact R'.move P (fun g hg=>.inl (.inl (ow.m g hg))) mlt (fun g hg=>.inl hg) (fun g hg=>.inr hg) ob
  ·rw [iO c,aL c]
   exact (W0.r j hj).move P0 PO (fun g h1 e=>W0.nr hj W0.m (by decide) g e h1) hO (fun g hg=>hw g ((W0.r j hj).ow g hg)) ob
 ·by_cases c:j=i
  ·subst c
   have ck:k≠j:=fun e=>hn e.symm
   rw [lX] at h1; rw [iO ck] at h2
   exact old k hk g h2 h1
  ·rw [iO c] at h1
   by_cases ck:k=i
   ·subst ck
    rw [lX] at h2
    exact old j hj g h1 h2
   ·rw [iO ck] at h2
    exact W0.rd j k hj hk hn g h1 h2
 ·exact (W0.s j hj).move P0 PO (fun g h1 e=>W0.vT hj W0.m (by decide) g e h1) hO fun g hg=>hw g ((W0.s j hj).own g hg)
 ·by_cases c:j=i
  ·subst c
   rw [lX] at h1
   have:=fr g h1; have:=W0.ob g (ow.k g hg); omega
  ·rw [iO c] at h1
   exact W0.kd j hj g hg h1
/-- a member begins anew with what it has stored -/
theorem Ho {k:KP Unit} (A:Sx n B T O h M R S Ls kn ld) (hi:In n i)
  (H:∀ O' h' M' S' kn' ld',Sx n B T O' h' M' (upd R i (RS.start i n (R i).term (R i).aN (R i).log (R i).aQ)) S' Ls kn' ld'->M'.w=M.w->k () h'):l8 (some ⟨M.w,0,none⟩) i k h:=by
 have W:=A.W
 obtain ⟨a,ha,i0,i1,cr,cs⟩:=W.mr hi
 have Si:=W.s i hi
 have Ri:=W.r i hi
 obtain ⟨G,g⟩:=A.G
 have eS:=(g.sy i hi.1 hi.2).1
 have g2:=g.again hi.1 hi.2
 have wl:=Ri.wl
 have wf:=Ri.wf
 rw [eS] at Si g2
 have s0:af h ⟨(M.ss i).b,0,none⟩=some (.int .u64 (R i).term):=Si.k.cell
 have s1:af h ((⟨(M.ss i).b,0,none⟩:Addr).add 1)=some (.int .i64 (R i).aN):=Si.c 1
 have s2:af h ((⟨(M.ss i).b,0,none⟩:Addr).add 2)=some (.pointer (some ⟨(M.ss i).lb,0,none⟩)):=Si.c 2
 have s3:af h ((⟨(M.ss i).b,0,none⟩:Addr).add 3)=some (Slc.v (M.ss i).aQ):=Si.c 3
 unfold l8
 refine ⟨_,rfl,M.m,W.c0,a,ha,i0,i1,_,cs,M.m,W.c0,M.m,W.c0,_,rfl,_,s0,_,s1,_,s2,_,rfl,_,Si.l.c0,_,s2,_,rfl,_,Si.l.c1,_,s2,_,rfl,_,Si.l.c2,_,s3,?_⟩
 refine Bu Si.l.aM.now wl.ok wl.sz wl.x0 wl.x1 wl.t0 fun lb sl h1 LA hlb hsl X1=>?_
 have z1:=X1.size
 have Si1:=Si.ext X1
 refine ⟨Si1.c 3,Si1.c 1,Si1.k.cell,(W.ext X1).c0,(W.ext X1).c0,?_⟩
 rw [W.ml]
 have LA':=LA O W.ob
 refine vD (l:=⟨(R i).log.ix,(R i).log.tm,(R i).log.es⟩) (aQ:=(R i).aQ) W.n1 hi wf.tm wf.vt (.inr ⟨lb,sl,_,rfl,LA'⟩) Si1.sn.now Si1.sl wf.sn.1 wf.sn.2 fun L' h2 RA fr X2=>?_
 have X02:Ext h.size h h2:=X1.trans (X2.mono z1)
 have R':=RA O fun g hg=>by have:=W.ob g hg; omega
 obtain ⟨w,W3⟩:=W.renew X02 hi R' (fun g hg=>Nat.le_trans z1 (fr g hg)) ha
 refine ⟨(W.ext X02).c0,a,ha,i0,hi.2,_,w,rfl,?_⟩
 have ak:∀ j,In n j->(upd R i (RS.start i n (R i).term (R i).aN (R i).log (R i).aQ) j).role=1->∃ l,(upd R i (RS.start i n (R i).term (R i).aN (R i).log (R i).aQ) j).ballot=some l:=fun j hj hr=>by
  by_cases c:j=i
  ·subst c; rw [upd_same] at hr; exact absurd hr (by show ¬ (0:Int)=1; decide)
  ·rw [aL c] at hr ⊢; exact A.ak j hj hr
 have tk:∀ j,In n j->(upd R i (RS.start i n (R i).term (R i).aN (R i).log (R i).aQ) j).ticks<=T:=fun j hj=>by
  by_cases c:j=i
  ·subst c; rw [upd_same]; show (0:Int)<=T; omega
  ·rw [aL c]; exact A.tk j hj
 exact look_ok (M:=Ab M i L') W3 g2.core g2.kn g2.ld A.kl A.dl hi fun O' h' M' kn' ld' A'=>H O' h' M' S kn' ld' ⟨A'.W,⟨G,g2.core,g2.ls,A'.K,A'.D,g2.sy⟩,A.ll,A'.kl,A'.dl,A.lw,ak,tk⟩ A'.w
end
end Go.Q.Yi
end
section
/- An act. -/
namespace Go.Q.Yi
open Rf
theorem Gu {x m:Int} {k:KP Int} {h:Heap} (m1:m<=1000000) (H:∀ r:Int,0<=r->(1<=m->r < m)->k r h):mM x m k h:=by
 by_cases c:m < 1
 ·unfold mM
  rw [if_pos (by simpa using c)]
  exact H 0 (Int.le_refl _) fun q=>by omega
 ·have:=Jy (x:=x) (n:=m.toNat) (k:=k) (h:=h) (by omega) (by omega) fun r r0 r1=>H r r0 fun _=>by omega
  rwa [show ((m.toNat:Nat):Int)=m from by omega] at this
theorem Kj (x:Int):0<=IntKind.u8.wrap x/\IntKind.u8.wrap x < 256:=by
 unfold IntKind.wrap
 simp [IntKind.signed,IntKind.bits]
 omega
section
variable [QC] {n:Int} {O:bz} {h h':Heap} {M:MLy} {R:Int->RS} {S:Int->SS} {Ls Ls0:List Let} {kn:List Ent} {ld:List Int} {i:Int} {B T B':Nat}
theorem Sx.mono (A:Sx n B T O h M R S Ls kn ld) {T':Nat} (hT:T<=T'):Sx n B T' O h M R S Ls kn ld:=⟨A.W,A.G,A.ll,A.kl,A.dl,A.lw,A.ak,fun i hi=>by have:=A.tk i hi; omega⟩
theorem zm {r:RS} {cmd:List Int}:(r.aI cmd).1.role=r.role/\(r.aI cmd).1.ballot=r.ballot/\(r.aI cmd).1.ticks=r.ticks:=by
 have:∀ x:RS,x.settle.role=x.role/\x.settle.ballot=x.ballot/\x.settle.ticks=x.ticks:=fun x=>by unfold RS.settle; split <;> exact ⟨rfl,rfl,rfl⟩
 unfold RS.aI
 split
 ·exact ⟨rfl,rfl,rfl⟩
 ·unfold RS.put
  split
  ·exact ⟨rfl,rfl,rfl⟩
  ·exact this _
theorem Gg {r:RS} {x:Int} {sn:List Int}:(r.mU x sn).1.role=r.role/\(r.mU x sn).1.ballot=r.ballot/\(r.mU x sn).1.ticks=r.ticks:=by
 unfold RS.mU
 split
 ·exact ⟨rfl,rfl,rfl⟩
 ·split
  ·exact ⟨rfl,rfl,rfl⟩
  ·exact ⟨rfl,rfl,rfl⟩
theorem CG {c at' kd:Int} {fl:Bool} {k:KP Unit} (A:Sx n B T O h M R S Ls kn ld) (hi:In n i) (a0:0<=at') (a1:1<=(Ls.length:Int)->at' < Ls.length) (n5:n<=5) (hB:B + 2<=8000000) (hT:T < 1000000000)
  (H:∀ B' O' h' M' R' S' Ls' kn' ld',B'<=B + 2->Sx n B' (T + 1) O' h' M' R' S' Ls' kn' ld'->(∀ a,a<=1000->Scr n a ⟨R,Ls⟩->Scr n (a + 1) ⟨R',Ls'⟩)->M'.w=M.w->k () h'):kI (some ⟨M.w,0,none⟩) c i at' kd fl k h:=by
 have W:=A.W
 obtain ⟨a,ha,i0,i1,cr,_⟩:=W.mr hi
 have Ri:=W.r i hi
 have k0:=A.k0 hi
 have rn:=A.rn hi
 have lk:=A.lok (by omega) hi
 have n1:=W.n1
 have ltl:=W.l.len
 unfold kI
 cases fl with
 | true =>
  rw [if_pos rfl]
  refine ⟨_,rfl,M.m,W.c0,a,ha,i0,i1,_,cr,?_⟩
  refine Bt Ri (by rw [k0]; simp) (by have:=A.tk i hi; omega) fun s h2 L2 q Mo _=>?_
  obtain ⟨_,_,_,tt,tb⟩:=RS.Ei (r:=R i)
  refine A.post (B':=B + 2) hi q Mo (by have:=Ck (r:=R i) (by omega); omega) (by omega) (by omega) (fun G g=>yz g.core hi.1 hi.2 (by omega)) (fun x hx=>by have:=EP x hx; rw [rn] at this; exact this) (A.sy hi).tick ((A.kp hi).tick lk) (EC Ri.wl q.R.wl) (tb (A.ak i hi)) (by have:=A.tk i hi; omega) fun O' h' M' S' kn' ld' A' e=>H _ O' h' M' _ S' _ kn' ld' (Nat.le_refl _) A' (fun a ha s=>s.tick (A.good (N:=10) n5 (by omega)) hi ha (A'.good (N:=10) n5 (by omega))) e
 | false =>
 rw [if_neg (by simp)]
 by_cases c2:kd=2
 ·rw [if_pos (by simpa using c2)]
  refine ⟨_,rfl,M.m,W.c0,a,ha,i0,i1,_,cr,_,_,rfl,rfl,?_⟩
  have X:=Ext.push h (.cells ([.int .u8 (IntKind.u8.wrap c),.int .u8 7]:List Value).toArray 5) (Nat.le_refl _)
  have K:=Blk.push h [.int .u8 (IntKind.u8.wrap c),.int .u8 7] 5
  have A2:=A.ext X
  generalize h.push (.cells ([.int .u8 (IntKind.u8.wrap c),.int .u8 7]:List Value).toArray 5)=h2 at *
  refine vE (cmd:=[IntKind.u8.wrap c,7]) (A2.W.r i hi) (by rw [k0]; simp) (K.slc (o:=0) (n:=2) rfl) rfl (fun b hb=>?_) (by simp) fun h3 L3 q=>?_
  ·have:=Kj c
   simp at hb
   rcases hb with rfl | rfl <;> omega
  obtain ⟨u1,u2,u3⟩:=zm (r:=R i) (cmd:=[IntKind.u8.wrap c,7])
  refine A2.post (B':=B + 1) hi q (aP.nil _ _) (by simp) (by omega) (by omega) (fun G g=>?_) (fun x hx=>by cases hx) ((A.sy hi).aI _) ((A.kp hi).aI lk _) (fun x hx=>by cases hx) (fun hr=>by rw [u1] at hr; rw [u2]; exact A.ak i hi hr) (by rw [u3]; have:=A.tk i hi; omega) fun O' h' M' S' kn' ld' A' e=>H _ O' h' M' _ S' _ kn' ld' (by omega) A' (fun a ha s=>s.pF (A.good (N:=10) n5 (by omega)) hi ha _ (A'.good (N:=10) n5 (by omega))) e
  obtain ⟨G',g1,g2⟩:=vM g.core hi.1 hi.2 (by omega) [IntKind.u8.wrap c,7]
  exact ⟨G',g1,g2,Lts.nil⟩
 rw [if_neg (by simpa using c2)]
 by_cases c3:kd=3
 ·rw [if_pos (by simpa using c3)]
  exact Ho A hi fun O' h' M' S' kn' ld' A' e=>H B O' h' M' _ S' _ kn' ld' (by omega) (A'.mono (by omega)) (fun a ha s=>s.again (A.good (N:=10) n5 (by omega)) hi ha (A'.good (N:=10) n5 (by omega))) e
 rw [if_neg (by simpa using c3)]
 by_cases c4:kd=4
 ·rw [if_pos (by simpa using c4)]
  refine ⟨_,rfl,M.m,W.c0,a,ha,i0,i1,_,cr,M.m,W.c0,a,ha,i0,i1,_,cr,M.m,W.c0,a,ha,i0,i1,_,cr,?_⟩
  refine o9 Ri ⟨cr,W.c0,cr,W.c0,o9 Ri ⟨cr,W.c0,_,_,rfl,rfl,?_⟩⟩
  have X:=Ext.push h (.cells ([.int .u8 (IntKind.u8.wrap (R i).commit)]:List Value).toArray 5) (Nat.le_refl _)
  have K:=Blk.push h [.int .u8 (IntKind.u8.wrap (R i).commit)] 5
  have A2:=A.ext X
  obtain ⟨bb,ebb⟩:∃ c,c=h.size:=⟨_,rfl⟩
  have nb:¬ O bb:=fun hO=>by have:=W.ob _ hO; omega
  rw [← ebb] at K ⊢
  generalize h.push (.cells ([.int .u8 (IntKind.u8.wrap (R i).commit)]:List Value).toArray 5)=h2 at *
  obtain ⟨a',ha',_,_,cr',_⟩:=A2.W.mr hi
  rw [ha] at ha'; cases ha'
  refine ⟨cr',A2.W.c0,?_⟩
  have cb:0<=(R i).commit/\(R i).commit<=1000000000:=by
   obtain ⟨G,g⟩:=A.G
   have m:=g.core.mi i hi.1 hi.2
   have:=m.c0; have:=m.c2; have:=m.bf; have:=m.rep.i0
   omega
  refine IW (aQ:=[IntKind.u8.wrap (R i).commit]) (A2.W.r i hi) (by rw [k0]; simp) ((Imm.eQ K nb).imp fun _ K=>K.slc (o:=0) (n:=1) rfl) rfl (fun b hb=>?_) (by simp) (by omega) fun h3 L3 q=>?_
  ·have:=Kj (R i).commit
   simp at hb
   subst hb; omega
  obtain ⟨u1,u2,u3⟩:=Gg (r:=R i) (x:=(R i).commit) (sn:=[IntKind.u8.wrap (R i).commit])
  exact A2.post (B':=B) hi q (aP.nil _ _) (by simp) (by omega) (by omega) (fun G g=>⟨G,(g.core.cut hi.1 hi.2 cb.1).1,Pst.refl n G,Lts.nil⟩) (fun x hx=>by cases hx) ((A.sy hi).mU _ _) ((A.kp hi).mU cb _) (fun x hx=>by cases hx) (fun hr=>by rw [u1] at hr; rw [u2]; exact A.ak i hi hr) (by rw [u3]; have:=A.tk i hi; omega) fun O' h' M' S' kn' ld' A' e=>H _ O' h' M' _ S' _ kn' ld' (by omega) A' (fun a ha s=>s.cut (A.good (N:=10) n5 (by omega)) hi ha _ (A'.good (N:=10) n5 (by omega))) e
 rw [if_neg (by simpa using c4)]
 have emp:¬ ((M.lt.len:Int) > 0)->k () h:=fun _=>H B O h M R S Ls kn ld (by omega) (A.mono (by omega)) (fun a ha s=>s.fewer (fun _ h=>h) (Nat.le_refl _)) rfl
 by_cases c5:kd=5
 ·rw [if_pos (by simpa using c5)]
  refine ⟨_,rfl,M.lt,W.c 1,?_⟩
  by_cases hl:(M.lt.len:Int) > 0
  ·rw [if_pos (by simpa using hl)]
   exact zD (k:=fun h=>k () h) A a0 (a1 (by omega)) fun O' h' s' A' _=>H B O' h' { M with lt:=s' } R S _ kn ld (by omega) (A'.mono (by omega)) (fun a ha s=>s.fewer (fun x hx=>List.mem_of_mem_eraseIdx hx) (List.length_eraseIdx_le _ _)) rfl
  ·rw [if_neg (by simpa using hl)]
   exact emp hl
 rw [if_neg (by simpa using c5)]
 by_cases c6:kd=6
 ·rw [if_pos (by simpa using c6)]
  refine ⟨_,rfl,M.lt,W.c 1,?_⟩
  by_cases hl:(M.lt.len:Int) > 0
  ·rw [if_pos (by simpa using hl)]
   exact yM A a0 (a1 (by omega)) (by omega) fun x hx B' O' h' M' S' kn' ld' b A' e=>H B' O' h' M' _ S' _ kn' ld' b A' (fun a ha s=>(s.takes (N:=10) (A.good n5 (by omega)) ha (List.mem_of_getElem? hx) (fun _ h=>h) (Nat.le_refl _)).1) e
  ·rw [if_neg (by simpa using hl)]
   exact emp hl
 ·rw [if_neg (by simpa using c6)]
  refine ⟨_,rfl,M.lt,W.c 1,?_⟩
  by_cases hl:(M.lt.len:Int) > 0
  ·rw [if_pos (by simpa using hl)]
   exact yM A a0 (a1 (by omega)) (by omega) fun x hx B' O' h' M' S' kn' ld' b A' e=>H B' O' h' M' _ S' _ kn' ld' b A' (fun a ha s=>(s.takes (N:=10) (A.good n5 (by omega)) ha (List.mem_of_getElem? hx) (fun x hx=>List.mem_of_mem_eraseIdx hx) (List.length_eraseIdx_le _ _)).1) e
  ·rw [if_neg (by simpa using hl)]
   exact emp hl
theorem Ng {act:S_quaestorlaw26_Act} {c:Int} {k:KP Unit} (A:Sx n B T O h M R S Ls kn ld) (n5:n<=5) (hB:B + 2<=8000000) (hT:T < 1000000000)
  (H:∀ B' O' h' M' R' S' Ls' kn' ld',B'<=B + 2->Sx n B' (T + 1) O' h' M' R' S' Ls' kn' ld'->(∀ a,a<=1000->Scr n a ⟨R,Ls⟩->Scr n (a + 1) ⟨R',Ls'⟩)->M'.w=M.w->k () h'):pE (some ⟨M.w,0,none⟩) act c k h:=by
 unfold pE
 refine ⟨_,_,rfl,rfl,?_⟩
 have X:=Ext.push h (.cells (S_quaestorlaw26_Act.cs act).toArray 52) (Nat.le_refl _)
 have K:=Blk.push h (S_quaestorlaw26_Act.cs act) 52
 have A2:=A.ext X
 have W:=A2.W
 obtain ⟨bb,ebb⟩:∃ c,c=h.size:=⟨_,rfl⟩
 rw [← ebb] at K ⊢
 generalize h.push (.cells (S_quaestorlaw26_Act.cs act).toArray 52)=h2 at *
 have n1:=W.n1
 have ltl:=W.l.len
 have ll:=A.ll
 refine ⟨act.f_N,by rw [K.get]; rfl,_,rfl,M.m,W.c0,?_⟩
 rw [W.ml]
 refine Gu (by omega) fun i i0 i1=>⟨act.KO,by rw [K.get]; rfl,M.lt,W.c 1,?_⟩
 refine Gu (by omega) fun at' a0 a1=>⟨act.oZ,by rw [K.cell]; rfl,?_⟩
 have hi:In n i:=⟨i0,i1 (by omega)⟩
 refine Gu (by omega) fun kd _ _=>?_
 split
 ·exact CG A2 hi a0 (fun q=>by have:=a1 (by omega); omega) n5 hB hT H
 ·exact CG A2 hi a0 (fun q=>by have:=a1 (by omega); omega) n5 hB hT H
end
end Go.Q.Yi
end
section
/- How it begins. -/
namespace Go.Q.Yi
open Rf
def st0 (n i:Int):RS:=RS.start i n 0 0 ⟨0,0,[]⟩ []
def ss0:SS:=⟨0,0,⟨0,0,[]⟩,[]⟩
section
variable [QC] {n m:Int} {O O' X:bz} {h h':Heap} {M:MLy} {i:Int}
/-- the first m members are made -/
structure BP (n m:Int) (O:bz) (h:Heap) (M:MLy):Prop where
 w:Blk h M.w (wcs M) 56
 e:M.lt=⟨none,0,0⟩/\M.kn=⟨none,0,0⟩/\M.ld=⟨none,0,0⟩
 mm:Row 0 h 60 2 M.m ((mbs m M).flatMap ax.cs)
 r:∀ i,In m i->aC O h (M.rs i) (st0 n i)
 rd:∀ i j,In m i->In m j->i≠j->∀ g,own (M.rs i) g->¬ own (M.rs j) g
 s:∀ i,In m i->oI O h (M.ss i) ss0
 sd:∀ i j,In m i->In m j->i≠j->∀ g,pQ (M.ss i) g->¬ pQ (M.ss j) g
 ow:O M.w/\∀ g,M.m.blk=some g->O g
 ob:∀ g,O g->g < h.size
 im:Imm O h QC.Q
theorem BP.step {h0 h1:Heap} {L':RLy} {sb lb:Nat} {k:KP (Option Addr)} {I:KP Int} {μ:Int->Heap->Nat} (P:BP n m O h0 M) (m0:0<=m/\m<=32) (X:Ext h0.size h0 h1)
  (R':aC (fun g=>O g∨own L' g∨g=lb∨g=sb) h1 L' (st0 n m)) (fr:∀ g,own L' g->h0.size<=g) (K1:Blk h1 lb (aH.cs ⟨0,0,⟨none,0,0⟩⟩) 75) (l0:h0.size<=lb) (K2:Blk h1 sb (aD.cs ⟨0,0,some ⟨lb,0,none⟩,⟨none,0,0⟩⟩) 73) (s0:h0.size<=sb)
  (H:∀ O' h' M',BP n (m + 1) O' h' M'->M'.w=M.w->I (m + 1) h'/\μ (m + 1) h' < μ m h) :
  ∃ (b14:Nat) (h15:Heap),b14=h1.size/\h15=h1.push (.cells ((ax.cs (⟨some ⟨L'.b,0,none⟩,(some (⟨sb,0,none⟩:Addr))⟩:ax))).toArray 60)/\(af h15 ⟨M.w,0,none⟩=some (Slc.v M.m)/\(App 60 2 16 [.pointer none,.pointer none] h15 M.m 1 ((ax.cs (⟨some ⟨L'.b,0,none⟩,(some (⟨sb,0,none⟩:Addr))⟩:ax))) (fun s17 h18=>∃ h19:Heap,WrH h18 ⟨M.w,0,none⟩/\h19=setH h18 ⟨M.w,0,none⟩ (Slc.v s17)/\(kY n ⟨M.w,0,none⟩ m k (fun s h'=>I s h'/\μ s h' < μ m h) h19)))):=by
 have X2:=Ext.push h1 (.cells ((ax.cs (⟨some ⟨L'.b,0,none⟩,(some (⟨sb,0,none⟩:Addr))⟩:ax))).toArray 60) (Nat.le_refl _)
 refine ⟨_,_,rfl,rfl,?_⟩
 have z:=X.size
 have z2:=X2.size
 have X02:=X.trans (X2.mono z)
 have R2:=R'.ext X2
 have K1':=K1.ext X2 K1.lt
 have K2':=K2.ext X2 K2.lt
 generalize h1.push (.cells ((ax.cs (⟨some ⟨L'.b,0,none⟩,(some (⟨sb,0,none⟩:Addr))⟩:ax))).toArray 60)=h2 at *
 have W2:=P.w.ext X02 P.w.lt
 have Mr:=P.mm.ext X02 fun g hg=>(P.mm.bd hg).2
 have ml:M.m.len=m.toNat:=by
  have:=P.mm.1
  have e:((mbs m M).flatMap ax.cs).length=(mbs m M).length * 2:=rW (w:=2) (fun _=>rfl) _
  have e2:(mbs m M).length=m.toNat:=by simp [mbs]
  omega
 refine ⟨by rw [W2.cell]; rfl,?_⟩
 refine App.BR Mr (Nat.zero_le _) rfl rfl (uu (by kernel_rfl)) (by omega) (by simp only [maxLen]; omega) fun s h3 R3 l3 z3 o3 b3 _=>?_
 have S3:Stp (fun g=>M.m.blk=some g) h2 h3:=⟨z3,fun g hg hn=>o3 g hg hn⟩
 have sbk:∀ g,s.blk=some g->M.m.blk=some g∨h2.size<=g:=fun g hg=>by
  rcases b3 with ⟨b3,_⟩ | b3
  ·exact .inl (by rw [← b3]; exact hg)
  ·rw [b3] at hg; cases hg; exact .inr (Nat.le_refl _)
 have W3:=S3.blk W2 fun e=>Mr.aZ W2 (by decide) e
 obtain ⟨w4,f4⟩:=W3.put (i:=0) (v:=Slc.v s) (by show 0 < 5; omega)
 rw [show (⟨M.w,0,none⟩:Addr).add 0=⟨M.w,0,none⟩ from rfl] at w4 f4
 refine ⟨_,w4,rfl,?_⟩
 obtain ⟨W4,U4⟩:=f4 _ rfl
 generalize setH h3 (⟨M.w,0,none⟩:Addr) (Slc.v s)=h4 at *
 have S4:Stp (fun g=>g=M.w) h3 h4:=.dQ U4 (.inl rfl)
 have P2:Stp (fun g=>M.m.blk=some g∨g=M.w) h2 h4:=(S3.mono fun g hg=>.inl (.inl hg)).trans S4 fun g hg=>.inl (.inr hg)
 have P0:Stp (fun g=>M.m.blk=some g∨g=M.w) h0 h4:=(Stp.bu (O:=fun g=>M.m.blk=some g∨g=M.w) X02).trans' P2
 have PO:∀ g,(M.m.blk=some g∨g=M.w)->O g:=fun g hg=>hg.elim (P.ow.2 g) fun e=>by subst e; exact P.ow.1
 obtain ⟨O4,eO⟩:∃ O4:bz,O4=fun g=>O g∨own L' g∨g=lb∨g=sb∨s.blk=some g:=⟨_,rfl⟩
 have hO0:∀ g,O4 g->O g∨h0.size<=g:=fun g hg=>by
  rw [eO] at hg
  rcases hg with hg | hg | rfl | rfl | hg
  ·exact .inl hg
  ·exact .inr (fr g hg)
  ·exact .inr l0
  ·exact .inr s0
  ·exact (sbk g hg).elim (fun q=>.inl (P.ow.2 g q)) fun q=>.inr (by omega)
 have w0:∀ g,O g->O4 g:=fun g hg=>by rw [eO]; exact .inl hg
 have r4:∀ g,own L' g->O4 g:=fun g hg=>by rw [eO]; exact .inr (.inl hg)
 have ob4:∀ g,O4 g->g < h4.size:=fun g hg=>by
  have:=P2.size
  rw [eO] at hg
  rcases hg with hg | hg | rfl | rfl | hg
  ·have:=P.ob g hg; omega
  ·have:=R2.ob' hg; omega
  ·have:=K1'.lt; omega
  ·have:=K2'.lt; omega
  ·have:=(R3.bd hg).2; have:=U4.size; omega
 have lo:∀ g,(M.m.blk=some g∨g=M.w)->g < h0.size:=fun g hg=>P.ob g (PO g hg)
 unfold kY
 refine ⟨_,rfl,?_⟩
 rw [az (by omega) (by omega)]
 refine H O4 h4 { M with m:=s,rs:=fun k=>if k=m then L' else M.rs k,ss:=fun k=>if k=m then ⟨sb,lb,⟨none,0,0⟩,⟨none,0,0⟩⟩ else M.ss k } ⟨W4,P.e,?_,fun j hj=>?_,fun j k hj hk hn g g1 g2=>?_,fun j hj=>?_,fun j k hj hk hn g g1 g2=>?_,⟨w0 _ P.ow.1,fun g hg=>by rw [eO]; exact .inr (.inr (.inr (.inr hg)))⟩,ob4,P.im.step (P0.mono fun g hg=>.inl (PO g hg)) hO0⟩ rfl
 ·have e:mbs (m + 1) { M with m:=s,rs:=fun k=>if k=m then L' else M.rs k,ss:=fun k=>if k=m then ⟨sb,lb,⟨none,0,0⟩,⟨none,0,0⟩⟩ else M.ss k } = mbs m M ++ [⟨some ⟨L'.b,0,none⟩,some ⟨sb,0,none⟩⟩]:=by
   unfold mbs
   rw [show (m + 1).toNat=m.toNat + 1 from by omega,List.range_succ,List.map_append]
   congr 1
   ·refine List.map_congr_left fun j hj=>?_
    have:=List.mem_range.1 hj
    dsimp only
    rw [if_neg (by omega),if_neg (by omega)]
   ·simp only [List.map_cons,List.map_nil]
    rw [if_pos (by omega),if_pos (by omega)]
  rw [e,List.flatMap_append]
  have:=S4.row R3 fun g hg e=>by subst e; exact R3.aZ W3 (by decide) hg
  simpa using this
 ·dsimp only
  by_cases c:j=m
  ·rw [if_pos c,c]
   exact R2.move P2 (fun g hg=>.inl (.inl (PO g hg))) (fun g h1 h2=>by have:=fr g h1; have:=lo g h2; omega) (fun g hg=>by
    rw [eO] at hg
    rcases hg with hg | hg | hg | hg | hg
    ·exact .inl (.inl hg)
    ·exact .inl (.inr (.inl hg))
    ·exact .inl (.inr (.inr (.inl hg)))
    ·exact .inl (.inr (.inr (.inr hg)))
    ·exact (sbk g hg).elim (fun q=>.inl (.inl (P.ow.2 g q))) .inr) r4 ob4
  ·rw [if_neg c]
   have hj':In m j:=⟨hj.1,by have:=hj.2; omega⟩
   refine (P.r j hj').move P0 (fun g hg=>.inl (PO g hg)) (fun g h1 h2=>?_) hO0 (fun g hg=>w0 g ((P.r j hj').ow g hg)) ob4
   rcases h2 with h2 | rfl
   ·obtain ⟨cs,K⟩:=P.mm.Cw h2
    exact (P.r j hj').nH K (by decide) h1
   ·exact (P.r j hj').nH P.w (by decide) h1
 ·dsimp only at g1 g2
  by_cases c:j=m
  ·rw [if_pos c] at g1
   rw [if_neg (fun e=>hn (c.trans e.symm))] at g2
   have hk':In m k:=⟨hk.1,by have:=hk.2; omega⟩
   have:=fr g g1; have:=(P.r k hk').ob' g2; omega
  ·rw [if_neg c] at g1
   have hj':In m j:=⟨hj.1,by have:=hj.2; omega⟩
   by_cases ck:k=m
   ·rw [if_pos ck] at g2
    have:=fr g g2; have:=(P.r j hj').ob' g1; omega
   ·rw [if_neg ck] at g2
    exact P.rd j k hj' ⟨hk.1,by have:=hk.2; omega⟩ hn g g1 g2
 ·dsimp only
  have nil:Imm O4 h4 fun h=>SlcAt h ⟨none,0,0⟩ (b8 []):=fun h' _=>pJ h'
  by_cases c:j=m
  ·rw [if_pos c]
   have q1:∀ {g cs E},Blk h2 g cs E->h0.size<=g->Blk h4 g cs E:=fun {g cs E} K hg=>P2.blk K fun e=>by have:=lo g e; omega
   exact ⟨q1 K2' s0,⟨q1 K1' l0,⟨[],rfl,Nat.le_refl _,fun h' _=>⟨⟨fun _=>rfl,fun a ha=>by cases ha⟩,Each.nil _⟩⟩,⟨Int.le_refl _,by show (0:Int)<=_; omega⟩,by show 0<=1000; omega,by rw [eO]; exact .inr (.inr (.inl rfl))⟩,nil,rfl,by rw [eO]; exact .inr (.inr (.inr (.inl rfl)))⟩
  ·rw [if_neg c]
   have hj':In m j:=⟨hj.1,by have:=hj.2; omega⟩
   have Sj:=P.s j hj'
   refine Sj.move P0 (fun g hg=>.inl (PO g hg)) (fun g h1 h2=>?_) hO0 fun g hg=>w0 g (hg.elim (fun e=>by subst e; exact Sj.ob) fun e=>by subst e; exact Sj.l.ob)
   obtain ⟨cs,E,K,hE⟩:=vR Sj h1
   rcases h2 with h2 | rfl
   ·refine P.mm.aZ K ?_ h2
    rcases hE with rfl | rfl <;> decide
   ·have:=(K.inj P.w).2
    rcases hE with rfl | rfl <;> exact absurd this (by decide)
 ·dsimp only at g1 g2
  have up:∀ g,pQ ⟨sb,lb,⟨none,0,0⟩,⟨none,0,0⟩⟩ g->h0.size<=g:=fun g hg=>hg.elim (fun e=>by rw [e]; exact s0) fun e=>by rw [e]; exact l0
  have dn:∀ j,In m j->∀ g,pQ (M.ss j) g->g < h0.size:=fun j hj g hg=>P.ob g (hg.elim (fun e=>by subst e; exact (P.s j hj).ob) fun e=>by subst e; exact (P.s j hj).l.ob)
  by_cases c:j=m
  ·rw [if_pos c] at g1
   rw [if_neg (fun e=>hn (c.trans e.symm))] at g2
   have:=up g g1; have:=dn k ⟨hk.1,by have:=hk.2; omega⟩ g g2; omega
  ·rw [if_neg c] at g1
   have hj':In m j:=⟨hj.1,by have:=hj.2; omega⟩
   by_cases ck:k=m
   ·rw [if_pos ck] at g2
    have:=up g g2; have:=dn j hj' g g1; omega
   ·rw [if_neg ck] at g2
    exact P.sd j k hj' ⟨hk.1,by have:=hk.2; omega⟩ hn g g1 g2
end
end Go.Q.Yi
end
section
/- How it begins: the members, one by one. -/
namespace Go.Q.Yi
open Rf
section
variable [QC]
theorem Gc {n:Int} {k:KP (Option Addr)} {h:Heap} (n1:1<=n/\n<=32) (im:∀ h',Ext h.size h h'->QC.Q h') (H:∀ O h' M,Sx n 0 0 O h' M (fun i=>st0 n i) (fun _=>ss0) [] [] []->k (some ⟨M.w,0,none⟩) h'):rQ n k h:=by
 unfold rQ
 refine ⟨_,_,rfl,rfl,?_⟩
 have X:=Ext.push h (.cells (bJ.cs ⟨⟨none,0,0⟩,⟨none,0,0⟩,⟨none,0,0⟩,⟨none,0,0⟩,false⟩).toArray 56) (Nat.le_refl _)
 have K:=Blk.push h (bJ.cs ⟨⟨none,0,0⟩,⟨none,0,0⟩,⟨none,0,0⟩,⟨none,0,0⟩,false⟩) 56
 have im2:Imm (fun g=>g=h.size) (h.push (.cells (bJ.cs ⟨⟨none,0,0⟩,⟨none,0,0⟩,⟨none,0,0⟩,⟨none,0,0⟩,false⟩).toArray 56)) QC.Q:=Imm.La im X fun g hg=>by subst hg; exact Nat.le_refl _
 obtain ⟨w,ew⟩:∃ w,w=h.size:=⟨_,rfl⟩
 rw [← ew] at K im2 ⊢
 generalize h.push (.cells (bJ.cs ⟨⟨none,0,0⟩,⟨none,0,0⟩,⟨none,0,0⟩,⟨none,0,0⟩,false⟩).toArray 56)=h2 at *
 unfold uF
 have L0:RLy:=⟨0,0,⟨none,0,0⟩,⟨none,0,0⟩,⟨none,0,0⟩,⟨none,0,0⟩,⟨none,0,0⟩,none⟩
 refine ⟨fun m h'=>(0<=m/\m<=n)/\∃ O M,BP n m O h' M/\M.w=w,fun m _=>(100 - m).toNat,⟨by omega,fun g=>g=w,⟨w,⟨none,0,0⟩,⟨none,0,0⟩,⟨none,0,0⟩,⟨none,0,0⟩,fun _=>L0,fun _=>⟨0,0,⟨none,0,0⟩,⟨none,0,0⟩⟩⟩,⟨K,⟨rfl,rfl,rfl⟩,Row.nil _ _ _ _,fun i hi=>by have:=hi.1; have:=hi.2; omega,fun i j hi=>by have:=hi.1; have:=hi.2; omega,fun i hi=>by have:=hi.1; have:=hi.2; omega,fun i j hi=>by have:=hi.1; have:=hi.2; omega,⟨rfl,fun g hg=>by simp [Slc.blk] at hg⟩,fun g hg=>by subst hg; exact K.lt,im2⟩,rfl⟩,?_⟩
 rintro m h3 ⟨⟨m0,m1⟩,O,M,P,rfl⟩
 unfold tY
 by_cases hm:m < n
 ·rw [if_pos (by simpa using hm)]
  have c0:af h3 ⟨M.w,0,none⟩=some (Slc.v M.m):=P.w.cell
  have cx:∀ {h':Heap},Ext h3.size h3 h'->af h' ⟨M.w,0,none⟩=some (Slc.v M.m):=fun X=>(P.w.ext X P.w.lt).cell
  have next:∀ O' h' M',BP n (m + 1) O' h' M'->M'.w=M.w->((0<=m + 1/\m + 1<=n)/\∃ O M_1,BP n (m + 1) O h' M_1/\M_1.w=M.w)/\(100 - (m + 1)).toNat < (100 - m).toNat:=fun O' h' M' P' e=>⟨⟨by omega,O',M',P',e⟩,by omega⟩
  have new:∀ {h':Heap} {kk:KP (Option Addr)},(∀ L h'',(∀ X:bz,(∀ g,X g->g < h'.size)->aC (fun g=>X g∨own L g) h'' L (st0 n m))->(∀ g,own L g->h'.size<=g)->Ext h'.size h' h''->kk (some ⟨L.b,0,none⟩) h'')->oL m n 0 0 none ⟨none,0,0⟩ kk h':=fun {h' kk} q=>vD (l:=⟨0,0,[]⟩) (aQ:=[]) n1 ⟨m0,hm⟩ (by omega) (by omega) (.inl ⟨rfl,rfl⟩) (pJ h') rfl vX (by simp) q
  refine ⟨M.m,c0,?_,?_⟩
  ·-- the member first
   refine new fun L' h4 RA fr X4=>?_
   have R4:=RA O P.ob
   refine ⟨cx X4,_,_,rfl,rfl,?_⟩
   have X5:=Ext.push h4 (.cells (aH.cs ⟨0,0,⟨none,0,0⟩⟩).toArray 75) (Nat.le_refl _)
   have K5:=Blk.push h4 (aH.cs ⟨0,0,⟨none,0,0⟩⟩) 75
   have z4:=X4.size
   generalize hh5:h4.push (.cells (aH.cs ⟨0,0,⟨none,0,0⟩⟩).toArray 75)=h5 at *
   have s5:h5.size=h4.size + 1:=by rw [← hh5]; simp
   obtain ⟨lb,elb⟩:∃ c,c=h4.size:=⟨_,rfl⟩
   rw [← elb] at K5 ⊢
   refine ⟨cx (X4.trans (X5.mono z4)),_,_,rfl,rfl,?_⟩
   have X6:=Ext.push h5 (.cells (aD.cs ⟨0,0,some ⟨lb,0,none⟩,⟨none,0,0⟩⟩).toArray 73) (Nat.le_refl _)
   have K6:=Blk.push h5 (aD.cs ⟨0,0,some ⟨lb,0,none⟩,⟨none,0,0⟩⟩) 73
   generalize hh6:h5.push (.cells (aD.cs ⟨0,0,some ⟨lb,0,none⟩,⟨none,0,0⟩⟩).toArray 73)=h6 at *
   have s6:h6.size=h5.size + 1:=by rw [← hh6]; simp
   obtain ⟨sb,esb⟩:∃ c,c=h5.size:=⟨_,rfl⟩
   rw [← esb] at K6 ⊢
   have X46:Ext h4.size h4 h6:=X5.trans (X6.mono (by omega))
   have X36:=X4.trans (X46.mono z4)
   refine ⟨cx X36,?_⟩
   refine BP.step (h:=h3) P (by omega) X36 (R4.move (S:=fun _=>False) (.bu X46) (fun _ h=>h.elim) (fun _ _ h=>h) (fun g hg=>?_) (fun g hg=>.inr (.inl hg)) (fun g hg=>?_)) fr (K5.ext X6 K5.lt) (by omega) K6 (by omega) next
   ·rcases hg with hg | hg | hg | hg
    ·exact .inl (.inl hg)
    ·exact .inl (.inr hg)
    ·exact .inr (by omega)
    ·exact .inr (by omega)
   ·rcases hg with hg | hg | hg | hg
    ·have:=P.ob g hg; omega
    ·have:=R4.ob' hg; omega
    ·omega
    ·omega
  ·refine ⟨_,_,rfl,rfl,?_⟩
   have X5:=Ext.push h3 (.cells (aH.cs ⟨0,0,⟨none,0,0⟩⟩).toArray 75) (Nat.le_refl _)
   have K5:=Blk.push h3 (aH.cs ⟨0,0,⟨none,0,0⟩⟩) 75
   generalize hh5:h3.push (.cells (aH.cs ⟨0,0,⟨none,0,0⟩⟩).toArray 75)=h5 at *
   have s5:h5.size=h3.size + 1:=by rw [← hh5]; simp
   obtain ⟨lb,elb⟩:∃ c,c=h3.size:=⟨_,rfl⟩
   rw [← elb] at K5 ⊢
   refine ⟨cx X5,?_,?_⟩
   ·-- the log, the member
    refine new fun L' h4 RA fr X4=>?_
    have z4:=X4.size
    have R4:=RA (fun g=>O g∨g=lb) fun g hg=>hg.elim (fun q=>by have:=P.ob g q; omega) fun e=>by omega
    refine ⟨cx (X5.trans (X4.mono (by omega))),_,_,rfl,rfl,?_⟩
    have X6:=Ext.push h4 (.cells (aD.cs ⟨0,0,some ⟨lb,0,none⟩,⟨none,0,0⟩⟩).toArray 73) (Nat.le_refl _)
    have K6:=Blk.push h4 (aD.cs ⟨0,0,some ⟨lb,0,none⟩,⟨none,0,0⟩⟩) 73
    generalize hh6:h4.push (.cells (aD.cs ⟨0,0,some ⟨lb,0,none⟩,⟨none,0,0⟩⟩).toArray 73)=h6 at *
    have s6:h6.size=h4.size + 1:=by rw [← hh6]; simp
    obtain ⟨sb,esb⟩:∃ c,c=h4.size:=⟨_,rfl⟩
    rw [← esb] at K6 ⊢
    have X36:=X5.trans ((X4.trans (X6.mono z4)).mono (by omega))
    refine ⟨cx X36,?_⟩
    refine BP.step (h:=h3) P (by omega) X36 (R4.move (S:=fun _=>False) (.bu X6) (fun _ h=>h.elim) (fun _ _ h=>h) (fun g hg=>?_) (fun g hg=>.inr (.inl hg)) (fun g hg=>?_)) (fun g hg=>by have:=fr g hg; omega) ((K5.ext X4 K5.lt).ext X6 (by have:=K5.lt; omega)) (by omega) K6 (by omega) next
    ·rcases hg with hg | hg | hg | hg
     ·exact .inl (.inl (.inl hg))
     ·exact .inl (.inr hg)
     ·exact .inl (.inl (.inr hg))
     ·exact .inr (by omega)
    ·rcases hg with hg | hg | hg | hg
     ·have:=P.ob g hg; omega
     ·have:=R4.ob' hg; omega
     ·omega
     ·omega
   ·-- the member last
    refine ⟨_,_,rfl,rfl,?_⟩
    have X6:=Ext.push h5 (.cells (aD.cs ⟨0,0,some ⟨lb,0,none⟩,⟨none,0,0⟩⟩).toArray 73) (Nat.le_refl _)
    have K6:=Blk.push h5 (aD.cs ⟨0,0,some ⟨lb,0,none⟩,⟨none,0,0⟩⟩) 73
    generalize hh6:h5.push (.cells (aD.cs ⟨0,0,some ⟨lb,0,none⟩,⟨none,0,0⟩⟩).toArray 73)=h6 at *
    have s6:h6.size=h5.size + 1:=by rw [← hh6]; simp
    obtain ⟨sb,esb⟩:∃ c,c=h5.size:=⟨_,rfl⟩
    rw [← esb] at K6 ⊢
    refine ⟨cx (X5.trans (X6.mono (by omega))),new fun L' h4 RA fr X4=>?_⟩
    have z4:=X4.size
    have R4:=RA (fun g=>O g∨g=lb∨g=sb) fun g hg=>hg.elim (fun q=>by have:=P.ob g q; omega) fun e=>e.elim (fun e=>by omega) fun e=>by omega
    have X36:=X5.trans ((X6.trans (X4.mono (by omega))).mono (by omega))
    refine ⟨cx X36,?_⟩
    refine BP.step (h:=h3) P (by omega) X36 (R4.move (S:=fun _=>False) (Stp.refl _ _) (fun _ h=>h.elim) (fun _ _ h=>h) (fun g hg=>?_) (fun g hg=>.inr (.inl hg)) (fun g hg=>?_)) (fun g hg=>by have:=fr g hg; omega) ((K5.ext X6 K5.lt).ext X4 (by have:=K5.lt; omega)) (by omega) (K6.ext X4 K6.lt) (by omega) next
    ·rcases hg with hg | hg | hg | hg
     ·exact .inl (.inl (.inl hg))
     ·exact .inl (.inr hg)
     ·exact .inl (.inl (.inr (.inl hg)))
     ·exact .inl (.inl (.inr (.inr hg)))
    ·rcases hg with hg | hg | hg | hg
     ·have:=P.ob g hg; omega
     ·have:=R4.ob' hg; omega
     ·omega
     ·omega
 ·rw [if_neg (by simpa using hm)]
  have en:m=n:=by omega
  subst en
  obtain ⟨e1,e2,e3⟩:=P.e
  refine H O h3 M ⟨⟨n1,P.w,P.mm,P.r,P.rd,P.s,P.sd,?_,?_,fun i _ g hg=>?_,?_,⟨P.ow.1,P.ow.2,fun g hg=>?_,fun g hg=>?_,fun g hg=>?_⟩,P.ob,P.im⟩,Wi.begin m,by simp,by simp,by simp,(fun x hx=>by cases hx),fun i hi hr=>absurd hr (by show ¬ (0:Int)=1; decide),fun i hi=>by show (0:Int)<=_; omega⟩
  ·rw [e1]; exact ⟨[],Row.nil _ _ _ _,rfl,by simp⟩
  ·rw [e2]; exact ⟨[],Row.nil _ _ _ _,rfl,by simp⟩
  ·rw [e2] at hg; simp [Slc.blk] at hg
  ·rw [e3]; exact Row.nil _ _ _ _
  ·rw [e1] at hg; simp [Slc.blk] at hg
  ·rw [e2] at hg; simp [Slc.blk] at hg
  ·rw [e3] at hg; simp [Slc.blk] at hg
end
end Go.Q.Yi
end

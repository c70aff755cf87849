/- A part of the proof of statements of this seat: lemmas, no statement of their own. -/
import Derived.Test.YthjafnfadiijgaaYiZat
set_option linter.unusedVariables false
set_option linter.unusedSimpArgs false
set_option maxRecDepth 100000
section
/- A member: what is put, who wins. -/
namespace Go.Q.Yi
open Rf
section
variable {O:bz} {h:Heap} {L:RLy} {r:RS}
theorem DR {s:Slc} {g:Nat} (hg:own { L with es:=s } g):own L g∨s.blk=some g:=by
 rcases hg with hg | hg | hg | hg | hg | hg | hg
 ·exact .inl (.inl hg)
 ·exact .inl (.inr (.inl hg))
 ·exact .inr hg
 ·exact .inl (.inr (.inr (.inr (.inl hg))))
 ·exact .inl (.inr (.inr (.inr (.inr (.inl hg)))))
 ·exact .inl (.inr (.inr (.inr (.inr (.inr (.inl hg))))))
 ·exact .inl (.inr (.inr (.inr (.inr (.inr (.inr hg))))))
/-- the log was turned -/
theorem EK {h':Heap} {s':Slc} {l':Lg} (R:aC O h L r) (A:dV (OB O s') h' L.lb s' l') (S:Stp (fun g=>g=L.lb∨L.es.blk=some g) h h') (F:∀ g,s'.blk=some g->L.es.blk=some g∨h.size<=g) :
  Res O h L { r with log:=l' } h' { L with es:=s' }:=by
 have P:=R.p
 have wf:=R.wf
 obtain ⟨vs,Re,_⟩:=P.l.r
 obtain ⟨ks,Kk,Ik⟩:=P.kp
 have olb:own L L.lb:=.inr (.inl rfl)
 have oes:∀ g,L.es.blk=some g->own L g:=fun g hg=>.inr (.inr (.inl hg))
 have ow:∀ g,own { L with es:=s' } g->own L g∨h.size<=g:=fun g hg=>(DR hg).elim .inl fun h1=>(F g h1).imp (oes g) id
 have hO:∀ g,G O { L with es:=s' } g->O g∨h.size<=g:=fun g hg=>hg.elim .inl fun h1=>(ow g h1).imp (R.ow g) id
 have So:Stp (own L) h h':=S.mono fun g hg=>.inl (hg.elim (fun e=>by rw [e]; exact olb) (oes g))
 have SO:Stp O h h':=So.mono fun g hg=>.inl (R.ow g hg)
 have z:=S.size
 have nS:∀ {b E:Nat} {cs:List Value},Blk h b cs E->E≠117->E≠65->¬ (b=L.lb∨L.es.blk=some b):=fun K e1 e2 hb=>hb.elim (fun e=>by subst e; exact e1 (K.inj P.l.k).2) fun e=>Re.aZ K (Ne.symm e2) e
 have nR:∀ {B E w:Nat} {s:Slc} {xs:List Value},Row B h E w s xs->E≠117->E≠65->∀ g,s.blk=some g->¬ (g=L.lb∨L.es.blk=some g):=fun Rw e1 e2 g hg=>by
  obtain ⟨cs,K⟩:=Rw.Cw hg
  exact nS K e1 e2
 refine ⟨⟨S.blk R.k (nS R.k (by decide) (by decide)),⟨A.sub (fun g hg=>.inl ?_) (.inr (.inr (.inl rfl))) fun g hg=>.inr (.inr (.inr (.inl hg))),P.sn.step SO hO,P.sl,S.row P.nx (nR P.nx (by decide) (by decide)),S.row P.hs (nR P.hs (by decide) (by decide)),P.dj,⟨ks,S.row Kk (nR Kk (by decide) (by decide)),Ik.step SO hO⟩,P.bl.old fun g hg=>S.block g (P.bl.lt g hg) ?_⟩,fun g hg=>.inr hg,fun g hg=>?_,?_⟩,So,ow,rfl⟩
 ·rcases hg with hg | hg
  ·exact .inl hg
  ·exact (DR hg).imp (R.ow g) id
 ·obtain ⟨cs,Kb⟩:=P.bl.blk g hg
  exact nS Kb (by decide) (by decide)
 ·rcases hg with hg | hg
  ·have:=R.ob g hg; omega
  ·rcases DR hg with hg | hg
   ·have:=R.ob' hg; omega
   ·obtain ⟨vs',Re',_⟩:=A.r
    exact (Re'.bd hg).2
 ·exact ⟨wf.n,wf.me,wf.tm,wf.vt,wf.cm,wf.tk,wf.ld,wf.nx,wf.hs,wf.bl,wf.sn,wf.kp⟩
theorem xy {l:Lg} {p t:Int} {more:List Ent}:0<=(l.append p t more).2.1/\(l.append p t more).2.1 < 18446744073709551616:=by
 unfold Lg.append
 split
 ·simp
 ·split
  ·simp
  ·exact xI _
theorem yY {l:Lg} {p t:Int} {more:List Ent} (h:(l.append p t more).2.2≠0):(l.append p t more).1=l:=by
 unfold Lg.append at h ⊢
 split
 ·rfl
 ·rename_i h1
  rw [if_neg h1] at h
  split
  ·rfl
  ·rename_i h2
   rw [if_neg h2] at h
   exact absurd rfl h
/-- an entry is put behind a member's own log -/
theorem y8 {p1:Slc} {cmd:List Int} {k:KP (Int × Int)} (R:aC O h L r) (hh:r.has.length=r.n.toNat) (hk:r.keeps.length < 1000000) (hs:SlcAt h p1 (b8 cmd)) (hl:p1.len=cmd.length) (hB:isB cmd) (hz:cmd.length<=1099511627776)
  (H:∀ h' L',Res O h L (r.put cmd).1 h' L'->k (r.put cmd).2 h'):nQ (some ⟨L.b,0,none⟩) p1 k h:=by
 have wf:=R.wf
 have nb:=wf.n
 have mb:=wf.me
 have ob:=R.ob
 unfold nQ
 refine ⟨_,rfl,_,R.c 4,sZ R.p.l ⟨_,R.c 2,sG hl hs (by omega) fun s1 h1 R1 X1=>?_⟩⟩
 have z1:=X1.size
 have M1:=R.ext X1
 refine ⟨M1.c 2,_,_,rfl,rfl,?_⟩
 have X2:=Ext.push h1 (.cells (ae.cs ⟨r.term,s1⟩).toArray 65) (Nat.le_refl _)
 have M2:=M1.ext X2
 have Rw2:=Row.rz (E:=65) (w:=2) h1 (ae.cs ⟨r.term,s1⟩) 1 rfl (by decide)
 have R2:=R1.ext X2 fun g hg=>(R1.bd hg).2
 have F2:nD h.size (h1.push (.cells (ae.cs ⟨r.term,s1⟩).toArray 65)) ⟨some ⟨h1.size,0,none⟩,1,1⟩ [(r.term,cmd)] [⟨r.term,s1⟩]:=⟨Rw2.mono z1,rfl,fun i v e hv he=>by
  have:i=0:=by have:=(List.getElem?_eq_some_iff.1 hv).1; simp at this; omega
  rw [this] at hv he
  simp at hv he
  subst hv; subst he
  exact ⟨rfl,R2⟩⟩
 generalize h1.push (.cells (ae.cs ⟨r.term,s1⟩).toArray 65)=h2 at *
 obtain ⟨b9,e9⟩:∃ y,y=h1.size:=⟨_,rfl⟩
 rw [← e9] at F2 ⊢
 have z2:=X2.size
 have X02:Ext h.size h h2:=X1.trans (X2.mono z1)
 have I2:=F2.imm ob
 have okE:qU [(r.term,cmd)]:=fun e he=>by simp at he; subst he; exact ⟨wf.tm,hB,hz⟩
 have lb:=R.p.l.Bg
 refine ⟨_,M2.c 4,AY M2.p.l (fun g hg=>by have:=ob g hg; omega) I2 okE lb.1 lb.2 (by simp) fun h3 s3 A3 S3 f3=>?_⟩
 have q3:=(EK M2 A3 S3 f3).pre X02 fun g hg=>R.ob' hg
 have I3:Imm (G O { L with es:=s3 }) h3 fun h=>dB h ⟨some ⟨b9,0,none⟩,1,1⟩ [(r.term,cmd)]:=(EK M2 A3 S3 f3).imm M2 I2
 have ab:=xy (l:=r.log) (p:=r.log.last) (t:=r.log.lastT) (more:=[(r.term,cmd)])
 unfold RS.put at H
 generalize hA:r.log.append r.log.last r.log.lastT [(r.term,cmd)]=A at *
 by_cases he:A.2.2=0
 ·rw [if_neg (by simpa using he)]
  rw [if_neg (by simpa using he)] at H
  have M3:=q3.R
  refine ⟨_,M3.c 13,_,_,rfl,rfl,?_⟩
  have X4:=Ext.push h3 (.cells (aj.cs ⟨2,r.log.lastT,0,r.log.last,⟨some ⟨b9,0,none⟩,1,1⟩,⟨none,0,0⟩⟩).toArray 107) (Nat.le_refl _)
  have q4:=q3.ext X4
  have I4:=I3.ext X4
  generalize h3.push (.cells (aj.cs ⟨2,r.log.lastT,0,r.log.last,⟨some ⟨b9,0,none⟩,1,1⟩,⟨none,0,0⟩⟩).toArray 107)=h4 at *
  refine uX (L:={ L with es:=s3 }) (r:={ r with log:=A.1 }) (x:=⟨2,r.log.lastT,0,r.log.last,[(r.term,cmd)],[]⟩) q4.R hk (I4.imp fun h' E=>⟨⟨rfl,rfl,rfl,rfl⟩,E,pJ h',rfl⟩) fun h5 L5 q5=>?_
  have q5':=q4.trans q5
  have M5:=q5'.R
  rw [show L.b=L5.b from q5.b.symm]
  obtain ⟨a,ha,i0,i1,w6,M6,S6⟩:=zn (v:=A.2.1) M5 mb.1 (by show r.me < r.has.length; omega) ab
  refine ⟨_,M5.c 12,_,M5.c0,a,ha,i0,i1,_,w6,rfl,?_⟩
  refine Ak M6 (by simp; exact hh) fun h7 M7 S7=>?_
  exact H h7 L5 (q5'.trans (Res.of M7 (S6.trans' S7)))
 ·rw [if_pos (by simpa using he)]
  rw [if_pos (by simpa using he)] at H
  have e1:A.1=r.log:=by rw [← hA]; exact yY (by rw [hA]; exact he)
  rw [e1] at q3
  exact H h3 _ q3
theorem Aw {L':RLy} {h2:Heap} {nx hs:List Int} (R:aC O h L r) (S:Stp (fun g=>g=L.b) h h2) (e:L' = { L with next:=L'.next,has:=L'.has,bal:=none })
  (K:Blk h2 L.b (rcs L' { r with role:=2,leader:=r.me,ticks:=0,ballot:=none,next:=nx,has:=hs }) 94) (N:Row h.size h2 22 1 L'.next (u8s nx)) (Hs:Row h.size h2 22 1 L'.has (u8s hs)) (dj:∀ g,L'.next.blk=some g->L'.has.blk=some g->False)
  (nl:nx.length=r.n.toNat/\hs.length=r.n.toNat) (nb:∀ x∈nx,0<=x/\x < 18446744073709551616) (hb:∀ x∈hs,0<=x/\x < 18446744073709551616) :
  Res O h L { r with role:=2,leader:=r.me,ticks:=0,ballot:=none,next:=nx,has:=hs } h2 L':=by
 have P:=R.p
 have wf:=R.wf
 have z:=S.size
 have ow:∀ g,own L' g->own L g∨h.size<=g:=fun g hg=>by
  rw [e] at hg
  rcases hg with hg | hg | hg | hg | hg | hg | hg
  ·exact .inl (.inl hg)
  ·exact .inl (.inr (.inl hg))
  ·exact .inl (.inr (.inr (.inl hg)))
  ·exact .inr (N.bd hg).1
  ·exact .inr (Hs.bd hg).1
  ·exact .inl (.inr (.inr (.inr (.inr (.inr (.inl hg))))))
  ·cases hg
 have hO:∀ g,G O L' g->O g∨h.size<=g:=fun g hg=>hg.elim .inl fun h1=>(ow g h1).imp (R.ow g) id
 obtain ⟨vs,Re,_⟩:=P.l.r
 obtain ⟨ks,Kk,Ik⟩:=P.kp
 have e1:L'.lb=L.lb:=by rw [e]
 have e2:L'.es=L.es:=by rw [e]
 have e3:L'.aQ=L.aQ:=by rw [e]
 have e4:L'.keeps=L.keeps:=by rw [e]
 have e5:L'.bal=none:=by rw [e]
 have e6:L'.b=L.b:=by rw [e]
 have SO:Stp O h h2:=S.mono fun g hg=>.inl (by rw [hg]; exact R.Ob)
 refine ⟨⟨by rw [e6]; exact K,⟨?_,by rw [e3]; exact P.sn.step SO hO,by rw [e3]; exact P.sl,N.mono (Nat.zero_le _),Hs.mono (Nat.zero_le _),dj,⟨ks,by rw [e4]; exact S.row Kk fun g hg e=>by subst e; exact Kk.aZ R.k (by decide) hg,Ik.step SO hO⟩,by rw [e5]; trivial⟩,fun g hg=>.inr hg,fun g hg=>?_,?_⟩,S.mono fun g hg=>.inl (.inl hg),ow,e6⟩
 ·rw [e1,e2]
  exact (P.l.sub hO (.inl (R.ow _ (.inr (.inl rfl)))) fun g hg=>.inl (R.ow _ (.inr (.inr (.inl hg))))).stp S (fun g hg=>.inl (.inl (by rw [hg]; exact R.Ob))) (fun e=>by have:=R.k; rw [← e] at this; have:=(this.inj P.l.k).2; revert this; decide) fun g hg e=>by subst e; exact Re.aZ R.k (by decide) hg
 ·rcases hg with hg | hg
  ·have:=R.ob g hg; omega
  ·rw [e] at hg
   rcases hg with hg | hg | hg | hg | hg | hg | hg
   ·have:=R.ob' (g:=g) (.inl hg); omega
   ·have:=R.ob' (g:=g) (.inr (.inl hg)); omega
   ·have:=R.ob' (g:=g) (.inr (.inr (.inl hg))); omega
   ·exact (N.bd hg).2
   ·exact (Hs.bd hg).2
   ·have:=R.ob' (g:=g) (.inr (.inr (.inr (.inr (.inr (.inl hg)))))); omega
   ·cases hg
 ·exact ⟨wf.n,wf.me,wf.tm,wf.vt,wf.cm,⟨Int.le_refl _,by show (0:Int)<=1000000000; omega⟩,fun _=>nl,nb,hb,(fun l e=>by cases e),wf.sn,wf.kp⟩
theorem vX:isB []:=fun b hb=>by cases hb
/-- it leads -/
theorem Aj {k:KP Slc} {h2:Heap} {L':RLy} (hk:r.keeps.length < 1000000) (q:Res O h L { r with role:=2,leader:=r.me,ticks:=0,ballot:=none,next:=List.replicate r.n.toNat (W (r.log.last + 1)),has:=List.replicate r.n.toNat 0 } h2 L')
  (H:∀ s h' L',Res O h L (r.lead.put []).1 h' L'->aP (G O L') h' s ((r.lead.put []).1.others (r.lead.put []).1.due)->(∀ g,s.blk=some g->h.size<=g)->k s h'):fB (some ⟨L'.b,0,none⟩) r.log.last k h2:=by
 have M:=q.R
 have wf:=M.wf
 have nb:1<=r.n/\r.n<=32:=wf.n
 have mb:0<=r.me/\r.me < r.n:=wf.me
 have lb:=M.p.l.Bg
 unfold fB
 obtain ⟨a,ha,i0,i1,w6,M6,S6⟩:=zn (v:=r.log.last) M mb.1 (by simp; omega) lb
 refine ⟨_,rfl,_,M.c 12,_,M.c0,a,ha,i0,i1,_,w6,rfl,?_⟩
 have q6:=q.trans (Res.of M6 S6)
 generalize setH h2 (a.add (r.me.toNat * 1)) (.int .u64 r.log.last)=h3 at *
 change Res O h L r.lead h3 L' at q6
 have M7:=q6.R
 refine y8 (cmd:=[]) M7 (by show (List.set _ _ _).length=_; simp [RS.lead]) hk (pJ h3) rfl vX (by decide) fun h8 L8 q8=>?_
 have q9:=q6.trans q8
 have z9:=q9.S.size
 have M9:=q9.R
 rw [← show L8.b=L'.b from q8.b]
 refine vB M9 (M9.wf.ld ?_).1 fun s h10 Ml X10 sb=>H s h10 L8 (q9.ext X10) Ml fun g hg=>by have:=sb g hg; omega
 have:∀ x:RS,x.settle.role=x.role:=fun x=>by unfold RS.settle; split <;> rfl
 show (r.lead.put []).1.role=2
 unfold RS.put
 split
 ·rfl
 ·rw [this]; rfl
theorem zN {k:KP Slc} (R:aC O h L r) (ha:r.role=1->∃ l,r.ballot=some l) (hk:r.keeps.length < 1000000)
  (H:∀ s h' L',Res O h L r.win.1 h' L'->aP (G O L') h' s r.win.2->(∀ g,s.blk=some g->h.size<=g)->k s h'):nP (some ⟨L.b,0,none⟩) k h:=by
 have wf:=R.wf
 have nb:=wf.n
 have lb:=R.p.l.Bg
 unfold RS.win at H
 have no:(r.role≠1∨r.won=false)->gP (some ⟨L.b,0,none⟩) true k h:=fun hn=>by
  unfold gP
  rw [if_pos rfl]
  rw [if_pos hn] at H
  exact H _ h L (Res.of R (Stp.refl _ _)) (aP.nil _ _) fun g hg=>by simp [Slc.blk] at hg
 unfold nP
 refine ⟨_,rfl,_,R.c 7,?_⟩
 by_cases hr:r.role=1
 ·rw [if_neg (by simpa using hr)]
  obtain ⟨l,el⟩:=ha hr
  obtain ⟨nd,lbd⟩:=wf.bl l el
  obtain ⟨y1,y2,_⟩:=BS (n:=r.n.toNat) (by omega) nd fun x hx=>by have:=lbd x hx; omega
  have B:=R.p.bl
  rw [el] at B
  obtain ⟨c,ec⟩:∃ c,L.bal=some c:=by
   cases hb:L.bal with
   | none=>rw [hb] at B; exact B.elim
   | some c=>exact ⟨c,rfl⟩
  rw [ec] at B
  have cc:=R.c 10
  refine ⟨_,cc,?_⟩
  have e10:L.bal.map (fun c=>(⟨c,0,none⟩:Addr))=some ⟨c,0,none⟩:=by rw [ec]; rfl
  rw [e10]
  refine LK (n:=r.n) (y:=bits l) B (by omega) nb.2 y1 ?_
  rw [y2]
  have ew:r.won=decide ((l.length:Int)>=r.n / 2 + 1):=by unfold RS.won; rw [el]
  rw [← ew]
  cases hw:r.won with
  | false=>exact no (.inr hw)
  | true =>
   rw [if_neg (by rw [hw]; simp [hr])] at H
   show gP _ false k h
   unfold gP
   rw [if_neg (by simp)]
   refine ⟨_,rfl,_,R.c 4,sZ R.p.l ?_⟩
   obtain ⟨w,f⟩:=R.k.put (i:=7) (v:=.int .i64 2) (by show 7 < 14; omega)
   refine ⟨_,R.c0,_,w,rfl,?_⟩
   obtain ⟨K2,U2⟩:=f _ rfl
   generalize setH h ((⟨L.b,0,none⟩:Addr).add 7) (.int .i64 2)=h2 at *
   obtain ⟨w,f⟩:=K2.put (i:=8) (v:=.int .i64 r.me) (by show 8 < 14; omega)
   refine ⟨_,w,rfl,?_⟩
   obtain ⟨K3,U3⟩:=f _ rfl
   generalize setH h2 ((⟨L.b,0,none⟩:Addr).add 8) (.int .i64 r.me)=h3 at *
   obtain ⟨w,f⟩:=K3.put (i:=9) (v:=.int .i64 0) (by show 9 < 14; omega)
   refine ⟨_,w,rfl,?_⟩
   obtain ⟨K4,U4⟩:=f _ rfl
   generalize setH h3 ((⟨L.b,0,none⟩:Addr).add 9) (.int .i64 0)=h4 at *
   obtain ⟨w,f⟩:=K4.put (i:=10) (v:=.pointer none) (by show 10 < 14; omega)
   refine ⟨_,w,rfl,?_⟩
   obtain ⟨K5,U5⟩:=f _ rfl
   generalize setH h4 ((⟨L.b,0,none⟩:Addr).add 10) (.pointer none)=h5 at *
   have U:=((U2.trans U3).trans U4).trans U5
   have S5:Stp (fun g=>g=L.b) h h5:=.dQ U (.inl rfl)
   have z5:=U.size
   have cn:∀ {h':Heap},Blk h' L.b (rcs { L with bal:=none } { r with role:=2,leader:=r.me,ticks:=0,ballot:=none }) 94->af h' ((⟨L.b,0,none⟩:Addr).add 1)=some (.int .i64 r.n):=fun K=>by rw [K.get]; rfl
   change Blk h5 L.b (rcs { L with bal:=none } { r with role:=2,leader:=r.me,ticks:=0,ballot:=none }) 94 at K5
   have eW:IntKind.u64.wrap (r.log.last + 1)=W (r.log.last + 1):=rfl
   have zr:∀ n:Int,lY [.int .u64 0] n.toNat=u8s (List.replicate n.toNat 0):=fun n=>by simp [lY,u8s]
   -- the end of each way
   have fin:∀ {h':Heap} {sn sh:Slc},Stp (fun g=>g=L.b) h h'->Blk h' L.b (rcs { L with bal:=none } { r with role:=2,leader:=r.me,ticks:=0,ballot:=none }) 94->Row h.size h' 22 1 sn (u8s (List.replicate r.n.toNat (W (r.log.last + 1))))->Row h.size h' 22 1 sh (u8s (List.replicate r.n.toNat 0))->(∀ g,sn.blk=some g->sh.blk=some g->False) ->
     ∃ h32:Heap,WrH h' ((⟨L.b,0,none⟩:Addr).add 11)/\h32=setH h' ((⟨L.b,0,none⟩:Addr).add 11) (Slc.v sn)/\(∃ h33:Heap,WrH h32 ((⟨L.b,0,none⟩:Addr).add 12)/\h33=setH h32 ((⟨L.b,0,none⟩:Addr).add 12) (Slc.v sh)/\(fB (some ⟨L.b,0,none⟩) r.log.last k h33)):=fun {h' sn sh} S K N Hs dj=>by
    obtain ⟨w,f⟩:=K.put (i:=11) (v:=Slc.v sn) (by show 11 < 14; omega)
    refine ⟨_,w,rfl,?_⟩
    obtain ⟨K6,U6⟩:=f _ rfl
    generalize setH h' ((⟨L.b,0,none⟩:Addr).add 11) (Slc.v sn)=h6 at *
    obtain ⟨w,f⟩:=K6.put (i:=12) (v:=Slc.v sh) (by show 12 < 14; omega)
    refine ⟨_,w,rfl,?_⟩
    obtain ⟨K7,U7⟩:=f _ rfl
    generalize setH h6 ((⟨L.b,0,none⟩:Addr).add 12) (Slc.v sh)=h7 at *
    have S7:Stp (fun g=>g=L.b) h' h7:=.dQ (U6.trans U7) (.inl rfl)
    have bl:=R.k.lt
    have q:Res O h L { r with role:=2,leader:=r.me,ticks:=0,ballot:=none,next:=List.replicate r.n.toNat (W (r.log.last + 1)),has:=List.replicate r.n.toNat 0 } h7 { L with next:=sn,has:=sh,bal:=none } :=
     Aw R (S.trans' S7) rfl K7 (S7.row N fun g hg e=>by have:=(N.bd hg).1; omega) (S7.row Hs fun g hg e=>by have:=(Hs.bd hg).1; omega) dj (by simp) (fun x hx=>by rw [List.eq_of_mem_replicate hx]; exact xI _) fun x hx=>by rw [List.eq_of_mem_replicate hx]; omega
    exact Aj (L':={ L with next:=sn,has:=sh,bal:=none }) hk q H
   refine ⟨_,cn K5,_,cn K5,⟨_,_,rfl,rfl,?_⟩,?_⟩
   ·have X6:=Ext.push h5 (.cells ([.int .u64 (IntKind.u64.wrap (r.log.last + 1))]:List Value).toArray 22) (Nat.le_refl _)
    have B6:=Blk.push h5 [.int .u64 (IntKind.u64.wrap (r.log.last + 1))] 22
    have K6:=K5.ext X6 K5.lt
    have S6:=S5.trans (Stp.bu (O:=fun _=>False) X6) fun _ h=>h.elim
    generalize h5.push (.cells ([.int .u64 (IntKind.u64.wrap (r.log.last + 1))]:List Value).toArray 22)=h6 at *
    have z6:=S6.size
    refine ⟨cn K6,cn K6,?_,?_⟩
    ·refine xH B6 (by omega) nb.2 fun s7 h7 R7 X7=>?_
     have K7:=K6.ext X7 K6.lt
     have S7:=S6.trans (Stp.bu (O:=fun _=>False) X7) fun _ h=>h.elim
     have z7:=X7.size
     refine ⟨cn K7,⟨_,_,by omega,Int.le_refl _,by omega,by omega,rfl,rfl,?_⟩,?_⟩
     ·have X8:=Ext.push h7 (.cells (lY [.int .u64 0] r.n.toNat).toArray 22) (Nat.le_refl _)
      have R8:=Row.rz (E:=22) (w:=1) h7 (lY [.int .u64 0] r.n.toNat) r.n.toNat (by simp [lY]) (by simp only [maxLen]; omega)
      rw [zr] at R8 X8 ⊢
      have Rn:=R7.ext X8 fun g hg=>(R7.bd hg).2
      refine fin (S7.trans (Stp.bu (O:=fun _=>False) X8) fun _ h=>h.elim) (K7.ext X8 K7.lt) (Rn.mono (by omega)) (R8.mono (by omega)) fun g h1 h2=>?_
      have:=(R7.bd h1).2; have:=(R8.bd h2).1; omega
     ·obtain ⟨w,f⟩:=K7.put (i:=11) (v:=Slc.v s7) (by show 11 < 14; omega)
      refine ⟨_,w,rfl,?_⟩
      obtain ⟨K8,U8⟩:=f _ rfl
      have S8:Stp (fun g=>g=L.b) h7 (setH h7 ((⟨L.b,0,none⟩:Addr).add 11) (Slc.v s7)):=.dQ U8 (.inl rfl)
      have bl:=R.k.lt
      have Rn8:=S8.row R7 fun g hg e=>by have:=(R7.bd hg).1; omega
      generalize setH h7 ((⟨L.b,0,none⟩:Addr).add 11) (Slc.v s7)=h8 at *
      have z8:=S8.size
      refine ⟨_,_,by omega,Int.le_refl _,by omega,by omega,rfl,rfl,?_⟩
      have X9:=Ext.push h8 (.cells (lY [.int .u64 0] r.n.toNat).toArray 22) (Nat.le_refl _)
      have R9:=Row.rz (E:=22) (w:=1) h8 (lY [.int .u64 0] r.n.toNat) r.n.toNat (by simp [lY]) (by simp only [maxLen]; omega)
      rw [zr] at R9 X9 ⊢
      have Rn9:=Rn8.ext X9 fun g hg=>(Rn8.bd hg).2
      have K9:=K8.ext X9 K8.lt
      generalize h8.push (.cells (u8s (List.replicate r.n.toNat 0)).toArray 22)=h9 at *
      obtain ⟨w,f⟩:=K9.put (i:=12) (v:=Slc.v ⟨some ⟨h8.size,0,none⟩,r.n.toNat,r.n.toNat⟩) (by show 12 < 14; omega)
      refine ⟨_,w,rfl,?_⟩
      obtain ⟨K10,U10⟩:=f _ rfl
      have S10:Stp (fun g=>g=L.b) h9 (setH h9 ((⟨L.b,0,none⟩:Addr).add 12) (Slc.v ⟨some ⟨h8.size,0,none⟩,r.n.toNat,r.n.toNat⟩)):=.dQ U10 (.inl rfl)
      generalize setH h9 ((⟨L.b,0,none⟩:Addr).add 12) (Slc.v ⟨some ⟨h8.size,0,none⟩,r.n.toNat,r.n.toNat⟩)=h10 at *
      have z9:=X9.size
      have q:Res O h L { r with role:=2,leader:=r.me,ticks:=0,ballot:=none,next:=List.replicate r.n.toNat (W (r.log.last + 1)),has:=List.replicate r.n.toNat 0 } h10 { L with next:=s7,has:=⟨some ⟨h8.size,0,none⟩,r.n.toNat,r.n.toNat⟩,bal:=none } :=
       Aw R (((S7.trans' S8).trans (Stp.bu (O:=fun _=>False) X9) fun _ h=>h.elim).trans' S10) rfl K10 ((S10.row Rn9 fun g hg e=>by have:=(Rn9.bd hg).1; omega).mono (by omega)) ((S10.row R9 fun g hg e=>by have:=(R9.bd hg).1; omega).mono (by omega)) (fun g h1 h2=>by have:=(Rn8.bd h1).2; have:=(R9.bd h2).1; omega) (by simp) (fun x hx=>by rw [List.eq_of_mem_replicate hx]; exact xI _) fun x hx=>by rw [List.eq_of_mem_replicate hx]; omega
      exact Aj (L':={ L with next:=s7,has:=⟨some ⟨h8.size,0,none⟩,r.n.toNat,r.n.toNat⟩,bal:=none }) hk q H
    ·refine ⟨_,_,by omega,Int.le_refl _,by omega,by omega,rfl,rfl,?_⟩
     have X7:=Ext.push h6 (.cells (lY [.int .u64 0] r.n.toNat).toArray 22) (Nat.le_refl _)
     have R7:=Row.rz (E:=22) (w:=1) h6 (lY [.int .u64 0] r.n.toNat) r.n.toNat (by simp [lY]) (by simp only [maxLen]; omega)
     rw [zr] at R7 X7 ⊢
     have K7:=K6.ext X7 K6.lt
     have S7:=S6.trans (Stp.bu (O:=fun _=>False) X7) fun _ h=>h.elim
     have B7:=B6.ext X7 B6.lt
     generalize h6.push (.cells (u8s (List.replicate r.n.toNat 0)).toArray 22)=h7 at *
     have z7:=X7.size
     refine ⟨cn K7,xH B7 (by omega) nb.2 fun s8 h8 R8 X8=>?_⟩
     refine fin (S7.trans (Stp.bu (O:=fun _=>False) X8) fun _ h=>h.elim) (K7.ext X8 K7.lt) (R8.mono (by omega)) ((R7.ext X8 fun g hg=>(R7.bd hg).2).mono (by omega)) fun g h1 h2=>?_
     have:=(R8.bd h1).1; have:=(R7.bd h2).2; omega
   ·refine ⟨_,_,by omega,Int.le_refl _,by omega,by omega,rfl,rfl,?_⟩
    have X6:=Ext.push h5 (.cells (lY [.int .u64 0] r.n.toNat).toArray 22) (Nat.le_refl _)
    have R6:=Row.rz (E:=22) (w:=1) h5 (lY [.int .u64 0] r.n.toNat) r.n.toNat (by simp [lY]) (by simp only [maxLen]; omega)
    rw [zr] at R6 X6 ⊢
    have K6:=K5.ext X6 K5.lt
    have S6:=S5.trans (Stp.bu (O:=fun _=>False) X6) fun _ h=>h.elim
    generalize h5.push (.cells (u8s (List.replicate r.n.toNat 0)).toArray 22)=h6 at *
    have z6:=S6.size
    refine ⟨cn K6,_,_,rfl,rfl,?_⟩
    have X7:=Ext.push h6 (.cells ([.int .u64 (IntKind.u64.wrap (r.log.last + 1))]:List Value).toArray 22) (Nat.le_refl _)
    have B7:=Blk.push h6 [.int .u64 (IntKind.u64.wrap (r.log.last + 1))] 22
    have K7:=K6.ext X7 K6.lt
    have S7:=S6.trans (Stp.bu (O:=fun _=>False) X7) fun _ h=>h.elim
    have R7:=R6.ext X7 fun g hg=>(R6.bd hg).2
    generalize h6.push (.cells ([.int .u64 (IntKind.u64.wrap (r.log.last + 1))]:List Value).toArray 22)=h7 at *
    have z7:=X7.size
    refine ⟨cn K7,xH B7 (by omega) nb.2 fun s8 h8 R8 X8=>?_⟩
    refine fin (S7.trans (Stp.bu (O:=fun _=>False) X8) fun _ h=>h.elim) (K7.ext X8 K7.lt) (R8.mono (by omega)) ((R7.ext X8 fun g hg=>(R7.bd hg).2).mono (by omega)) fun g h1 h2=>?_
    have:=(R8.bd h1).1; have:=(R7.bd h2).2; omega
 ·rw [if_pos (by simpa using hr)]
  exact no (.inl hr)
end
end Go.Q.Yi
end
section
/- A member: campaigns, ticks, votes. -/
namespace Go.Q.Yi
open Rf
section
variable {O O':bz} {h h':Heap} {L:RLy} {r:RS}
/-- new blocks may count as written -/
theorem aC.grow (R:aC O h L r) (X:Ext h.size h h') (h1:∀ g,O' g->O g∨(h.size<=g/\g < h'.size)) (h2:∀ g,O g->O' g):aC O' h' L r:=by
 have P:=R.p.sub (O':=O') (fun g hg=>(h1 g hg).imp id fun h=>h.1) (h2 _ (R.ow _ (.inr (.inl rfl)))) fun g hg=>h2 _ (R.ow _ (.inr (.inr (.inl hg))))
 exact ⟨R.k.ext X R.k.lt,P.stp (S:=fun _=>False) (.bu X) (fun _ h=>h.elim) (fun h=>h) (fun _ _ h=>h) (fun _ _ h=>h) (fun _ _ h=>h) (fun _ _ h=>h) (fun _ _ h=>h),fun g hg=>h2 g (R.ow g hg),fun g hg=>(h1 g hg).elim (fun h3=>Nat.lt_of_lt_of_le (R.ob g h3) X.size) fun h3=>h3.2,R.wf⟩
theorem LJ (ms:List aG):∀ v∈ms.flatMap aG.cs,v.oneCell'=true:=by
 intro x hx
 obtain ⟨v,_,hv⟩:=List.mem_flatMap.1 hx
 exact uu (l:=aG.cs v) (by simp [aG.cs,ah.cs,Value.oneCell']) x hv
theorem D7 {O1:bz} {s1 s2:Slc} {l1 l2:List gQ} {k:KP Slc} (M1:aP O h s1 l1) (M2:aP O1 h s2 l2) (hO:∀ g,O g->O1 g) (h1:∀ g,s1.blk=some g->O1 g) (ob:∀ g,O g->g < h.size) (z:l1.length + l2.length<=100000)
  (H:∀ s h',aP O h' s (l1 ++ l2)->Stp (fun g=>s1.blk=some g) h h'->(∀ g,s.blk=some g->s1.blk=some g∨h.size<=g)->k s h') :
  ∃ l70:List Value,SlcAt h s2 l70/\App 45 9 104 [.int .i64 0,.int .i64 0,.int .u64 0,.int .u64 0,.int .u64 0,.int .u64 0,.bool false,.slice none 0 0,.slice none 0 0] h s1 s2.len l70 (fun s68 h69=>k s68 h69):=by
 have e1:=M1.len
 have e2:=M2.len
 obtain ⟨m1,R1,n1,I1⟩:=M1.m
 obtain ⟨m2,R2,n2,I2⟩:=M2.m
 refine ⟨_,R2.slc,App.BR R1 (Nat.zero_le _) rfl (by rw [EB]; omega) (LJ m2) (by omega) (by simp only [maxLen]; omega) fun s h1' Ra l1' z1 o1 b1 _=>?_⟩
 have S1:Stp (fun g=>s1.blk=some g) h h1':=⟨z1,fun g hg hn=>o1 g hg hn⟩
 have sb:∀ g,s.blk=some g->s1.blk=some g∨h.size<=g:=fun g hg=>by
  rcases b1 with ⟨b1,_⟩ | b1
  ·exact .inl (by rw [← b1]; exact hg)
  ·rw [b1] at hg; cases hg; exact .inr (Nat.le_refl _)
 refine H s h1' ⟨⟨m1 ++ m2,by simpa using Ra,by simp [n1,n2],fun i m y hm hy=>?_⟩,fun g hg h2=>(sb g hg).elim (fun h=>M1.n g h h2) fun h3=>by have:=ob g h2; omega⟩ S1 sb
 rcases Nat.lt_or_ge i m1.length with hi | hi
 ·rw [List.getElem?_append_left hi] at hm
  rw [List.getElem?_append_left (by rw [← n1]; exact hi)] at hy
  refine ⟨(I1 i m y hm hy).1,(I1 i m y hm hy).2.step (S1.mono fun g hg=>.inl (.inr hg)) fun g hg=>?_⟩
  rcases hg with hg | hg
  ·exact .inl (.inl hg)
  ·exact (sb g hg).elim (fun h=>.inl (.inr h)) .inr
 ·rw [List.getElem?_append_right hi] at hm
  rw [List.getElem?_append_right (by rw [← n1]; exact hi),← n1] at hy
  refine ⟨(I2 _ m y hm hy).1,(I2 _ m y hm hy).2.step (S1.mono fun g hg=>.inl (.inl (h1 g hg))) fun g hg=>?_⟩
  rcases hg with hg | hg
  ·exact .inl (.inl (hO g hg))
  ·exact (sb g hg).elim (fun h=>.inl (.inl (h1 g h))) .inr
theorem tQ (r:RS) (f:Int->Msg):(r.others f).length<=r.n.toNat:=by
 unfold RS.others
 rw [List.length_map]
 exact uK r.me r.n.toNat
theorem EW:r.win.2.length<=r.n.toNat:=by
 have:∀ x:RS,x.settle.n=x.n:=fun x=>by unfold RS.settle; split <;> rfl
 unfold RS.win
 split
 ·simp
 ·refine Nat.le_trans (tQ _ _) (Nat.le_of_eq ?_)
  unfold RS.put
  split
  ·rfl
  ·rw [this]; rfl
theorem Fg {c:Option Nat} {g:Nat} (hg:own { L with bal:=c } g):own L g∨c=some g:=by
 rcases hg with hg | hg | hg | hg | hg | hg | hg
 ·exact .inl (.inl hg)
 ·exact .inl (.inr (.inl hg))
 ·exact .inl (.inr (.inr (.inl hg)))
 ·exact .inl (.inr (.inr (.inr (.inl hg))))
 ·exact .inl (.inr (.inr (.inr (.inr (.inl hg)))))
 ·exact .inl (.inr (.inr (.inr (.inr (.inr (.inl hg))))))
 ·exact .inr hg
/-- a ballot is put in place -/
theorem Hz {c:Nat} {l:List Int} {h1 h2:Heap} (R:aC O h L r) (X:Ext h.size h h1) (B:Blk h1 c (iZ.cs ⟨r.n,(bits l:Int)⟩) 123) (hc:h.size<=c) (K:Blk h2 L.b (rcs { L with bal:=some c } { r with ballot:=some l }) 94) (U:Upd L.b h1 h2) (hl:l.Nodup/\∀ x∈l,0<=x/\x < r.n) :
  Res O h L { r with ballot:=some l } h2 { L with bal:=some c }:=by
 have wf:=R.wf
 have K1:=R.k.ext X R.k.lt
 have z1:=X.size
 have z2:=U.size
 have ow:∀ g,own { L with bal:=some c } g->own L g∨h.size<=g:=fun g hg=>(Fg hg).imp id fun e=>by cases e; exact hc
 have hO:∀ g,G O { L with bal:=some c } g->O g∨h.size<=g:=fun g hg=>hg.elim .inl fun h1=>(ow g h1).imp (R.ow g) id
 have P1:=(R.p.sub hO (.inl (R.ow _ (.inr (.inl rfl)))) fun g hg=>.inl (R.ow _ (.inr (.inr (.inl hg))))).stp (S:=fun _=>False) (.bu X) (fun _ h=>h.elim) (fun h=>h) (fun _ _ h=>h) (fun _ _ h=>h) (fun _ _ h=>h) (fun _ _ h=>h) (fun _ _ h=>h)
 have P2:=P1.upd K1 U (.inl R.Ob) (by decide)
 have bl:=R.k.lt
 refine ⟨⟨K,⟨P2.l,P2.sn,P2.sl,P2.nx,P2.hs,P2.dj,P2.kp,B.old (U.block c B.lt (by omega))⟩,fun g hg=>.inr hg,fun g hg=>?_,⟨wf.n,wf.me,wf.tm,wf.vt,wf.cm,wf.tk,wf.ld,wf.nx,wf.hs,(fun l' e=>by cases e; exact hl),wf.sn,wf.kp⟩⟩,(Stp.bu (O:=own L) X).trans' (.dQ U (.inl (.inl rfl))),ow,rfl⟩
 rcases hg with hg | hg
 ·have:=R.ob g hg; omega
 ·rcases Fg hg with hg | hg
  ·have:=R.ob' hg; omega
  ·cases hg; have:=B.lt; omega
/-- the ballot's block is written -/
theorem JW {c:Nat} {l:List Int} (R:aC O h L r) (hb:L.bal=some c) (B:Blk h' c (iZ.cs ⟨r.n,(bits l:Int)⟩) 123) (U:Upd c h h') (hl:l.Nodup/\∀ x∈l,0<=x/\x < r.n):aC O h' L { r with ballot:=some l }/\Stp (own L) h h':=by
 have wf:=R.wf
 have P:=R.p
 obtain ⟨cs,Kb⟩:=P.bl.blk c hb
 obtain ⟨vs,Re,_⟩:=P.l.r
 obtain ⟨ks,Kk,Ik⟩:=P.kp
 have oc:own L c:=.inr (.inr (.inr (.inr (.inr (.inr hb)))))
 have S:Stp (fun g=>g=c) h h':=.dQ U (.inl rfl)
 have SO:Stp O h h':=S.mono fun g hg=>.inl (by rw [hg]; exact R.ow _ oc)
 have nR:∀ {B E w:Nat} {s:Slc} {xs:List Value},Row B h E w s xs->E≠123->∀ g,s.blk=some g->¬ g=c:=fun Rw hE g hg e=>by subst e; exact Rw.aZ Kb hE hg
 have nB:∀ {b E:Nat} {ds:List Value},Blk h b ds E->E≠123->¬ b=c:=fun K hE e=>by subst e; exact hE (K.inj Kb).2
 refine ⟨⟨S.blk R.k (nB R.k (by decide)),⟨P.l.stp S (fun g hg=>.inl (by rw [hg]; exact R.ow _ oc)) (nB P.l.k (by decide)) (nR Re (by decide)),P.sn.stp SO,P.sl,S.row P.nx (nR P.nx (by decide)),S.row P.hs (nR P.hs (by decide)),P.dj,⟨ks,S.row Kk (nR Kk (by decide)),Ik.stp SO⟩,by rw [hb]; exact B⟩,R.ow,fun g hg=>Nat.lt_of_lt_of_le (R.ob g hg) U.size,⟨wf.n,wf.me,wf.tm,wf.vt,wf.cm,wf.tk,wf.ld,wf.nx,wf.hs,(fun l' e=>by cases e; exact hl),wf.sn,wf.kp⟩⟩,S.mono fun g hg=>.inl (by rw [hg]; exact oc)⟩
theorem CQ {k:KP Slc} (R:aC O h L r) (hk:r.keeps.length < 999990)
  (H:∀ s h' L',Res O h L r.dJ.1 h' L'->aP (G O L') h' s r.dJ.2->(∀ g,s.blk=some g->h.size<=g)->k s h'):lI (some ⟨L.b,0,none⟩) k h:=by
 have wf:=R.wf
 have nb:=wf.n
 have mb:=wf.me
 have tb:=wf.tm
 unfold lI
 refine ⟨_,_,rfl,rfl,?_⟩
 have X1:=Ext.push h (.cells ([.pointer (some ⟨L.b,0,none⟩)]:List Value).toArray 37) (Nat.le_refl _)
 have C1:=Blk.push h [.pointer (some ⟨L.b,0,none⟩)] 37
 have R1:=R.ext X1
 generalize h.push (.cells ([.pointer (some ⟨L.b,0,none⟩)]:List Value).toArray 37)=h1 at *
 obtain ⟨b1,e1⟩:∃ y,y=h.size:=⟨_,rfl⟩
 rw [← e1] at C1 ⊢
 have z1:=X1.size
 have cp:∀ {h':Heap},Blk h' b1 [.pointer (some ⟨L.b,0,none⟩)] 37->af h' ⟨b1,0,none⟩=some (.pointer (some ⟨L.b,0,none⟩)):=fun K=>by rw [K.cell]; rfl
 unfold RS.dJ at H
 refine ⟨_,cp C1,_,rfl,_,R1.c 2,?_⟩
 by_cases ht:r.term>=4611686018427387904
 ·rw [if_pos (by simpa using ht)]
  rw [if_pos ht] at H
  exact H _ h1 L (Res.of R1 (.bu X1)) (aP.nil _ _) fun g hg=>by simp [Slc.blk] at hg
 rw [if_neg (by simpa using ht)]
 rw [if_neg ht] at H
 have eW:IntKind.u64.wrap (r.term + 1)=W (r.term + 1):=rfl
 have wb:=xI (r.term + 1)
 obtain ⟨w,f⟩:=R1.k.put (i:=2) (v:=.int .u64 (W (r.term + 1))) (by show 2 < 14; omega)
 refine ⟨_,cp C1,_,rfl,_,R1.c 2,?_⟩
 rw [eW]
 refine ⟨_,w,rfl,?_⟩
 obtain ⟨K2,U2⟩:=f _ rfl
 generalize setH h1 ((⟨L.b,0,none⟩:Addr).add 2) (.int .u64 (W (r.term + 1)))=h2 at *
 have C2:=U2.blk C1 (by have:=R.k.lt; omega)
 have me2:af h2 ⟨L.b,0,none⟩=some (.int .i64 r.me):=by rw [K2.cell]; rfl
 obtain ⟨w,f⟩:=K2.put (i:=7) (v:=.int .i64 1) (by show 7 < 14; omega)
 refine ⟨_,cp C2,_,cp C2,_,cp C2,_,cp C2,_,cp C2,_,rfl,_,me2,_,rfl,_,w,rfl,?_⟩
 obtain ⟨K3,U3⟩:=f _ rfl
 generalize setH h2 ((⟨L.b,0,none⟩:Addr).add 7) (.int .i64 1)=h3 at *
 have C3:=U3.blk C2 (by have:=R.k.lt; omega)
 obtain ⟨w,f⟩:=K3.put (i:=8) (v:=.int .i64 (-1)) (by show 8 < 14; omega)
 refine ⟨cp C3,cp C3,cp C3,_,rfl,_,w,rfl,?_⟩
 obtain ⟨K4,U4⟩:=f _ rfl
 generalize setH h3 ((⟨L.b,0,none⟩:Addr).add 8) (.int .i64 (-1))=h4 at *
 have C4:=U4.blk C3 (by have:=R.k.lt; omega)
 obtain ⟨w,f⟩:=K4.put (i:=9) (v:=.int .i64 0) (by show 9 < 14; omega)
 refine ⟨cp C4,cp C4,_,rfl,_,w,rfl,?_⟩
 obtain ⟨K5,U5⟩:=f _ rfl
 generalize setH h4 ((⟨L.b,0,none⟩:Addr).add 9) (.int .i64 0)=h5 at *
 have C5:=U5.blk C4 (by have:=R.k.lt; omega)
 rw [az (x:=r.me + 1) (by omega) (by omega)]
 obtain ⟨w,f⟩:=K5.put (i:=3) (v:=.int .i64 (r.me + 1)) (by show 3 < 14; omega)
 refine ⟨cp C5,_,rfl,_,w,rfl,?_⟩
 obtain ⟨K6,U6⟩:=f _ rfl
 generalize setH h5 ((⟨L.b,0,none⟩:Addr).add 3) (.int .i64 (r.me + 1))=h6 at *
 have C6:=U6.blk C5 (by have:=R.k.lt; omega)
 have U:=(((U2.trans U3).trans U4).trans U5).trans U6
 have M6:aC O h6 L { r with term:=W (r.term + 1),role:=1,leader:=-1,ticks:=0,aN:=r.me + 1 }:=R1.Cc K6 U ⟨wf.n,wf.me,wb,by show _<=r.me + 1/\r.me + 1 < _; omega,wf.cm,⟨Int.le_refl _,by show (0:Int)<=1000000000; omega⟩,(fun e=>by cases e),wf.nx,wf.hs,wf.bl,wf.sn,wf.kp⟩ ⟨rfl,rfl,rfl,rfl,rfl,rfl,rfl⟩
 have q6:Res O h1 L { r with term:=W (r.term + 1),role:=1,leader:=-1,ticks:=0,aN:=r.me + 1 } h6 L:=Res.of M6 (.dQ U (.inl (.inl rfl)))
 refine ⟨_,cp C6,uJ q6.R (by show r.keeps.length < _; omega) fun h7 L7 q7=>?_⟩
 have C7:=q7.S.blk C6 (q6.R.nH C6 (by decide))
 have q17:=q6.trans q7
 have M7:=q17.R
 have b7:L7.b=L.b:=q17.b
 rw [← b7] at C7
 have cp:∀ {h':Heap},Blk h' b1 [.pointer (some ⟨L7.b,0,none⟩)] 37->af h' ⟨b1,0,none⟩=some (.pointer (some ⟨L7.b,0,none⟩)):=fun K=>by rw [K.cell]; rfl
 refine ⟨_,cp C7,_,cp C7,_,rfl,_,M7.c 1,JF fun c h8 m em B8 hc X8=>?_⟩
 change m=(if r.n < 0 then 0 else if r.n < 32 then r.n else 32) at em
 have em':m=r.n:=by rw [em,if_neg (by omega)]; split <;> omega
 rw [em'] at B8
 have C8:=C7.ext X8 C7.lt
 have K8:=M7.k.ext X8 M7.k.lt
 obtain ⟨w,f⟩:=K8.put (i:=10) (v:=.pointer (some ⟨c,0,none⟩)) (by show 10 < 14; omega)
 refine ⟨cp C8,_,rfl,_,w,rfl,?_⟩
 obtain ⟨K9,U9⟩:=f _ rfl
 generalize setH h8 ((⟨L7.b,0,none⟩:Addr).add 10) (.pointer (some ⟨c,0,none⟩))=h9 at *
 have C9:=U9.blk C8 fun e=>by have:=M7.k.lt; rw [← e] at this; have h10:=C8.inj (by rw [e]; exact K8); revert h10; simp
 have q9:=Hz (l:=[]) M7 X8 B8 hc K9 U9 ⟨List.nodup_nil,by simp⟩
 have q19:=q17.trans q9
 have M9:=q19.R
 obtain ⟨L9,eL9⟩:∃ y,y=({ L7 with bal:=some c }:RLy):=⟨_,rfl⟩
 rw [← eL9] at q9 q19 M9
 have hb9:L9.bal=some c:=by rw [eL9]
 have e9:L9.b=L7.b:=by rw [eL9]
 have cc:=M9.c 10
 rw [e9] at cc
 have e10:L9.bal.map (fun c=>(⟨c,0,none⟩:Addr))=some ⟨c,0,none⟩:=by rw [hb9]; rfl
 have cc':af h9 ((⟨L7.b,0,none⟩:Addr).add 10)=some (.pointer (some ⟨c,0,none⟩)):=by rw [cc,← e10]; rfl
 have cm:=M9.c0
 rw [e9] at cm
 refine ⟨_,cp C9,_,rfl,_,cc',_,cp C9,_,rfl,_,cm,?_⟩
 have B9:=M9.p.bl
 rw [hb9] at B9
 refine F4 (n:=r.n) (y:=0) (p:=r.me) B9 (by omega) nb.2 (Nat.pos_of_ne_zero (by simp)) (by omega) (fun p0 p1 _ h10 B10 U10=>?_) fun hn=>by have:=hn mb.1 mb.2; simp at this
 have eb:bits [r.me]=0 + 2 ^ r.me.toNat:=by simp [bits]
 rw [← eb] at B10
 obtain ⟨M10,S10⟩:=JW (l:=[r.me]) M9 hb9 B10 U10 ⟨by simp,fun x hx=>by simp at hx; subst hx; exact mb⟩
 have q20:Res O h1 L r.asks h10 L9:=q19.trans (Res.of M10 S10)
 have C10:=U10.blk C9 fun e=>by have h10:=C9.inj (by rw [e]; exact B9); revert h10; simp
 have M10:=q20.R
 have c4:=M10.c 4
 rw [e9] at c4
 refine ⟨_,cp C10,_,rfl,_,c4,sZ M10.p.l ⟨_,_,rfl,rfl,_,_,rfl,rfl,?_⟩⟩
 have X11:=Ext.push h10 (.cells ([.int .u64 0]:List Value).toArray 22) (Nat.le_refl _)
 have D11:=Blk.push h10 [.int .u64 0] 22
 generalize h10.push (.cells ([.int .u64 0]:List Value).toArray 22)=h11 at *
 have z11:=X11.size
 have X12:=Ext.push h11 (.cells ([.int .u64 0]:List Value).toArray 22) (Nat.le_refl _)
 have E12:=Blk.push h11 [.int .u64 0] 22
 have D12:=D11.ext X12 D11.lt
 have hd:=D11.lt
 generalize h11.push (.cells ([.int .u64 0]:List Value).toArray 22)=h12 at *
 have z12:=X12.size
 obtain ⟨d,ed⟩:∃ y,y=h10.size:=⟨_,rfl⟩
 obtain ⟨e,ee⟩:∃ y,y=h11.size:=⟨_,rfl⟩
 rw [← ed] at D12 hd ⊢
 rw [← ee] at E12 ⊢
 obtain ⟨w,f⟩:=D12.put (i:=0) (v:=.int .u64 r.asks.log.last) (by show 0 < 1; omega)
 rw [show (⟨d,0,none⟩:Addr).add 0=⟨d,0,none⟩ from rfl] at w f
 refine ⟨_,w,rfl,?_⟩
 obtain ⟨D13,U13⟩:=f _ rfl
 have E13:=U13.blk E12 (by omega)
 have X13:Ext h10.size h12 (setH h12 (⟨d,0,none⟩:Addr) (.int .u64 r.asks.log.last)):=Ext.set _ _ (by show h10.size<=d; omega)
 generalize setH h12 (⟨d,0,none⟩:Addr) (.int .u64 r.asks.log.last)=h13 at *
 obtain ⟨w,f⟩:=E13.put (i:=0) (v:=.int .u64 r.asks.log.lastT) (by show 0 < 1; omega)
 rw [show (⟨e,0,none⟩:Addr).add 0=⟨e,0,none⟩ from rfl] at w f
 refine ⟨_,w,rfl,?_⟩
 obtain ⟨E14,U14⟩:=f _ rfl
 have D14:=U14.blk D13 (by omega)
 have X14:Ext h10.size h13 (setH h13 (⟨e,0,none⟩:Addr) (.int .u64 r.asks.log.lastT)):=Ext.set _ _ (by show h10.size<=e; omega)
 generalize setH h13 (⟨e,0,none⟩:Addr) (.int .u64 r.asks.log.lastT)=h14 at *
 have X10_14:Ext h10.size h10 h14:=X11.trans ((X12.mono z11).trans (X13.trans X14))
 have q14:=q20.ext X10_14
 have M14:=q14.R
 have C14:=C10.ext X10_14 C10.lt
 refine ⟨_,cp C14,?_⟩
 rw [← e9] at C14 ⊢
 refine Ac M14 C14 D14 E14 fun s15 h15 Ml15 X15 sb15=>?_
 have C15:=C14.ext X15 C14.lt
 have z15:=X15.size
 refine ⟨_,by rw [C15.cell]; rfl,?_⟩
 -- from here on what was sent counts as written
 have M15:aC (OB (G O L9) s15) h15 L9 r.asks:=M14.grow X15 (fun g hg=>hg.imp id fun h=>⟨sb15 g h,by obtain ⟨ms,Rm,_⟩:=Ml15.m; exact (Rm.bd h).2⟩) fun g hg=>.inl hg
 refine zN M15 (fun _=>⟨_,rfl⟩) (by simp [RS.asks,RS.fq]; omega) fun s16 h16 L16 q16 Ml16 sb16=>?_
 have z16:=q16.S.size
 have Ml15':aP (G O L16) h16 s15 (r.asks.others fun _=>⟨1,r.asks.term,r.asks.log.last,r.asks.log.lastT,0,false,[],[]⟩):=Ml15.step q16.S (fun g hg=>.inl (.inr hg)) fun g hg=>by
  rcases hg with hg | hg
  ·exact .inl (.inl hg)
  ·exact (q16.F g hg).imp .inr id
 have hO:∀ g,G O L16 g->G (OB (G O L9) s15) L16 g:=fun g hg=>hg.imp (fun h=>.inl (.inl h)) id
 refine D7 Ml15' Ml16 hO (fun g hg=>.inl (.inr hg)) (fun g hg=>q16.R.ob g (hO g hg)) (Nat.le_trans (Nat.add_le_add (tQ r.asks _) (EW (r:=r.asks))) (by show r.n.toNat + r.n.toNat<=100000; omega)) fun s17 h17 Ml17 S17 sb17=>?_
 obtain ⟨ms,Rm,_⟩:=Ml15'.m
 have M17:aC (G (OB (G O L9) s15) L16) h17 L16 r.asks.win.1:=q16.R.stp S17 (fun g hg=>.inl (.inl (.inr hg))) fun g hg hs=>by
  obtain ⟨cs,Kc⟩:=Rm.Cw hs
  exact q16.R.nH Kc (by decide) hg
 have M17':aC (G O L16) h17 L16 r.asks.win.1:=M17.sub hO fun g hg=>.inr hg
 have z14:=q14.S.size
 have hF:∀ g,own L16 g->own L g∨h.size<=g:=fun g hg=>(q16.F g hg).elim (fun h2=>(q14.F g h2).imp id fun h3=>by omega) fun h3=>.inr (by omega)
 have hS:Stp (own L) h h17:=by
  have s1:Stp (own L) h h15:=(Stp.bu (O:=own L) X1).trans' (q14.S.trans (Stp.bu (O:=fun _=>False) X15) fun _ h=>h.elim)
  have s2:=s1.trans q16.S fun g hg=>(q14.F g hg).imp id fun h3=>by omega
  exact s2.trans S17 fun g hg=>.inr (by have:=sb15 g hg; omega)
 refine H s17 h17 L16 ⟨M17',hS,hF,q16.b.trans q14.b⟩ Ml17 fun g hg=>(sb17 g hg).elim (fun h=>by have:=sb15 g h; omega) fun h=>by omega
end
end Go.Q.Yi
end

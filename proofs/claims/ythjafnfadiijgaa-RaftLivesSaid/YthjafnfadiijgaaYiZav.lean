/- A part of the proof of statements of this seat: lemmas, no statement of their own. -/
import Derived.Test.YthjafnfadiijgaaYiZau
import Derived.Test.YthjafnfadiijgaaYiZan
set_option linter.unusedVariables false
set_option linter.unusedSimpArgs false
set_option maxRecDepth 100000
section
/- A member: ticks, and what it tells. -/
namespace Go.Q.Yi
open Rf
section
variable {O O':bz} {h h':Heap} {L:RLy} {r:RS}
theorem Bt {k:KP Slc} (R:aC O h L r) (hk:r.keeps.length < 999990) (ht:r.ticks < 1000000000)
  (H:∀ s h' L',Res O h L r.tick.1 h' L'->aP (G O L') h' s r.tick.2->(∀ g,s.blk=some g->h.size<=g)->k s h'):jm (some ⟨L.b,0,none⟩) k h:=by
 have wf:=R.wf
 have nb:=wf.n
 have mb:=wf.me
 have tk:=wf.tk
 unfold jm
 rw [if_neg (by simp)]
 obtain ⟨w,f⟩:=R.k.put (i:=9) (v:=.int .i64 (r.ticks + 1)) (by show 9 < 14; omega)
 refine ⟨_,rfl,_,R.c 9,?_⟩
 rw [az (x:=r.ticks + 1) (by omega) (by omega)]
 refine ⟨_,w,rfl,?_⟩
 obtain ⟨K2,U2⟩:=f _ rfl
 generalize setH h ((⟨L.b,0,none⟩:Addr).add 9) (.int .i64 (r.ticks + 1))=h2 at *
 have M2:aC O h2 L { r with ticks:=r.ticks + 1 }:=R.Cc K2 U2 ⟨wf.n,wf.me,wf.tm,wf.vt,wf.cm,⟨by show 0<=r.ticks + 1; omega,by show r.ticks + 1<=1000000000; omega⟩,wf.ld,wf.nx,wf.hs,wf.bl,wf.sn,wf.kp⟩ ⟨rfl,rfl,rfl,rfl,rfl,rfl,rfl⟩
 have q2:Res O h L { r with ticks:=r.ticks + 1 } h2 L:=Res.of M2 (.dQ U2 (.inl (.inl rfl)))
 have M3:=q2.R
 have z2:=q2.S.size
 have em:Int.tmod (r.ticks + 1) 3=(r.ticks + 1) % 3:=Int.tmod_eq_emod_of_nonneg (by omega)
 refine ⟨_,M2.c 7,?_⟩
 show if (r.role == 2)=true then _ else _
 unfold RS.tick at H
 have j2f:¬ (r.role=2/\(r.ticks + 1) % 3=0)->¬ (r.role≠2/\r.ticks + 1>=10 + 7 * r.me)->dX (some ⟨L.b,0,none⟩) false k h2:=fun n1 n2=>by
  unfold dX
  rw [if_neg (by simp)]
  rw [if_neg n1,if_neg n2] at H
  exact H _ h2 L q2 (aP.nil _ _) fun g hg=>by simp [Slc.blk] at hg
 have g1f:¬ (r.role=2/\(r.ticks + 1) % 3=0)->fG (some ⟨L.b,0,none⟩) false k h2:=fun n1=>by
  unfold fG
  rw [if_neg (by simp)]
  refine ⟨_,rfl,_,M2.c 7,?_⟩
  show if (r.role != 2)=true then _ else _
  by_cases hr:r.role=2
  ·rw [if_neg (by simpa using hr)]
   exact j2f n1 fun h=>h.1 hr
  ·rw [if_pos (by simpa using hr)]
   refine ⟨_,M2.c 9,?_⟩
   unfold oD
   refine ⟨_,rfl,_,M2.c0,_,rfl,?_⟩
   rw [az (x:=7 * _) (by show _<=7 * r.me; omega) (by show 7 * r.me < _; omega),az (by show _<=10 + 7 * r.me; omega) (by show 10 + 7 * r.me < _; omega)]
   refine ⟨M2.c 9,?_⟩
   by_cases hp:r.ticks + 1>=10 + 7 * r.me
   ·show dX _ (decide (r.ticks + 1>=10 + 7 * r.me)) k h2
    rw [decide_eq_true hp]
    unfold dX
    rw [if_pos rfl]
    rw [if_neg n1,if_pos ⟨hr,hp⟩] at H
    exact CQ M3 hk fun s h' L' q M sb=>H s h' L' (q2.trans q) (M.sub fun g hg=>hg.elim (fun h=>.inl (.inl h)) .inr) fun g hg=>by have:=sb g hg; omega
   ·show dX _ (decide (r.ticks + 1>=10 + 7 * r.me)) k h2
    rw [decide_eq_false hp]
    exact j2f n1 fun h=>hp h.2
 by_cases hr:r.role=2
 ·rw [if_pos (by simpa using hr)]
  refine ⟨_,M2.c 9,?_⟩
  show fG _ (Int.tmod (r.ticks + 1) 3 == 0) k h2
  rw [em]
  by_cases h3:(r.ticks + 1) % 3=0
  ·rw [show ((r.ticks + 1) % 3 == 0)=true from by simpa using h3]
   unfold fG
   rw [if_pos rfl]
   rw [if_pos ⟨hr,h3⟩] at H
   exact vB M3 (wf.ld hr).1 fun s h' M X sb=>H s h' L (q2.ext X) M fun g hg=>by have:=sb g hg; omega
  ·rw [show ((r.ticks + 1) % 3 == 0)=false from by simpa using h3]
   exact g1f fun h=>h3 h.2
 ·rw [if_neg (by simpa using hr)]
  exact g1f fun h=>hr h.1
/-! ### the rest -/
theorem vE {p1:Slc} {cmd:List Int} {k:KP (Int × Int)} (R:aC O h L r) (hk:r.keeps.length < 1000000) (hs:SlcAt h p1 (b8 cmd)) (hl:p1.len=cmd.length) (hB:isB cmd) (hz:cmd.length<=1099511627776)
  (H:∀ h' L',Res O h L (r.aI cmd).1 h' L'->k (r.aI cmd).2 h'):fH (some ⟨L.b,0,none⟩) p1 k h:=by
 unfold fH
 rw [if_neg (by simp)]
 refine ⟨_,rfl,_,R.c 7,?_⟩
 unfold RS.aI at H
 by_cases hr:r.role=2
 ·rw [if_neg (by simpa using hr)] at H
  show dL _ _ (r.role != 2) _ _
  rw [show (r.role != 2)=false from by simpa using hr]
  unfold dL
  rw [if_neg (by simp)]
  exact y8 R (R.wf.ld hr).2 hk hs hl hB hz H
 ·rw [if_pos (by simpa using hr)] at H
  show dL _ _ (r.role != 2) _ _
  rw [show (r.role != 2)=true from by simpa using hr]
  unfold dL
  rw [if_pos rfl]
  exact H h L (Res.of R (Stp.refl _ _))
theorem o9 {k:KP Int} (R:aC O h L r) (H:k r.commit h):dA (some ⟨L.b,0,none⟩) k h:=by
 unfold dA
 rw [if_neg (by simp)]
 exact ⟨_,rfl,_,R.c 6,H⟩
theorem uD {k:KP Bool} (R:aC O h L r) (H:k (r.role == 2) h):gm (some ⟨L.b,0,none⟩) k h:=by
 unfold gm lG
 rw [if_pos (by simp)]
 exact ⟨_,rfl,_,R.c 7,H⟩
theorem FM {k:KP Int} (R:aC O h L r) (H:k r.leader h):nz (some ⟨L.b,0,none⟩) k h:=by
 unfold nz
 rw [if_neg (by simp)]
 exact ⟨_,rfl,_,R.c 8,H⟩
theorem sF {k:KP Int} (R:aC O h L r) (H:k r.term h):fJ (some ⟨L.b,0,none⟩) k h:=by
 unfold fJ
 rw [if_neg (by simp)]
 exact ⟨_,rfl,_,R.c 2,H⟩
/-- an entry -/
theorem yS {p:Int} {k:KP (ae × Int)} (R:aC O h L r) (p0:0<=p/\p < 18446744073709551616)
  (H:∀ v h',v.cZ=(r.entry p).1.1->Row h.size h' 5 1 v.oH (b8 (r.entry p).1.2)->Ext h.size h h'->k (v,(r.entry p).2) h'):jS (some ⟨L.b,0,none⟩) p k h:=by
 unfold jS
 refine ⟨_,_,rfl,rfl,?_⟩
 have X:=Ext.push h (.cells (ae.cs ⟨0,⟨none,0,0⟩⟩).toArray 65) (Nat.le_refl _)
 have P0:=Blk.push h (ae.cs ⟨0,⟨none,0,0⟩⟩) 65
 have R2:=R.ext X
 generalize h.push (.cells (ae.cs ⟨0,⟨none,0,0⟩⟩).toArray 65)=h2 at *
 obtain ⟨b1,eb⟩:∃ y,y=h.size:=⟨_,rfl⟩
 rw [← eb] at P0 ⊢
 have z2:=X.size
 have bl:=P0.lt
 rw [if_neg (by simp)]
 -- what is told at the end
 have tail:∀ {h5:Heap} {v:ae} {e:Int} {x:Ent},r.entry p=(x,e)->Ext h2.size h2 h5->v.cZ=x.1->Row h2.size h5 5 1 v.oH (b8 x.2)->∃ h14:Heap,dE h5 (⟨b1,0,none⟩:Addr) 2/\h14=aU h5 (⟨b1,0,none⟩:Addr) 0 (ae.cs v)/\(∃ v15:ae,aJ h14 (⟨b1,0,none⟩:Addr) (ae.cs v15)/\k (v15,e) h14):=fun {h5 v e x} ee X5 ht hc=>by
  rw [ee] at H
  have P5:=P0.ext X5 bl
  refine ⟨_,dE.eQ P5 (by show 2<=2; omega),rfl,?_⟩
  have P6:=P5.jZ (vs:=ae.cs v) rfl
  have z5:=X5.size
  have X6:Ext h.size h5 (aU h5 ⟨b1,0,none⟩ 0 (ae.cs v)):=Ext.sets _ _ _ (by show h.size<=b1; omega)
  have old:∀ g,g≠b1->(aU h5 ⟨b1,0,none⟩ 0 (ae.cs v))[g]? = h5[g]?:=fun g hg=>lD _ _ hg
  generalize aU h5 ⟨b1,0,none⟩ 0 (ae.cs v)=h6 at *
  exact ⟨v,aJ.eQ P6,H v h6 ht ((hc.keep fun g hg=>old g (by have:=(hc.bd hg).1; omega)).mono z2) (X.trans ((X5.mono z2).trans X6))⟩
 refine ⟨_,rfl,_,R2.c 4,rP R2.p.l p0.1 p0.2 ?_⟩
 by_cases ht:(r.log.aF p).2=0
 ·rw [if_neg (by simpa using ht)]
  refine ⟨_,R2.c 4,Eg R2.p.l p0.1 p0.2 (by omega) (by omega) fun s h3 vs F3 X3=>?_⟩
  have ee:r.entry p=if (r.log.frm p 1).2≠0 then (((0,[]),13):Ent × Int) else match (r.log.frm p 1).1 with | x :: _=>(x,0) | []=>((0,[]),13):=by unfold RS.entry; rw [if_neg (by simpa using ht)]; rfl
  have sl:=F3.len
  by_cases hf:(r.log.frm p 1).2=0/\(r.log.frm p 1).1≠[]
  ·have hl:(r.log.frm p 1).1.length≠0:=fun h=>hf.2 (List.eq_nil_of_length_eq_zero h)
   rw [if_neg (by simp; exact ⟨hf.1,by omega⟩)]
   obtain ⟨x,rest,ex⟩:∃ x rest,(r.log.frm p 1).1=x :: rest:=by
    cases hx:(r.log.frm p 1).1 with
    | nil=>exact absurd hx hf.2
    | cons x rest=>exact ⟨x,rest,rfl⟩
   have hx0:(r.log.frm p 1).1[0]? = some x:=by rw [ex]; rfl
   have vl:=F3.l
   obtain ⟨v,hv⟩:∃ v,vs[0]? = some v:=⟨_,List.getElem?_eq_getElem (by rw [vl]; omega)⟩
   obtain ⟨f1,f2⟩:=F3.e 0 v x hv hx0
   obtain ⟨a,u,ha,c1,c2⟩:=F3.aM.get hx0
   have sv:s.len=vs.length:=by rw [sl,vl]
   have hL:=LsAt.tJ (w:=2) (fun x=>rfl) F3.r.slc sv (by decide)
   obtain ⟨a',ha',C⟩:=hL.at' 0 v hv
   refine ⟨a',ha',by omega,by rw [sl]; omega,v,C,tail (e:=0) ?_ X3 f1 f2⟩
   rw [ee,if_neg (by simpa using hf.1),ex]
  ·rw [if_pos (by
    rw [Bool.or_eq_true]
    by_cases h1:(r.log.frm p 1).2=0
    ·right
     have h2:(r.log.frm p 1).1=[]:=Classical.byContradiction fun h=>hf ⟨h1,h⟩
     have:(r.log.frm p 1).1.length=0:=by rw [h2]; rfl
     simp; omega
    ·left; simpa using h1)]
   refine tail (e:=13) (x:=(0,[])) ?_ X3 rfl (Row.nil _ _ _ _)
   rw [ee]
   by_cases h1:(r.log.frm p 1).2=0
   ·have h2:(r.log.frm p 1).1=[]:=Classical.byContradiction fun h=>hf ⟨h1,h⟩
    rw [if_neg (by simpa using h1),h2]
   ·rw [if_pos h1]
 ·rw [if_pos (by simpa using ht)]
  exact tail (x:=(0,[])) (by unfold RS.entry; rw [if_pos ht]) (Ext.refl _ _) rfl (Row.nil _ _ _ _)
end
theorem vD {me n term aN:Int} {l:Lg} {p4:Option Addr} {p5:Slc} {aQ:List Int} {k:KP (Option Addr)} {h:Heap} (n0:1<=n/\n<=32) (m0:0<=me/\me < n) (t0:0<=term/\term < 18446744073709551616) (v0:-9223372036854775808<=aN/\aN < 9223372036854775808)
  (hl:(p4=none/\l=⟨0,0,[]⟩)∨∃ b s O,p4=some ⟨b,0,none⟩/\dV O h b s l) (hs:SlcAt h p5 (b8 aQ)) (sl:p5.len=aQ.length) (hB:isB aQ) (hz:aQ.length<=1099511627776)
  (H:∀ L h',(∀ X:bz,(∀ g,X g->g < h.size)->aC (fun g=>X g∨own L g) h' L (RS.start me n term aN l aQ))->(∀ g,own L g->h.size<=g)->Ext h.size h h'->k (some ⟨L.b,0,none⟩) h'):oL me n term aN p4 p5 k h:=by
 unfold oL
 rw [if_neg (by simp; omega)]
 have bd:0<=l.ix/\l.ix + l.es.length < 18446744073709551616/\(0<=l.tm/\l.tm < 18446744073709551616)/\qU l.es/\l.es.length<=1000:=by
  rcases hl with ⟨_,rfl⟩ | ⟨b,s,O,_,A⟩
  ·exact ⟨by simp,by simp,by simp,(fun e he=>by cases he),by simp⟩
  ·exact ⟨A.x0,A.x1,A.t0,A.ok,A.sz⟩
 have base:∀ {K:KP (Int × Int)},K (l.ix,l.tm) h->iA p4 K h:=fun {K} hK=>by
  rcases hl with ⟨rfl,rfl⟩ | ⟨b,s,O,rfl,A⟩
  ·unfold iA; rw [if_pos (by simp)]; exact hK
  ·exact xX A hK
 refine base (sG sl hs (by omega) fun s3 h4 R3 X3=>?_)
 have z3:=X3.size
 refine ⟨_,_,rfl,rfl,?_⟩
 obtain ⟨S,eS⟩:∃ S:ja,S=⟨me,n,term,aN,none,s3,l.ix,0,-1,0,none,⟨none,0,0⟩,⟨none,0,0⟩,⟨none,0,0⟩⟩:=⟨_,rfl⟩
 show fu p4 _ (h4.push (.cells (ja.cs ⟨me,n,term,aN,none,s3,l.ix,0,-1,0,none,⟨none,0,0⟩,⟨none,0,0⟩,⟨none,0,0⟩⟩).toArray 94))
 have X5:=Ext.push h4 (.cells (ja.cs ⟨me,n,term,aN,none,s3,l.ix,0,-1,0,none,⟨none,0,0⟩,⟨none,0,0⟩,⟨none,0,0⟩⟩).toArray 94) (Nat.le_refl _)
 have K5:=Blk.push h4 (ja.cs ⟨me,n,term,aN,none,s3,l.ix,0,-1,0,none,⟨none,0,0⟩,⟨none,0,0⟩,⟨none,0,0⟩⟩) 94
 have R5:=R3.ext X5 fun g hg=>(R3.bd hg).2
 generalize h4.push (.cells (ja.cs ⟨me,n,term,aN,none,s3,l.ix,0,-1,0,none,⟨none,0,0⟩,⟨none,0,0⟩,⟨none,0,0⟩⟩).toArray 94)=h5 at *
 obtain ⟨b5,eb⟩:∃ y,y=h4.size:=⟨_,rfl⟩
 rw [← eb] at K5 ⊢
 have z5:=X5.size
 have X05:Ext h.size h h5:=X3.trans (X5.mono z3)
 have aM:∀ {K:KP Slc},(∀ s' h',dB h' s' l.es->Ext h5.size h5 h'->K s' h')->fu p4 K h5:=fun {K} hK=>by
  rcases hl with ⟨rfl,rfl⟩ | ⟨b,s,O,rfl,A⟩
  ·unfold fu; rw [if_pos (by simp)]; exact hK _ _ (dB.nil _) (Ext.refl _ _)
  ·exact yO (A.ext X05) fun s' h' vs F X=>hK s' h' F.aM X
 refine aM fun s7 h7 A7 X7=>?_
 have z7:=X7.size
 refine Bu A7 bd.2.2.2.1 bd.2.2.2.2 bd.1 bd.2.1 bd.2.2.1 fun lb s9 h9 A9 hlb hs9 X9=>?_
 have z9:=X9.size
 have bl:=K5.lt
 have K9:=(K5.ext X7 K5.lt).ext X9 (by omega)
 have R9:=(R5.ext X7 fun g hg=>(R5.bd hg).2).ext X9 fun g hg=>by have:=(R5.bd hg).2; omega
 obtain ⟨w,f⟩:=K9.put (i:=4) (v:=.pointer (some ⟨lb,0,none⟩)) (by show 4 < 14; omega)
 refine ⟨_,w,rfl,?_⟩
 obtain ⟨K10,U10⟩:=f _ rfl
 have S10:Stp (fun g=>g=b5) h9 (setH h9 ((⟨b5,0,none⟩:Addr).add 4) (.pointer (some ⟨lb,0,none⟩))):=.dQ U10 (.inl rfl)
 have X10:Ext h.size h9 (setH h9 ((⟨b5,0,none⟩:Addr).add 4) (.pointer (some ⟨lb,0,none⟩))):=⟨U10.size,fun i hi=>U10.block i (by omega) (by omega)⟩
 generalize setH h9 ((⟨b5,0,none⟩:Addr).add 4) (.pointer (some ⟨lb,0,none⟩))=h10 at *
 have ow:∀ g,own ⟨b5,lb,s9,s3,⟨none,0,0⟩,⟨none,0,0⟩,⟨none,0,0⟩,none⟩ g->g=b5∨g=lb∨s9.blk=some g:=fun g hg=>by
  rcases hg with hg | hg | hg | hg | hg | hg | hg
  ·exact .inl hg
  ·exact .inr (.inl hg)
  ·exact .inr (.inr hg)
  ·simp [Slc.blk] at hg
  ·simp [Slc.blk] at hg
  ·simp [Slc.blk] at hg
  ·cases hg
 refine H ⟨b5,lb,s9,s3,⟨none,0,0⟩,⟨none,0,0⟩,⟨none,0,0⟩,none⟩ h10 (fun X hX=>?_) (fun g hg=>?_) (X05.trans ((X7.mono (by omega)).trans ((X9.mono (by omega)).trans X10)))
 ·have A':=A9 (fun g=>X g∨g=b5) (fun g hg=>by rcases hg with hg | hg; (have:=hX g hg; omega); omega)
  obtain ⟨vs,Re,_⟩:=A'.r
  have R10:=S10.row R9 fun g hg e=>by subst e; exact R9.aZ K9 (by decide) hg
  refine ⟨K10,⟨?_,fun h' p=>?_,by simpa using R10.len.trans (by simp [RS.start]),Row.nil _ _ _ _,Row.nil _ _ _ _,(fun g hg=>by simp [Slc.blk] at hg),⟨[],Row.nil _ _ _ _,fun h' _=>⟨rfl,by simp⟩⟩,trivial⟩,fun g hg=>.inr hg,fun g hg=>?_,?_⟩
  ·exact (A'.sub (O':=fun g=>X g∨own ⟨b5,lb,s9,s3,⟨none,0,0⟩,⟨none,0,0⟩,⟨none,0,0⟩,none⟩ g) (fun g hg=>.inl (hg.elim (fun h=>.inl (.inl h)) fun h=>(ow g h).elim (fun h=>.inl (.inr h)) .inr)) (.inr (.inr (.inl rfl))) fun g hg=>.inr (.inr (.inr (.inl hg)))).stp S10 (fun g hg=>.inl (.inr (.inl hg))) (by omega) fun g hg e=>by have:=hs9 g hg; omega
  ·refine (p.row R10 fun g hg h3=>?_).slc
   have h4:=(R10.bd hg).1
   rcases h3 with h3 | h3
   ·have:=hX g h3; omega
   ·rcases ow g h3 with h3 | h3 | h3
    ·subst h3; exact R10.aZ K10 (by decide) hg
    ·have:=(R5.bd hg).2; omega
    ·have:=(R5.bd hg).2; have:=hs9 g h3; omega
  ·rcases hg with hg | hg
   ·have:=hX g hg; have:=U10.size; omega
   ·have:=U10.size
    rcases ow g hg with h3 | h3 | h3
    ·omega
    ·have:=A'.k.lt; omega
    ·have:=(Re.bd h3).2; omega
  ·exact ⟨n0,m0,t0,v0,⟨bd.1,by have:=bd.2.1; show l.ix < _; omega⟩,⟨Int.le_refl _,by show (0:Int)<=1000000000; omega⟩,(fun e=>by cases e),(fun x hx=>by cases hx),(fun x hx=>by cases hx),(fun l e=>by cases e),⟨hB,hz⟩,by show 0<=1000000; omega⟩
 ·rcases ow g hg with h3 | h3 | h3
  ·omega
  ·omega
  ·have:=hs9 g h3; omega
end Go.Q.Yi
end
section
/- A member: ticks, votes, snapshots. -/
namespace Go.Q.Yi
open Rf
section
variable {O O':bz} {h h':Heap} {L:RLy} {r:RS}
theorem pR {to kind index:Int} {yes:Bool} {k:KP Slc} (R:aC O h L r) (H:∀ s h',aP O h' s (r.answer to kind yes index)->Ext h.size h h'->(∀ g,s.blk=some g->h.size<=g)->k s h'):dO (some ⟨L.b,0,none⟩) to kind yes index k h:=by
 unfold dO
 refine ⟨_,rfl,_,R.c 2,_,_,rfl,rfl,?_⟩
 exact H _ _ (Ct (x:=⟨kind,r.term,index,0,0,yes,[],[]⟩) (Ia ⟨rfl,rfl,rfl,rfl,rfl,rfl⟩ rfl rfl rfl rfl) R.ob) (Ext.push h _ (Nat.le_refl _)) fun g hg=>by simp [Slc.blk] at hg; omega
/-- a wish for a vote -/
theorem yU {from':Int} {v:ah} {m:Msg} {k:KP Slc} (R:aC O h L r) (hk:r.keeps.length < 999990) (V:v.oZ=m.kind/\v.cZ=m.term/\v.mg=m.index/\v.sw=m.logTerm/\v.sH=m.commit/\v.Db=m.yes) (f0:0<=from') (f1:from' < r.n)
  (H:∀ s h' L',Res O h L (r.lv from' m).1 h' L'->aP (G O L') h' s (r.lv from' m).2->(∀ g,s.blk=some g->h.size<=g)->k s h'):oh (some ⟨L.b,0,none⟩) from' v k h:=by
 have wf:=R.wf
 have nb:=wf.n
 unfold oh
 refine ⟨_,_,rfl,rfl,?_⟩
 have X:=Ext.push h (.cells (ah.cs v).toArray 26) (Nat.le_refl _)
 have C:=Blk.push h (ah.cs v) 26
 have R2:=R.ext X
 generalize h.push (.cells (ah.cs v).toArray 26)=h2 at *
 have z2:=X.size
 have q2:Res O h L r h2 L:=Res.of R2 (.bu X)
 have c2:af h2 ((⟨h.size,0,none⟩:Addr).add 2)=some (.int .u64 m.index):=by rw [C.get,← V.2.2.1]; rfl
 have c3:af h2 ((⟨h.size,0,none⟩:Addr).add 3)=some (.int .u64 m.logTerm):=by rw [C.get,← V.2.2.2.1]; rfl
 rw [az (x:=from' + 1) (by omega) (by omega)]
 have no:r.mP from' m=false->bP (some ⟨L.b,0,none⟩) from' false k h2:=fun hv=>by
  unfold bP jy
  rw [if_neg (by simp)]
  unfold RS.lv at H
  rw [if_neg (by simp [hv])] at H
  exact pR q2.R fun s h' M X' sb=>H s h' L (q2.ext X') M fun g hg=>by have:=sb g hg; omega
 have ends:∀ {h5:Heap} {L5:RLy} {r5:RS},Res O h L r5 h5 L5->r.lv from' m=({ r5 with ticks:=0 },r.answer from' 2 true 0)->r5.term=r.term->jA (some ⟨L.b,0,none⟩) from' true k h5:=fun {h5 L5 r5} q ev et=>by
  have M5:=q.R
  have w5:=M5.wf
  rw [← q.b]
  unfold jA
  obtain ⟨w,f⟩:=M5.k.put (i:=9) (v:=.int .i64 0) (by show 9 < 14; omega)
  refine ⟨_,rfl,_,w,rfl,?_⟩
  obtain ⟨K6,U6⟩:=f _ rfl
  generalize setH h5 ((⟨L5.b,0,none⟩:Addr).add 9) (.int .i64 0)=h6 at *
  have M6:aC (G O L5) h6 L5 { r5 with ticks:=0 }:=M5.Cc K6 U6 ⟨w5.n,w5.me,w5.tm,w5.vt,w5.cm,⟨Int.le_refl _,by show (0:Int)<=1000000000; omega⟩,w5.ld,w5.nx,w5.hs,w5.bl,w5.sn,w5.kp⟩ ⟨rfl,rfl,rfl,rfl,rfl,rfl,rfl⟩
  have q6:=q.trans (Res.of M6 (.dQ U6 (.inl (.inl rfl))))
  have z6:=q6.S.size
  unfold jy
  refine pR q6.R fun s h' M X' sb=>H s h' L5 (by rw [ev]; exact q6.ext X') ?_ fun g hg=>by have:=sb g hg; omega
  rw [ev]
  unfold RS.answer at M ⊢
  dsimp only at M
  rw [et] at M
  exact M
 have yes:r.mP from' m=true->bP (some ⟨L.b,0,none⟩) from' true k h2:=fun hv=>by
  unfold bP
  rw [if_pos rfl]
  refine ⟨_,rfl,_,R2.c 3,?_⟩
  show if (r.aN == 0)=true then _ else _
  by_cases h0:r.aN=0
  ·rw [if_pos (by simpa using h0)]
   rw [az (x:=from' + 1) (by omega) (by omega)]
   obtain ⟨w,f⟩:=R2.k.put (i:=3) (v:=.int .i64 (from' + 1)) (by show 3 < 14; omega)
   refine ⟨_,w,rfl,?_⟩
   obtain ⟨K3,U3⟩:=f _ rfl
   generalize setH h2 ((⟨L.b,0,none⟩:Addr).add 3) (.int .i64 (from' + 1))=h3 at *
   have M3:aC O h3 L { r with aN:=from' + 1 }:=R2.Cc K3 U3 ⟨wf.n,wf.me,wf.tm,by show _<=from' + 1/\from' + 1 < _; omega,wf.cm,wf.tk,wf.ld,wf.nx,wf.hs,wf.bl,wf.sn,wf.kp⟩ ⟨rfl,rfl,rfl,rfl,rfl,rfl,rfl⟩
   have q3:Res O h L { r with aN:=from' + 1 } h3 L:=q2.trans (Res.of (M3.g) (.dQ U3 (.inl (.inl rfl))))
   refine uJ q3.R (by show r.keeps.length < _; omega) fun h' L' q=>ends (q3.trans q) ?_ rfl
   unfold RS.lv
   rw [if_pos hv,if_pos h0]
  ·rw [if_neg (by simpa using h0)]
   refine ends q2 ?_ rfl
   unfold RS.lv
   rw [if_pos hv,if_neg h0]
 have any:∀ b:Bool,r.mP from' m=b->bP (some ⟨L.b,0,none⟩) from' b k h2:=fun b hb=>by
  cases b with
  | true=>exact yes hb
  | false=>exact no hb
 refine ⟨_,rfl,_,R2.c 3,?_⟩
 show if (r.aN == 0)=true then _ else _
 by_cases h0:r.aN=0
 ·rw [if_pos (by simpa using h0),if_pos rfl]
  refine ⟨_,R2.c 4,_,c2,_,c3,CY R2.p.l (any _ ?_)⟩
  unfold RS.mP; rw [show (r.aN == 0)=true from by simpa using h0]; simp
 ·rw [if_neg (by simpa using h0)]
  refine ⟨_,R2.c 3,?_⟩
  show if (r.aN == from' + 1)=true then _ else _
  by_cases h1:r.aN=from' + 1
  ·rw [if_pos (by simpa using h1)]
   refine ⟨_,R2.c 4,_,c2,_,c3,CY R2.p.l (any _ ?_)⟩
   unfold RS.mP; rw [show (r.aN == from' + 1)=true from by simpa using h1]; simp
  ·rw [if_neg (by simpa using h1)]
   refine no ?_
   unfold RS.mP
   rw [show (r.aN == 0)=false from by simpa using h0,show (r.aN == from' + 1)=false from by simpa using h1]; rfl
/-- an answer to what is late -/
theorem Iz {from':Int} {v:ah} {m:Msg} {k:KP Slc} (R:aC O h L r) (V:v.oZ=m.kind)
  (H:∀ s h',aP O h' s (r.late from' m)->Ext h.size h h'->(∀ g,s.blk=some g->h.size<=g)->k s h'):pK (some ⟨L.b,0,none⟩) from' v k h:=by
 unfold pK
 refine ⟨_,_,rfl,rfl,?_⟩
 have X:=Ext.push h (.cells (ah.cs v).toArray 26) (Nat.le_refl _)
 have C:=Blk.push h (ah.cs v) 26
 have R2:=R.ext X
 generalize h.push (.cells (ah.cs v).toArray 26)=h2 at *
 have z2:=X.size
 refine ⟨m.kind,by rw [C.cell,← V]; rfl,?_⟩
 unfold RS.late at H
 have j1:∀ b:Bool,m.kind≠1->(b=true ↔ m.kind=3∨m.kind=5)->kG (some ⟨L.b,0,none⟩) from' b k h2:=fun b h1 hb=>by
  unfold kG
  rw [if_neg h1] at H
  cases b with
  | true =>
   rw [if_pos rfl]
   rw [if_pos (hb.1 rfl)] at H
   exact pR R2 fun s h' M X' sb=>H s h' M (X.trans (X'.mono z2)) fun g hg=>by have:=sb g hg; omega
  | false =>
   rw [if_neg (by simp)]
   rw [if_neg fun h=>by have:=hb.2 h; cases this] at H
   exact H _ h2 (aP.nil _ _) X fun g hg=>by simp [Slc.blk] at hg
 by_cases h1:m.kind=1
 ·rw [if_pos (by simpa using h1)]
  rw [if_pos h1] at H
  exact pR R2 fun s h' M X' sb=>H s h' M (X.trans (X'.mono z2)) fun g hg=>by have:=sb g hg; omega
 ·rw [if_neg (by simpa using h1)]
  by_cases h3:m.kind=3
  ·rw [if_pos (by simpa using h3)]
   exact j1 _ h1 (by simp [h3])
  ·rw [if_neg (by simpa using h3)]
   exact j1 _ h1 (by simp [h3])
theorem Dv {b:Nat} {s:Slc} {g:Nat} (hg:own { L with lb:=b,es:=s } g):own L g∨g=b∨s.blk=some g:=by
 rcases hg with hg | hg | hg | hg | hg | hg | hg
 ·exact .inl (.inl hg)
 ·exact .inr (.inl hg)
 ·exact .inr (.inr hg)
 ·exact .inl (.inr (.inr (.inr (.inl hg))))
 ·exact .inl (.inr (.inr (.inr (.inr (.inl hg)))))
 ·exact .inl (.inr (.inr (.inr (.inr (.inr (.inl hg))))))
 ·exact .inl (.inr (.inr (.inr (.inr (.inr (.inr hg))))))
/-- another log is put in place -/
theorem KA {b:Nat} {s:Slc} {l:Lg} {h1 h2:Heap} (R:aC O h L r) (X:Ext h.size h h1) (A:dV (fun g=>O g∨g=b∨s.blk=some g) h1 b s l) (hb:h.size<=b) (hs:∀ g,s.blk=some g->h.size<=g) (K:Blk h2 L.b (rcs { L with lb:=b,es:=s } { r with log:=l }) 94) (U:Upd L.b h1 h2) :
  Res O h L { r with log:=l } h2 { L with lb:=b,es:=s }:=by
 have wf:=R.wf
 have z1:=X.size
 have z2:=U.size
 have P:=R.p
 have ow:∀ g,own { L with lb:=b,es:=s } g->own L g∨h.size<=g:=fun g hg=>(Dv hg).imp id fun h3=>h3.elim (fun e=>by omega) (hs g)
 have hO:∀ g,G O { L with lb:=b,es:=s } g->O g∨h.size<=g:=fun g hg=>hg.elim .inl fun h1=>(ow g h1).imp (R.ow g) id
 have K1:=R.k.ext X R.k.lt
 have S:Stp (fun g=>g=L.b) h1 h2:=.dQ U (.inl rfl)
 have S0:Stp (own L) h h2:=(Stp.bu (O:=own L) X).trans' (S.mono fun g hg=>.inl (.inl hg))
 have SO:Stp O h h2:=S0.mono fun g hg=>.inl (R.ow g hg)
 have bl:=R.k.lt
 obtain ⟨ks,Kk,Ik⟩:=P.kp
 obtain ⟨vs,Re,_⟩:=A.r
 have nR:∀ {B E w:Nat} {s:Slc} {xs:List Value},Row B h E w s xs->E≠94->Row B h2 E w s xs:=fun Rw hE=>S.row (Rw.ext X fun g hg=>(Rw.bd hg).2) fun g hg e=>by subst e; exact Rw.aZ R.k hE hg
 refine ⟨⟨K,⟨?_,P.sn.step SO hO,P.sl,nR P.nx (by decide),nR P.hs (by decide),P.dj,⟨ks,nR Kk (by decide),Ik.step SO hO⟩,P.bl.old fun g hg=>?_⟩,fun g hg=>.inr hg,fun g hg=>?_,⟨wf.n,wf.me,wf.tm,wf.vt,wf.cm,wf.tk,wf.ld,wf.nx,wf.hs,wf.bl,wf.sn,wf.kp⟩⟩,S0,ow,rfl⟩
 ·exact (A.sub (O':=G O { L with lb:=b,es:=s }) (fun g hg=>by
   rcases hg with hg | hg
   ·exact .inl (.inl hg)
   ·rcases Dv hg with h3 | h3 | h3
    ·exact .inl (.inl (R.ow g h3))
    ·exact .inl (.inr (.inl h3))
    ·exact .inl (.inr (.inr h3))) (.inr (.inr (.inl rfl))) fun g hg=>.inr (.inr (.inr (.inl hg)))).stp S (fun g hg=>.inl (.inl (by rw [hg]; exact R.Ob))) (by omega) fun g hg e=>by have:=hs g hg; omega
 ·obtain ⟨cs,Kb⟩:=P.bl.blk g hg
  have hlt:=P.bl.lt g hg
  rw [U.block g (by omega) fun e=>by subst e; have:=(Kb.inj R.k).2; revert this; decide,X.block g hlt]
 ·rcases hg with hg | hg
  ·have:=R.ob g hg; omega
  ·rcases Dv hg with h3 | h3 | h3
   ·have:=R.ob' h3; omega
   ·have:=A.k.lt; omega
   ·have:=(Re.bd h3).2; omega
/-- the snapshot is put in place, and to be kept -/
theorem zH {index term:Int} {p3:Slc} {aQ:List Int} {k:KP Unit} (R:aC O h L r) (hk:r.keeps.length < 1000000) (I:Imm O h fun h=>SlcAt h p3 (b8 aQ)) (hl:p3.len=aQ.length) (hB:isB aQ) (hz:aQ.length<=1099511627776)
  (H:∀ h' L',Res O h L { r with aQ:=aQ,keeps:=r.keeps ++ [⟨3,term,0,index,[],aQ⟩] } h' L'->k () h'):kJ (some ⟨L.b,0,none⟩) index term p3 k h:=by
 have wf:=R.wf
 have ob:=R.ob
 unfold kJ
 refine sG hl I.now (by omega) fun s1 h1 R1 X1=>?_
 have M1:=R.ext X1
 have z1:=X1.size
 obtain ⟨w,f⟩:=M1.k.put (i:=5) (v:=Slc.v s1) (by show 5 < 14; omega)
 refine ⟨_,rfl,_,w,rfl,?_⟩
 obtain ⟨K2,U2⟩:=f _ rfl
 generalize setH h1 ((⟨L.b,0,none⟩:Addr).add 5) (Slc.v s1)=h2 at *
 have S2:Stp (fun g=>g=L.b) h1 h2:=.dQ U2 (.inl rfl)
 have P2:=M1.p.upd M1.k U2 R.Ob (by decide)
 have bl:=R.k.lt
 have R2:=S2.row R1 fun g hg e=>by have:=(R1.bd hg).1; omega
 have M2:aC O h2 { L with aQ:=s1 } { r with aQ:=aQ }:=⟨K2,⟨P2.l,SlcAt.IL R2 fun g hg h3=>by have:=(R2.bd hg).1; have:=ob g h3; omega,by simpa using R2.len,P2.nx,P2.hs,P2.dj,P2.kp,P2.bl⟩,R.ow,fun g hg=>Nat.lt_of_lt_of_le (M1.ob g hg) U2.size,⟨wf.n,wf.me,wf.tm,wf.vt,wf.cm,wf.tk,wf.ld,wf.nx,wf.hs,wf.bl,⟨hB,hz⟩,wf.kp⟩⟩
 have q2:Res O h L { r with aQ:=aQ } h2 { L with aQ:=s1 }:=⟨M2.g,(Stp.bu (O:=own L) X1).trans' (S2.mono fun g hg=>.inl (.inl hg)),fun g hg=>.inl hg,rfl⟩
 have I2:Imm O h2 fun h=>SlcAt h p3 (b8 aQ):=(I.ext X1).stp (S2.mono fun g hg=>.inl (by rw [hg]; exact R.Ob))
 refine ⟨_,M2.c 13,sG hl I2.now (by omega) fun s3 h3 R3 X3=>?_⟩
 have M3:=M2.ext X3
 refine ⟨M3.c 13,_,_,rfl,rfl,?_⟩
 have X4:=Ext.push h3 (.cells (aj.cs ⟨3,term,0,index,⟨none,0,0⟩,s3⟩).toArray 107) (Nat.le_refl _)
 have q4:=(q2.ext X3).ext X4
 have R4:=R3.ext X4 fun g hg=>(R3.bd hg).2
 generalize h3.push (.cells (aj.cs ⟨3,term,0,index,⟨none,0,0⟩,s3⟩).toArray 107)=h4 at *
 have M4:=q4.R
 have z2:=q2.S.size
 refine ⟨M4.c 13,uX (L:={ L with aQ:=s1 }) (x:=⟨3,term,0,index,[],aQ⟩) M4 hk (fun h' p=>?_) fun h5 L5 q5=>H h5 L5 (q4.trans q5)⟩
 have R5:=p.row R4 fun g hg h6=>by
  have h7:=(R4.bd hg).1
  have:O g:=h6.elim id fun h8=>R.ow g h8
  have:=ob g this
  have:=U2.size
  omega
 exact ⟨⟨rfl,rfl,rfl,rfl⟩,dB.nil h',R5.slc,by simpa using R5.len⟩
theorem Eh {index term:Int} {p3:Slc} {aQ:List Int} {k:KP Unit} (R:aC O h L r) (hk:r.keeps.length < 1000000) (I:Imm O h fun h=>SlcAt h p3 (b8 aQ)) (hl:p3.len=aQ.length) (hB:isB aQ) (hz:aQ.length<=1099511627776)
  (i0:0<=index/\index < 18446744073709551616) (t0:0<=term/\term < 18446744073709551616) (H:∀ h' L',Res O h L (r.base index term aQ) h' L'->k () h'):mh (some ⟨L.b,0,none⟩) index term p3 k h:=by
 unfold mh
 refine ⟨_,rfl,_,R.c 4,yl R.p.l i0.1 i0.2 ?_⟩
 unfold RS.base at H
 cases hm:r.log.mat index term with
 | true =>
  rw [if_pos rfl]
  rw [hm,if_pos rfl] at H
  refine ⟨_,R.c 4,Kv R.p.l R.ob i0.1 i0.2 fun h1 s1 A1 S1 f1=>?_⟩
  have q1:=EK R A1 (S1.mono fun g hg=>.inl (.inl hg)) f1
  exact zH (L:={ L with es:=s1 }) (r:={ r with log:=(r.log.cut index).1 }) q1.R hk (q1.imm R I) hl hB hz fun h' L' q=>H h' L' (q1.trans q)
 | false =>
  rw [if_neg (by simp)]
  rw [hm,if_neg (by simp)] at H
  refine Bu (es:=[]) (dB.nil h) (fun e he=>by cases he) (by simp) i0.1 (by simpa using i0.2) t0 fun b s h1 A hb hs X1=>?_
  have K1:=R.k.ext X1 R.k.lt
  obtain ⟨w,f⟩:=K1.put (i:=4) (v:=.pointer (some ⟨b,0,none⟩)) (by show 4 < 14; omega)
  refine ⟨_,w,rfl,?_⟩
  obtain ⟨K2,U2⟩:=f _ rfl
  generalize setH h1 ((⟨L.b,0,none⟩:Addr).add 4) (.pointer (some ⟨b,0,none⟩))=h2 at *
  have q1:=KA R X1 (A O R.ob) hb hs K2 U2
  exact zH (L:={ L with lb:=b,es:=s }) (r:={ r with log:=⟨index,term,[]⟩ }) q1.R hk (q1.imm R I) hl hB hz fun h' L' q=>H h' L' (q1.trans q)
end
end Go.Q.Yi
end
section
/- A member takes entries. -/
namespace Go.Q.Yi
open Rf
structure WFm (m:Msg):Prop where
 t:0<=m.term/\m.term < 18446744073709551616
 i:0<=m.index/\m.index < 18446744073709551616
 l:0<=m.logTerm/\m.logTerm < 18446744073709551616
 c:0<=m.commit/\m.commit < 18446744073709551616
 e:qU m.aM
 z:m.aM.length<=1000
 s:isB m.aQ/\m.aQ.length<=1099511627776
def Gy (O:bz) (h:Heap) (v:aj) (x:rZ):Prop:=∀ S:bz,(∀ g,S g->O g∨∃ cs E,Blk h g cs E/\E≠65/\E≠5)->Imm S h fun h=>zP h v x
section
variable {O O':bz} {h h':Heap} {L:RLy} {r:RS}
theorem Br (r:RS) (m:Msg) {i:Nat} {x:Ent} (hx:m.aM[i]? = some x):r.nC m i (m.aM.drop i)=if W (m.index + i + 1)<=r.log.ix∨r.log.mat (W (m.index + i + 1)) x.1=true then r.nC m (i + 1) (m.aM.drop (i + 1))
  else ⟨2,(if i > 0/\W (W (m.index + i + 1) - 1) > r.log.ix then (m.aM.getD (i - 1) (0,[])).1 else (r.log.aF (W (W (m.index + i + 1) - 1))).1),0,W (W (m.index + i + 1) - 1),m.aM.drop i,[]⟩:=by
 have hi:=(List.getElem?_eq_some_iff.1 hx).1
 have e:m.aM.drop i=x :: m.aM.drop (i + 1):=by
  rw [List.drop_eq_getElem_cons hi]
  rw [List.getElem?_eq_getElem hi] at hx
  cases hx; rfl
 rw [e]
 rfl
theorem ED {p i:Int}:IntKind.u64.wrap (IntKind.u64.wrap (p + i) + 1)=W (p + i + 1):=by
 unfold W IntKind.wrap
 simp [IntKind.signed,IntKind.bits]
theorem Gj {v:ah} {m:Msg} {k:KP aj} (R:aC O h L r) (MV:uE h v m) (wm:WFm m)
  (H:∀ v' h',Gy O h' v' (r.fresh m)->Ext h.size h h'->k v' h'):oo (some ⟨L.b,0,none⟩) v k h:=by
 unfold oo
 refine ⟨_,_,rfl,rfl,?_⟩
 have X1:=Ext.push h (.cells (ah.cs v).toArray 26) (Nat.le_refl _)
 have C1:=Blk.push h (ah.cs v) 26
 generalize h.push (.cells (ah.cs v).toArray 26)=h1 at *
 have z1:=X1.size
 refine ⟨_,_,rfl,rfl,?_⟩
 have X2:=Ext.push h1 (.cells (aj.cs ⟨0,0,0,0,⟨none,0,0⟩,⟨none,0,0⟩⟩).toArray 107) (Nat.le_refl _)
 have D2:=Blk.push h1 (aj.cs ⟨0,0,0,0,⟨none,0,0⟩,⟨none,0,0⟩⟩) 107
 have C2:=C1.ext X2 C1.lt
 have cl:=C1.lt
 generalize h1.push (.cells (aj.cs ⟨0,0,0,0,⟨none,0,0⟩,⟨none,0,0⟩⟩).toArray 107)=h2 at *
 have z2:=X2.size
 have X02:Ext h.size h h2:=X1.trans (X2.mono z1)
 have R2:=R.ext X02
 obtain ⟨b1,e1⟩:∃ y,y=h.size:=⟨_,rfl⟩
 obtain ⟨b3,e3⟩:∃ y,y=h1.size:=⟨_,rfl⟩
 rw [← e1] at C2 cl ⊢
 rw [← e3] at D2 ⊢
 have dl:=D2.lt
 refine ⟨_,rfl,_,R2.c 4,xX R2.p.l ⟨v.dR,by rw [C2.get]; rfl,?_⟩⟩
 have vl:=MV.e.l
 have mz:=wm.z
 have x0:=R.p.l.x0
 rw [vl]
 have ob:=R.ob
 -- what is written at the end
 have wr:∀ {h5:Heap} {x:aj},Ext h2.size h2 h5->Gy O h5 x (r.fresh m)->∃ h37:Heap,dE h5 (⟨b3,0,none⟩:Addr) 6/\h37=aU h5 (⟨b3,0,none⟩:Addr) 0 (aj.cs x)/\(∃ v38:aj,aJ h37 (⟨b3,0,none⟩:Addr) (aj.cs v38)/\k v38 h37):=fun {h5 x} X5 F=>by
  have P5:=D2.ext X5 dl
  refine ⟨_,dE.eQ P5 (by show 6<=6; omega),rfl,?_⟩
  have P6:=P5.jZ (vs:=aj.cs x) rfl
  have z5:=X5.size
  have X6:Ext h.size h5 (aU h5 ⟨b3,0,none⟩ 0 (aj.cs x)):=Ext.sets _ _ _ (by show h.size<=b3; omega)
  have old:∀ g,g≠b3->(aU h5 ⟨b3,0,none⟩ 0 (aj.cs x))[g]? = h5[g]?:=fun g hg=>lD _ _ hg
  generalize aU h5 ⟨b3,0,none⟩ 0 (aj.cs x)=h6 at *
  refine ⟨x,aJ.eQ P6,H x h6 (fun S hS=>?_) (X02.trans ((X5.mono (by omega)).trans X6))⟩
  refine (F (fun g=>S g∨g=b3) fun g hg=>?_).step ⟨X6.size,fun g hg hn=>old g fun e=>hn (.inr e)⟩ fun g hg=>.inl (.inl hg)
  by_cases e:g=b3
  ·subst e; exact .inr ⟨_,_,P5,by decide⟩
  ·exact (hg.resolve_right e |> hS g).imp id fun ⟨cs,E,K,hE⟩=>⟨cs,E,K.old (old g e).symm,hE⟩
 unfold rE
 refine ⟨fun i h'=>∃ n:Nat,i=n/\n<=m.aM.length/\r.fresh m=r.nC m n (m.aM.drop n)/\Ext h2.size h2 h',fun i _=>(m.aM.length - i).toNat,⟨0,rfl,Nat.zero_le _,rfl,Ext.refl _ _⟩,?_⟩
 rintro i h3 ⟨n,rfl,n1,en,X3⟩
 have z3:=X3.size
 have R3:=R2.ext X3
 have C3:=C2.ext X3 (by omega)
 have V3:=(MV.ext X02).ext X3
 unfold qP
 by_cases hn:n < m.aM.length
 ·rw [if_pos (by simp; omega)]
  obtain ⟨x,hx⟩:∃ x,m.aM[n]? = some x:=⟨_,List.getElem?_eq_getElem hn⟩
  have okx:=wm.e x (List.mem_of_getElem? hx)
  obtain ⟨a,u,ha,c1,c2⟩:=V3.e.get hx
  refine ⟨a,ha,by omega,by omega,u,by rw [Int.toNat_natCast]; exact c1,_,_,rfl,rfl,?_⟩
  have P0:=Blk.push h3 (ae.cs ⟨0,⟨none,0,0⟩⟩) 65
  have P1:=P0.jZ (vs:=ae.cs u) (by simp [ae.cs])
  have X4:Ext h3.size h3 (aU (h3.push (.cells (ae.cs ⟨0,⟨none,0,0⟩⟩).toArray 65)) ⟨h3.size,0,none⟩ 0 (ae.cs u)):=(Ext.push h3 _ (Nat.le_refl _)).trans (Ext.sets _ _ _ (Nat.le_refl _))
  refine ⟨_,dE.eQ P0 (by simp [ae.cs]),rfl,?_⟩
  generalize aU (h3.push (.cells (ae.cs ⟨0,⟨none,0,0⟩⟩).toArray 65)) ⟨h3.size,0,none⟩ 0 (ae.cs u)=h4 at *
  have z4:=X4.size
  have X24:Ext h2.size h2 h4:=X3.trans (X4.mono z3)
  have R4:=R3.ext X4
  have C4:=C3.ext X4 (by omega)
  have V4:=V3.ext X4
  have ci:af h4 ((⟨b1,0,none⟩:Addr).add 2)=some (.int .u64 m.index):=by rw [C4.get,← MV.k.2.2.1]; rfl
  have ce:af h4 ((⟨b1,0,none⟩:Addr).add 6)=some (Slc.v v.dR):=by rw [C4.get]; rfl
  refine ⟨_,ci,_,rfl,?_⟩
  rw [aY (x:=(n:Int)) (by omega) (by omega),ED]
  have step:=Br r m hx
  rw [← en] at step
  obtain ⟨w0,w1⟩:=xI (m.index + n + 1)
  obtain ⟨w2,w3⟩:=xI (W (m.index + n + 1) - 1)
  have skip:(W (m.index + n + 1)<=r.log.ix∨r.log.mat (W (m.index + n + 1)) x.1=true)->eB (some ⟨L.b,0,none⟩) ⟨b1,0,none⟩ ⟨b3,0,none⟩ r.log.ix n (W (m.index + n + 1)) v.dR (m.aM.length:Int) n true k (fun i h'=>(∃ n:Nat,i=n/\n<=m.aM.length/\r.fresh m=r.nC m n (m.aM.drop n)/\Ext h2.size h2 h')/\(m.aM.length - i).toNat < ((m.aM.length:Int) - n).toNat) h4:=fun hs=>by
   unfold eB
   rw [if_pos rfl,az (by omega) (by omega)]
   rw [if_pos hs] at step
   exact ⟨⟨n + 1,by omega,by omega,step,X24⟩,by omega⟩
  have take:¬ (W (m.index + n + 1)<=r.log.ix∨r.log.mat (W (m.index + n + 1)) x.1=true)->eB (some ⟨L.b,0,none⟩) ⟨b1,0,none⟩ ⟨b3,0,none⟩ r.log.ix n (W (m.index + n + 1)) v.dR (m.aM.length:Int) n false k (fun i h'=>(∃ n:Nat,i=n/\n<=m.aM.length/\r.fresh m=r.nC m n (m.aM.drop n)/\Ext h2.size h2 h')/\(m.aM.length - i).toNat < ((m.aM.length:Int) - n).toNat) h4:=fun hs=>by
   rw [if_neg hs] at step
   unfold eB
   rw [if_neg (by simp)]
   have eW:IntKind.u64.wrap (W (m.index + n + 1) - 1)=W (W (m.index + n + 1) - 1):=rfl
   rw [eW]
   have j3:∀ T:Int,r.fresh m=⟨2,T,0,W (W (m.index + n + 1) - 1),m.aM.drop n,[]⟩->jh ⟨b1,0,none⟩ ⟨b3,0,none⟩ n (W (m.index + n + 1)) T k (fun i h'=>(∃ n:Nat,i=n/\n<=m.aM.length/\r.fresh m=r.nC m n (m.aM.drop n)/\Ext h2.size h2 h')/\(m.aM.length - i).toNat < ((m.aM.length:Int) - n).toNat) h4:=fun T eT=>by
    unfold jh
    have cc:=V4.e.c
    refine ⟨_,ce,_,by omega,by omega,by omega,Int.le_refl _,rfl,?_⟩
    have A:=V4.e.sub (l:=(n:Int).toNat) (u:=(v.dR.len:Int).toNat) (m:=(v.dR.cap:Int).toNat) (by omega) (by omega) (by omega) (by omega)
    rw [Int.toNat_natCast,List.take_of_length_le (by simp; omega)] at A
    rw [Int.toNat_natCast]
    generalize dS v.dR 2 n (v.dR.len:Int).toNat (v.dR.cap:Int).toNat=s6 at A ⊢
    refine Bu A (wm.e.drop n) (by simp; omega) (Int.le_refl _) (by simp; omega) ⟨Int.le_refl _,by decide⟩ fun b5 s5 h5 Lg5 hb5 hs5 X5=>?_
    have L5:=Lg5 (fun _=>False) (fun _ h=>h.elim)
    have z5:=X5.size
    refine yO L5 fun s7 h7 vs F7 X7=>?_
    have z7:=X7.size
    have X27:Ext h2.size h2 h7:=X24.trans ((X5.mono (by omega)).trans (X7.mono (by omega)))
    refine wr X27 fun S hS h' p=>?_
    rw [eT]
    have hS':∀ {B E w:Nat} {s:Slc} {xs:List Value},Row B h7 E w s xs->(E=65∨E=5)->h5.size<=B->∀ g,s.blk=some g->¬ S g:=fun Rw hE hB g hg h8=>by
     rcases hS g h8 with h6 | ⟨cs,E',K,hE'⟩
     ·have:=(Rw.bd hg).1; have:=ob g h6; omega
     ·rcases hE with rfl | rfl
      ·exact Rw.aZ K hE'.1.symm hg
      ·exact Rw.aZ K hE'.2.symm hg
    have F8:nD h5.size h' s7 (m.aM.drop n) vs:=⟨p.row F7.r (hS' F7.r (.inl rfl) (Nat.le_refl _)),F7.l,fun i v e hv he=>⟨(F7.e i v e hv he).1,p.row (F7.e i v e hv he).2 (hS' (F7.e i v e hv he).2 (.inr rfl) (Nat.le_refl _))⟩⟩
    exact ⟨⟨rfl,rfl,rfl,rfl⟩,F8.aM,pJ h',rfl⟩
   refine ⟨_,rfl,_,R4.c 4,rP R4.p.l w2 w3 ?_⟩
   by_cases hc:n > 0/\W (W (m.index + n + 1) - 1) > r.log.ix
   ·rw [if_pos (by simp; omega)]
    rw [if_pos hc] at step
    obtain ⟨y,hy⟩:∃ y,m.aM[n - 1]? = some y:=⟨_,List.getElem?_eq_getElem (by omega)⟩
    obtain ⟨a2,u2,ha2,d1,d2⟩:=V4.e.get hy
    have:=d1 0 (.int .u64 u2.cZ) rfl
    rw [fI,Nat.add_zero,d2.t] at this
    rw [az (by omega) (by omega),show ((n:Int) - 1).toNat=n - 1 from by omega]
    refine ⟨_,ce,a2,ha2,by omega,by omega,_,this,j3 _ ?_⟩
    rw [step,List.getD_eq_getElem?_getD,hy]; rfl
   ·rw [if_neg (by simp; omega)]
    rw [if_neg hc] at step
    exact j3 _ step
  by_cases hle:W (m.index + n + 1)<=r.log.ix
  ·rw [if_pos (by simpa using hle)]
   exact skip (.inl hle)
  ·rw [if_neg (by simpa using hle)]
   refine ⟨_,rfl,_,R4.c 4,x.1,by rw [P1.cell,← c2.t]; rfl,yl R4.p.l w0 w1 ?_⟩
   cases hm:r.log.mat (W (m.index + n + 1)) x.1 with
   | true=>exact skip (.inr hm)
   | false=>exact take fun h=>h.elim hle fun h2=>by rw [hm] at h2; cases h2
 ·rw [if_neg (by simp; omega)]
  have:m.aM.drop n=[]:=List.drop_of_length_le (by omega)
  rw [this] at en
  exact wr X3 (by rw [en]; exact fun S _ h' _=>⟨⟨rfl,rfl,rfl,rfl⟩,dB.nil h',pJ h',rfl⟩)
end
end Go.Q.Yi
end

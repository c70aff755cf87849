/- A part of the proof of statements of this seat: lemmas, no statement of their own. -/
import Derived.Test.YthjafnfadiijgaaYiZat
import Derived.Test.YthjafnfadiijgaaYiZan
set_option linter.unusedVariables false
set_option linter.unusedSimpArgs false
set_option maxRecDepth 100000
section
/- A member: campaigns, ticks, votes. -/
namespace Go.Q.Yi
open Rf
section
variable {O O':bz} {h h':Heap} {L:RLy} {r:RS}
/-- new blocks may count as written -/
theorem aB.grow (R:aB O h L r) (X:Ext h.size h h') (h1:∀ g,O' g->O g∨(h.size<=g/\g < h'.size)) (h2:∀ g,O g->O' g):aB O' h' L r:=by
 have P:=R.p.sub (O':=O') (fun g hg=>(h1 g hg).imp id fun h=>h.1) (h2 _ (R.ow _ (.inr (.inl rfl)))) fun g hg=>h2 _ (R.ow _ (.inr (.inr (.inl hg))))
 exact ⟨R.k.ext X R.k.lt,P.stp (S:=fun _=>False) (.bi X) (fun _ h=>h.elim) (fun h=>h) (fun _ _ h=>h) (fun _ _ h=>h) (fun _ _ h=>h) (fun _ _ h=>h) (fun _ _ h=>h),fun g hg=>h2 g (R.ow g hg),fun g hg=>(h1 g hg).elim (fun h3=>Nat.lt_of_lt_of_le (R.ob g h3) X.size) fun h3=>h3.2,R.wf⟩
theorem FE (ms:List aF):∀ v∈ms.flatMap aF.cs,v.oneCell'=true:=by
 intro x hx
 obtain ⟨v,_,hv⟩:=List.mem_flatMap.1 hx
 exact qX (l:=aF.cs v) (by simp [aF.cs,ah.cs,Value.oneCell']) x hv
theorem Ac {O1:bz} {s1 s2:Slc} {l1 l2:List lY} {k:KP Slc} (M1:aJ O h s1 l1) (M2:aJ O1 h s2 l2) (hO:∀ g,O g->O1 g) (h1:∀ g,s1.blk=some g->O1 g) (ob:∀ g,O g->g < h.size) (z:l1.length + l2.length<=100000)
  (H:∀ s h',aJ O h' s (l1 ++ l2)->Stp (fun g=>s1.blk=some g) h h'->(∀ g,s.blk=some g->s1.blk=some g∨h.size<=g)->k s h') :
  ∃ l70:List Value,SlcAt h s2 l70/\App 45 9 104 [.int .i64 0,.int .i64 0,.int .u64 0,.int .u64 0,.int .u64 0,.int .u64 0,.bool false,.slice none 0 0,.slice none 0 0] h s1 s2.len l70 (fun s68 h69=>k s68 h69):=by
 have e1:=M1.len
 have e2:=M2.len
 obtain ⟨m1,R1,n1,I1⟩:=M1.m
 obtain ⟨m2,R2,n2,I2⟩:=M2.m
 refine ⟨_,R2.slc,App.xI R1 (Nat.zero_le _) rfl (by rw [Ar]; omega) (FE m2) (by omega) (by simp only [maxLen]; omega) fun s h1' Ra l1' z1 o1 b1 _=>?_⟩
 have S1:Stp (fun g=>s1.blk=some g) h h1':=⟨z1,fun g hg hn=>o1 g hg hn⟩
 have sb:∀ g,s.blk=some g->s1.blk=some g∨h.size<=g:=fun g hg=>by
  rcases b1 with ⟨b1,_⟩ | b1
  ·exact .inl (by rw [← b1]; exact hg)
  ·rw [b1] at hg; cases hg; exact .inr (Nat.le_refl _)
 refine H s h1' ⟨⟨m1 ++ m2,by simpa using Ra,by simp [n1,n2],fun i m y hm hy=>?_⟩,fun g hg h2=>(sb g hg).elim (fun h=>M1.n g h h2) fun h3=>by have:=ob g h2; omega⟩ S1 sb
 rcases Nat.lt_or_ge i m1.length with hi | hi
 ·rw [List.getElem?_append_left hi] at hm
  rw [List.getElem?_append_left (by rw [← n1]; exact hi)] at hy
  refine ⟨(I1 i m y hm hy).1,(I1 i m y hm hy).2.step (S1.mono fun g hg=>.inl (.inr hg)) fun g hg=>?_⟩
  rcases hg with hg | hg
  ·exact .inl (.inl hg)
  ·exact (sb g hg).elim (fun h=>.inl (.inr h)) .inr
 ·rw [List.getElem?_append_right hi] at hm
  rw [List.getElem?_append_right (by rw [← n1]; exact hi),← n1] at hy
  refine ⟨(I2 _ m y hm hy).1,(I2 _ m y hm hy).2.step (S1.mono fun g hg=>.inl (.inl (h1 g hg))) fun g hg=>?_⟩
  rcases hg with hg | hg
  ·exact .inl (.inl (hO g hg))
  ·exact (sb g hg).elim (fun h=>.inl (.inl (h1 g h))) .inr
theorem qF (r:RS) (f:Int->Msg):(r.others f).length<=r.n.toNat:=by
 unfold RS.others
 rw [List.length_map]
 exact ru r.me r.n.toNat
theorem Ag:r.win.2.length<=r.n.toNat:=by
 have:∀ x:RS,x.settle.n=x.n:=fun x=>by unfold RS.settle; split <;> rfl
 unfold RS.win
 split
 ·simp
 ·refine Nat.le_trans (qF _ _) (Nat.le_of_eq ?_)
  unfold RS.put
  split
  ·rfl
  ·rw [this]; rfl
theorem AX {c:Option Nat} {g:Nat} (hg:own { L with bal:=c } g):own L g∨c=some g:=by
 rcases hg with hg | hg | hg | hg | hg | hg | hg
 ·exact .inl (.inl hg)
 ·exact .inl (.inr (.inl hg))
 ·exact .inl (.inr (.inr (.inl hg)))
 ·exact .inl (.inr (.inr (.inr (.inl hg))))
 ·exact .inl (.inr (.inr (.inr (.inr (.inl hg)))))
 ·exact .inl (.inr (.inr (.inr (.inr (.inr (.inl hg))))))
 ·exact .inr hg
/-- a ballot is put in place -/
theorem Dp {c:Nat} {l:List Int} {h1 h2:Heap} (R:aB O h L r) (X:Ext h.size h h1) (B:Blk h1 c (iE.cs ⟨r.n,(bits l:Int)⟩) 123) (hc:h.size<=c) (K:Blk h2 L.b (rcs { L with bal:=some c } { r with ballot:=some l }) 94) (U:Upd L.b h1 h2) (hl:l.Nodup/\∀ x∈l,0<=x/\x < r.n) :
  Res O h L { r with ballot:=some l } h2 { L with bal:=some c }:=by
 have wf:=R.wf
 have K1:=R.k.ext X R.k.lt
 have z1:=X.size
 have z2:=U.size
 have ow:∀ g,own { L with bal:=some c } g->own L g∨h.size<=g:=fun g hg=>(AX hg).imp id fun e=>by cases e; exact hc
 have hO:∀ g,G O { L with bal:=some c } g->O g∨h.size<=g:=fun g hg=>hg.elim .inl fun h1=>(ow g h1).imp (R.ow g) id
 have P1:=(R.p.sub hO (.inl (R.ow _ (.inr (.inl rfl)))) fun g hg=>.inl (R.ow _ (.inr (.inr (.inl hg))))).stp (S:=fun _=>False) (.bi X) (fun _ h=>h.elim) (fun h=>h) (fun _ _ h=>h) (fun _ _ h=>h) (fun _ _ h=>h) (fun _ _ h=>h) (fun _ _ h=>h)
 have P2:=P1.upd K1 U (.inl R.Ob) (by decide)
 have bl:=R.k.lt
 refine ⟨⟨K,⟨P2.l,P2.sn,P2.sl,P2.nx,P2.hs,P2.dj,P2.kp,B.old (U.block c B.lt (by omega))⟩,fun g hg=>.inr hg,fun g hg=>?_,⟨wf.n,wf.me,wf.tm,wf.vt,wf.cm,wf.tk,wf.ld,wf.nx,wf.hs,(fun l' e=>by cases e; exact hl),wf.sn,wf.kp⟩⟩,(Stp.bi (O:=own L) X).trans' (.dD U (.inl (.inl rfl))),ow,rfl⟩
 rcases hg with hg | hg
 ·have:=R.ob g hg; omega
 ·rcases AX hg with hg | hg
  ·have:=R.ob' hg; omega
  ·cases hg; have:=B.lt; omega
/-- the ballot's block is written -/
theorem EN {c:Nat} {l:List Int} (R:aB O h L r) (hb:L.bal=some c) (B:Blk h' c (iE.cs ⟨r.n,(bits l:Int)⟩) 123) (U:Upd c h h') (hl:l.Nodup/\∀ x∈l,0<=x/\x < r.n):aB O h' L { r with ballot:=some l }/\Stp (own L) h h':=by
 have wf:=R.wf
 have P:=R.p
 obtain ⟨cs,Kb⟩:=P.bl.blk c hb
 obtain ⟨vs,Re,_⟩:=P.l.r
 obtain ⟨ks,Kk,Ik⟩:=P.kp
 have oc:own L c:=.inr (.inr (.inr (.inr (.inr (.inr hb)))))
 have S:Stp (fun g=>g=c) h h':=.dD U (.inl rfl)
 have SO:Stp O h h':=S.mono fun g hg=>.inl (by rw [hg]; exact R.ow _ oc)
 have nR:∀ {B E w:Nat} {s:Slc} {xs:List Value},Row B h E w s xs->E≠123->∀ g,s.blk=some g->¬ g=c:=fun Rw hE g hg e=>by subst e; exact Rw.aW Kb hE hg
 have nB:∀ {b E:Nat} {ds:List Value},Blk h b ds E->E≠123->¬ b=c:=fun K hE e=>by subst e; exact hE (K.inj Kb).2
 refine ⟨⟨S.blk R.k (nB R.k (by decide)),⟨P.l.stp S (fun g hg=>.inl (by rw [hg]; exact R.ow _ oc)) (nB P.l.k (by decide)) (nR Re (by decide)),P.sn.stp SO,P.sl,S.row P.nx (nR P.nx (by decide)),S.row P.hs (nR P.hs (by decide)),P.dj,⟨ks,S.row Kk (nR Kk (by decide)),Ik.stp SO⟩,by rw [hb]; exact B⟩,R.ow,fun g hg=>Nat.lt_of_lt_of_le (R.ob g hg) U.size,⟨wf.n,wf.me,wf.tm,wf.vt,wf.cm,wf.tk,wf.ld,wf.nx,wf.hs,(fun l' e=>by cases e; exact hl),wf.sn,wf.kp⟩⟩,S.mono fun g hg=>.inl (by rw [hg]; exact oc)⟩
theorem xY {k:KP Slc} (R:aB O h L r) (hk:r.keeps.length < 999990)
  (H:∀ s h' L',Res O h L r.iA.1 h' L'->aJ (G O L') h' s r.iA.2->(∀ g,s.blk=some g->h.size<=g)->k s h'):kF (some ⟨L.b,0,none⟩) k h:=by
 have wf:=R.wf
 have nb:=wf.n
 have mb:=wf.me
 have tb:=wf.tm
 unfold kF
 refine ⟨_,_,rfl,rfl,?_⟩
 have X1:=Ext.push h (.cells ([.pointer (some ⟨L.b,0,none⟩)]:List Value).toArray 37) (Nat.le_refl _)
 have C1:=Blk.push h [.pointer (some ⟨L.b,0,none⟩)] 37
 have R1:=R.ext X1
 generalize h.push (.cells ([.pointer (some ⟨L.b,0,none⟩)]:List Value).toArray 37)=h1 at *
 obtain ⟨b1,e1⟩:∃ y,y=h.size:=⟨_,rfl⟩
 rw [← e1] at C1 ⊢
 have z1:=X1.size
 have cp:∀ {h':Heap},Blk h' b1 [.pointer (some ⟨L.b,0,none⟩)] 37->af h' ⟨b1,0,none⟩=some (.pointer (some ⟨L.b,0,none⟩)):=fun K=>by rw [K.cell]; rfl
 unfold RS.iA at H
 refine ⟨_,cp C1,_,rfl,_,R1.c 2,?_⟩
 by_cases ht:r.term>=4611686018427387904
 ·rw [if_pos (by simpa using ht)]
  rw [if_pos ht] at H
  exact H _ h1 L (Res.of R1 (.bi X1)) (aJ.nil _ _) fun g hg=>by simp [Slc.blk] at hg
 rw [if_neg (by simpa using ht)]
 rw [if_neg ht] at H
 have eW:IntKind.u64.wrap (r.term + 1)=W (r.term + 1):=rfl
 have wb:=uu (r.term + 1)
 obtain ⟨w,f⟩:=R1.k.put (i:=2) (v:=.int .u64 (W (r.term + 1))) (by show 2 < 14; omega)
 refine ⟨_,cp C1,_,rfl,_,R1.c 2,?_⟩
 rw [eW]
 refine ⟨_,w,rfl,?_⟩
 obtain ⟨K2,U2⟩:=f _ rfl
 generalize setH h1 ((⟨L.b,0,none⟩:Addr).add 2) (.int .u64 (W (r.term + 1)))=h2 at *
 have C2:=U2.blk C1 (by have:=R.k.lt; omega)
 have me2:af h2 ⟨L.b,0,none⟩=some (.int .i64 r.me):=by rw [K2.cell]; rfl
 obtain ⟨w,f⟩:=K2.put (i:=7) (v:=.int .i64 1) (by show 7 < 14; omega)
 refine ⟨_,cp C2,_,cp C2,_,cp C2,_,cp C2,_,cp C2,_,rfl,_,me2,_,rfl,_,w,rfl,?_⟩
 obtain ⟨K3,U3⟩:=f _ rfl
 generalize setH h2 ((⟨L.b,0,none⟩:Addr).add 7) (.int .i64 1)=h3 at *
 have C3:=U3.blk C2 (by have:=R.k.lt; omega)
 obtain ⟨w,f⟩:=K3.put (i:=8) (v:=.int .i64 (-1)) (by show 8 < 14; omega)
 refine ⟨cp C3,cp C3,cp C3,_,rfl,_,w,rfl,?_⟩
 obtain ⟨K4,U4⟩:=f _ rfl
 generalize setH h3 ((⟨L.b,0,none⟩:Addr).add 8) (.int .i64 (-1))=h4 at *
 have C4:=U4.blk C3 (by have:=R.k.lt; omega)
 obtain ⟨w,f⟩:=K4.put (i:=9) (v:=.int .i64 0) (by show 9 < 14; omega)
 refine ⟨cp C4,cp C4,_,rfl,_,w,rfl,?_⟩
 obtain ⟨K5,U5⟩:=f _ rfl
 generalize setH h4 ((⟨L.b,0,none⟩:Addr).add 9) (.int .i64 0)=h5 at *
 have C5:=U5.blk C4 (by have:=R.k.lt; omega)
 rw [ay (x:=r.me + 1) (by omega) (by omega)]
 obtain ⟨w,f⟩:=K5.put (i:=3) (v:=.int .i64 (r.me + 1)) (by show 3 < 14; omega)
 refine ⟨cp C5,_,rfl,_,w,rfl,?_⟩
 obtain ⟨K6,U6⟩:=f _ rfl
 generalize setH h5 ((⟨L.b,0,none⟩:Addr).add 3) (.int .i64 (r.me + 1))=h6 at *
 have C6:=U6.blk C5 (by have:=R.k.lt; omega)
 have U:=(((U2.trans U3).trans U4).trans U5).trans U6
 have M6:aB O h6 L { r with term:=W (r.term + 1),role:=1,leader:=-1,ticks:=0,bR:=r.me + 1 }:=R1.yM K6 U ⟨wf.n,wf.me,wb,by show _<=r.me + 1/\r.me + 1 < _; omega,wf.cm,⟨Int.le_refl _,by show (0:Int)<=1000000000; omega⟩,(fun e=>by cases e),wf.nx,wf.hs,wf.bl,wf.sn,wf.kp⟩ ⟨rfl,rfl,rfl,rfl,rfl,rfl,rfl⟩
 have q6:Res O h1 L { r with term:=W (r.term + 1),role:=1,leader:=-1,ticks:=0,bR:=r.me + 1 } h6 L:=Res.of M6 (.dD U (.inl (.inl rfl)))
 refine ⟨_,cp C6,rE q6.R (by show r.keeps.length < _; omega) fun h7 L7 q7=>?_⟩
 have C7:=q7.S.blk C6 (q6.R.lZ C6 (by decide))
 have q17:=q6.trans q7
 have M7:=q17.R
 have b7:L7.b=L.b:=q17.b
 rw [← b7] at C7
 have cp:∀ {h':Heap},Blk h' b1 [.pointer (some ⟨L7.b,0,none⟩)] 37->af h' ⟨b1,0,none⟩=some (.pointer (some ⟨L7.b,0,none⟩)):=fun K=>by rw [K.cell]; rfl
 refine ⟨_,cp C7,_,cp C7,_,rfl,_,M7.c 1,Dv fun c h8 m em B8 hc X8=>?_⟩
 change m=(if r.n < 0 then 0 else if r.n < 32 then r.n else 32) at em
 have em':m=r.n:=by rw [em,if_neg (by omega)]; split <;> omega
 rw [em'] at B8
 have C8:=C7.ext X8 C7.lt
 have K8:=M7.k.ext X8 M7.k.lt
 obtain ⟨w,f⟩:=K8.put (i:=10) (v:=.pointer (some ⟨c,0,none⟩)) (by show 10 < 14; omega)
 refine ⟨cp C8,_,rfl,_,w,rfl,?_⟩
 obtain ⟨K9,U9⟩:=f _ rfl
 generalize setH h8 ((⟨L7.b,0,none⟩:Addr).add 10) (.pointer (some ⟨c,0,none⟩))=h9 at *
 have C9:=U9.blk C8 fun e=>by have:=M7.k.lt; rw [← e] at this; have h10:=C8.inj (by rw [e]; exact K8); revert h10; simp
 have q9:=Dp (l:=[]) M7 X8 B8 hc K9 U9 ⟨List.nodup_nil,by simp⟩
 have q19:=q17.trans q9
 have M9:=q19.R
 obtain ⟨L9,eL9⟩:∃ y,y=({ L7 with bal:=some c }:RLy):=⟨_,rfl⟩
 rw [← eL9] at q9 q19 M9
 have hb9:L9.bal=some c:=by rw [eL9]
 have e9:L9.b=L7.b:=by rw [eL9]
 have cc:=M9.c 10
 rw [e9] at cc
 have e10:L9.bal.map (fun c=>(⟨c,0,none⟩:Addr))=some ⟨c,0,none⟩:=by rw [hb9]; rfl
 have cc':af h9 ((⟨L7.b,0,none⟩:Addr).add 10)=some (.pointer (some ⟨c,0,none⟩)):=by rw [cc,← e10]; rfl
 have cm:=M9.c0
 rw [e9] at cm
 refine ⟨_,cp C9,_,rfl,_,cc',_,cp C9,_,rfl,_,cm,?_⟩
 have B9:=M9.p.bl
 rw [hb9] at B9
 refine BU (n:=r.n) (y:=0) (p:=r.me) B9 (by omega) nb.2 (Nat.pos_of_ne_zero (by simp)) (by omega) (fun p0 p1 _ h10 B10 U10=>?_) fun hn=>by have:=hn mb.1 mb.2; simp at this
 have eb:bits [r.me]=0 + 2 ^ r.me.toNat:=by simp [bits]
 rw [← eb] at B10
 obtain ⟨M10,S10⟩:=EN (l:=[r.me]) M9 hb9 B10 U10 ⟨by simp,fun x hx=>by simp at hx; subst hx; exact mb⟩
 have q20:Res O h1 L r.asks h10 L9:=q19.trans (Res.of M10 S10)
 have C10:=U10.blk C9 fun e=>by have h10:=C9.inj (by rw [e]; exact B9); revert h10; simp
 have M10:=q20.R
 have c4:=M10.c 4
 rw [e9] at c4
 refine ⟨_,cp C10,_,rfl,_,c4,qB M10.p.l ⟨_,_,rfl,rfl,_,_,rfl,rfl,?_⟩⟩
 have X11:=Ext.push h10 (.cells ([.int .u64 0]:List Value).toArray 22) (Nat.le_refl _)
 have D11:=Blk.push h10 [.int .u64 0] 22
 generalize h10.push (.cells ([.int .u64 0]:List Value).toArray 22)=h11 at *
 have z11:=X11.size
 have X12:=Ext.push h11 (.cells ([.int .u64 0]:List Value).toArray 22) (Nat.le_refl _)
 have E12:=Blk.push h11 [.int .u64 0] 22
 have D12:=D11.ext X12 D11.lt
 have hd:=D11.lt
 generalize h11.push (.cells ([.int .u64 0]:List Value).toArray 22)=h12 at *
 have z12:=X12.size
 obtain ⟨d,ed⟩:∃ y,y=h10.size:=⟨_,rfl⟩
 obtain ⟨e,ee⟩:∃ y,y=h11.size:=⟨_,rfl⟩
 rw [← ed] at D12 hd ⊢
 rw [← ee] at E12 ⊢
 obtain ⟨w,f⟩:=D12.put (i:=0) (v:=.int .u64 r.asks.log.last) (by show 0 < 1; omega)
 rw [show (⟨d,0,none⟩:Addr).add 0=⟨d,0,none⟩ from rfl] at w f
 refine ⟨_,w,rfl,?_⟩
 obtain ⟨D13,U13⟩:=f _ rfl
 have E13:=U13.blk E12 (by omega)
 have X13:Ext h10.size h12 (setH h12 (⟨d,0,none⟩:Addr) (.int .u64 r.asks.log.last)):=Ext.set _ _ (by show h10.size<=d; omega)
 generalize setH h12 (⟨d,0,none⟩:Addr) (.int .u64 r.asks.log.last)=h13 at *
 obtain ⟨w,f⟩:=E13.put (i:=0) (v:=.int .u64 r.asks.log.lastT) (by show 0 < 1; omega)
 rw [show (⟨e,0,none⟩:Addr).add 0=⟨e,0,none⟩ from rfl] at w f
 refine ⟨_,w,rfl,?_⟩
 obtain ⟨E14,U14⟩:=f _ rfl
 have D14:=U14.blk D13 (by omega)
 have X14:Ext h10.size h13 (setH h13 (⟨e,0,none⟩:Addr) (.int .u64 r.asks.log.lastT)):=Ext.set _ _ (by show h10.size<=e; omega)
 generalize setH h13 (⟨e,0,none⟩:Addr) (.int .u64 r.asks.log.lastT)=h14 at *
 have X10_14:Ext h10.size h10 h14:=X11.trans ((X12.mono z11).trans (X13.trans X14))
 have q14:=q20.ext X10_14
 have M14:=q14.R
 have C14:=C10.ext X10_14 C10.lt
 refine ⟨_,cp C14,?_⟩
 rw [← e9] at C14 ⊢
 refine vX M14 C14 D14 E14 fun s15 h15 Ml15 X15 sb15=>?_
 have C15:=C14.ext X15 C14.lt
 have z15:=X15.size
 refine ⟨_,by rw [C15.cell]; rfl,?_⟩
 -- from here on what was sent counts as written
 have M15:aB (OB (G O L9) s15) h15 L9 r.asks:=M14.grow X15 (fun g hg=>hg.imp id fun h=>⟨sb15 g h,by obtain ⟨ms,Rm,_⟩:=Ml15.m; exact (Rm.bd h).2⟩) fun g hg=>.inl hg
 refine uO M15 (fun _=>⟨_,rfl⟩) (by simp [RS.asks,RS.fI]; omega) fun s16 h16 L16 q16 Ml16 sb16=>?_
 have z16:=q16.S.size
 have Ml15':aJ (G O L16) h16 s15 (r.asks.others fun _=>⟨1,r.asks.term,r.asks.log.last,r.asks.log.lastT,0,false,[],[]⟩):=Ml15.step q16.S (fun g hg=>.inl (.inr hg)) fun g hg=>by
  rcases hg with hg | hg
  ·exact .inl (.inl hg)
  ·exact (q16.F g hg).imp .inr id
 have hO:∀ g,G O L16 g->G (OB (G O L9) s15) L16 g:=fun g hg=>hg.imp (fun h=>.inl (.inl h)) id
 refine Ac Ml15' Ml16 hO (fun g hg=>.inl (.inr hg)) (fun g hg=>q16.R.ob g (hO g hg)) (Nat.le_trans (Nat.add_le_add (qF r.asks _) (Ag (r:=r.asks))) (by show r.n.toNat + r.n.toNat<=100000; omega)) fun s17 h17 Ml17 S17 sb17=>?_
 obtain ⟨ms,Rm,_⟩:=Ml15'.m
 have M17:aB (G (OB (G O L9) s15) L16) h17 L16 r.asks.win.1:=q16.R.stp S17 (fun g hg=>.inl (.inl (.inr hg))) fun g hg hs=>by
  obtain ⟨cs,Kc⟩:=Rm.y5 hs
  exact q16.R.lZ Kc (by decide) hg
 have M17':aB (G O L16) h17 L16 r.asks.win.1:=M17.sub hO fun g hg=>.inr hg
 have z14:=q14.S.size
 have hF:∀ g,own L16 g->own L g∨h.size<=g:=fun g hg=>(q16.F g hg).elim (fun h2=>(q14.F g h2).imp id fun h3=>by omega) fun h3=>.inr (by omega)
 have hS:Stp (own L) h h17:=by
  have s1:Stp (own L) h h15:=(Stp.bi (O:=own L) X1).trans' (q14.S.trans (Stp.bi (O:=fun _=>False) X15) fun _ h=>h.elim)
  have s2:=s1.trans q16.S fun g hg=>(q14.F g hg).imp id fun h3=>by omega
  exact s2.trans S17 fun g hg=>.inr (by have:=sb15 g hg; omega)
 refine H s17 h17 L16 ⟨M17',hS,hF,q16.b.trans q14.b⟩ Ml17 fun g hg=>(sb17 g hg).elim (fun h=>by have:=sb15 g h; omega) fun h=>by omega
end
end Go.Q.Yi
end
section
/- A member: ticks, and what it tells. -/
namespace Go.Q.Yi
open Rf
section
variable {O O':bz} {h h':Heap} {L:RLy} {r:RS}
theorem Au {k:KP Slc} (R:aB O h L r) (hk:r.keeps.length < 999990) (ht:r.ticks < 1000000000)
  (H:∀ s h' L',Res O h L r.tick.1 h' L'->aJ (G O L') h' s r.tick.2->(∀ g,s.blk=some g->h.size<=g)->k s h'):lC (some ⟨L.b,0,none⟩) k h:=by
 have wf:=R.wf
 have nb:=wf.n
 have mb:=wf.me
 have tk:=wf.tk
 unfold lC
 rw [if_neg (by simp)]
 obtain ⟨w,f⟩:=R.k.put (i:=9) (v:=.int .i64 (r.ticks + 1)) (by show 9 < 14; omega)
 refine ⟨_,rfl,_,R.c 9,?_⟩
 rw [ay (x:=r.ticks + 1) (by omega) (by omega)]
 refine ⟨_,w,rfl,?_⟩
 obtain ⟨K2,U2⟩:=f _ rfl
 generalize setH h ((⟨L.b,0,none⟩:Addr).add 9) (.int .i64 (r.ticks + 1))=h2 at *
 have M2:aB O h2 L { r with ticks:=r.ticks + 1 }:=R.yM K2 U2 ⟨wf.n,wf.me,wf.tm,wf.vt,wf.cm,⟨by show 0<=r.ticks + 1; omega,by show r.ticks + 1<=1000000000; omega⟩,wf.ld,wf.nx,wf.hs,wf.bl,wf.sn,wf.kp⟩ ⟨rfl,rfl,rfl,rfl,rfl,rfl,rfl⟩
 have q2:Res O h L { r with ticks:=r.ticks + 1 } h2 L:=Res.of M2 (.dD U2 (.inl (.inl rfl)))
 have M3:=q2.R
 have z2:=q2.S.size
 have em:Int.tmod (r.ticks + 1) 3=(r.ticks + 1) % 3:=Int.tmod_eq_emod_of_nonneg (by omega)
 refine ⟨_,M2.c 7,?_⟩
 show if (r.role == 2)=true then _ else _
 unfold RS.tick at H
 have j2f:¬ (r.role=2/\(r.ticks + 1) % 3=0)->¬ (r.role≠2/\r.ticks + 1>=10 + 7 * r.me)->dO (some ⟨L.b,0,none⟩) false k h2:=fun n1 n2=>by
  unfold dO
  rw [if_neg (by simp)]
  rw [if_neg n1,if_neg n2] at H
  exact H _ h2 L q2 (aJ.nil _ _) fun g hg=>by simp [Slc.blk] at hg
 have g1f:¬ (r.role=2/\(r.ticks + 1) % 3=0)->eY (some ⟨L.b,0,none⟩) false k h2:=fun n1=>by
  unfold eY
  rw [if_neg (by simp)]
  refine ⟨_,rfl,_,M2.c 7,?_⟩
  show if (r.role != 2)=true then _ else _
  by_cases hr:r.role=2
  ·rw [if_neg (by simpa using hr)]
   exact j2f n1 fun h=>h.1 hr
  ·rw [if_pos (by simpa using hr)]
   refine ⟨_,M2.c 9,?_⟩
   unfold mD
   refine ⟨_,rfl,_,M2.c0,_,rfl,?_⟩
   rw [ay (x:=7 * _) (by show _<=7 * r.me; omega) (by show 7 * r.me < _; omega),ay (by show _<=10 + 7 * r.me; omega) (by show 10 + 7 * r.me < _; omega)]
   refine ⟨M2.c 9,?_⟩
   by_cases hp:r.ticks + 1>=10 + 7 * r.me
   ·show dO _ (decide (r.ticks + 1>=10 + 7 * r.me)) k h2
    rw [decide_eq_true hp]
    unfold dO
    rw [if_pos rfl]
    rw [if_neg n1,if_pos ⟨hr,hp⟩] at H
    exact xY M3 hk fun s h' L' q M sb=>H s h' L' (q2.trans q) (M.sub fun g hg=>hg.elim (fun h=>.inl (.inl h)) .inr) fun g hg=>by have:=sb g hg; omega
   ·show dO _ (decide (r.ticks + 1>=10 + 7 * r.me)) k h2
    rw [decide_eq_false hp]
    exact j2f n1 fun h=>hp h.2
 by_cases hr:r.role=2
 ·rw [if_pos (by simpa using hr)]
  refine ⟨_,M2.c 9,?_⟩
  show eY _ (Int.tmod (r.ticks + 1) 3 == 0) k h2
  rw [em]
  by_cases h3:(r.ticks + 1) % 3=0
  ·rw [show ((r.ticks + 1) % 3 == 0)=true from by simpa using h3]
   unfold eY
   rw [if_pos rfl]
   rw [if_pos ⟨hr,h3⟩] at H
   exact rW M3 (wf.ld hr).1 fun s h' M X sb=>H s h' L (q2.ext X) M fun g hg=>by have:=sb g hg; omega
  ·rw [show ((r.ticks + 1) % 3 == 0)=false from by simpa using h3]
   exact g1f fun h=>h3 h.2
 ·rw [if_neg (by simpa using hr)]
  exact g1f fun h=>hr h.1
/-! ### the rest -/
theorem uY {p1:Slc} {cmd:List Int} {k:KP (Int × Int)} (R:aB O h L r) (hk:r.keeps.length < 1000000) (hs:SlcAt h p1 (b8 cmd)) (hl:p1.len=cmd.length) (hB:isB cmd) (hz:cmd.length<=1099511627776)
  (H:∀ h' L',Res O h L (r.iC cmd).1 h' L'->k (r.iC cmd).2 h'):jo (some ⟨L.b,0,none⟩) p1 k h:=by
 unfold jo
 rw [if_neg (by simp)]
 refine ⟨_,rfl,_,R.c 7,?_⟩
 unfold RS.iC at H
 by_cases hr:r.role=2
 ·rw [if_neg (by simpa using hr)] at H
  show dB _ _ (r.role != 2) _ _
  rw [show (r.role != 2)=false from by simpa using hr]
  unfold dB
  rw [if_neg (by simp)]
  exact uX R (R.wf.ld hr).2 hk hs hl hB hz H
 ·rw [if_pos (by simpa using hr)] at H
  show dB _ _ (r.role != 2) _ _
  rw [show (r.role != 2)=true from by simpa using hr]
  unfold dB
  rw [if_pos rfl]
  exact H h L (Res.of R (Stp.refl _ _))
theorem pg {k:KP Int} (R:aB O h L r) (H:k r.commit h):dK (some ⟨L.b,0,none⟩) k h:=by
 unfold dK
 rw [if_neg (by simp)]
 exact ⟨_,rfl,_,R.c 6,H⟩
theorem vL {k:KP Bool} (R:aB O h L r) (H:k (r.role == 2) h):jg (some ⟨L.b,0,none⟩) k h:=by
 unfold jg kJ
 rw [if_pos (by simp)]
 exact ⟨_,rfl,_,R.c 7,H⟩
theorem Bn {k:KP Int} (R:aB O h L r) (H:k r.leader h):lJ (some ⟨L.b,0,none⟩) k h:=by
 unfold lJ
 rw [if_neg (by simp)]
 exact ⟨_,rfl,_,R.c 8,H⟩
theorem pM {k:KP Int} (R:aB O h L r) (H:k r.term h):dQ (some ⟨L.b,0,none⟩) k h:=by
 unfold dQ
 rw [if_neg (by simp)]
 exact ⟨_,rfl,_,R.c 2,H⟩
/-- an entry -/
theorem sN {p:Int} {k:KP (ae × Int)} (R:aB O h L r) (p0:0<=p/\p < 18446744073709551616)
  (H:∀ v h',v.bP=(r.entry p).1.1->Row h.size h' 5 1 v.lS (b8 (r.entry p).1.2)->Ext h.size h h'->k (v,(r.entry p).2) h'):gW (some ⟨L.b,0,none⟩) p k h:=by
 unfold gW
 refine ⟨_,_,rfl,rfl,?_⟩
 have X:=Ext.push h (.cells (ae.cs ⟨0,⟨none,0,0⟩⟩).toArray 65) (Nat.le_refl _)
 have P0:=Blk.push h (ae.cs ⟨0,⟨none,0,0⟩⟩) 65
 have R2:=R.ext X
 generalize h.push (.cells (ae.cs ⟨0,⟨none,0,0⟩⟩).toArray 65)=h2 at *
 obtain ⟨b1,eb⟩:∃ y,y=h.size:=⟨_,rfl⟩
 rw [← eb] at P0 ⊢
 have z2:=X.size
 have bl:=P0.lt
 rw [if_neg (by simp)]
 -- what is told at the end
 have tail:∀ {h5:Heap} {v:ae} {e:Int} {x:Ent},r.entry p=(x,e)->Ext h2.size h2 h5->v.bP=x.1->Row h2.size h5 5 1 v.lS (b8 x.2)->∃ h14:Heap,bZ h5 (⟨b1,0,none⟩:Addr) 2/\h14=aO h5 (⟨b1,0,none⟩:Addr) 0 (ae.cs v)/\(∃ v15:ae,aD h14 (⟨b1,0,none⟩:Addr) (ae.cs v15)/\k (v15,e) h14):=fun {h5 v e x} ee X5 ht hc=>by
  rw [ee] at H
  have P5:=P0.ext X5 bl
  refine ⟨_,bZ.dL P5 (by show 2<=2; omega),rfl,?_⟩
  have P6:=P5.jN (vs:=ae.cs v) rfl
  have z5:=X5.size
  have X6:Ext h.size h5 (aO h5 ⟨b1,0,none⟩ 0 (ae.cs v)):=Ext.sets _ _ _ (by show h.size<=b1; omega)
  have old:∀ g,g≠b1->(aO h5 ⟨b1,0,none⟩ 0 (ae.cs v))[g]? = h5[g]?:=fun g hg=>kD _ _ hg
  generalize aO h5 ⟨b1,0,none⟩ 0 (ae.cs v)=h6 at *
  exact ⟨v,aD.dL P6,H v h6 ht ((hc.keep fun g hg=>old g (by have:=(hc.bd hg).1; omega)).mono z2) (X.trans ((X5.mono z2).trans X6))⟩
 refine ⟨_,rfl,_,R2.c 4,p9 R2.p.l p0.1 p0.2 ?_⟩
 by_cases ht:(r.log.aH p).2=0
 ·rw [if_neg (by simpa using ht)]
  refine ⟨_,R2.c 4,Aq R2.p.l p0.1 p0.2 (by omega) (by omega) fun s h3 vs F3 X3=>?_⟩
  have ee:r.entry p=if (r.log.frm p 1).2≠0 then (((0,[]),13):Ent × Int) else match (r.log.frm p 1).1 with | x :: _=>(x,0) | []=>((0,[]),13):=by unfold RS.entry; rw [if_neg (by simpa using ht)]; rfl
  have sl:=F3.len
  by_cases hf:(r.log.frm p 1).2=0/\(r.log.frm p 1).1≠[]
  ·have hl:(r.log.frm p 1).1.length≠0:=fun h=>hf.2 (List.eq_nil_of_length_eq_zero h)
   rw [if_neg (by simp; exact ⟨hf.1,by omega⟩)]
   obtain ⟨x,rest,ex⟩:∃ x rest,(r.log.frm p 1).1=x :: rest:=by
    cases hx:(r.log.frm p 1).1 with
    | nil=>exact absurd hx hf.2
    | cons x rest=>exact ⟨x,rest,rfl⟩
   have hx0:(r.log.frm p 1).1[0]? = some x:=by rw [ex]; rfl
   have vl:=F3.l
   obtain ⟨v,hv⟩:∃ v,vs[0]? = some v:=⟨_,List.getElem?_eq_getElem (by rw [vl]; omega)⟩
   obtain ⟨f1,f2⟩:=F3.e 0 v x hv hx0
   obtain ⟨a,u,ha,c1,c2⟩:=F3.aK.get hx0
   have sv:s.len=vs.length:=by rw [sl,vl]
   have hL:=LsAt.qh (w:=2) (fun x=>rfl) F3.r.slc sv (by decide)
   obtain ⟨a',ha',C⟩:=hL.at' 0 v hv
   refine ⟨a',ha',by omega,by rw [sl]; omega,v,C,tail (e:=0) ?_ X3 f1 f2⟩
   rw [ee,if_neg (by simpa using hf.1),ex]
  ·rw [if_pos (by
    rw [Bool.or_eq_true]
    by_cases h1:(r.log.frm p 1).2=0
    ·right
     have h2:(r.log.frm p 1).1=[]:=Classical.byContradiction fun h=>hf ⟨h1,h⟩
     have:(r.log.frm p 1).1.length=0:=by rw [h2]; rfl
     simp; omega
    ·left; simpa using h1)]
   refine tail (e:=13) (x:=(0,[])) ?_ X3 rfl (Row.nil _ _ _ _)
   rw [ee]
   by_cases h1:(r.log.frm p 1).2=0
   ·have h2:(r.log.frm p 1).1=[]:=Classical.byContradiction fun h=>hf ⟨h1,h⟩
    rw [if_neg (by simpa using h1),h2]
   ·rw [if_pos h1]
 ·rw [if_pos (by simpa using ht)]
  exact tail (x:=(0,[])) (by unfold RS.entry; rw [if_pos ht]) (Ext.refl _ _) rfl (Row.nil _ _ _ _)
end
theorem rY {me n term bR:Int} {l:Lg} {p4:Option Addr} {p5:Slc} {aQ:List Int} {k:KP (Option Addr)} {h:Heap} (n0:1<=n/\n<=32) (m0:0<=me/\me < n) (t0:0<=term/\term < 18446744073709551616) (v0:-9223372036854775808<=bR/\bR < 9223372036854775808)
  (hl:(p4=none/\l=⟨0,0,[]⟩)∨∃ b s O,p4=some ⟨b,0,none⟩/\dM O h b s l) (hs:SlcAt h p5 (b8 aQ)) (sl:p5.len=aQ.length) (hB:isB aQ) (hz:aQ.length<=1099511627776)
  (H:∀ L h',(∀ X:bz,(∀ g,X g->g < h.size)->aB (fun g=>X g∨own L g) h' L (RS.start me n term bR l aQ))->(∀ g,own L g->h.size<=g)->Ext h.size h h'->k (some ⟨L.b,0,none⟩) h'):mY me n term bR p4 p5 k h:=by
 unfold mY
 rw [if_neg (by simp; omega)]
 have bd:0<=l.ix/\l.ix + l.es.length < 18446744073709551616/\(0<=l.tm/\l.tm < 18446744073709551616)/\o9 l.es/\l.es.length<=1000:=by
  rcases hl with ⟨_,rfl⟩ | ⟨b,s,O,_,A⟩
  ·exact ⟨by simp,by simp,by simp,(fun e he=>by cases he),by simp⟩
  ·exact ⟨A.x0,A.x1,A.t0,A.ok,A.sz⟩
 have base:∀ {K:KP (Int × Int)},K (l.ix,l.tm) h->eB p4 K h:=fun {K} hK=>by
  rcases hl with ⟨rfl,rfl⟩ | ⟨b,s,O,rfl,A⟩
  ·unfold eB; rw [if_pos (by simp)]; exact hK
  ·exact sK A hK
 refine base (pQ sl hs (by omega) fun s3 h4 R3 X3=>?_)
 have z3:=X3.size
 refine ⟨_,_,rfl,rfl,?_⟩
 obtain ⟨S,eS⟩:∃ S:iG,S=⟨me,n,term,bR,none,s3,l.ix,0,-1,0,none,⟨none,0,0⟩,⟨none,0,0⟩,⟨none,0,0⟩⟩:=⟨_,rfl⟩
 show dY p4 _ (h4.push (.cells (iG.cs ⟨me,n,term,bR,none,s3,l.ix,0,-1,0,none,⟨none,0,0⟩,⟨none,0,0⟩,⟨none,0,0⟩⟩).toArray 94))
 have X5:=Ext.push h4 (.cells (iG.cs ⟨me,n,term,bR,none,s3,l.ix,0,-1,0,none,⟨none,0,0⟩,⟨none,0,0⟩,⟨none,0,0⟩⟩).toArray 94) (Nat.le_refl _)
 have K5:=Blk.push h4 (iG.cs ⟨me,n,term,bR,none,s3,l.ix,0,-1,0,none,⟨none,0,0⟩,⟨none,0,0⟩,⟨none,0,0⟩⟩) 94
 have R5:=R3.ext X5 fun g hg=>(R3.bd hg).2
 generalize h4.push (.cells (iG.cs ⟨me,n,term,bR,none,s3,l.ix,0,-1,0,none,⟨none,0,0⟩,⟨none,0,0⟩,⟨none,0,0⟩⟩).toArray 94)=h5 at *
 obtain ⟨b5,eb⟩:∃ y,y=h4.size:=⟨_,rfl⟩
 rw [← eb] at K5 ⊢
 have z5:=X5.size
 have X05:Ext h.size h h5:=X3.trans (X5.mono z3)
 have aK:∀ {K:KP Slc},(∀ s' h',cZ h' s' l.es->Ext h5.size h5 h'->K s' h')->dY p4 K h5:=fun {K} hK=>by
  rcases hl with ⟨rfl,rfl⟩ | ⟨b,s,O,rfl,A⟩
  ·unfold dY; rw [if_pos (by simp)]; exact hK _ _ (cZ.nil _) (Ext.refl _ _)
  ·exact uL (A.ext X05) fun s' h' vs F X=>hK s' h' F.aK X
 refine aK fun s7 h7 A7 X7=>?_
 have z7:=X7.size
 refine xw A7 bd.2.2.2.1 bd.2.2.2.2 bd.1 bd.2.1 bd.2.2.1 fun lb s9 h9 A9 hlb hs9 X9=>?_
 have z9:=X9.size
 have bl:=K5.lt
 have K9:=(K5.ext X7 K5.lt).ext X9 (by omega)
 have R9:=(R5.ext X7 fun g hg=>(R5.bd hg).2).ext X9 fun g hg=>by have:=(R5.bd hg).2; omega
 obtain ⟨w,f⟩:=K9.put (i:=4) (v:=.pointer (some ⟨lb,0,none⟩)) (by show 4 < 14; omega)
 refine ⟨_,w,rfl,?_⟩
 obtain ⟨K10,U10⟩:=f _ rfl
 have S10:Stp (fun g=>g=b5) h9 (setH h9 ((⟨b5,0,none⟩:Addr).add 4) (.pointer (some ⟨lb,0,none⟩))):=.dD U10 (.inl rfl)
 have X10:Ext h.size h9 (setH h9 ((⟨b5,0,none⟩:Addr).add 4) (.pointer (some ⟨lb,0,none⟩))):=⟨U10.size,fun i hi=>U10.block i (by omega) (by omega)⟩
 generalize setH h9 ((⟨b5,0,none⟩:Addr).add 4) (.pointer (some ⟨lb,0,none⟩))=h10 at *
 have ow:∀ g,own ⟨b5,lb,s9,s3,⟨none,0,0⟩,⟨none,0,0⟩,⟨none,0,0⟩,none⟩ g->g=b5∨g=lb∨s9.blk=some g:=fun g hg=>by
  rcases hg with hg | hg | hg | hg | hg | hg | hg
  ·exact .inl hg
  ·exact .inr (.inl hg)
  ·exact .inr (.inr hg)
  ·simp [Slc.blk] at hg
  ·simp [Slc.blk] at hg
  ·simp [Slc.blk] at hg
  ·cases hg
 refine H ⟨b5,lb,s9,s3,⟨none,0,0⟩,⟨none,0,0⟩,⟨none,0,0⟩,none⟩ h10 (fun X hX=>?_) (fun g hg=>?_) (X05.trans ((X7.mono (by omega)).trans ((X9.mono (by omega)).trans X10)))
 ·have A':=A9 (fun g=>X g∨g=b5) (fun g hg=>by rcases hg with hg | hg; (have:=hX g hg; omega); omega)
  obtain ⟨vs,Re,_⟩:=A'.r
  have R10:=S10.row R9 fun g hg e=>by subst e; exact R9.aW K9 (by decide) hg
  refine ⟨K10,⟨?_,fun h' p=>?_,by simpa using R10.len.trans (by simp [RS.start]),Row.nil _ _ _ _,Row.nil _ _ _ _,(fun g hg=>by simp [Slc.blk] at hg),⟨[],Row.nil _ _ _ _,fun h' _=>⟨rfl,by simp⟩⟩,trivial⟩,fun g hg=>.inr hg,fun g hg=>?_,?_⟩
  ·exact (A'.sub (O':=fun g=>X g∨own ⟨b5,lb,s9,s3,⟨none,0,0⟩,⟨none,0,0⟩,⟨none,0,0⟩,none⟩ g) (fun g hg=>.inl (hg.elim (fun h=>.inl (.inl h)) fun h=>(ow g h).elim (fun h=>.inl (.inr h)) .inr)) (.inr (.inr (.inl rfl))) fun g hg=>.inr (.inr (.inr (.inl hg)))).stp S10 (fun g hg=>.inl (.inr (.inl hg))) (by omega) fun g hg e=>by have:=hs9 g hg; omega
  ·refine (p.row R10 fun g hg h3=>?_).slc
   have h4:=(R10.bd hg).1
   rcases h3 with h3 | h3
   ·have:=hX g h3; omega
   ·rcases ow g h3 with h3 | h3 | h3
    ·subst h3; exact R10.aW K10 (by decide) hg
    ·have:=(R5.bd hg).2; omega
    ·have:=(R5.bd hg).2; have:=hs9 g h3; omega
  ·rcases hg with hg | hg
   ·have:=hX g hg; have:=U10.size; omega
   ·have:=U10.size
    rcases ow g hg with h3 | h3 | h3
    ·omega
    ·have:=A'.k.lt; omega
    ·have:=(Re.bd h3).2; omega
  ·exact ⟨n0,m0,t0,v0,⟨bd.1,by have:=bd.2.1; show l.ix < _; omega⟩,⟨Int.le_refl _,by show (0:Int)<=1000000000; omega⟩,(fun e=>by cases e),(fun x hx=>by cases hx),(fun x hx=>by cases hx),(fun l e=>by cases e),⟨hB,hz⟩,by show 0<=1000000; omega⟩
 ·rcases ow g hg with h3 | h3 | h3
  ·omega
  ·omega
  ·have:=hs9 g h3; omega
end Go.Q.Yi
end
section
/- A member: ticks, votes, snapshots. -/
namespace Go.Q.Yi
open Rf
section
variable {O O':bz} {h h':Heap} {L:RLy} {r:RS}
theorem nJ {to kind index:Int} {yes:Bool} {k:KP Slc} (R:aB O h L r) (H:∀ s h',aJ O h' s (r.answer to kind yes index)->Ext h.size h h'->(∀ g,s.blk=some g->h.size<=g)->k s h'):dE (some ⟨L.b,0,none⟩) to kind yes index k h:=by
 unfold dE
 refine ⟨_,rfl,_,R.c 2,_,_,rfl,rfl,?_⟩
 exact H _ _ (yo (x:=⟨kind,r.term,index,0,0,yes,[],[]⟩) (Dj ⟨rfl,rfl,rfl,rfl,rfl,rfl⟩ rfl rfl rfl rfl) R.ob) (Ext.push h _ (Nat.le_refl _)) fun g hg=>by simp [Slc.blk] at hg; omega
/-- a wish for a vote -/
theorem uR {from':Int} {v:ah} {m:Msg} {k:KP Slc} (R:aB O h L r) (hk:r.keeps.length < 999990) (V:v.mO=m.kind/\v.bP=m.term/\v.kY=m.index/\v.qm=m.logTerm/\v.qo=m.commit/\v.yw=m.yes) (f0:0<=from') (f1:from' < r.n)
  (H:∀ s h' L',Res O h L (r.nE from' m).1 h' L'->aJ (G O L') h' s (r.nE from' m).2->(∀ g,s.blk=some g->h.size<=g)->k s h'):mg (some ⟨L.b,0,none⟩) from' v k h:=by
 have wf:=R.wf
 have nb:=wf.n
 unfold mg
 refine ⟨_,_,rfl,rfl,?_⟩
 have X:=Ext.push h (.cells (ah.cs v).toArray 26) (Nat.le_refl _)
 have C:=Blk.push h (ah.cs v) 26
 have R2:=R.ext X
 generalize h.push (.cells (ah.cs v).toArray 26)=h2 at *
 have z2:=X.size
 have q2:Res O h L r h2 L:=Res.of R2 (.bi X)
 have c2:af h2 ((⟨h.size,0,none⟩:Addr).add 2)=some (.int .u64 m.index):=by rw [C.get,← V.2.2.1]; rfl
 have c3:af h2 ((⟨h.size,0,none⟩:Addr).add 3)=some (.int .u64 m.logTerm):=by rw [C.get,← V.2.2.2.1]; rfl
 rw [ay (x:=from' + 1) (by omega) (by omega)]
 have no:r.sO from' m=false->bH (some ⟨L.b,0,none⟩) from' false k h2:=fun hv=>by
  unfold bH iV
  rw [if_neg (by simp)]
  unfold RS.nE at H
  rw [if_neg (by simp [hv])] at H
  exact nJ q2.R fun s h' M X' sb=>H s h' L (q2.ext X') M fun g hg=>by have:=sb g hg; omega
 have ends:∀ {h5:Heap} {L5:RLy} {r5:RS},Res O h L r5 h5 L5->r.nE from' m=({ r5 with ticks:=0 },r.answer from' 2 true 0)->r5.term=r.term->iN (some ⟨L.b,0,none⟩) from' true k h5:=fun {h5 L5 r5} q ev et=>by
  have M5:=q.R
  have w5:=M5.wf
  rw [← q.b]
  unfold iN
  obtain ⟨w,f⟩:=M5.k.put (i:=9) (v:=.int .i64 0) (by show 9 < 14; omega)
  refine ⟨_,rfl,_,w,rfl,?_⟩
  obtain ⟨K6,U6⟩:=f _ rfl
  generalize setH h5 ((⟨L5.b,0,none⟩:Addr).add 9) (.int .i64 0)=h6 at *
  have M6:aB (G O L5) h6 L5 { r5 with ticks:=0 }:=M5.yM K6 U6 ⟨w5.n,w5.me,w5.tm,w5.vt,w5.cm,⟨Int.le_refl _,by show (0:Int)<=1000000000; omega⟩,w5.ld,w5.nx,w5.hs,w5.bl,w5.sn,w5.kp⟩ ⟨rfl,rfl,rfl,rfl,rfl,rfl,rfl⟩
  have q6:=q.trans (Res.of M6 (.dD U6 (.inl (.inl rfl))))
  have z6:=q6.S.size
  unfold iV
  refine nJ q6.R fun s h' M X' sb=>H s h' L5 (by rw [ev]; exact q6.ext X') ?_ fun g hg=>by have:=sb g hg; omega
  rw [ev]
  unfold RS.answer at M ⊢
  dsimp only at M
  rw [et] at M
  exact M
 have yes:r.sO from' m=true->bH (some ⟨L.b,0,none⟩) from' true k h2:=fun hv=>by
  unfold bH
  rw [if_pos rfl]
  refine ⟨_,rfl,_,R2.c 3,?_⟩
  show if (r.bR == 0)=true then _ else _
  by_cases h0:r.bR=0
  ·rw [if_pos (by simpa using h0)]
   rw [ay (x:=from' + 1) (by omega) (by omega)]
   obtain ⟨w,f⟩:=R2.k.put (i:=3) (v:=.int .i64 (from' + 1)) (by show 3 < 14; omega)
   refine ⟨_,w,rfl,?_⟩
   obtain ⟨K3,U3⟩:=f _ rfl
   generalize setH h2 ((⟨L.b,0,none⟩:Addr).add 3) (.int .i64 (from' + 1))=h3 at *
   have M3:aB O h3 L { r with bR:=from' + 1 }:=R2.yM K3 U3 ⟨wf.n,wf.me,wf.tm,by show _<=from' + 1/\from' + 1 < _; omega,wf.cm,wf.tk,wf.ld,wf.nx,wf.hs,wf.bl,wf.sn,wf.kp⟩ ⟨rfl,rfl,rfl,rfl,rfl,rfl,rfl⟩
   have q3:Res O h L { r with bR:=from' + 1 } h3 L:=q2.trans (Res.of (M3.g) (.dD U3 (.inl (.inl rfl))))
   refine rE q3.R (by show r.keeps.length < _; omega) fun h' L' q=>ends (q3.trans q) ?_ rfl
   unfold RS.nE
   rw [if_pos hv,if_pos h0]
  ·rw [if_neg (by simpa using h0)]
   refine ends q2 ?_ rfl
   unfold RS.nE
   rw [if_pos hv,if_neg h0]
 have any:∀ b:Bool,r.sO from' m=b->bH (some ⟨L.b,0,none⟩) from' b k h2:=fun b hb=>by
  cases b with
  | true=>exact yes hb
  | false=>exact no hb
 refine ⟨_,rfl,_,R2.c 3,?_⟩
 show if (r.bR == 0)=true then _ else _
 by_cases h0:r.bR=0
 ·rw [if_pos (by simpa using h0),if_pos rfl]
  refine ⟨_,R2.c 4,_,c2,_,c3,yz R2.p.l (any _ ?_)⟩
  unfold RS.sO; rw [show (r.bR == 0)=true from by simpa using h0]; simp
 ·rw [if_neg (by simpa using h0)]
  refine ⟨_,R2.c 3,?_⟩
  show if (r.bR == from' + 1)=true then _ else _
  by_cases h1:r.bR=from' + 1
  ·rw [if_pos (by simpa using h1)]
   refine ⟨_,R2.c 4,_,c2,_,c3,yz R2.p.l (any _ ?_)⟩
   unfold RS.sO; rw [show (r.bR == from' + 1)=true from by simpa using h1]; simp
  ·rw [if_neg (by simpa using h1)]
   refine no ?_
   unfold RS.sO
   rw [show (r.bR == 0)=false from by simpa using h0,show (r.bR == from' + 1)=false from by simpa using h1]; rfl
/-- an answer to what is late -/
theorem DX {from':Int} {v:ah} {m:Msg} {k:KP Slc} (R:aB O h L r) (V:v.mO=m.kind)
  (H:∀ s h',aJ O h' s (r.late from' m)->Ext h.size h h'->(∀ g,s.blk=some g->h.size<=g)->k s h'):nz (some ⟨L.b,0,none⟩) from' v k h:=by
 unfold nz
 refine ⟨_,_,rfl,rfl,?_⟩
 have X:=Ext.push h (.cells (ah.cs v).toArray 26) (Nat.le_refl _)
 have C:=Blk.push h (ah.cs v) 26
 have R2:=R.ext X
 generalize h.push (.cells (ah.cs v).toArray 26)=h2 at *
 have z2:=X.size
 refine ⟨m.kind,by rw [C.cell,← V]; rfl,?_⟩
 unfold RS.late at H
 have j1:∀ b:Bool,m.kind≠1->(b=true ↔ m.kind=3∨m.kind=5)->jC (some ⟨L.b,0,none⟩) from' b k h2:=fun b h1 hb=>by
  unfold jC
  rw [if_neg h1] at H
  cases b with
  | true =>
   rw [if_pos rfl]
   rw [if_pos (hb.1 rfl)] at H
   exact nJ R2 fun s h' M X' sb=>H s h' M (X.trans (X'.mono z2)) fun g hg=>by have:=sb g hg; omega
  | false =>
   rw [if_neg (by simp)]
   rw [if_neg fun h=>by have:=hb.2 h; cases this] at H
   exact H _ h2 (aJ.nil _ _) X fun g hg=>by simp [Slc.blk] at hg
 by_cases h1:m.kind=1
 ·rw [if_pos (by simpa using h1)]
  rw [if_pos h1] at H
  exact nJ R2 fun s h' M X' sb=>H s h' M (X.trans (X'.mono z2)) fun g hg=>by have:=sb g hg; omega
 ·rw [if_neg (by simpa using h1)]
  by_cases h3:m.kind=3
  ·rw [if_pos (by simpa using h3)]
   exact j1 _ h1 (by simp [h3])
  ·rw [if_neg (by simpa using h3)]
   exact j1 _ h1 (by simp [h3])
theorem zn {b:Nat} {s:Slc} {g:Nat} (hg:own { L with lb:=b,es:=s } g):own L g∨g=b∨s.blk=some g:=by
 rcases hg with hg | hg | hg | hg | hg | hg | hg
 ·exact .inl (.inl hg)
 ·exact .inr (.inl hg)
 ·exact .inr (.inr hg)
 ·exact .inl (.inr (.inr (.inr (.inl hg))))
 ·exact .inl (.inr (.inr (.inr (.inr (.inl hg)))))
 ·exact .inl (.inr (.inr (.inr (.inr (.inr (.inl hg))))))
 ·exact .inl (.inr (.inr (.inr (.inr (.inr (.inr hg))))))
/-- another log is put in place -/
theorem Fp {b:Nat} {s:Slc} {l:Lg} {h1 h2:Heap} (R:aB O h L r) (X:Ext h.size h h1) (A:dM (fun g=>O g∨g=b∨s.blk=some g) h1 b s l) (hb:h.size<=b) (hs:∀ g,s.blk=some g->h.size<=g) (K:Blk h2 L.b (rcs { L with lb:=b,es:=s } { r with log:=l }) 94) (U:Upd L.b h1 h2) :
  Res O h L { r with log:=l } h2 { L with lb:=b,es:=s }:=by
 have wf:=R.wf
 have z1:=X.size
 have z2:=U.size
 have P:=R.p
 have ow:∀ g,own { L with lb:=b,es:=s } g->own L g∨h.size<=g:=fun g hg=>(zn hg).imp id fun h3=>h3.elim (fun e=>by omega) (hs g)
 have hO:∀ g,G O { L with lb:=b,es:=s } g->O g∨h.size<=g:=fun g hg=>hg.elim .inl fun h1=>(ow g h1).imp (R.ow g) id
 have K1:=R.k.ext X R.k.lt
 have S:Stp (fun g=>g=L.b) h1 h2:=.dD U (.inl rfl)
 have S0:Stp (own L) h h2:=(Stp.bi (O:=own L) X).trans' (S.mono fun g hg=>.inl (.inl hg))
 have SO:Stp O h h2:=S0.mono fun g hg=>.inl (R.ow g hg)
 have bl:=R.k.lt
 obtain ⟨ks,Kk,Ik⟩:=P.kp
 obtain ⟨vs,Re,_⟩:=A.r
 have nR:∀ {B E w:Nat} {s:Slc} {xs:List Value},Row B h E w s xs->E≠94->Row B h2 E w s xs:=fun Rw hE=>S.row (Rw.ext X fun g hg=>(Rw.bd hg).2) fun g hg e=>by subst e; exact Rw.aW R.k hE hg
 refine ⟨⟨K,⟨?_,P.sn.step SO hO,P.sl,nR P.nx (by decide),nR P.hs (by decide),P.dj,⟨ks,nR Kk (by decide),Ik.step SO hO⟩,P.bl.old fun g hg=>?_⟩,fun g hg=>.inr hg,fun g hg=>?_,⟨wf.n,wf.me,wf.tm,wf.vt,wf.cm,wf.tk,wf.ld,wf.nx,wf.hs,wf.bl,wf.sn,wf.kp⟩⟩,S0,ow,rfl⟩
 ·exact (A.sub (O':=G O { L with lb:=b,es:=s }) (fun g hg=>by
   rcases hg with hg | hg
   ·exact .inl (.inl hg)
   ·rcases zn hg with h3 | h3 | h3
    ·exact .inl (.inl (R.ow g h3))
    ·exact .inl (.inr (.inl h3))
    ·exact .inl (.inr (.inr h3))) (.inr (.inr (.inl rfl))) fun g hg=>.inr (.inr (.inr (.inl hg)))).stp S (fun g hg=>.inl (.inl (by rw [hg]; exact R.Ob))) (by omega) fun g hg e=>by have:=hs g hg; omega
 ·obtain ⟨cs,Kb⟩:=P.bl.blk g hg
  have hlt:=P.bl.lt g hg
  rw [U.block g (by omega) fun e=>by subst e; have:=(Kb.inj R.k).2; revert this; decide,X.block g hlt]
 ·rcases hg with hg | hg
  ·have:=R.ob g hg; omega
  ·rcases zn hg with h3 | h3 | h3
   ·have:=R.ob' h3; omega
   ·have:=A.k.lt; omega
   ·have:=(Re.bd h3).2; omega
/-- the snapshot is put in place, and to be kept -/
theorem u6 {index term:Int} {p3:Slc} {aQ:List Int} {k:KP Unit} (R:aB O h L r) (hk:r.keeps.length < 1000000) (I:Imm O h fun h=>SlcAt h p3 (b8 aQ)) (hl:p3.len=aQ.length) (hB:isB aQ) (hz:aQ.length<=1099511627776)
  (H:∀ h' L',Res O h L { r with aQ:=aQ,keeps:=r.keeps ++ [⟨3,term,0,index,[],aQ⟩] } h' L'->k () h'):jG (some ⟨L.b,0,none⟩) index term p3 k h:=by
 have wf:=R.wf
 have ob:=R.ob
 unfold jG
 refine pQ hl I.now (by omega) fun s1 h1 R1 X1=>?_
 have M1:=R.ext X1
 have z1:=X1.size
 obtain ⟨w,f⟩:=M1.k.put (i:=5) (v:=Slc.v s1) (by show 5 < 14; omega)
 refine ⟨_,rfl,_,w,rfl,?_⟩
 obtain ⟨K2,U2⟩:=f _ rfl
 generalize setH h1 ((⟨L.b,0,none⟩:Addr).add 5) (Slc.v s1)=h2 at *
 have S2:Stp (fun g=>g=L.b) h1 h2:=.dD U2 (.inl rfl)
 have P2:=M1.p.upd M1.k U2 R.Ob (by decide)
 have bl:=R.k.lt
 have R2:=S2.row R1 fun g hg e=>by have:=(R1.bd hg).1; omega
 have M2:aB O h2 { L with aQ:=s1 } { r with aQ:=aQ }:=⟨K2,⟨P2.l,SlcAt.Ev R2 fun g hg h3=>by have:=(R2.bd hg).1; have:=ob g h3; omega,by simpa using R2.len,P2.nx,P2.hs,P2.dj,P2.kp,P2.bl⟩,R.ow,fun g hg=>Nat.lt_of_lt_of_le (M1.ob g hg) U2.size,⟨wf.n,wf.me,wf.tm,wf.vt,wf.cm,wf.tk,wf.ld,wf.nx,wf.hs,wf.bl,⟨hB,hz⟩,wf.kp⟩⟩
 have q2:Res O h L { r with aQ:=aQ } h2 { L with aQ:=s1 }:=⟨M2.g,(Stp.bi (O:=own L) X1).trans' (S2.mono fun g hg=>.inl (.inl hg)),fun g hg=>.inl hg,rfl⟩
 have I2:Imm O h2 fun h=>SlcAt h p3 (b8 aQ):=(I.ext X1).stp (S2.mono fun g hg=>.inl (by rw [hg]; exact R.Ob))
 refine ⟨_,M2.c 13,pQ hl I2.now (by omega) fun s3 h3 R3 X3=>?_⟩
 have M3:=M2.ext X3
 refine ⟨M3.c 13,_,_,rfl,rfl,?_⟩
 have X4:=Ext.push h3 (.cells (aj.cs ⟨3,term,0,index,⟨none,0,0⟩,s3⟩).toArray 107) (Nat.le_refl _)
 have q4:=(q2.ext X3).ext X4
 have R4:=R3.ext X4 fun g hg=>(R3.bd hg).2
 generalize h3.push (.cells (aj.cs ⟨3,term,0,index,⟨none,0,0⟩,s3⟩).toArray 107)=h4 at *
 have M4:=q4.R
 have z2:=q2.S.size
 refine ⟨M4.c 13,rM (L:={ L with aQ:=s1 }) (x:=⟨3,term,0,index,[],aQ⟩) M4 hk (fun h' p=>?_) fun h5 L5 q5=>H h5 L5 (q4.trans q5)⟩
 have R5:=p.row R4 fun g hg h6=>by
  have h7:=(R4.bd hg).1
  have:O g:=h6.elim id fun h8=>R.ow g h8
  have:=ob g this
  have:=U2.size
  omega
 exact ⟨⟨rfl,rfl,rfl,rfl⟩,cZ.nil h',R5.slc,by simpa using R5.len⟩
theorem AL {index term:Int} {p3:Slc} {aQ:List Int} {k:KP Unit} (R:aB O h L r) (hk:r.keeps.length < 1000000) (I:Imm O h fun h=>SlcAt h p3 (b8 aQ)) (hl:p3.len=aQ.length) (hB:isB aQ) (hz:aQ.length<=1099511627776)
  (i0:0<=index/\index < 18446744073709551616) (t0:0<=term/\term < 18446744073709551616) (H:∀ h' L',Res O h L (r.base index term aQ) h' L'->k () h'):lq (some ⟨L.b,0,none⟩) index term p3 k h:=by
 unfold lq
 refine ⟨_,rfl,_,R.c 4,vN R.p.l i0.1 i0.2 ?_⟩
 unfold RS.base at H
 cases hm:r.log.mat index term with
 | true =>
  rw [if_pos rfl]
  rw [hm,if_pos rfl] at H
  refine ⟨_,R.c 4,FH R.p.l R.ob i0.1 i0.2 fun h1 s1 A1 S1 f1=>?_⟩
  have q1:=AU R A1 (S1.mono fun g hg=>.inl (.inl hg)) f1
  exact u6 (L:={ L with es:=s1 }) (r:={ r with log:=(r.log.cut index).1 }) q1.R hk (q1.imm R I) hl hB hz fun h' L' q=>H h' L' (q1.trans q)
 | false =>
  rw [if_neg (by simp)]
  rw [hm,if_neg (by simp)] at H
  refine xw (es:=[]) (cZ.nil h) (fun e he=>by cases he) (by simp) i0.1 (by simpa using i0.2) t0 fun b s h1 A hb hs X1=>?_
  have K1:=R.k.ext X1 R.k.lt
  obtain ⟨w,f⟩:=K1.put (i:=4) (v:=.pointer (some ⟨b,0,none⟩)) (by show 4 < 14; omega)
  refine ⟨_,w,rfl,?_⟩
  obtain ⟨K2,U2⟩:=f _ rfl
  generalize setH h1 ((⟨L.b,0,none⟩:Addr).add 4) (.pointer (some ⟨b,0,none⟩))=h2 at *
  have q1:=Fp R X1 (A O R.ob) hb hs K2 U2
  exact u6 (L:={ L with lb:=b,es:=s }) (r:={ r with log:=⟨index,term,[]⟩ }) q1.R hk (q1.imm R I) hl hB hz fun h' L' q=>H h' L' (q1.trans q)
end
end Go.Q.Yi
end

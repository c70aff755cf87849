/- A part of the proof of statements of this seat: lemmas, no statement of their own. -/
import Derived.Test.YthjafnfadiijgaaYiZaw
import Derived.Test.YthjafnfadiijgaaYiZao
import Derived.Test.YthjafnfadiijgaaYiZaz
set_option linter.unusedVariables false
set_option linter.unusedSimpArgs false
set_option maxRecDepth 100000
section
/- What is stored, in memory. -/
namespace Go.Q.Yi
open Rf
/-- a stored log: the block is b; its entries are never written again -/
structure qy (O:bz) (h:Heap) (b:Nat) (s:Slc) (l:Lg):Prop where
 k:Blk h b (aH.cs ⟨l.ix,l.tm,s⟩) 75
 e:∃ vs,s.len=vs.length/\s.len<=s.cap/\Imm O h fun h=>SlcAt h s (ecs vs)/\Each h vs l.es
 x0:0<=l.ix/\l.ix<=1000000000
 sz:l.es.length<=1000
 ob:O b
theorem FQ {h h':Heap} {a:Addr} (e:h'[a.block]? = h[a.block]?):af h' a=af h a:=by unfold af; rw [e]
/-- entries that stay whatever is done to O lie in a row that is none of O's -/
theorem Hg {O:bz} {h:Heap} {s:Slc} {es:List Ent} (I:Imm O h fun h=>dB h s es):∃ vs,s.len=vs.length/\s.len<=s.cap/\Imm O h fun h=>SlcAt h s (ecs vs)/\Each h vs es:=by
 obtain ⟨l,c,vs,A,E⟩:=I.now
 refine ⟨vs,by rw [l,E.1],c,fun h' p=>?_⟩
 by_cases he:es=[]
 ·subst he
  have:vs=[]:=List.eq_nil_of_length_eq_zero (by rw [E.1]; rfl)
  subst this
  exact ⟨⟨fun _=>rfl,fun a ha j v hj=>by simp [ecs] at hj⟩,Each.nil _⟩
 obtain ⟨e0,he0⟩:∃ e,es[0]? = some e:=⟨_,List.getElem?_eq_getElem (List.length_pos_iff.2 he)⟩
 obtain ⟨a,_,ha,_,_⟩:=I.now.get he0
 have nO:¬ O a.block:=fun hO=>by
  have S:Stp O h (h.setIfInBounds a.block (.cells #[] 0 (0,0))):=⟨by simp,fun g hg hn=>by
   rw [Array.getElem?_setIfInBounds_ne (fun e=>hn (by rw [← e]; exact hO))]⟩
  obtain ⟨a',v',ha',C,_⟩:=(I _ S).get he0
  rw [ha] at ha'; cases ha'
  have:=C 0 (.int .u64 v'.cZ) rfl
  unfold af at this
  rw [show ((a.add (0 * 2)).add 0).block=a.block from by simp] at this
  by_cases hb:a.block < h.size
  ·rw [Array.getElem?_setIfInBounds_self_of_lt hb] at this
   dsimp only at this
   split at this
   ·cases this
   ·simp at this
  ·rw [Array.getElem?_eq_none (by simp; omega)] at this
   cases this
 have ab:a.block < h.size:=by
  obtain ⟨v,hv⟩:∃ v,vs[0]? = some v:=⟨_,List.getElem?_eq_getElem (by rw [E.1]; exact List.length_pos_iff.2 he)⟩
  have:=A.2 a ha 0 (.int .u64 v.cZ) (by rw [ecs,show (0:Nat)=0 * 2 + 0 from rfl,BB vs 0 0 (by omega),hv]; rfl)
  unfold af at this
  rw [show (a.add 0).block=a.block from by simp] at this
  rcases Nat.lt_or_ge a.block h.size with hb | hb
  ·exact hb
  ·rw [Array.getElem?_eq_none hb] at this; cases this
 have old:=p.block _ ab nO
 have A':SlcAt h' s (ecs vs):=⟨A.1,fun b hb j v hj=>by
  rw [ha] at hb; cases hb
  have q:af h' (a.add j)=af h (a.add j):=FQ (by rw [add_block]; exact old)
  exact q.trans (A.2 a ha j v hj)⟩
 refine ⟨A',E.1,fun i v e hv he=>?_⟩
 obtain ⟨a',v',ha',C,D⟩:=(I h' p).get he
 rw [ha] at ha'; cases ha'
 have hA:=A'.2 a ha
 have c0:=hA (i * 2) (.int .u64 v.cZ) (by rw [show i * 2=i * 2 + 0 from rfl,BB vs i 0 (by omega),hv]; rfl)
 have c1:=hA (i * 2 + 1) (Slc.v v.oH) (by rw [BB vs i 1 (by omega),hv]; rfl)
 have d0:=C 0 (.int .u64 v'.cZ) rfl
 have d1:=C 1 (Slc.v v'.oH) rfl
 rw [fI] at d0 d1
 rw [Nat.add_zero,c0] at d0
 rw [c1] at d1
 have e1:v'.cZ=v.cZ:=by have:=Option.some.inj d0; injection this with _ q; exact q.symm
 have e2:v'.oH=v.oH:=by
  have:=Option.some.inj d1
  unfold Slc.v at this
  injection this with q1 q2 q3
  cases hv1:v.oH; cases hv2:v'.oH
  rw [hv1,hv2] at q1 q2 q3
  simp only at q1 q2 q3
  subst q1; subst q2; subst q3; rfl
 exact ⟨by rw [← e1]; exact D.t,by rw [← e2]; exact D.c,by rw [← e2]; exact D.l⟩
section
variable {O O' S:bz} {h h':Heap} {b:Nat} {s:Slc} {l:Lg} {p t:Int}
theorem qy.aM (L:qy O h b s l):Imm O h fun h=>dB h s l.es:=by
 obtain ⟨vs,l1,l2,I⟩:=L.e
 exact I.imp fun h' ⟨a,c⟩=>⟨by rw [l1]; exact c.1,l2,vs,a,c⟩
theorem qy.len (L:qy O h b s l):s.len=l.es.length:=L.aM.now.l
theorem qy.move (L:qy O h b s l) (p:Stp S h h') (hS:∀ g,S g->O g∨h.size<=g) (hb:¬ S b) (hO:∀ g,O' g->O g∨h.size<=g) (hw:O' b):qy O' h' b s l:=by
 obtain ⟨vs,l1,l2,I⟩:=L.e
 exact ⟨p.blk L.k hb,⟨vs,l1,l2,I.step (p.mono hS) hO⟩,L.x0,L.sz,hw⟩
theorem qy.ext (L:qy O h b s l) (X:Ext h.size h h'):qy O h' b s l:=L.move (S:=fun _=>False) (.bu X) (fun _ h=>h.elim) (fun h=>h) (fun _ h=>.inl h) L.ob
theorem qy.c0 (L:qy O h b s l):af h ⟨b,0,none⟩=some (.int .u64 l.ix):=by rw [L.k.cell]; rfl
theorem qy.c1 (L:qy O h b s l):af h ((⟨b,0,none⟩:Addr).add 1)=some (.int .u64 l.tm):=by rw [add_mk,L.k.cell]; rfl
theorem qy.c2 (L:qy O h b s l):af h ((⟨b,0,none⟩:Addr).add 2)=some (Slc.v s):=by rw [add_mk,L.k.cell]; rfl
theorem qy.term (L:qy O h b s l) {i:Nat} {e:Ent} (he:l.es[i]? = some e):∃ a,s.a=some a/\af h (a.add (i * 2))=some (.int .u64 e.1):=by
 obtain ⟨a,v,ha,C,E⟩:=L.aM.now.get he
 refine ⟨a,ha,?_⟩
 have:=C 0 (.int .u64 v.cZ) rfl
 rwa [fI,Nat.add_zero,E.t] at this
theorem Gv {k:KP (Int × Int)} (L:qy O h b s l) (H:k (l.last,l.lastT) h):pg (some ⟨b,0,none⟩) k h:=by
 have hl:=L.len
 have x0:=L.x0; have sz:=L.sz
 unfold pg
 refine ⟨_,rfl,s,L.c2,?_⟩
 rw [hl]
 by_cases hz:l.es.length=0
 ·rw [if_pos (by simpa using hz)]
  refine ⟨_,L.c0,_,L.c1,?_⟩
  have e0:l.es=[]:=List.eq_nil_of_length_eq_zero hz
  have:l.last=l.ix/\l.lastT=l.tm:=by unfold Lg.last Lg.lastT; rw [e0]; simp
  rw [this.1,this.2] at H; exact H
 ·rw [if_neg (by simp; exact fun e=>hz (by rw [e]; rfl))]
  obtain ⟨e,he⟩:∃ e,l.es[l.es.length - 1]? = some e:=⟨_,List.getElem?_eq_getElem (by omega)⟩
  obtain ⟨a,ha,hc⟩:=L.term he
  refine ⟨_,L.c0,s,L.c2,s,L.c2,s,L.c2,?_⟩
  rw [hl,az (by omega) (by omega),show ((l.es.length:Int) - 1).toNat=l.es.length - 1 from by omega,aY (x:=(l.es.length:Int)) (by omega) (by omega)]
  refine ⟨a,ha,by omega,by omega,_,hc,?_⟩
  rw [aY (by omega) (by omega)]
  have:l.last=l.ix + l.es.length/\l.lastT=e.1:=⟨rfl,by unfold Lg.lastT; rw [List.getLast?_eq_getElem?,he]⟩
  rw [this.1,this.2] at H; exact H
theorem ze {k:KP (Int × Int)} (L:qy O h b s l) (H:k (l.aF p) h):jc (some ⟨b,0,none⟩) p k h:=by
 have x0:=L.x0; have sz:=L.sz
 unfold jc
 refine Gv L ⟨_,rfl,_,L.c0,?_⟩
 unfold Lg.aF at H
 by_cases h1:p < l.ix
 ·rw [if_pos (by simpa using h1)]; rw [if_pos h1] at H; exact H
 rw [if_neg (by simpa using h1)]; rw [if_neg h1] at H
 by_cases h2:p > l.last
 ·rw [if_pos (by simpa using h2)]; rw [if_pos h2] at H; exact H
 rw [if_neg (by simpa using h2)]; rw [if_neg h2] at H
 refine ⟨_,L.c0,?_⟩
 by_cases h3:p=l.ix
 ·rw [if_pos (by simpa using h3)]; rw [if_pos h3] at H; exact ⟨_,L.c1,H⟩
 rw [if_neg (by simpa using h3)]; rw [if_neg h3] at H
 have hlast:l.last=l.ix + l.es.length:=rfl
 obtain ⟨e,he⟩:∃ e,l.es[(p - l.ix - 1).toNat]? = some e:=⟨_,List.getElem?_eq_getElem (by omega)⟩
 obtain ⟨a,ha,hc⟩:=L.term he
 refine ⟨s,L.c2,_,L.c0,?_⟩
 rw [aY (x:=p - l.ix) (by omega) (by omega),aY (x:=p - l.ix - 1) (by omega) (by omega)]
 refine ⟨a,ha,by omega,by rw [L.len]; omega,_,hc,?_⟩
 rw [List.getD_eq_getElem?_getD,he] at H
 exact H
theorem EY {s:Slc} {vs:List ae} (A:SlcAt h s (ecs vs)) (hl:s.len=vs.length) {lo hi:Nat} (h1:lo<=hi) (h2:hi<=s.len) (h3:s.len<=s.cap):SlcAt h (dS s 2 lo hi s.cap) (ecs ((vs.drop lo).take (hi - lo)))/\(dS s 2 lo hi s.cap).len=((vs.drop lo).take (hi - lo)).length:=by
 refine ⟨⟨fun hn=>?_,fun a ha j v hj=>?_⟩,by simp [dS]; omega⟩
 ·have:s.a=none:=by simp only [dS] at hn; split at hn <;> simpa using hn
  have h0:=A.1 this
  have:=jV vs
  rw [h0] at this
  simp at this
  have:vs=[]:=List.eq_nil_of_length_eq_zero (by omega)
  simp [this]
 ·rw [← vY,← yP] at hj
  have jl:=(List.getElem?_eq_some_iff.1 hj).1
  rw [List.getElem?_take,if_pos (by simp at jl; omega),List.getElem?_drop] at hj
  have jl2:=(List.getElem?_eq_some_iff.1 hj).1
  rw [jV] at jl2
  cases hs:s.a with
  | none=>simp [dS,hs] at ha
  | some a0 =>
   have hm':¬ s.cap=lo:=fun e=>by omega
   simp [dS,hs,hm'] at ha
   subst ha
   rw [fI]
   exact A.2 a0 hs _ v hj
/-- entries are copied to a new row -/
theorem Hl {t:Slc} {vs:List ae} {k:KP Slc} (hl:t.len=vs.length) (hs:SlcAt h t (ecs vs)) (hsz:vs.length<=1000000)
  (H:∀ s' h',Row h.size h' 65 2 s' (ecs vs)->Ext h.size h h'->k s' h'):∃ l,SlcAt (h.push (.cells ([]:List Value).toArray 65)) t l/\App 65 2 32 [.int .u64 0,.slice none 0 0] (h.push (.cells ([]:List Value).toArray 65)) ⟨some ⟨h.size,0,none⟩,0,0⟩ t.len l k:=by
 have hp:∀ o:Obj,Ext h.size h (h.push o):=fun o=>Ext.push h o (Nat.le_refl _)
 refine ⟨ecs vs,hs.ext (hp _),?_⟩
 have R:Row h.size (h.push (.cells ([]:List Value).toArray 65)) 65 2 ⟨some ⟨h.size,0,none⟩,0,0⟩ [] :=
  ⟨by simp,by simp [maxLen],.inr ⟨h.size,[],rfl,Nat.le_refl _,Blk.push _ _ _,Nat.le_refl _,by simp,by simp⟩⟩
 refine App.row R (by simp) rfl (by rw [jV,hl]) (Bz vs) (by simp only; omega) (by simp only [maxLen]; omega) fun s' h' R' _ hsz' ho _=>?_
 refine H s' h' (by simpa using R') ⟨by simp at hsz'; omega,fun i hi=>?_⟩
 rw [ho i (by simp; omega) (by simp [Slc.blk]; omega),(hp _).block i hi]
/-- where the loop of SAppend stands -/
structure IX (O:bz) (h0:Heap) (lix:Int) (p:Int) (es more:List Ent) (q:Slc × Int) (h:Heap):Prop where
 i:0<=q.2/\q.2<=more.length
 x:Ext h0.size h0 h
 r:∃ vs,Row h0.size h 65 2 q.1 (ecs vs)/\Imm (OB O q.1) h fun h=>Each h vs (Lg.fD lix p es more q.2.toNat)
 sz:(Lg.fD lix p es more q.2.toNat).length<=1000 + q.2.toNat
theorem Cr {lix p:Int} {now:List Ent} {i:Nat} {x:Ent}:(Lg.dG lix p now i x).length<=now.length + 1:=by
 unfold Lg.dG
 split
 ·omega
 ·split
  ·split
   ·omega
   ·simp; omega
  ·simp
theorem Jf {t0:Option Addr} {i:Int} {p3 now:Slc} {cur more:List Ent} {vt:List ae} {e:Ent} {h0:Heap} {k:KP (Int × Int)} {nx:KP (Slc × Int)}
  (X0:Ext h0.size h0 h) (R:Row h0.size h 65 2 now (ecs vt)) (I:Imm (OB O now) h fun h'=>Each h' vt cur) {ws:List ae} (Al:p3.len=ws.length) (A:Imm O h0 fun h=>SlcAt h p3 (ecs ws)/\Each h ws more) (ob:∀ g,O g->g < h0.size) (i0:0<=i) (he:more[i.toNat]? = some e) (sz:cur.length<=1000000) (ml:more.length<=1000000)
  (H:∀ s' h' vs',Row h0.size h' 65 2 s' (ecs vs')->Imm (OB O s') h' (fun h'=>Each h' vs' (cur ++ [e]))->Ext h0.size h0 h'->nx (s',i + 1) h'):fQ t0 p p3 i now k nx h:=by
 have tl:now.len=cur.length:=by have:=R.1; rw [jV,I.now.1] at this; omega
 have hie:=(List.getElem?_eq_some_iff.1 he).1
 have z0:=X0.size
 have J:Imm (OB O now) h fun h=>SlcAt h p3 (ecs ws)/\Each h ws more:=A.step (Stp.bu X0) fun g hg=>hg.elim .inl fun hg=>.inr (R.bd hg).1
 have wl:=J.now.2.1
 obtain ⟨v,hv⟩:∃ v,ws[i.toNat]? = some v:=⟨_,List.getElem?_eq_getElem (by rw [wl]; exact hie)⟩
 obtain ⟨a,ha,c1⟩:=(LsAt.tJ (w:=2) (fun x=>rfl) J.now.1 Al (by decide)).at' i.toNat v hv
 unfold fQ
 refine ⟨a,ha,i0,by rw [Al,wl]; omega,v,c1,_,_,rfl,rfl,?_⟩
 have X1:=Ext.push h (.cells (ae.cs v).toArray 65) (Nat.le_refl _)
 have R1:=R.pushed (.cells (ae.cs v).toArray 65)
 have I1:=I.ext X1
 have E1:Imm (OB O now) (h.push (.cells (ae.cs v).toArray 65)) fun h=>ry h v e:=(J.ext X1).imp fun _ q=>q.2.2 _ v e hv he
 generalize h.push (.cells (ae.cs v).toArray 65)=h1 at *
 have z1:=X1.size
 refine App.row R1 (by omega) rfl rfl (uu (by kernel_rfl)) (by omega) (by simp only [maxLen]; omega) fun s' h2 R2 l2 z2 o2 b2=>?_
 have S2:Stp (fun g=>now.blk=some g) h1 h2:=⟨z2,fun g hg hn=>o2 g hg hn⟩
 have hO:∀ g,OB O s' g->OB O now g∨h1.size<=g:=fun g hg=>by
  rcases hg with hg | hg
  ·exact .inl (.inl hg)
  ·rcases b2 with b2 | b2
   ·exact .inl (.inr (by rw [← b2]; exact hg))
   ·rw [b2] at hg; cases hg; exact .inr (Nat.le_refl _)
 have S2':=S2.mono (O':=OB O now) fun g hg=>.inl (.inr hg)
 unfold dU
 refine ⟨_,rfl,?_⟩
 rw [az (by omega) (by omega)]
 refine H s' h2 (vt ++ [v]) (by rw [yC]; exact R2) (fun h3 S3=>((I1.step S2' hO) h3 S3).app (Each.one ((E1.step S2' hO) h3 S3))) ?_
 exact X0.trans ((X1.mono z0).trans ⟨z2,fun g hg=>o2 g (by omega) fun e=>by have:=(R1.bd e).1; omega⟩)
theorem Cf {p3:Slc} {more:List Ent} {k:KP (Int × Int)} (L:qy O h b s l) (ob:∀ g,O g->g < h.size) (A:Imm O h fun h=>dB h p3 more) (p0:0<=p) (hm:more.length<=100000)
  (H:∀ h' s',qy O h' b s' (l.append p t more).1->Stp (fun g=>g=b) h h'->k (l.append p t more).2 h'):ni (some ⟨b,0,none⟩) p t p3 k h:=by
 have x0:=L.x0
 have sz:=L.sz
 obtain ⟨ws,wl,wc,A⟩:=Hg A
 unfold ni
 refine ze L ⟨_,rfl,_,L.c0,?_⟩
 unfold Lg.append at H
 by_cases hc:p>=l.ix/\l.mat p t=false
 ·rw [if_pos hc] at H
  rw [if_pos (by
   rw [Bool.and_eq_true,decide_eq_true_eq]
   refine ⟨hc.1,?_⟩
   have:=hc.2
   unfold Lg.mat at this
   rw [Bool.and_eq_false_iff] at this
   rw [Bool.or_eq_true]
   exact this.imp (fun q=>by simpa using q) (fun q=>by simpa using q))]
  exact H h s L (Stp.refl _ _)
 rw [if_neg hc] at H
 rw [if_neg (by
  rw [Bool.and_eq_true,decide_eq_true_eq]
  intro q
  refine hc ⟨q.1,?_⟩
  unfold Lg.mat
  rw [Bool.and_eq_false_iff]
  have:=q.2
  rw [Bool.or_eq_true] at this
  exact this.imp (fun q=>by simpa using q) (fun q=>by simpa using q))]
 have hp:p<=l.ix + 1000:=by
  by_cases h1:p>=l.ix
  ·have:l.mat p t=true:=by cases hm:l.mat p t with | true=>rfl | false=>exact absurd ⟨h1,hm⟩ hc
   have:=JV this; omega
  ·omega
 obtain ⟨vs,vl,vc,I⟩:=L.e
 have Xp:=Ext.push h (.cells ([]:List Value).toArray 65) (Nat.le_refl _)
 refine ⟨_,_,rfl,rfl,s,(L.ext Xp).c2,Hl vl I.now.1 (by have:=I.now.2.1; omega) fun now h1 R1 X1=>?_⟩
 have z1:=X1.size
 have I1:Imm (OB O now) h1 fun h=>Each h vs l.es:=(I.step (Stp.bu X1) fun g hg=>hg.elim .inl fun hg=>.inr (R1.bd hg).1).imp fun _ q=>q.2
 unfold qG
 refine ⟨IX O h l.ix p l.es more,fun q _=>(more.length - q.2).toNat,⟨⟨by omega,by omega⟩,X1,⟨vs,R1,I1⟩,by show l.es.length<=1000 + 0; omega⟩,?_⟩
 rintro now i h2 ⟨⟨i0,i1⟩,X,⟨vt,R,J⟩,sz2⟩
 dsimp only at i0 i1 R J sz2
 have z2:=X.size
 have tl:now.len=(Lg.fD l.ix p l.es more i.toNat).length:=by have:=R.1; rw [jV,J.now.1] at this; omega
 have L2:=L.ext X
 have nx:∀ {s':Slc} {cur':List Ent} {h':Heap} (vs':List ae),i < more.length->Lg.fD l.ix p l.es more (i.toNat + 1)=cur'->cur'.length<=1000 + (i.toNat + 1)->Row h.size h' 65 2 s' (ecs vs')->Imm (OB O s') h' (fun h'=>Each h' vs' cur')->Ext h.size h h'->IX O h l.ix p l.es more (s',i + 1) h'/\(more.length - (i + 1)).toNat < (more.length - i).toNat:=fun vs' hi e1 e2 R' I' X' =>
  ⟨⟨⟨by show 0<=i + 1; omega,by show i + 1<=_; omega⟩,X',⟨vs',R',by show Imm _ _ fun h=>Each h vs' (Lg.fD l.ix p l.es more (i + 1).toNat); rw [show (i + 1).toNat=i.toNat + 1 from by omega,e1]; exact I'⟩,by show (Lg.fD l.ix p l.es more (i + 1).toNat).length<=1000 + (i + 1).toNat; rw [show (i + 1).toNat=i.toNat + 1 from by omega,e1]; exact e2⟩,by omega⟩
 obtain ⟨cur,ecur⟩:∃ c,c=Lg.fD l.ix p l.es more i.toNat:=⟨_,rfl⟩
 rw [← ecur] at J sz2 tl
 have J3:Imm (OB O now) h2 fun h=>SlcAt h p3 (ecs ws)/\Each h ws more:=A.step (Stp.bu X) fun g hg=>hg.elim .inl fun hg=>.inr (R.bd hg).1
 have wl2:=J3.now.2.1
 unfold qz
 by_cases hi:i < (p3.len:Int)
 ·rw [if_pos (by simpa using hi)]
  have hie:i.toNat < more.length:=by omega
  obtain ⟨e,he⟩:∃ e,more[i.toNat]? = some e:=⟨_,List.getElem?_eq_getElem hie⟩
  have hst:Lg.fD l.ix p l.es more (i.toNat + 1)=Lg.dG l.ix p cur i.toNat e:=by
   rw [ecur]
   show (match more[i.toNat]? with | some x=>Lg.dG l.ix p (Lg.fD l.ix p l.es more i.toNat) i.toNat x | none=>Lg.fD l.ix p l.es more i.toNat)=_
   rw [he]
  have cl:(Lg.dG l.ix p cur i.toNat e).length<=1000 + (i.toNat + 1):=Nat.le_trans Cr (by omega)
  rw [aY (x:=i) (by omega) (by omega)]
  have ew:IntKind.u64.wrap (IntKind.u64.wrap (p + i) + 1)=Rf.W (p + i.toNat + 1):=by
   rw [show ((i.toNat:Nat):Int)=i from by omega]
   exact ED
  rw [ew]
  have stay:Lg.dG l.ix p cur i.toNat e=cur->dU (some ⟨b,0,none⟩) p p3 i now k (fun q h'=>IX O h l.ix p l.es more q h'/\(more.length - q.2).toNat < (more.length - i).toNat) h2:=fun hs=>by
   unfold dU
   refine ⟨_,rfl,?_⟩
   rw [az (by omega) (by omega)]
   exact nx vt (by omega) (hst.trans hs) (by omega) R J X
  refine ⟨_,rfl,_,rfl,_,L2.c0,?_⟩
  by_cases hle:Rf.W (p + i.toNat + 1)<=l.ix
  ·rw [if_pos (by simpa using hle)]
   exact stay (by unfold Lg.dG; rw [if_pos hle])
  rw [if_neg (by simpa using hle)]
  refine ⟨l.ix,L2.c0,_,rfl,?_⟩
  have hK:Rf.W (p + i.toNat + 1)=p + i + 1:=by
   unfold Rf.W
   rw [aY (by omega) (by omega)]
   omega
  have hst2:=hst
  unfold Lg.dG at hst2
  rw [hK] at hst2 hle ⊢
  rw [if_neg hle] at hst2
  rw [aY (x:=p + i + 1 - l.ix) (by omega) (by omega),aY (x:=p + i + 1 - l.ix - 1) (by omega) (by omega),az (x:=p + i + 1 - l.ix - 1) (by omega) (by omega)]
  have hcap:=R.cap
  -- the entry is put behind what is left
  have more':∀ {t:Slc} {cur':List Ent} {h':Heap} (vt':List ae),Ext h.size h h'->Row h.size h' 65 2 t (ecs vt')->Imm (OB O t) h' (fun h'=>Each h' vt' cur')->cur'.length<=cur.length->Lg.fD l.ix p l.es more (i.toNat + 1)=cur' ++ [e] ->
    fQ (some ⟨b,0,none⟩) p p3 i t k (fun q h'=>IX O h l.ix p l.es more q h'/\(more.length - q.2).toNat < (more.length - i).toNat) h':=fun {t cur' h'} vt' X' R' J' hl hs =>
   Jf X' R' J' wl A ob i0 he (by omega) (by omega) fun s' h4 vs' R4 J4 X4=>nx vs' (by omega) hs (by simp; omega) R4 J4 X4
  by_cases hk:p + i + 1 - l.ix - 1 < (now.len:Int)
  ·rw [if_pos (by simpa using hk)]
   have hkc:(p + i + 1 - l.ix - 1).toNat < cur.length:=by omega
   rw [if_pos hkc] at hst2
   obtain ⟨f,hf⟩:∃ f,cur[(p + i + 1 - l.ix - 1).toNat]? = some f:=⟨_,List.getElem?_eq_getElem hkc⟩
   have hgd:cur.getD (p + i + 1 - l.ix - 1).toNat (0,[])=f:=by rw [List.getD_eq_getElem?_getD,hf]; rfl
   rw [hgd] at hst2
   obtain ⟨a',d1,d2⟩:=Dj R J.now hf
   obtain ⟨a2,d3,d4⟩:=(dB.mk (s:=p3) (by rw [wl,wl2]) wc ⟨ws,J3.now.1,J3.now.2⟩:dB h2 p3 more).get he |>.elim fun a q=>q.elim fun v q=>(⟨a,q.1,by have:=q.2.1 0 (.int .u64 v.cZ) rfl; rw [fI,Nat.add_zero,q.2.2.t] at this; exact this⟩:∃ a,p3.a=some a/\af h2 (a.add (i.toNat * 2))=some (.int .u64 e.1))
   refine ⟨a',d1,by omega,hk,_,d2,a2,d3,i0,by rw [wl,wl2]; omega,_,d4,?_⟩
   unfold iX
   by_cases ht:f.1=e.1
   ·rw [if_pos (by simpa using ht)]
    rw [if_pos ht] at hst2
    exact stay (hst.symm.trans hst2)
   ·rw [if_neg (by simpa using ht),if_pos (by simpa using hk)]
    rw [if_neg ht] at hst2
    refine ⟨_,_,rfl,rfl,_,by decide,by omega,by omega,by omega,rfl,?_⟩
    have SB:=EY R.slc (s:=now) (vs:=vt) (by rw [tl,J.now.1]) (lo:=(0:Int).toNat) (hi:=(p + i + 1 - l.ix - 1).toNat) (by show 0<=_; omega) (by omega) hcap
    rw [show ((now.cap:Nat):Int).toNat=now.cap from by omega]
    generalize dS now 2 (0:Int).toNat (p + i + 1 - l.ix - 1).toNat now.cap=s6 at SB ⊢
    have e6:(vt.drop (0:Int).toNat).take ((p + i + 1 - l.ix - 1).toNat - (0:Int).toNat)=vt.take (p + i + 1 - l.ix - 1).toNat:=rfl
    rw [e6] at SB
    refine Hl SB.2 SB.1 (by have:=J.now.1; rw [List.length_take]; omega) fun s7 h7 R7 X7=>?_
    refine more' (cur':=cur.take (p + i + 1 - l.ix - 1).toNat) (vt.take (p + i + 1 - l.ix - 1).toNat) (X.trans (X7.mono z2)) (R7.mono z2) ?_ (by rw [List.length_take]; omega) hst2
    exact ((J.step (O':=OB O s7) (Stp.bu X7) fun g hg=>hg.elim (fun q=>.inl (.inl q)) fun q=>.inr (R7.bd q).1).imp fun _ E=>E.take _)
  ·rw [if_neg (by simpa using hk)]
   unfold iX
   rw [if_neg (by simp),if_neg (by simpa using hk)]
   rw [if_neg (by omega)] at hst2
   exact more' vt X R J (Nat.le_refl _) hst2
 ·rw [if_neg (by simpa using hi)]
  have hin:i.toNat=more.length:=by omega
  rw [hin] at ecur
  rw [← ecur] at H
  by_cases h64:cur.length > 64
  ·rw [if_pos (by simp; omega)]
   rw [if_pos h64] at H
   exact H h2 s L2 (.bu X)
  ·rw [if_neg (by simp; omega)]
   rw [if_neg h64] at H
   obtain ⟨w1,w2⟩:=L2.k.put (i:=2) (v:=Slc.v now) (by show 2 < 3; omega)
   refine ⟨_,rfl,_,w1,rfl,_,rfl,?_⟩
   obtain ⟨K,U⟩:=w2 _ rfl
   generalize setH h2 ((⟨b,0,none⟩:Addr).add 2) (Slc.v now)=h3 at *
   rw [wl,wl2,aY (x:=(more.length:Int)) (by omega) (by omega)]
   have S3:Stp (fun g=>g=b) h2 h3:=.dQ U (.inl rfl)
   have nb:∀ g,now.blk=some g->g≠b:=fun g hg e=>by subst e; exact R.aZ L2.k (by decide) hg
   have R3:=S3.row R nb
   refine H h3 now ⟨K,⟨vt,by rw [tl,J.now.1],R.cap,?_⟩,L.x0,by show cur.length<=1000; omega,L.ob⟩ ((Stp.bu (O:=fun g=>g=b) X).trans' S3)
   have nO:∀ g,now.blk=some g->¬ O g:=fun g hg hO=>by have:=(R.bd hg).1; have:=ob g hO; omega
   have J4:=J.step (O':=O) (S3.mono fun g hg=>.inl (.inl (by subst hg; exact L.ob))) fun g hg=>.inl (.inl hg)
   exact fun h4 S4=>⟨(S4.row R3 nO).slc,J4 h4 S4⟩
theorem GZ {k:KP Int} (L:qy O h b s l) (ob:∀ g,O g->g < h.size) (p1:p<=1000000000)
  (H:∀ h' s',qy O h' b s' (l.cut p).1->Stp (fun g=>g=b) h h'->k (l.cut p).2 h'):qg (some ⟨b,0,none⟩) p k h:=by
 have x0:=L.x0
 have sz:=L.sz
 unfold qg
 refine ze L ?_
 unfold Lg.cut at H
 by_cases ht:(l.aF p).2=0
 ·rw [if_neg (by simpa using ht)]; rw [if_neg (by simpa using ht)] at H
  obtain ⟨h1,h2⟩:=ve ht
  have hl:=L.len
  obtain ⟨vs,vl,vc,I⟩:=L.e
  have vl2:=I.now.2.1
  refine ⟨_,rfl,s,L.c2,_,L.c0,?_⟩
  rw [aY (x:=p - l.ix) (by omega) (by omega)]
  refine ⟨_,by omega,by omega,by omega,by omega,rfl,?_⟩
  have SB:=EY I.now.1 vl (lo:=(p - l.ix).toNat) (hi:=(s.len:Int).toNat) (by omega) (by omega) vc
  rw [show ((s.cap:Nat):Int).toNat=s.cap from by omega]
  rw [show (vs.drop (p - l.ix).toNat).take ((s.len:Int).toNat - (p - l.ix).toNat)=vs.drop (p - l.ix).toNat from List.take_of_length_le (by rw [List.length_drop]; omega)] at SB
  generalize dS s 2 (p - l.ix).toNat (s.len:Int).toNat s.cap=s6 at SB ⊢
  have Xp:=Ext.push h (.cells ([]:List Value).toArray 65) (Nat.le_refl _)
  refine ⟨_,_,rfl,rfl,(L.ext Xp).c0,(L.ext Xp).c2,Hl SB.2 SB.1 (by rw [List.length_drop]; omega) fun s' h' R' X=>?_⟩
  have z1:=X.size
  have L1:=L.ext X
  obtain ⟨w1,f1⟩:=L1.k.put (i:=2) (v:=Slc.v s') (by show 2 < 3; omega)
  refine ⟨_,w1,rfl,?_⟩
  obtain ⟨K2,U2⟩:=f1 _ rfl
  generalize setH h' ((⟨b,0,none⟩:Addr).add 2) (Slc.v s')=h2 at *
  obtain ⟨w3,f3⟩:=K2.put (i:=0) (v:=.int .u64 p) (by show 0 < 3; omega)
  rw [show (⟨b,0,none⟩:Addr).add 0=⟨b,0,none⟩ from rfl] at w3 f3
  refine ⟨_,w3,rfl,?_⟩
  obtain ⟨K3,U3⟩:=f3 _ rfl
  generalize setH h2 (⟨b,0,none⟩:Addr) (.int .u64 p)=h3 at *
  obtain ⟨w4,f4⟩:=K3.put (i:=1) (v:=.int .u64 (l.aF p).1) (by show 1 < 3; omega)
  refine ⟨_,w4,rfl,?_⟩
  obtain ⟨K4,U4⟩:=f4 _ rfl
  generalize setH h3 ((⟨b,0,none⟩:Addr).add 1) (.int .u64 (l.aF p).1)=h4 at *
  have U:=(U2.trans U3).trans U4
  have S:Stp (fun g=>g=b) h' h4:=Stp.dQ U (.inl rfl)
  have S0:Stp (fun g=>g=b) h h4:=(Stp.bu (O:=fun g=>g=b) X).trans' S
  have sb:∀ g,s'.blk=some g->h.size<=g:=fun g hg=>(R'.bd hg).1
  have R4:=S.row R' fun g hg e=>by have:=sb g hg; have:=L.k.lt; omega
  have I4:=I.stp (S0.mono fun g hg=>.inl (by subst hg; exact L.ob))
  refine H h4 s' ⟨K4,⟨vs.drop (p - l.ix).toNat,?_,R4.cap,fun h5 S5=>⟨(S5.row R4 fun g hg hO=>by have:=sb g hg; have:=ob g hO; omega).slc,(I4 h5 S5).2.drop _⟩⟩,⟨by show 0<=p; omega,by show p<=_; omega⟩,by show (l.es.drop _).length<=1000; rw [List.length_drop]; omega,L.ob⟩ S0
  have:=R4.1; rw [jV] at this; omega
 ·rw [if_pos (by simpa using ht)]; rw [if_pos (by simpa using ht)] at H
  exact H _ _ L (Stp.refl _ _)
/-! ### what a member has stored -/
structure SLy where
 b:Nat
 lb:Nat
 es:Slc
 aQ:Slc
def scs (L:SLy) (s:SS):List Value:=aD.cs ⟨s.term,s.aN,some ⟨L.lb,0,none⟩,L.aQ⟩
structure oI (O:bz) (h:Heap) (L:SLy) (s:SS):Prop where
 k:Blk h L.b (scs L s) 73
 l:qy O h L.lb L.es s.log
 sn:Imm O h fun h=>SlcAt h L.aQ (b8 s.aQ)
 sl:L.aQ.len=s.aQ.length
 ob:O L.b
def pQ (L:SLy):bz:=fun g=>g=L.b∨g=L.lb
variable {L:SLy} {st st':SS} {x:rZ} {v:aj}
theorem oI.move (A:oI O h L st) (p:Stp S h h') (hS:∀ g,S g->O g∨h.size<=g) (hd:∀ g,pQ L g->¬ S g) (hO:∀ g,O' g->O g∨h.size<=g) (hw:∀ g,pQ L g->O' g):oI O' h' L st :=
 ⟨p.blk A.k (hd _ (.inl rfl)),A.l.move p hS (hd _ (.inr rfl)) hO (hw _ (.inr rfl)),A.sn.step (p.mono hS) hO,A.sl,hw _ (.inl rfl)⟩
theorem oI.c (A:oI O h L st) (i:Nat):af h ((⟨L.b,0,none⟩:Addr).add i)=(scs L st)[i]?:=A.k.get i
theorem oI.ext (A:oI O h L st) (X:Ext h.size h h'):oI O h' L st:=A.move (S:=fun _=>False) (.bu X) (fun _ h=>h.elim) (fun _ _ h=>h) (fun _ h=>.inl h) fun g hg=>hg.elim (fun e=>by subst e; exact A.ob) fun e=>by subst e; exact A.l.ob
/-- what is to be kept fits -/
structure WFk (x:rZ):Prop where
 i:0<=x.index/\x.index<=1000000000
 z:x.aM.length<=100000
theorem Dq {l:Lg} {p t:Int}:l.mat p t=(((l.aF p).2 == 0) && ((l.aF p).1 == t)):=rfl
theorem JM {k:KP Bool} (A:oI O h L st) (ob:∀ g,O g->g < h.size) (V:Imm O h fun h=>zP h v x) (w:WFk x) (e:o8 st x=some st')
  (H:∀ h' L',oI (fun g=>O g∨g=L'.lb) h' L' st'->L'.b=L.b->(L'.lb=L.lb∨h.size<=L'.lb)->L'.lb < h'.size->Stp (pQ L) h h'->k true h'):l7 (some ⟨L.b,0,none⟩) v k h:=by
 obtain ⟨k1,k2,k3,k4⟩:=V.now.k
 unfold l7
 refine ⟨_,_,rfl,rfl,?_⟩
 have X:=Ext.push h (.cells (aj.cs v).toArray 107) (Nat.le_refl _)
 have C:=Blk.push h (aj.cs v) 107
 have A1:=A.ext X
 have V1:=V.ext X
 have z:=X.size
 have ob1:∀ g,O g->g < (h.push (.cells (aj.cs v).toArray 107)).size:=fun g hg=>by have:=ob g hg; omega
 obtain ⟨cb,ecb⟩:∃ c,c=h.size:=⟨_,rfl⟩
 rw [← ecb] at C ⊢
 generalize h.push (.cells (aj.cs v).toArray 107)=h1 at *
 have cO:¬ O cb:=fun hO=>by have:=ob _ hO; omega
 have self:∀ {h':Heap} {L':SLy} {s':SS},oI O h' L' s'->oI (fun g=>O g∨g=L'.lb) h' L' s':=fun {h' L' s'} B=>B.move (S:=fun _=>False) (Stp.refl _ _) (fun _ h=>h.elim) (fun _ _ h=>h) (fun g hg=>.inl (hg.elim id fun e=>by subst e; exact B.l.ob)) fun g hg=>hg.elim (fun e=>.inl (by subst e; exact B.ob)) fun e=>.inr e
 refine ⟨v.oZ,by rw [C.cell]; rfl,?_⟩
 unfold o8 at e
 rw [k1]
 by_cases h1':x.kind=1
 ·rw [if_pos (by simpa using h1')]
  rw [if_pos h1'] at e
  cases e
  obtain ⟨w1,f1⟩:=A1.k.put (i:=0) (v:=.int .u64 x.term) (by show 0 < 4; omega)
  rw [show (⟨L.b,0,none⟩:Addr).add 0=⟨L.b,0,none⟩ from rfl] at w1 f1
  refine ⟨v.cZ,by rw [C.get]; rfl,_,rfl,_,by exact w1,rfl,?_⟩
  rw [k2]
  obtain ⟨K2,U2⟩:=f1 _ rfl
  have C2:=C.old (U2.block cb C.lt fun e=>cO (by rw [e]; exact A.ob))
  generalize setH h1 (⟨L.b,0,none⟩:Addr) (.int .u64 x.term)=h2 at *
  obtain ⟨w2,f2⟩:=K2.put (i:=1) (v:=.int .i64 x.aN) (by show 1 < 4; omega)
  refine ⟨v.za,by rw [C2.get]; rfl,_,by exact w2,rfl,?_⟩
  rw [k3]
  obtain ⟨K3,U3⟩:=f2 _ rfl
  generalize setH h2 ((⟨L.b,0,none⟩:Addr).add 1) (.int .i64 x.aN)=h3 at *
  have U:=U2.trans U3
  have S3:Stp (fun g=>g=L.b) h1 h3:=.dQ U (.inl rfl)
  have nb:L.lb≠L.b:=fun e=>by
   have q:=A.l.k
   rw [e] at q
   exact absurd (q.inj A.k).2 (by decide)
  have B:oI O h3 L { st with term:=x.term,aN:=x.aN }:=⟨K3,A1.l.move S3 (fun g hg=>.inl (by subst hg; exact A.ob)) nb (fun _ h=>.inl h) A.l.ob,A1.sn.stp (S3.mono fun g hg=>.inl (by subst hg; exact A.ob)),A.sl,A.ob⟩
  exact H h3 L (self B) rfl (.inl rfl) (by have:=B.l.k.lt; exact this) ((Stp.bu (O:=pQ L) X).trans' (S3.mono fun g hg=>.inl (.inl hg)))
 rw [if_neg (by simpa using h1')]
 rw [if_neg h1'] at e
 by_cases h2':x.kind=2
 ·rw [if_pos (by simpa using h2')]
  rw [if_pos h2'] at e
  split at e
  ·rename_i ok
   cases e
   refine ⟨_,rfl,_,A1.c 2,v.mg,by rw [C.get]; rfl,v.cZ,by rw [C.get]; rfl,v.dR,by rw [C.get]; rfl,?_⟩
   rw [k4,k2]
   refine Cf A1.l ob1 (V1.imp fun _ q=>q.e) w.i.1 w.z fun h3 s3 L3 S3=>?_
   rw [ok]
   have nb:L.b≠L.lb:=fun e=>by
    have q:=A.l.k
    rw [← e] at q
    exact absurd (q.inj A.k).2 (by decide)
   have B:oI O h3 { L with es:=s3 } { st with log:=(st.log.append x.index x.term x.aM).1 }:=⟨S3.blk A1.k nb,L3,A1.sn.stp (S3.mono fun g hg=>.inl (by subst hg; exact A.l.ob)),A.sl,A.ob⟩
   exact H h3 _ (self B) rfl (.inl rfl) (by have:=L3.k.lt; exact this) ((Stp.bu (O:=pQ L) X).trans' (S3.mono fun g hg=>.inl (.inr hg)))
  ·cases e
 rw [if_neg (by simpa using h2')]
 rw [if_neg h2'] at e
 by_cases h3':x.kind=3
 ·rw [if_pos (by simpa using h3')]
  rw [if_pos h3'] at e
  have e:=Option.some.inj e
  have nb:L.b≠L.lb:=fun e=>by
   have q:=A.l.k
   rw [← e] at q
   exact absurd (q.inj A.k).2 (by decide)
  -- the snapshot is written last
  have tail:∀ {h5:Heap} {lb:Nat} {s5:Slc} {l5:Lg} {O5:bz},Blk h5 L.b (scs { L with lb:=lb } st) 73->qy O5 h5 lb s5 l5->(∀ g,O g->O5 g)->(∀ g,O5 g->O g∨g=lb)->(lb=L.lb∨h1.size<=lb)->Stp (pQ L) h1 h5->{ st with log:=l5,aQ:=x.aQ } = st'->iD (some ⟨L.b,0,none⟩) ⟨cb,0,none⟩ k h5:=fun {h5 lb s5 l5 O5} K5 L5 o1 o2 o3 S5 e5=>by
   have C5:=S5.blk C fun q=>q.elim (fun e=>cO (by rw [e]; exact A.ob)) fun e=>cO (by rw [e]; exact A.l.ob)
   unfold iD
   obtain ⟨w1,f1⟩:=K5.put (i:=3) (v:=Slc.v v.nK) (by show 3 < 4; omega)
   refine ⟨v.nK,by rw [C5.get]; rfl,_,rfl,_,w1,rfl,?_⟩
   obtain ⟨K6,U6⟩:=f1 _ rfl
   generalize setH h5 ((⟨L.b,0,none⟩:Addr).add 3) (Slc.v v.nK)=h6 at *
   have S6:Stp (fun g=>g=L.b) h5 h6:=.dQ U6 (.inl rfl)
   have nb5:L.b≠lb:=fun e=>by
    have q:=L5.k
    rw [← e] at q
    exact absurd (q.inj K5).2 (by decide)
   have L6:=L5.move S6 (O':=fun g=>O g∨g=lb) (fun g hg=>.inl (by subst hg; exact o1 _ A.ob)) (fun e=>nb5 e.symm) (fun g hg=>.inl (hg.elim (o1 g) fun e=>by subst e; exact L5.ob)) (.inr rfl)
   have S16:Stp (pQ L) h1 h6:=S5.trans' (S6.mono fun g hg=>.inl (.inl hg))
   have V6:Imm (fun g=>O g∨g=lb) h6 fun h=>zP h v x:=V1.step (S16.mono fun g hg=>.inl (hg.elim (fun e=>by subst e; exact A.ob) fun e=>by subst e; exact A.l.ob)) fun g hg=>by
    rcases hg with hg | rfl
    ·exact .inl hg
    ·rcases o3 with o3 | o3
     ·exact .inl (by rw [o3]; exact A.l.ob)
     ·exact .inr o3
   subst e5
   exact H h6 ⟨L.b,lb,s5,v.nK⟩ ⟨K6,L6,V6.imp fun _ q=>q.s,by show v.nK.len=x.aQ.length; exact V.now.sl,.inl A.ob⟩ rfl (o3.imp id fun q=>Nat.le_trans z q) L6.k.lt ((Stp.bu (O:=pQ L) X).trans' S16)
  refine ⟨_,rfl,_,A1.c 2,v.mg,by rw [C.get]; rfl,?_⟩
  rw [k4]
  refine ze A1.l ?_
  have yes:st.log.mat x.index x.term=true->dM (some ⟨L.b,0,none⟩) ⟨cb,0,none⟩ true k h1:=fun hm=>by
   unfold dM
   rw [if_pos rfl]
   refine ⟨_,rfl,_,A1.c 2,v.mg,by rw [C.get]; rfl,?_⟩
   rw [k4]
   refine GZ A1.l ob1 w.i.2 fun h3 s3 L3 S3=>?_
   rw [if_pos hm] at e
   exact tail (S3.blk A1.k nb) L3 (fun _ h=>h) (fun _ h=>.inl h) (.inl rfl) (S3.mono fun g hg=>.inl (.inr hg)) e
  have no:st.log.mat x.index x.term=false->dM (some ⟨L.b,0,none⟩) ⟨cb,0,none⟩ false k h1:=fun hm=>by
   unfold dM
   rw [if_neg (by simp)]
   refine ⟨v.mg,by rw [C.get]; rfl,v.cZ,by rw [C.get]; rfl,_,_,rfl,rfl,_,rfl,?_⟩
   rw [k4,k2]
   have X2:=Ext.push h1 (.cells (aH.cs ⟨x.index,x.term,⟨none,0,0⟩⟩).toArray 75) (Nat.le_refl _)
   have N2:=Blk.push h1 (aH.cs ⟨x.index,x.term,⟨none,0,0⟩⟩) 75
   have A2:=A1.ext X2
   generalize h1.push (.cells (aH.cs ⟨x.index,x.term,⟨none,0,0⟩⟩).toArray 75)=h2 at *
   obtain ⟨nb2,enb⟩:∃ c,c=h1.size:=⟨_,rfl⟩
   rw [← enb] at N2 ⊢
   obtain ⟨w1,f1⟩:=A2.k.put (i:=2) (v:=.pointer (some ⟨nb2,0,none⟩)) (by show 2 < 4; omega)
   refine ⟨_,w1,rfl,?_⟩
   obtain ⟨K3,U3⟩:=f1 _ rfl
   generalize setH h2 ((⟨L.b,0,none⟩:Addr).add 2) (.pointer (some ⟨nb2,0,none⟩))=h3 at *
   have S3:Stp (fun g=>g=L.b) h2 h3:=.dQ U3 (.inl rfl)
   have bl:=A1.k.lt
   have N3:=S3.blk N2 (by omega)
   rw [if_neg (by rw [hm]; simp)] at e
   refine tail (lb:=nb2) (s5:=⟨none,0,0⟩) (O5:=fun g=>O g∨g=nb2) K3 ⟨N3,⟨[],rfl,Nat.le_refl _,fun h4 _=>⟨⟨fun _=>rfl,fun a ha=>by cases ha⟩,Each.nil _⟩⟩,w.i,by show 0<=1000; omega,.inr rfl⟩ (fun _ h=>.inl h) (fun _ h=>h) (.inr (by omega)) ((Stp.bu (O:=pQ L) X2).trans' (S3.mono fun g hg=>.inl (.inl hg))) e
  by_cases he:(st.log.aF x.index).2=0
  ·rw [if_pos (by simpa using he)]
   refine ⟨v.cZ,by rw [C.get]; rfl,?_⟩
   rw [k2]
   cases hm:((st.log.aF x.index).1 == x.term) with
   | true=>exact yes (by rw [Dq,he,hm]; rfl)
   | false=>exact no (by rw [Dq,he,hm]; rfl)
  ·rw [if_neg (by simpa using he)]
   exact no (by rw [Dq,Bool.and_eq_false_iff]; exact .inl (by simpa using he))
 ·rw [if_neg h3'] at e; cases e
end
end Go.Q.Yi
end
section
/- What holds of all the members, the letters on their way, what was known as committed, who led. -/
namespace Go.Q.Rf
def KI (n:Int) (G:Gh) (known:List Ent):Prop:=∀ (j:Nat) e,known[j]? = some e->e.1≠0->∃ A P,Com n G A P/\P[j]? = some e
def DI (G:Gh) (leaders:List Int):Prop:=∀ (T:Nat) j,leaders[T]? = some j->0<=j->G.ld T=some j
abbrev Let:=Int × Int × Msg
def LsI (n:Int) (B:Nat) (G:Gh) (l:List Let):Prop:=∀ x∈l,LI n G x.1 x.2.1 x.2.2/\(0<=x.2.1/\x.2.1 < n)/\0<=x.2.2.term/\x.2.2.term<=B/\(x.2.2.kind=3->0<=x.2.2.index/\x.2.2.index + x.2.2.aM.length<=100000000)
structure WG (n:Int) (B:Nat) (G:Gh) (R:Int->RS) (S:Int->SS) (Ls:List Let) (known:List Ent) (leaders:List Int):Prop where
 core:Core n B G R
 ls:LsI n B G Ls
 kn:KI n G known
 ld:DI G leaders
 sy:∀ i,0<=i->i < n->S i=ofR (R i)/\(R i).keeps=[]
def Wi (n:Int) (B:Nat) (R:Int->RS) (S:Int->SS) (Ls:List Let) (known:List Ent) (leaders:List Int):Prop:=∃ G,WG n B G R S Ls known leaders
def vP (S:Int->SS) (i:Int) (s:SS):Int->SS:=fun k=>if k=i then s else S k
section
variable {n:Int} {B:Nat} {G:Gh} {R:Int->RS} {S:Int->SS} {Ls:List Let} {known:List Ent} {leaders:List Int} {i:Int}
/-- an entry that is there -/
theorem zo {r:RS} (M:MI n B G i r) {k:Int} (k0:1<=k):(r.log.ix < k/\k<=(G.F i).length/\∃ x,(G.F i)[k.toNat - 1]? = some x/\r.entry k=(x,0))∨((k<=r.log.ix∨(G.F i).length < k)/\(r.entry k).2≠0/\(k=(G.F i).length + 1->(r.entry k).2=6)):=by
 have x0:=M.rep.i0
 have to:=M.rep.aF (p:=k) (by omega)
 unfold RS.entry
 by_cases c1:k < r.log.ix
 ·right
  rw [if_pos (by omega)] at to
  rw [to,if_pos (by simp)]
  exact ⟨.inl (by omega),by simp,fun q=>by have:=M.rep.i1; omega⟩
 by_cases c2:(G.F i).length < k
 ·right
  rw [if_neg (by omega),if_pos (by omega)] at to
  rw [to,if_pos (by simp)]
  exact ⟨.inr c2,by simp,fun _=>rfl⟩
 rw [if_neg (by omega),if_neg (by omega)] at to
 rw [to,if_neg (by simp)]
 by_cases c3:k=r.log.ix
 ·right
  have e:(r.log.frm k 1).2≠0:=by
   have t2:=M.rep.aF (p:=k - 1) (by omega)
   rw [if_pos (by omega)] at t2
   unfold Lg.frm
   rw [if_neg (by omega),t2,if_pos (by simp)]
   simp
  rw [if_pos e]
  exact ⟨.inl (by omega),by simp,fun q=>by omega⟩
 ·left
  have fr:=M.rep.frm (p:=k) (m:=1) (by omega) (by omega) (by omega)
  rw [fr,if_neg (by simp)]
  have hk:k.toNat - 1 < (G.F i).length:=by omega
  refine ⟨by omega,by omega,(G.F i)[k.toNat - 1],List.getElem?_eq_getElem hk,?_⟩
  have:((G.F i).drop (k.toNat - 1)).take (1:Int).toNat=[(G.F i)[k.toNat - 1]]:=by
   rw [List.drop_eq_getElem_cons hk]; rfl
  rw [this]
/-- what a member knows as committed is what was known -/
theorem KI.look (K:KI n G known) (E:ELs n B G) {r:RS} (M:MI n B G i r) {k:Int} (k0:1<=k) (k1:k<=r.commit) {x:Ent} (hx:r.entry k=(x,0)):(∀ e,known[k.toNat - 1]? = some e->e.1≠0->e=x)/\KI n G (known.set (k.toNat - 1) x):=by
 have c2:=M.c2
 have pf:((G.F i).take r.commit.toNat)[k.toNat - 1]? = some x:=by
  rcases zo M k0 with ⟨_,_,y,hy,e⟩ | ⟨_,e,_⟩
  ·rw [hx] at e; cases e
   rw [List.getElem?_take,if_pos (by omega)]; exact hy
  ·rw [hx] at e; exact absurd rfl e
 refine ⟨fun e he ne=>?_,fun j e hj ne=>?_⟩
 ·obtain ⟨A,P,C,hP⟩:=K _ e he ne
  have pl:=(List.getElem?_eq_some_iff.1 hP).1
  have ql:=(List.getElem?_eq_some_iff.1 pf).1
  have:=C.comp E M.cm (k:=k.toNat) (by omega) (by omega)
  have h1:(P.take k.toNat)[k.toNat - 1]? = some e:=by rw [List.getElem?_take,if_pos (by omega)]; exact hP
  rw [this,List.getElem?_take,if_pos (by omega),pf] at h1
  exact (Option.some.inj h1).symm
 ·by_cases c:j=k.toNat - 1
  ·subst c
   rw [List.getElem?_set_self (by have:=(List.getElem?_eq_some_iff.1 hj).1; simpa using this)] at hj
   cases hj
   exact ⟨_,_,M.cm,pf⟩
  ·rw [List.getElem?_set_ne (fun q=>c q.symm)] at hj
   exact K j e hj ne
theorem KI.more (K:KI n G known):KI n G (known ++ [(0,[])]):=fun j e hj ne=>by
 rw [List.getElem?_append] at hj
 split at hj
 ·exact K j e hj ne
 ·have:e=(0,[]):=by
   have h1:=List.mem_of_getElem? hj
   simpa using h1
  subst this; exact absurd rfl ne
theorem DI.look (D:DI G leaders) {r:RS} (M:MI n B G i r) (i0:0<=i) (h2:r.role=2):(∀ j,leaders[r.term.toNat]? = some j->0<=j->j=i)/\DI G (leaders.set r.term.toNat i):=by
 have A:=(M.l1 h2).ld
 have t0:=M.t0
 have et:((r.term.toNat:Nat):Int)=r.term:=by omega
 refine ⟨fun j hj j0=>?_,fun T j hj j0=>?_⟩
 ·have:=D _ j hj j0
  rw [et,A] at this
  exact (Option.some.inj this).symm
 ·by_cases c:T=r.term.toNat
  ·subst c
   rw [List.getElem?_set_self (by have:=(List.getElem?_eq_some_iff.1 hj).1; simpa using this)] at hj
   cases hj
   rw [et]; exact A
  ·rw [List.getElem?_set_ne (fun q=>c q.symm)] at hj
   exact D T j hj j0
theorem DI.more (D:DI G leaders):DI G (leaders ++ [-1]):=fun T j hj j0=>by
 rw [List.getElem?_append] at hj
 split at hj
 ·exact D T j hj j0
 ·have:j = -1:=by
   have h1:=List.mem_of_getElem? hj
   simpa using h1
  omega
theorem KI.pst {G':Gh} (K:KI n G known) (P:Pst n G G'):KI n G' known:=fun j e hj ne=>by
 obtain ⟨A,Q,C,h⟩:=K j e hj ne
 exact ⟨A,Q,P.com A Q C,h⟩
theorem DI.pst {G':Gh} (D:DI G leaders) (P:Pst n G G'):DI G' leaders:=fun T j hj j0=>P.ld _ _ (D T j hj j0)
theorem LsI.pst {G':Gh} {B':Nat} (L:LsI n B G Ls) (P:Pst n G G') (hB:B<=B'):LsI n B' G' Ls:=fun x hx=>by
 obtain ⟨a,b,c,d,e⟩:=L x hx
 exact ⟨P.li _ _ _ a,b,c,by omega,e⟩
theorem LsI.sub (L:LsI n B G Ls) {Ls':List Let} (h:∀ x∈Ls',x∈Ls):LsI n B G Ls':=fun x hx=>L x (h x hx)
/-- letters of a member -/
theorem Ey (E:ELs n B G) (hB:B<=10000000) {out:List gQ} (L:Lts n B G i out) (to:∀ x∈out,0<=x.1/\x.1 < n):LsI n B G (out.map fun x=>(i,x.1,x.2)):=fun x hx=>by
 obtain ⟨y,hy,rfl⟩:=List.mem_map.1 hx
 obtain ⟨a,b,c⟩:=L y hy
 refine ⟨a,to y hy,b,c,fun k=>?_⟩
 obtain ⟨hj,p0,k1,_⟩:=a.k3 k
 have:=(E _ _ hj).bd
 exact ⟨p0,by show y.2.index + (y.2.aM.length:Int)<=_; omega⟩
/-- a member's act: what it has now is stored, its letters go (or some of them) -/
theorem WG.act (W:WG n B G R S Ls known leaders) (i0:0<=i) (i1:i < n) {B':Nat} (hB:B<=B') (hB':B'<=10000000) {r:RS} {out:List gQ} {Ls':List Let} (h:∃ G',Core n B' G' (upd R i r)/\Pst n G G'/\Lts n B' G' i out) (to:∀ x∈out,0<=x.1/\x.1 < n)
  (sub:∀ x∈Ls',x∈Ls∨∃ y∈out,x=(i,y.1,y.2)):Wi n B' (upd R i { r with keeps:=[] }) (vP S i (ofR r)) Ls' known leaders:=by
 obtain ⟨G',C,P,L⟩:=h
 have C':=C.eqv i0 i1 (r:={ r with keeps:=[] }) (by rw [upd_same]; exact ⟨rfl,rfl,rfl,rfl,rfl,rfl,rfl,rfl,rfl,rfl⟩)
 rw [nY] at C'
 refine ⟨G',C',fun x hx=>?_,W.kn.pst P,W.ld.pst P,fun k k0 k1=>?_⟩
 ·rcases sub x hx with q | ⟨y,hy,q⟩
  ·exact W.ls.pst P hB x q
  ·exact Ey C.el hB' L to x (List.mem_map.2 ⟨y,hy,q.symm⟩)
 ·unfold vP
  by_cases c:k=i
  ·subst c; rw [if_pos rfl,upd_same]; exact ⟨rfl,rfl⟩
  ·rw [if_neg c,aL c]; exact W.sy k k0 k1
theorem WG.syi (W:WG n B G R S Ls known leaders) (i0:0<=i) (i1:i < n):Sy (S i) (R i):=by
 obtain ⟨a,b⟩:=W.sy i i0 i1
 unfold Sy
 rw [b,a]; rfl
/-- a member begins anew with what it has stored -/
theorem WG.again (W:WG n B G R S Ls known leaders) (i0:0<=i) (i1:i < n):WG n B G (upd R i (RS.start i n (S i).term (S i).aN (S i).log (S i).aQ)) S Ls known leaders:=by
 obtain ⟨a,b⟩:=W.sy i i0 i1
 refine ⟨?_,W.ls,W.kn,W.ld,fun k k0 k1=>?_⟩
 ·rw [a]; exact (W.core.again i0 i1 (R i).aQ).1
 ·by_cases c:k=i
  ·subst c; rw [upd_same]; exact ⟨by rw [a]; rfl,rfl⟩
  ·rw [aL c]; exact W.sy k k0 k1
/-- how it begins -/
theorem Wi.begin (n:Int):Wi n 0 (fun i=>RS.start i n 0 0 ⟨0,0,[]⟩ []) (fun _=>⟨0,0,⟨0,0,[]⟩,[]⟩) [] [] []:=by
 refine ⟨⟨fun _=>[],fun _=>none,fun _=>[],fun _=>[],fun _ _=>none,fun _ _=>(0,0),fun _ _=>0⟩,⟨fun i i0 i1=>?_,fun T j h=>by cases h⟩,fun x h=>(by cases h),fun j e h=>(by simp at h),fun T j h=>(by simp at h),fun i _ _=>⟨rfl,rfl⟩⟩
 exact { me:=rfl,rn:=rfl,t0:=Int.le_refl _,rep:=⟨Int.le_refl _,Nat.le_refl _,rfl,rfl⟩,lg:=fun k h1 h2=>by simp at h2; omega,ft:=fun e h=>(by cases h),v0:=.inl rfl,v1:=rfl,v2:=fun _ _=>rfl,v3:=fun T h=>(by cases h),v4:=fun T j h=>(by cases h),c1:=fun h=>(by cases h),l1:=fun h=>(by cases h),rl:=.inl rfl,c0:=Int.le_refl _,c2:=Int.le_refl _,cm:=.inl rfl,a1:=fun _ _=>rfl,a2:=fun T x hx o=>(o.l rfl).elim,a3:=fun T=>⟨Nat.le_refl _,fun h=>absurd h (Nat.lt_irrefl _)⟩,a4:=fun _ _=>rfl,vi:=fun T' T j x h=>(by cases h),bt:=Int.le_refl _,bf:=Nat.le_refl _ }
end
end Go.Q.Rf
end

/- A part of the proof of statements of this seat: lemmas, no statement of their own. -/
import Derived.Test.YthjafnfadiijgaaYiZas
set_option linter.unusedVariables false
set_option linter.unusedSimpArgs false
set_option maxRecDepth 100000
section
/- A member: what is committed, what is put, who wins. -/
namespace Go.Q.Yi
open Rf
/-! ### a number, again and again -/
theorem DT {n:Int} {k:KP (Int × Int)} {h:Heap} (n0:0<=n) (n1:n<=32) (H:k (0,n) h):nT 1 n k h:=by
 unfold nT
 rw [if_neg (by simp)]
 unfold oL
 have key:(List.range 33).all (fun m:Nat=>decide ((IntKind.u64.wrap ((IntKind.u64.wrap ((IntKind.u64.wrap ((shr .u64 1 (32:Int).toNat) * (shr .u64 (m:Int) (32:Int).toNat))) + (shr .u64 (IntKind.u64.wrap ((IntKind.u64.wrap ((shr .u64 1 (32:Int).toNat) * (jA .u64 (m:Int) 4294967295))) + (shr .u64 (IntKind.u64.wrap ((jA .u64 1 4294967295) * (jA .u64 (m:Int) 4294967295))) (32:Int).toNat))) (32:Int).toNat))) + (shr .u64 (IntKind.u64.wrap ((jA .u64 (IntKind.u64.wrap ((IntKind.u64.wrap ((shr .u64 1 (32:Int).toNat) * (jA .u64 (m:Int) 4294967295))) + (shr .u64 (IntKind.u64.wrap ((jA .u64 1 4294967295) * (jA .u64 (m:Int) 4294967295))) (32:Int).toNat))) 4294967295) + (IntKind.u64.wrap ((jA .u64 1 4294967295) * (shr .u64 (m:Int) (32:Int).toNat))))) (32:Int).toNat)))=0/\IntKind.u64.wrap (1 * (m:Int))=m))=true:=by decide +kernel
 have:=List.all_eq_true.1 key n.toNat (by simp; omega)
 rw [decide_eq_true_eq,Int.toNat_of_nonneg n0] at this
 obtain ⟨e1,e2⟩:=this
 refine ⟨_,rfl,_,rfl,_,rfl,_,rfl,_,rfl,_,rfl,_,rfl,_,rfl,_,rfl,_,rfl,_,rfl,?_⟩
 rw [e1,e2]; exact H
theorem uk {b E:Nat} {x n:Int} {k:KP Slc} {h:Heap} (B:Blk h b [.int .u64 x] E) (n0:1<=n) (n1:n<=32) (H:∀ s' h',Row h.size h' 22 1 s' (u8s (List.replicate n.toNat x))->Ext h.size h h'->k s' h'):bI ⟨some ⟨b,0,none⟩,1,1⟩ n k h:=by
 unfold bI
 rw [if_neg (by simp; omega)]
 unfold fO
 rw [aL (x:=n) (by omega) (by omega),show IntKind.u64.wrap ((1:Nat):Int)=1 from by decide]
 refine DT (by omega) n1 ?_
 rw [if_neg (by simp; omega)]
 unfold fQ
 rw [ay (x:=n) (by omega) (by omega)]
 refine ⟨_,_,by omega,Int.le_refl _,by omega,by omega,rfl,rfl,[.int .u64 x],?_⟩
 have X:=Ext.push h (.cells (kU [.int .u64 0] n.toNat).toArray 22) (Nat.le_refl _)
 have zl:(kU [.int .u64 0] n.toNat).length=n.toNat:=by simp [kU]
 have K:=Blk.push h (kU [.int .u64 0] n.toNat) 22
 have B2:=B.ext X B.lt
 generalize h.push (.cells (kU [.int .u64 0] n.toNat).toArray 22)=h2 at *
 obtain ⟨b3,e3⟩:∃ y,y=h.size:=⟨_,rfl⟩
 rw [← e3] at K ⊢
 refine ⟨⟨[.int .u64 x],B2.slc (o:=0) (n:=1) rfl,rfl,by simp [show min 1 n.toNat=1 from by omega]⟩,qX (by kernel_rfl),(fun h=>by cases h),fun a ha=>by cases ha; exact bZ.dL K (by rw [zl]; simp; omega),?_⟩
 dsimp only
 have K3:=K.sets [.int .u64 x] 0 0 (by rw [zl]; simp; omega)
 have X3:Ext h.size h2 (aO h2 ⟨b3,0,none⟩ 0 [.int .u64 x]):=Ext.sets _ _ _ (by show h.size<=b3; omega)
 generalize aO h2 ⟨b3,0,none⟩ 0 [.int .u64 x]=h3 at *
 refine ⟨_,rfl,?_⟩
 rw [show ((min 1 n.toNat:Nat):Int)=((1:Nat):Int) from by rw [show min 1 n.toNat=1 from by omega]]
 unfold kC
 refine ⟨fun i h'=>∃ m:Nat,i=m/\1<=m/\m<=n.toNat/\(∃ cur,Blk h' b3 cur 22/\cur.length=n.toNat/\cur.take m=u8s (List.replicate m x))/\Ext h.size h h',fun i _=>(n - i).toNat,⟨1,rfl,Nat.le_refl _,by omega,⟨_,K3,by simp [zl]; omega,by simp [u8s]⟩,X.trans X3⟩,?_⟩
 rintro i h4 ⟨m,rfl,m1,m2,⟨cur,Kc,cl,ct⟩,X4⟩
 unfold jR
 dsimp only
 by_cases hm:m < n.toNat
 ·rw [if_pos (by simp; omega)]
  refine ⟨_,by omega,by omega,Int.le_refl _,Int.le_refl _,rfl,_,by omega,by omega,by omega,Int.le_refl _,rfl,?_⟩
  have e1:dC ⟨some ⟨b3,0,none⟩,n.toNat,n.toNat⟩ 1 (m:Int).toNat ((n.toNat:Nat):Int).toNat ((n.toNat:Nat):Int).toNat=⟨some ⟨b3,m,none⟩,n.toNat - m,n.toNat - m⟩:=by
   simp only [dC,Int.toNat_natCast]
   rw [if_neg (by omega)]
   simp
  have e2:dC ⟨some ⟨b3,0,none⟩,n.toNat,n.toNat⟩ 1 (0:Int).toNat (m:Int).toNat ((n.toNat:Nat):Int).toNat=⟨some ⟨b3,0,none⟩,m,n.toNat⟩:=by
   simp only [dC,Int.toNat_natCast,show (0:Int).toNat=0 from rfl]
   split <;> simp
  rw [e1,e2]
  have tk:∀ j,j<=m->cur.take j=u8s (List.replicate j x):=fun j hj=>by
   have:=congrArg (List.take j) ct
   rw [List.take_take,Nat.min_eq_left hj] at this
   rw [this]; simp [u8s,Nat.min_eq_left hj]
  obtain ⟨q,eq⟩:∃ q,q=min m (n.toNat - m):=⟨_,rfl⟩
  have wl:(cur.take q).length=q:=by rw [List.length_take]; omega
  refine ⟨cur.take q,⟨cur.take m,Kc.slc (o:=0) (n:=m) rfl,(by rw [List.length_take]; show min m cur.length=m * 1; omega),by rw [List.take_take,Nat.mul_one,← eq]; congr 1; omega⟩,?_,(fun h=>by cases h),fun a ha=>?_,?_⟩
  ·rw [tk q (by omega)]
   intro v hv
   simp [u8s] at hv
   rw [hv.2]; rfl
  ·cases ha
   rw [wl]
   intro j hj
   rw [add_mk]
   exact Kc.wr (by omega)
  ·dsimp only
   rw [← eq,ay (by omega) (by omega)]
   have K5:=Kc.sets (cur.take q) m 0 (by rw [wl]; omega)
   have X5:Ext h.size h4 (aO h4 ⟨b3,m,none⟩ 0 (cur.take q)):=Ext.sets _ _ _ (by show h.size<=b3; omega)
   generalize aO h4 ⟨b3,m,none⟩ 0 (cur.take q)=h5 at *
   refine ⟨⟨m + q,by omega,by omega,by omega,⟨_,K5,by simp only [List.length_append,List.length_take,List.length_drop,wl]; omega,?_⟩,X4.trans X5⟩,by omega⟩
   have l1:(cur.take (m + 0) ++ cur.take q).length=m + q:=by rw [List.length_append,wl,List.length_take]; omega
   rw [List.take_append_of_le_length (by omega),List.take_of_length_le (by omega),Nat.add_zero,ct,tk q (by omega)]
   simp [u8s]
 ·rw [if_neg (by simp; omega)]
  have em:m=n.toNat:=by omega
  subst em
  exact H _ h4 ⟨by simp [u8s],by simp only [maxLen]; omega,.inr ⟨b3,cur,rfl,by omega,Kc,Nat.le_refl _,by rw [cl]; simp,by rw [Nat.mul_one]; exact ct⟩⟩ X4
section
variable {O:bz} {h:Heap} {L:RLy} {r:RS}
theorem FY (R:aB O h L r):∀ x∈r.has,0<=x:=fun x hx=>(R.wf.hs x hx).1
theorem Fx (R:aB O h L r):0<=cmt r.has/\cmt r.has < 18446744073709551616:=by
 obtain ⟨a,b,c⟩:=uP (r.has.filter fun v=>decide (r.has.length / 2 + 1<=Rf.cnt r.has v)) 0
 have e:cmt r.has=(r.has.filter fun v=>decide (r.has.length / 2 + 1<=Rf.cnt r.has v)).foldl max 0:=rfl
 rw [← e] at a c
 refine ⟨a,?_⟩
 rcases c with c | c
 ·omega
 ·exact (R.wf.hs _ (List.mem_filter.1 c).1).2
theorem wU {k:KP Unit} (R:aB O h L r) (hh:r.has.length=r.n.toNat) (H:∀ h',aB O h' L r.settle->Stp (own L) h h'->k () h'):jZ (some ⟨L.b,0,none⟩) k h:=by
 have wf:=R.wf
 have nb:=wf.n
 unfold jZ
 have hl:L.has.len=r.has.length:=by have:=R.p.hs.1; simp [u8s] at this; omega
 refine ⟨_,rfl,L.has,R.c 12,Bg R.p.hs.slc hl (by omega) fun c h2 C X=>?_⟩
 have ec:=C.cmt (FY R)
 subst ec
 obtain ⟨c0,c1⟩:=Fx R
 have R2:=R.ext X
 have S2:Stp (own L) h h2:=.bi X
 refine ⟨_,R2.c 4,p9 R2.p.l c0 c1 ⟨_,R2.c 6,?_⟩⟩
 unfold RS.settle at H
 have no:¬ (cmt r.has > r.commit/\(r.log.aH (cmt r.has)).2=0/\(r.log.aH (cmt r.has)).1=r.term)->eZ (some ⟨L.b,0,none⟩) (cmt r.has) false k h2:=fun hn=>by
  unfold eZ
  rw [if_neg (by simp)]
  rw [if_neg hn] at H
  exact H h2 R2 S2
 by_cases h1:cmt r.has > r.commit/\(r.log.aH (cmt r.has)).2=0
 ·rw [if_pos (by simp [h1.1,h1.2])]
  refine ⟨_,R2.c 2,?_⟩
  by_cases h2:(r.log.aH (cmt r.has)).1=r.term
  ·rw [show ((r.log.aH (cmt r.has)).1 == r.term)=true from by simpa using h2]
   unfold eZ
   rw [if_pos rfl]
   rw [if_pos ⟨h1.1,h1.2,h2⟩] at H
   obtain ⟨w,f⟩:=R2.k.put (i:=6) (v:=.int .u64 (cmt r.has)) (by show 6 < 14; omega)
   refine ⟨_,rfl,_,w,rfl,?_⟩
   obtain ⟨K3,U3⟩:=f _ rfl
   exact H _ (R2.yM K3 U3 ⟨wf.n,wf.me,wf.tm,wf.vt,⟨c0,c1⟩,wf.tk,wf.ld,wf.nx,wf.hs,wf.bl,wf.sn,wf.kp⟩ ⟨rfl,rfl,rfl,rfl,rfl,rfl,rfl⟩) (S2.trans' (.dD U3 (.inl (.inl rfl))))
  ·rw [show ((r.log.aH (cmt r.has)).1 == r.term)=false from by simpa using h2]
   exact no fun h=>h2 h.2.2
 ·rw [if_neg (by simpa using h1)]
  exact no fun h=>h1 ⟨h.1,h.2.1⟩
theorem yS {l:List Int} {i:Nat} {v x:Int} (h:x∈l.set i v):x∈l∨x=v:=(List.mem_or_eq_of_mem_set h)
theorem AY (l:List Int) (i:Nat) (v:Int):u8s (l.set i v)=(u8s l).set i (.int .u64 v):=by simp [u8s,List.map_set]
/-- a number of a row of a member's own is written -/
theorem vo {i v:Int} (R:aB O h L r) (i0:0<=i) (i1:i < r.has.length) (v0:0<=v/\v < 18446744073709551616):∃ a:Addr,L.has.a=some a/\(0:Int)<=i/\i < (L.has.len:Int)/\WrH h (a.add (i.toNat * 1))/\aB O (setH h (a.add (i.toNat * 1)) (.int .u64 v)) L { r with has:=r.has.set i.toNat v }/\Stp (own L) h (setH h (a.add (i.toNat * 1)) (.int .u64 v)):=by
 have P:=R.p
 have wf:=R.wf
 obtain ⟨a,ha,_,h1,_⟩:=qH P.hs i0 i1
 have hb:L.has.blk=some a.block:=by simp [Slc.blk,ha]
 obtain ⟨vs,Re,_⟩:=P.l.r
 obtain ⟨ks,Kk,Ik⟩:=P.kp
 have ag:a=⟨a.block,0,none⟩:=by
  rcases P.hs.2.2 with ⟨k,_⟩ | ⟨g,cur,a1,_⟩
  ·rw [k] at ha; cases ha
  ·rw [ha] at a1; cases a1; rfl
 generalize a.block=g at *
 subst ag
 refine ⟨_,ha,i0,h1,?_⟩
 rw [add_mk,Nat.zero_add,Nat.mul_one]
 obtain ⟨w,R2,_⟩:=Rw.sU (v:=.int .u64 v) P.hs ha (j:=i.toNat) (by omega)
 have U:Upd g h (setH h ⟨g,i.toNat,none⟩ (.int .u64 v)):=⟨by rw [jh]; exact Nat.le_refl _,fun j _ hne=>iK hne⟩
 generalize setH h ⟨g,i.toNat,none⟩ (.int .u64 v)=h2 at *
 have og:own L g:=.inr (.inr (.inr (.inr (.inl hb))))
 have S:Stp (fun x=>x=g) h h2:=.dD U (.inl rfl)
 have SO:Stp O h h2:=S.mono fun x hx=>.inl (by subst hx; exact R.ow _ og)
 refine ⟨w,⟨S.blk R.k fun e=>P.hs.aW R.k (by decide) (by rw [hb,← e]),⟨P.l.stp S (fun x hx=>.inl (by subst hx; exact R.ow _ og)) (fun e=>P.hs.aW P.l.k (by decide) (by rw [hb,← e])) fun x hx e=>by subst e; exact Re.pO P.hs (by decide) hx hb,P.sn.stp SO,P.sl,S.row P.nx fun x hx e=>by subst e; exact P.dj _ hx hb,by rw [AY]; exact R2,P.dj,⟨ks,S.row Kk fun x hx e=>by subst e; exact Kk.pO P.hs (by decide) hx hb,?_⟩,P.bl.old fun x hx=>S.block x (P.bl.lt x hx) fun e=>?_⟩,R.ow,fun x hx=>Nat.lt_of_lt_of_le (R.ob x hx) S.size,?_⟩,S.mono fun x hx=>.inl (by subst hx; exact og)⟩
 ·exact Ik.stp SO
 ·subst e
  obtain ⟨cs,Kb⟩:=P.bl.blk _ hx
  exact P.hs.aW Kb (by decide) hb
 ·exact ⟨wf.n,wf.me,wf.tm,wf.vt,wf.cm,wf.tk,fun e=>⟨(wf.ld e).1,by simp; exact (wf.ld e).2⟩,wf.nx,fun x hx=>(yS hx).elim (wf.hs x) fun e=>by subst e; exact v0,wf.bl,wf.sn,wf.kp⟩
/-- a number of a row of a member's own is written -/
theorem xh {i v:Int} (R:aB O h L r) (i0:0<=i) (i1:i < r.next.length) (v0:0<=v/\v < 18446744073709551616):∃ a:Addr,L.next.a=some a/\(0:Int)<=i/\i < (L.next.len:Int)/\WrH h (a.add (i.toNat * 1))/\aB O (setH h (a.add (i.toNat * 1)) (.int .u64 v)) L { r with next:=r.next.set i.toNat v }/\Stp (own L) h (setH h (a.add (i.toNat * 1)) (.int .u64 v)):=by
 have P:=R.p
 have wf:=R.wf
 obtain ⟨a,ha,_,h1,_⟩:=qH P.nx i0 i1
 have hb:L.next.blk=some a.block:=by simp [Slc.blk,ha]
 obtain ⟨vs,Re,_⟩:=P.l.r
 obtain ⟨ks,Kk,Ik⟩:=P.kp
 have ag:a=⟨a.block,0,none⟩:=by
  rcases P.nx.2.2 with ⟨k,_⟩ | ⟨g,cur,a1,_⟩
  ·rw [k] at ha; cases ha
  ·rw [ha] at a1; cases a1; rfl
 generalize a.block=g at *
 subst ag
 refine ⟨_,ha,i0,h1,?_⟩
 rw [add_mk,Nat.zero_add,Nat.mul_one]
 obtain ⟨w,R2,_⟩:=Rw.sU (v:=.int .u64 v) P.nx ha (j:=i.toNat) (by omega)
 have U:Upd g h (setH h ⟨g,i.toNat,none⟩ (.int .u64 v)):=⟨by rw [jh]; exact Nat.le_refl _,fun j _ hne=>iK hne⟩
 generalize setH h ⟨g,i.toNat,none⟩ (.int .u64 v)=h2 at *
 have og:own L g:=.inr (.inr (.inr (.inl hb)))
 have S:Stp (fun x=>x=g) h h2:=.dD U (.inl rfl)
 have SO:Stp O h h2:=S.mono fun x hx=>.inl (by subst hx; exact R.ow _ og)
 refine ⟨w,⟨S.blk R.k fun e=>P.nx.aW R.k (by decide) (by rw [hb,← e]),⟨P.l.stp S (fun x hx=>.inl (by subst hx; exact R.ow _ og)) (fun e=>P.nx.aW P.l.k (by decide) (by rw [hb,← e])) fun x hx e=>by subst e; exact Re.pO P.nx (by decide) hx hb,P.sn.stp SO,P.sl,(by rw [AY]; exact R2),S.row P.hs (fun x hx e=>by subst e; exact P.dj _ hb hx),P.dj,⟨ks,S.row Kk fun x hx e=>by subst e; exact Kk.pO P.nx (by decide) hx hb,?_⟩,P.bl.old fun x hx=>S.block x (P.bl.lt x hx) fun e=>?_⟩,R.ow,fun x hx=>Nat.lt_of_lt_of_le (R.ob x hx) S.size,?_⟩,S.mono fun x hx=>.inl (by subst hx; exact og)⟩
 ·exact Ik.stp SO
 ·subst e
  obtain ⟨cs,Kb⟩:=P.bl.blk _ hx
  exact P.nx.aW Kb (by decide) hb
 ·exact ⟨wf.n,wf.me,wf.tm,wf.vt,wf.cm,wf.tk,fun e=>⟨by simp; exact (wf.ld e).1,(wf.ld e).2⟩,fun x hx=>(yS hx).elim (wf.nx x) fun e=>by subst e; exact v0,wf.hs,wf.bl,wf.sn,wf.kp⟩
end
end Go.Q.Yi
end
section
/- A member: what is put, who wins. -/
namespace Go.Q.Yi
open Rf
section
variable {O:bz} {h:Heap} {L:RLy} {r:RS}
theorem za {s:Slc} {g:Nat} (hg:own { L with es:=s } g):own L g∨s.blk=some g:=by
 rcases hg with hg | hg | hg | hg | hg | hg | hg
 ·exact .inl (.inl hg)
 ·exact .inl (.inr (.inl hg))
 ·exact .inr hg
 ·exact .inl (.inr (.inr (.inr (.inl hg))))
 ·exact .inl (.inr (.inr (.inr (.inr (.inl hg)))))
 ·exact .inl (.inr (.inr (.inr (.inr (.inr (.inl hg))))))
 ·exact .inl (.inr (.inr (.inr (.inr (.inr (.inr hg))))))
/-- the log was turned -/
theorem AU {h':Heap} {s':Slc} {l':Lg} (R:aB O h L r) (A:dM (OB O s') h' L.lb s' l') (S:Stp (fun g=>g=L.lb∨L.es.blk=some g) h h') (F:∀ g,s'.blk=some g->L.es.blk=some g∨h.size<=g) :
  Res O h L { r with log:=l' } h' { L with es:=s' }:=by
 have P:=R.p
 have wf:=R.wf
 obtain ⟨vs,Re,_⟩:=P.l.r
 obtain ⟨ks,Kk,Ik⟩:=P.kp
 have olb:own L L.lb:=.inr (.inl rfl)
 have oes:∀ g,L.es.blk=some g->own L g:=fun g hg=>.inr (.inr (.inl hg))
 have ow:∀ g,own { L with es:=s' } g->own L g∨h.size<=g:=fun g hg=>(za hg).elim .inl fun h1=>(F g h1).imp (oes g) id
 have hO:∀ g,G O { L with es:=s' } g->O g∨h.size<=g:=fun g hg=>hg.elim .inl fun h1=>(ow g h1).imp (R.ow g) id
 have So:Stp (own L) h h':=S.mono fun g hg=>.inl (hg.elim (fun e=>by rw [e]; exact olb) (oes g))
 have SO:Stp O h h':=So.mono fun g hg=>.inl (R.ow g hg)
 have z:=S.size
 have nS:∀ {b E:Nat} {cs:List Value},Blk h b cs E->E≠117->E≠65->¬ (b=L.lb∨L.es.blk=some b):=fun K e1 e2 hb=>hb.elim (fun e=>by subst e; exact e1 (K.inj P.l.k).2) fun e=>Re.aW K (Ne.symm e2) e
 have nR:∀ {B E w:Nat} {s:Slc} {xs:List Value},Row B h E w s xs->E≠117->E≠65->∀ g,s.blk=some g->¬ (g=L.lb∨L.es.blk=some g):=fun Rw e1 e2 g hg=>by
  obtain ⟨cs,K⟩:=Rw.y5 hg
  exact nS K e1 e2
 refine ⟨⟨S.blk R.k (nS R.k (by decide) (by decide)),⟨A.sub (fun g hg=>.inl ?_) (.inr (.inr (.inl rfl))) fun g hg=>.inr (.inr (.inr (.inl hg))),P.sn.step SO hO,P.sl,S.row P.nx (nR P.nx (by decide) (by decide)),S.row P.hs (nR P.hs (by decide) (by decide)),P.dj,⟨ks,S.row Kk (nR Kk (by decide) (by decide)),Ik.step SO hO⟩,P.bl.old fun g hg=>S.block g (P.bl.lt g hg) ?_⟩,fun g hg=>.inr hg,fun g hg=>?_,?_⟩,So,ow,rfl⟩
 ·rcases hg with hg | hg
  ·exact .inl hg
  ·exact (za hg).imp (R.ow g) id
 ·obtain ⟨cs,Kb⟩:=P.bl.blk g hg
  exact nS Kb (by decide) (by decide)
 ·rcases hg with hg | hg
  ·have:=R.ob g hg; omega
  ·rcases za hg with hg | hg
   ·have:=R.ob' hg; omega
   ·obtain ⟨vs',Re',_⟩:=A.r
    exact (Re'.bd hg).2
 ·exact ⟨wf.n,wf.me,wf.tm,wf.vt,wf.cm,wf.tk,wf.ld,wf.nx,wf.hs,wf.bl,wf.sn,wf.kp⟩
theorem ui {l:Lg} {p t:Int} {more:List Ent}:0<=(l.append p t more).2.1/\(l.append p t more).2.1 < 18446744073709551616:=by
 unfold Lg.append
 split
 ·simp
 ·split
  ·simp
  ·exact uu _
theorem uW {l:Lg} {p t:Int} {more:List Ent} (h:(l.append p t more).2.2≠0):(l.append p t more).1=l:=by
 unfold Lg.append at h ⊢
 split
 ·rfl
 ·rename_i h1
  rw [if_neg h1] at h
  split
  ·rfl
  ·rename_i h2
   rw [if_neg h2] at h
   exact absurd rfl h
/-- an entry is put behind a member's own log -/
theorem uX {p1:Slc} {cmd:List Int} {k:KP (Int × Int)} (R:aB O h L r) (hh:r.has.length=r.n.toNat) (hk:r.keeps.length < 1000000) (hs:SlcAt h p1 (b8 cmd)) (hl:p1.len=cmd.length) (hB:isB cmd) (hz:cmd.length<=1099511627776)
  (H:∀ h' L',Res O h L (r.put cmd).1 h' L'->k (r.put cmd).2 h'):ma (some ⟨L.b,0,none⟩) p1 k h:=by
 have wf:=R.wf
 have nb:=wf.n
 have mb:=wf.me
 have ob:=R.ob
 unfold ma
 refine ⟨_,rfl,_,R.c 4,qB R.p.l ⟨_,R.c 2,pQ hl hs (by omega) fun s1 h1 R1 X1=>?_⟩⟩
 have z1:=X1.size
 have M1:=R.ext X1
 refine ⟨M1.c 2,_,_,rfl,rfl,?_⟩
 have X2:=Ext.push h1 (.cells (ae.cs ⟨r.term,s1⟩).toArray 65) (Nat.le_refl _)
 have M2:=M1.ext X2
 have Rw2:=Row.pI (E:=65) (w:=2) h1 (ae.cs ⟨r.term,s1⟩) 1 rfl (by decide)
 have R2:=R1.ext X2 fun g hg=>(R1.bd hg).2
 have F2:lT h.size (h1.push (.cells (ae.cs ⟨r.term,s1⟩).toArray 65)) ⟨some ⟨h1.size,0,none⟩,1,1⟩ [(r.term,cmd)] [⟨r.term,s1⟩]:=⟨Rw2.mono z1,rfl,fun i v e hv he=>by
  have:i=0:=by have:=(List.getElem?_eq_some_iff.1 hv).1; simp at this; omega
  rw [this] at hv he
  simp at hv he
  subst hv; subst he
  exact ⟨rfl,R2⟩⟩
 generalize h1.push (.cells (ae.cs ⟨r.term,s1⟩).toArray 65)=h2 at *
 obtain ⟨b9,e9⟩:∃ y,y=h1.size:=⟨_,rfl⟩
 rw [← e9] at F2 ⊢
 have z2:=X2.size
 have X02:Ext h.size h h2:=X1.trans (X2.mono z1)
 have I2:=F2.imm ob
 have okE:o9 [(r.term,cmd)]:=fun e he=>by simp at he; subst he; exact ⟨wf.tm,hB,hz⟩
 have lb:=R.p.l.xS
 refine ⟨_,M2.c 4,wz M2.p.l (fun g hg=>by have:=ob g hg; omega) I2 okE lb.1 lb.2 (by simp) fun h3 s3 A3 S3 f3=>?_⟩
 have q3:=(AU M2 A3 S3 f3).pre X02 fun g hg=>R.ob' hg
 have I3:Imm (G O { L with es:=s3 }) h3 fun h=>cZ h ⟨some ⟨b9,0,none⟩,1,1⟩ [(r.term,cmd)]:=(AU M2 A3 S3 f3).imm M2 I2
 have ab:=ui (l:=r.log) (p:=r.log.last) (t:=r.log.lastT) (more:=[(r.term,cmd)])
 unfold RS.put at H
 generalize hA:r.log.append r.log.last r.log.lastT [(r.term,cmd)]=A at *
 by_cases he:A.2.2=0
 ·rw [if_neg (by simpa using he)]
  rw [if_neg (by simpa using he)] at H
  have M3:=q3.R
  refine ⟨_,M3.c 13,_,_,rfl,rfl,?_⟩
  have X4:=Ext.push h3 (.cells (aj.cs ⟨2,r.log.lastT,0,r.log.last,⟨some ⟨b9,0,none⟩,1,1⟩,⟨none,0,0⟩⟩).toArray 107) (Nat.le_refl _)
  have q4:=q3.ext X4
  have I4:=I3.ext X4
  generalize h3.push (.cells (aj.cs ⟨2,r.log.lastT,0,r.log.last,⟨some ⟨b9,0,none⟩,1,1⟩,⟨none,0,0⟩⟩).toArray 107)=h4 at *
  refine rM (L:={ L with es:=s3 }) (r:={ r with log:=A.1 }) (x:=⟨2,r.log.lastT,0,r.log.last,[(r.term,cmd)],[]⟩) q4.R hk (I4.imp fun h' E=>⟨⟨rfl,rfl,rfl,rfl⟩,E,nk h',rfl⟩) fun h5 L5 q5=>?_
  have q5':=q4.trans q5
  have M5:=q5'.R
  rw [show L.b=L5.b from q5.b.symm]
  obtain ⟨a,ha,i0,i1,w6,M6,S6⟩:=vo (v:=A.2.1) M5 mb.1 (by show r.me < r.has.length; omega) ab
  refine ⟨_,M5.c 12,_,M5.c0,a,ha,i0,i1,_,w6,rfl,?_⟩
  refine wU M6 (by simp; exact hh) fun h7 M7 S7=>?_
  exact H h7 L5 (q5'.trans (Res.of M7 (S6.trans' S7)))
 ·rw [if_pos (by simpa using he)]
  rw [if_pos (by simpa using he)] at H
  have e1:A.1=r.log:=by rw [← hA]; exact uW (by rw [hA]; exact he)
  rw [e1] at q3
  exact H h3 _ q3
theorem wF {L':RLy} {h2:Heap} {nx hs:List Int} (R:aB O h L r) (S:Stp (fun g=>g=L.b) h h2) (e:L' = { L with next:=L'.next,has:=L'.has,bal:=none })
  (K:Blk h2 L.b (rcs L' { r with role:=2,leader:=r.me,ticks:=0,ballot:=none,next:=nx,has:=hs }) 94) (N:Row h.size h2 22 1 L'.next (u8s nx)) (Hs:Row h.size h2 22 1 L'.has (u8s hs)) (dj:∀ g,L'.next.blk=some g->L'.has.blk=some g->False)
  (nl:nx.length=r.n.toNat/\hs.length=r.n.toNat) (nb:∀ x∈nx,0<=x/\x < 18446744073709551616) (hb:∀ x∈hs,0<=x/\x < 18446744073709551616) :
  Res O h L { r with role:=2,leader:=r.me,ticks:=0,ballot:=none,next:=nx,has:=hs } h2 L':=by
 have P:=R.p
 have wf:=R.wf
 have z:=S.size
 have ow:∀ g,own L' g->own L g∨h.size<=g:=fun g hg=>by
  rw [e] at hg
  rcases hg with hg | hg | hg | hg | hg | hg | hg
  ·exact .inl (.inl hg)
  ·exact .inl (.inr (.inl hg))
  ·exact .inl (.inr (.inr (.inl hg)))
  ·exact .inr (N.bd hg).1
  ·exact .inr (Hs.bd hg).1
  ·exact .inl (.inr (.inr (.inr (.inr (.inr (.inl hg))))))
  ·cases hg
 have hO:∀ g,G O L' g->O g∨h.size<=g:=fun g hg=>hg.elim .inl fun h1=>(ow g h1).imp (R.ow g) id
 obtain ⟨vs,Re,_⟩:=P.l.r
 obtain ⟨ks,Kk,Ik⟩:=P.kp
 have e1:L'.lb=L.lb:=by rw [e]
 have e2:L'.es=L.es:=by rw [e]
 have e3:L'.aQ=L.aQ:=by rw [e]
 have e4:L'.keeps=L.keeps:=by rw [e]
 have e5:L'.bal=none:=by rw [e]
 have e6:L'.b=L.b:=by rw [e]
 have SO:Stp O h h2:=S.mono fun g hg=>.inl (by rw [hg]; exact R.Ob)
 refine ⟨⟨by rw [e6]; exact K,⟨?_,by rw [e3]; exact P.sn.step SO hO,by rw [e3]; exact P.sl,N.mono (Nat.zero_le _),Hs.mono (Nat.zero_le _),dj,⟨ks,by rw [e4]; exact S.row Kk fun g hg e=>by subst e; exact Kk.aW R.k (by decide) hg,Ik.step SO hO⟩,by rw [e5]; trivial⟩,fun g hg=>.inr hg,fun g hg=>?_,?_⟩,S.mono fun g hg=>.inl (.inl hg),ow,e6⟩
 ·rw [e1,e2]
  exact (P.l.sub hO (.inl (R.ow _ (.inr (.inl rfl)))) fun g hg=>.inl (R.ow _ (.inr (.inr (.inl hg))))).stp S (fun g hg=>.inl (.inl (by rw [hg]; exact R.Ob))) (fun e=>by have:=R.k; rw [← e] at this; have:=(this.inj P.l.k).2; revert this; decide) fun g hg e=>by subst e; exact Re.aW R.k (by decide) hg
 ·rcases hg with hg | hg
  ·have:=R.ob g hg; omega
  ·rw [e] at hg
   rcases hg with hg | hg | hg | hg | hg | hg | hg
   ·have:=R.ob' (g:=g) (.inl hg); omega
   ·have:=R.ob' (g:=g) (.inr (.inl hg)); omega
   ·have:=R.ob' (g:=g) (.inr (.inr (.inl hg))); omega
   ·exact (N.bd hg).2
   ·exact (Hs.bd hg).2
   ·have:=R.ob' (g:=g) (.inr (.inr (.inr (.inr (.inr (.inl hg)))))); omega
   ·cases hg
 ·exact ⟨wf.n,wf.me,wf.tm,wf.vt,wf.cm,⟨Int.le_refl _,by show (0:Int)<=1000000000; omega⟩,fun _=>nl,nb,hb,(fun l e=>by cases e),wf.sn,wf.kp⟩
theorem sW:isB []:=fun b hb=>by cases hb
/-- it leads -/
theorem xm {k:KP Slc} {h2:Heap} {L':RLy} (hk:r.keeps.length < 1000000) (q:Res O h L { r with role:=2,leader:=r.me,ticks:=0,ballot:=none,next:=List.replicate r.n.toNat (W (r.log.last + 1)),has:=List.replicate r.n.toNat 0 } h2 L')
  (H:∀ s h' L',Res O h L (r.lead.put []).1 h' L'->aJ (G O L') h' s ((r.lead.put []).1.others (r.lead.put []).1.due)->(∀ g,s.blk=some g->h.size<=g)->k s h'):dX (some ⟨L'.b,0,none⟩) r.log.last k h2:=by
 have M:=q.R
 have wf:=M.wf
 have nb:1<=r.n/\r.n<=32:=wf.n
 have mb:0<=r.me/\r.me < r.n:=wf.me
 have lb:=M.p.l.xS
 unfold dX
 obtain ⟨a,ha,i0,i1,w6,M6,S6⟩:=vo (v:=r.log.last) M mb.1 (by simp; omega) lb
 refine ⟨_,rfl,_,M.c 12,_,M.c0,a,ha,i0,i1,_,w6,rfl,?_⟩
 have q6:=q.trans (Res.of M6 S6)
 generalize setH h2 (a.add (r.me.toNat * 1)) (.int .u64 r.log.last)=h3 at *
 change Res O h L r.lead h3 L' at q6
 have M7:=q6.R
 refine uX (cmd:=[]) M7 (by show (List.set _ _ _).length=_; simp [RS.lead]) hk (nk h3) rfl sW (by decide) fun h8 L8 q8=>?_
 have q9:=q6.trans q8
 have z9:=q9.S.size
 have M9:=q9.R
 rw [← show L8.b=L'.b from q8.b]
 refine rW M9 (M9.wf.ld ?_).1 fun s h10 Ml X10 sb=>H s h10 L8 (q9.ext X10) Ml fun g hg=>by have:=sb g hg; omega
 have:∀ x:RS,x.settle.role=x.role:=fun x=>by unfold RS.settle; split <;> rfl
 show (r.lead.put []).1.role=2
 unfold RS.put
 split
 ·rfl
 ·rw [this]; rfl
theorem uO {k:KP Slc} (R:aB O h L r) (ha:r.role=1->∃ l,r.ballot=some l) (hk:r.keeps.length < 1000000)
  (H:∀ s h' L',Res O h L r.win.1 h' L'->aJ (G O L') h' s r.win.2->(∀ g,s.blk=some g->h.size<=g)->k s h'):l7 (some ⟨L.b,0,none⟩) k h:=by
 have wf:=R.wf
 have nb:=wf.n
 have lb:=R.p.l.xS
 unfold RS.win at H
 have no:(r.role≠1∨r.won=false)->fJ (some ⟨L.b,0,none⟩) true k h:=fun hn=>by
  unfold fJ
  rw [if_pos rfl]
  rw [if_pos hn] at H
  exact H _ h L (Res.of R (Stp.refl _ _)) (aJ.nil _ _) fun g hg=>by simp [Slc.blk] at hg
 unfold l7
 refine ⟨_,rfl,_,R.c 7,?_⟩
 by_cases hr:r.role=1
 ·rw [if_neg (by simpa using hr)]
  obtain ⟨l,el⟩:=ha hr
  obtain ⟨nd,lbd⟩:=wf.bl l el
  obtain ⟨y1,y2,_⟩:=xK (n:=r.n.toNat) (by omega) nd fun x hx=>by have:=lbd x hx; omega
  have B:=R.p.bl
  rw [el] at B
  obtain ⟨c,ec⟩:∃ c,L.bal=some c:=by
   cases hb:L.bal with
   | none=>rw [hb] at B; exact B.elim
   | some c=>exact ⟨c,rfl⟩
  rw [ec] at B
  have cc:=R.c 10
  refine ⟨_,cc,?_⟩
  have e10:L.bal.map (fun c=>(⟨c,0,none⟩:Addr))=some ⟨c,0,none⟩:=by rw [ec]; rfl
  rw [e10]
  refine F9 (n:=r.n) (y:=bits l) B (by omega) nb.2 y1 ?_
  rw [y2]
  have ew:r.won=decide ((l.length:Int)>=r.n / 2 + 1):=by unfold RS.won; rw [el]
  rw [← ew]
  cases hw:r.won with
  | false=>exact no (.inr hw)
  | true =>
   rw [if_neg (by rw [hw]; simp [hr])] at H
   show fJ _ false k h
   unfold fJ
   rw [if_neg (by simp)]
   refine ⟨_,rfl,_,R.c 4,qB R.p.l ?_⟩
   obtain ⟨w,f⟩:=R.k.put (i:=7) (v:=.int .i64 2) (by show 7 < 14; omega)
   refine ⟨_,R.c0,_,w,rfl,?_⟩
   obtain ⟨K2,U2⟩:=f _ rfl
   generalize setH h ((⟨L.b,0,none⟩:Addr).add 7) (.int .i64 2)=h2 at *
   obtain ⟨w,f⟩:=K2.put (i:=8) (v:=.int .i64 r.me) (by show 8 < 14; omega)
   refine ⟨_,w,rfl,?_⟩
   obtain ⟨K3,U3⟩:=f _ rfl
   generalize setH h2 ((⟨L.b,0,none⟩:Addr).add 8) (.int .i64 r.me)=h3 at *
   obtain ⟨w,f⟩:=K3.put (i:=9) (v:=.int .i64 0) (by show 9 < 14; omega)
   refine ⟨_,w,rfl,?_⟩
   obtain ⟨K4,U4⟩:=f _ rfl
   generalize setH h3 ((⟨L.b,0,none⟩:Addr).add 9) (.int .i64 0)=h4 at *
   obtain ⟨w,f⟩:=K4.put (i:=10) (v:=.pointer none) (by show 10 < 14; omega)
   refine ⟨_,w,rfl,?_⟩
   obtain ⟨K5,U5⟩:=f _ rfl
   generalize setH h4 ((⟨L.b,0,none⟩:Addr).add 10) (.pointer none)=h5 at *
   have U:=((U2.trans U3).trans U4).trans U5
   have S5:Stp (fun g=>g=L.b) h h5:=.dD U (.inl rfl)
   have z5:=U.size
   have cn:∀ {h':Heap},Blk h' L.b (rcs { L with bal:=none } { r with role:=2,leader:=r.me,ticks:=0,ballot:=none }) 94->af h' ((⟨L.b,0,none⟩:Addr).add 1)=some (.int .i64 r.n):=fun K=>by rw [K.get]; rfl
   change Blk h5 L.b (rcs { L with bal:=none } { r with role:=2,leader:=r.me,ticks:=0,ballot:=none }) 94 at K5
   have eW:IntKind.u64.wrap (r.log.last + 1)=W (r.log.last + 1):=rfl
   have zr:∀ n:Int,kU [.int .u64 0] n.toNat=u8s (List.replicate n.toNat 0):=fun n=>by simp [kU,u8s]
   -- the end of each way
   have fin:∀ {h':Heap} {sn sh:Slc},Stp (fun g=>g=L.b) h h'->Blk h' L.b (rcs { L with bal:=none } { r with role:=2,leader:=r.me,ticks:=0,ballot:=none }) 94->Row h.size h' 22 1 sn (u8s (List.replicate r.n.toNat (W (r.log.last + 1))))->Row h.size h' 22 1 sh (u8s (List.replicate r.n.toNat 0))->(∀ g,sn.blk=some g->sh.blk=some g->False) ->
     ∃ h32:Heap,WrH h' ((⟨L.b,0,none⟩:Addr).add 11)/\h32=setH h' ((⟨L.b,0,none⟩:Addr).add 11) (Slc.v sn)/\(∃ h33:Heap,WrH h32 ((⟨L.b,0,none⟩:Addr).add 12)/\h33=setH h32 ((⟨L.b,0,none⟩:Addr).add 12) (Slc.v sh)/\(dX (some ⟨L.b,0,none⟩) r.log.last k h33)):=fun {h' sn sh} S K N Hs dj=>by
    obtain ⟨w,f⟩:=K.put (i:=11) (v:=Slc.v sn) (by show 11 < 14; omega)
    refine ⟨_,w,rfl,?_⟩
    obtain ⟨K6,U6⟩:=f _ rfl
    generalize setH h' ((⟨L.b,0,none⟩:Addr).add 11) (Slc.v sn)=h6 at *
    obtain ⟨w,f⟩:=K6.put (i:=12) (v:=Slc.v sh) (by show 12 < 14; omega)
    refine ⟨_,w,rfl,?_⟩
    obtain ⟨K7,U7⟩:=f _ rfl
    generalize setH h6 ((⟨L.b,0,none⟩:Addr).add 12) (Slc.v sh)=h7 at *
    have S7:Stp (fun g=>g=L.b) h' h7:=.dD (U6.trans U7) (.inl rfl)
    have bl:=R.k.lt
    have q:Res O h L { r with role:=2,leader:=r.me,ticks:=0,ballot:=none,next:=List.replicate r.n.toNat (W (r.log.last + 1)),has:=List.replicate r.n.toNat 0 } h7 { L with next:=sn,has:=sh,bal:=none } :=
     wF R (S.trans' S7) rfl K7 (S7.row N fun g hg e=>by have:=(N.bd hg).1; omega) (S7.row Hs fun g hg e=>by have:=(Hs.bd hg).1; omega) dj (by simp) (fun x hx=>by rw [List.eq_of_mem_replicate hx]; exact uu _) fun x hx=>by rw [List.eq_of_mem_replicate hx]; omega
    exact xm (L':={ L with next:=sn,has:=sh,bal:=none }) hk q H
   refine ⟨_,cn K5,_,cn K5,⟨_,_,rfl,rfl,?_⟩,?_⟩
   ·have X6:=Ext.push h5 (.cells ([.int .u64 (IntKind.u64.wrap (r.log.last + 1))]:List Value).toArray 22) (Nat.le_refl _)
    have B6:=Blk.push h5 [.int .u64 (IntKind.u64.wrap (r.log.last + 1))] 22
    have K6:=K5.ext X6 K5.lt
    have S6:=S5.trans (Stp.bi (O:=fun _=>False) X6) fun _ h=>h.elim
    generalize h5.push (.cells ([.int .u64 (IntKind.u64.wrap (r.log.last + 1))]:List Value).toArray 22)=h6 at *
    have z6:=S6.size
    refine ⟨cn K6,cn K6,?_,?_⟩
    ·refine uk B6 (by omega) nb.2 fun s7 h7 R7 X7=>?_
     have K7:=K6.ext X7 K6.lt
     have S7:=S6.trans (Stp.bi (O:=fun _=>False) X7) fun _ h=>h.elim
     have z7:=X7.size
     refine ⟨cn K7,⟨_,_,by omega,Int.le_refl _,by omega,by omega,rfl,rfl,?_⟩,?_⟩
     ·have X8:=Ext.push h7 (.cells (kU [.int .u64 0] r.n.toNat).toArray 22) (Nat.le_refl _)
      have R8:=Row.pI (E:=22) (w:=1) h7 (kU [.int .u64 0] r.n.toNat) r.n.toNat (by simp [kU]) (by simp only [maxLen]; omega)
      rw [zr] at R8 X8 ⊢
      have Rn:=R7.ext X8 fun g hg=>(R7.bd hg).2
      refine fin (S7.trans (Stp.bi (O:=fun _=>False) X8) fun _ h=>h.elim) (K7.ext X8 K7.lt) (Rn.mono (by omega)) (R8.mono (by omega)) fun g h1 h2=>?_
      have:=(R7.bd h1).2; have:=(R8.bd h2).1; omega
     ·obtain ⟨w,f⟩:=K7.put (i:=11) (v:=Slc.v s7) (by show 11 < 14; omega)
      refine ⟨_,w,rfl,?_⟩
      obtain ⟨K8,U8⟩:=f _ rfl
      have S8:Stp (fun g=>g=L.b) h7 (setH h7 ((⟨L.b,0,none⟩:Addr).add 11) (Slc.v s7)):=.dD U8 (.inl rfl)
      have bl:=R.k.lt
      have Rn8:=S8.row R7 fun g hg e=>by have:=(R7.bd hg).1; omega
      generalize setH h7 ((⟨L.b,0,none⟩:Addr).add 11) (Slc.v s7)=h8 at *
      have z8:=S8.size
      refine ⟨_,_,by omega,Int.le_refl _,by omega,by omega,rfl,rfl,?_⟩
      have X9:=Ext.push h8 (.cells (kU [.int .u64 0] r.n.toNat).toArray 22) (Nat.le_refl _)
      have R9:=Row.pI (E:=22) (w:=1) h8 (kU [.int .u64 0] r.n.toNat) r.n.toNat (by simp [kU]) (by simp only [maxLen]; omega)
      rw [zr] at R9 X9 ⊢
      have Rn9:=Rn8.ext X9 fun g hg=>(Rn8.bd hg).2
      have K9:=K8.ext X9 K8.lt
      generalize h8.push (.cells (u8s (List.replicate r.n.toNat 0)).toArray 22)=h9 at *
      obtain ⟨w,f⟩:=K9.put (i:=12) (v:=Slc.v ⟨some ⟨h8.size,0,none⟩,r.n.toNat,r.n.toNat⟩) (by show 12 < 14; omega)
      refine ⟨_,w,rfl,?_⟩
      obtain ⟨K10,U10⟩:=f _ rfl
      have S10:Stp (fun g=>g=L.b) h9 (setH h9 ((⟨L.b,0,none⟩:Addr).add 12) (Slc.v ⟨some ⟨h8.size,0,none⟩,r.n.toNat,r.n.toNat⟩)):=.dD U10 (.inl rfl)
      generalize setH h9 ((⟨L.b,0,none⟩:Addr).add 12) (Slc.v ⟨some ⟨h8.size,0,none⟩,r.n.toNat,r.n.toNat⟩)=h10 at *
      have z9:=X9.size
      have q:Res O h L { r with role:=2,leader:=r.me,ticks:=0,ballot:=none,next:=List.replicate r.n.toNat (W (r.log.last + 1)),has:=List.replicate r.n.toNat 0 } h10 { L with next:=s7,has:=⟨some ⟨h8.size,0,none⟩,r.n.toNat,r.n.toNat⟩,bal:=none } :=
       wF R (((S7.trans' S8).trans (Stp.bi (O:=fun _=>False) X9) fun _ h=>h.elim).trans' S10) rfl K10 ((S10.row Rn9 fun g hg e=>by have:=(Rn9.bd hg).1; omega).mono (by omega)) ((S10.row R9 fun g hg e=>by have:=(R9.bd hg).1; omega).mono (by omega)) (fun g h1 h2=>by have:=(Rn8.bd h1).2; have:=(R9.bd h2).1; omega) (by simp) (fun x hx=>by rw [List.eq_of_mem_replicate hx]; exact uu _) fun x hx=>by rw [List.eq_of_mem_replicate hx]; omega
      exact xm (L':={ L with next:=s7,has:=⟨some ⟨h8.size,0,none⟩,r.n.toNat,r.n.toNat⟩,bal:=none }) hk q H
    ·refine ⟨_,_,by omega,Int.le_refl _,by omega,by omega,rfl,rfl,?_⟩
     have X7:=Ext.push h6 (.cells (kU [.int .u64 0] r.n.toNat).toArray 22) (Nat.le_refl _)
     have R7:=Row.pI (E:=22) (w:=1) h6 (kU [.int .u64 0] r.n.toNat) r.n.toNat (by simp [kU]) (by simp only [maxLen]; omega)
     rw [zr] at R7 X7 ⊢
     have K7:=K6.ext X7 K6.lt
     have S7:=S6.trans (Stp.bi (O:=fun _=>False) X7) fun _ h=>h.elim
     have B7:=B6.ext X7 B6.lt
     generalize h6.push (.cells (u8s (List.replicate r.n.toNat 0)).toArray 22)=h7 at *
     have z7:=X7.size
     refine ⟨cn K7,uk B7 (by omega) nb.2 fun s8 h8 R8 X8=>?_⟩
     refine fin (S7.trans (Stp.bi (O:=fun _=>False) X8) fun _ h=>h.elim) (K7.ext X8 K7.lt) (R8.mono (by omega)) ((R7.ext X8 fun g hg=>(R7.bd hg).2).mono (by omega)) fun g h1 h2=>?_
     have:=(R8.bd h1).1; have:=(R7.bd h2).2; omega
   ·refine ⟨_,_,by omega,Int.le_refl _,by omega,by omega,rfl,rfl,?_⟩
    have X6:=Ext.push h5 (.cells (kU [.int .u64 0] r.n.toNat).toArray 22) (Nat.le_refl _)
    have R6:=Row.pI (E:=22) (w:=1) h5 (kU [.int .u64 0] r.n.toNat) r.n.toNat (by simp [kU]) (by simp only [maxLen]; omega)
    rw [zr] at R6 X6 ⊢
    have K6:=K5.ext X6 K5.lt
    have S6:=S5.trans (Stp.bi (O:=fun _=>False) X6) fun _ h=>h.elim
    generalize h5.push (.cells (u8s (List.replicate r.n.toNat 0)).toArray 22)=h6 at *
    have z6:=S6.size
    refine ⟨cn K6,_,_,rfl,rfl,?_⟩
    have X7:=Ext.push h6 (.cells ([.int .u64 (IntKind.u64.wrap (r.log.last + 1))]:List Value).toArray 22) (Nat.le_refl _)
    have B7:=Blk.push h6 [.int .u64 (IntKind.u64.wrap (r.log.last + 1))] 22
    have K7:=K6.ext X7 K6.lt
    have S7:=S6.trans (Stp.bi (O:=fun _=>False) X7) fun _ h=>h.elim
    have R7:=R6.ext X7 fun g hg=>(R6.bd hg).2
    generalize h6.push (.cells ([.int .u64 (IntKind.u64.wrap (r.log.last + 1))]:List Value).toArray 22)=h7 at *
    have z7:=X7.size
    refine ⟨cn K7,uk B7 (by omega) nb.2 fun s8 h8 R8 X8=>?_⟩
    refine fin (S7.trans (Stp.bi (O:=fun _=>False) X8) fun _ h=>h.elim) (K7.ext X8 K7.lt) (R8.mono (by omega)) ((R7.ext X8 fun g hg=>(R7.bd hg).2).mono (by omega)) fun g h1 h2=>?_
    have:=(R8.bd h1).1; have:=(R7.bd h2).2; omega
 ·rw [if_pos (by simpa using hr)]
  exact no (.inl hr)
end
end Go.Q.Yi
end

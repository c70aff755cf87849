/- A part of the proof of statements of this seat: lemmas, no statement of their own. -/
import Derived.Test.YthjafnfadiijgaaYiZbf
set_option linter.unusedVariables false
set_option linter.unusedSimpArgs false
section
/- Rounds until all are in one term, or one leads. -/
namespace Go.Q.Rf
section
variable {n T Λ E S:Int} {N:Nat} {w:PW} {x:Let} {l:List Let}
/-- who asks for votes in a lesser term is told the greatest one -/
theorem told (h:2 * Λ<=2000) (g:Good n (N + 2000) w) (b:Bs n T Λ w) {p j:Int} (hp:Mb n p) (hj:Mb n j) (ne:j≠p) (pt:(w.R p).term=T) {m:Msg} (hm:(j,p,m)∈w.q) (k1:m.kind=1) (mt:m.term < T):((dl 2000 w).R j).term=T:=by
 have hb:∀ {w':PW} {N':Nat},Bs n T Λ w'->Good n N' w'->(w'.q.length:Int)<=Λ:=fun b g=>by have:=b.pt; have:=uy g; omega
 have l0:=hb b g
 have up:∀ w x l,Good n 1 w->Bs n T Λ w->w.q=x :: l->∀ i,Mb n i->(w.R i).term=T->(w.take.R i).term=T:=fun w x l g b e i hi ht=>by
  obtain ⟨out,k⟩:=b.tk g (by omega) e
  have u:=(b.take g (by omega) e).tr i hi
  by_cases ej:i=x.2.1
  ·subst ej; have:=k.mo; omega
  ·rw [k.oth i ej]; exact ht
 -- an answer comes: it is in the greatest term
 have got:∀ w x l,Good n 1 w->Bs n T Λ w->w.q=x :: l->x.1=p->x.2.1=j->x.2.2.kind=2->x.2.2.term=T->(w.take.R j).term=T:=fun w x l g b e x1 x2 xk xt=>by
  have hx:x∈w.q:=by rw [e]; exact List.mem_cons_self
  obtain ⟨hf,hi⟩:=g.lt hx
  obtain ⟨out,k⟩:=b.tk g (by omega) e
  have u:=(b.take g (by omega) e).tr j hj
  have:=k.tm ⟨hf.1,by rw [(g.rn hi).1]; exact hf.2,by rw [(g.rn hi).2,x1,x2]; exact fun q=>ne q.symm,by omega,by omega⟩
  rw [x2] at this
  omega
 obtain ⟨g1,b1,_,d1,_⟩:=rC (N:=N + (2000 - w.q.length)) (I:=fun w=>Bs n T Λ w/\(w.R p).term=T) (P0:=fun _=>True) (P:=fun _ _=>True) (D:=fun y w=>y.1=j->y.2.1=p->y.2.2.kind=1->y.2.2.term < T->(w.R j).term=T∨∃ m,(p,j,m)∈w.q/\m.kind=2/\m.term=T)
  (fun w x l g i e _=>by
   have hx:x∈w.q:=by rw [e]; exact List.mem_cons_self
   obtain ⟨hf,hi⟩:=g.lt hx
   obtain ⟨out,k⟩:=i.1.tk g (by omega) e
   refine ⟨⟨i.1.take g (by omega) e,up w x l g i.1 e p hp i.2⟩,⟨_,k.q,fun _ _=>trivial⟩,fun _ _=>trivial,fun x1 x2 xk xt=>?_,fun y hy y1 y2 yk yt=>?_⟩
   ·right
    have ok:RS.Ok (w.R x.2.1) x.1 x.2.2:=⟨hf.1,by rw [(g.rn hi).1]; exact hf.2,by rw [(g.rn hi).2,x1,x2]; exact ne,by omega,by omega⟩
    rcases dD g e (i.1.fit g (by omega)) with ⟨out',e2,o1,_,o2,o3⟩ | ⟨o,hm,_⟩
    ·have:=o3 (.inl xk) ok
     cases out' with
     | nil=>exact absurd rfl this
     | cons z zs =>
      obtain ⟨z1,z2,z3,z4⟩:=o1 z List.mem_cons_self
      refine ⟨z.2,?_,by omega,by rw [z2,x2]; exact i.2⟩
      rw [e2]
      refine List.mem_append.2 (.inr (List.mem_map.2 ⟨z,List.mem_cons_self,?_⟩))
      rw [z1,x1,x2]
    ·rw [x2,i.2] at hm; omega
   ·rcases hy y1 y2 yk yt with q | ⟨m,m1,m2,m3⟩
    ·exact .inl (up w x l g i.1 e j hj q)
    ·rw [e] at m1
     rcases List.mem_cons.1 m1 with m1 | m1
     ·exact .inl (got w x l g i.1 e (by rw [← m1]) (by rw [← m1]) (by rw [← m1]; exact m2) (by rw [← m1]; exact m3))
     ·exact .inr ⟨m,by rw [k.q]; exact List.mem_append.2 (.inl m1),m2,m3⟩) (by rw [show N + (2000 - w.q.length) + w.q.length=N + 2000 from by omega]; exact g) ⟨b,pt⟩ (fun _ _=>trivial)
 obtain ⟨w1,e1⟩:∃ w1,w1=dl w.q.length w:=⟨_,rfl⟩
 have q1:=d1 _ hm rfl rfl k1 mt
 rw [← e1] at g1 b1 q1
 have l1:=hb b1.1 g1
 have ed:dl 2000 w=dl (2000 - w.q.length - w1.q.length) (dl w1.q.length w1):=by
  rw [e1,← nG,← nG,← e1,show w.q.length + (w1.q.length + (2000 - w.q.length - w1.q.length))=2000 from by omega]
 obtain ⟨g2,b2,_,d2,k2⟩:=rC (N:=N + (2000 - w.q.length - w1.q.length)) (I:=Bs n T Λ) (P0:=fun _=>True) (P:=fun _ _=>True) (D:=fun y w=>(y.1=p/\y.2.1=j/\y.2.2.kind=2/\y.2.2.term=T)->(w.R j).term=T)
  (fun w x l g i e _=>by
   obtain ⟨out,k⟩:=i.tk g (by omega) e
   exact ⟨i.take g (by omega) e,⟨_,k.q,fun _ _=>trivial⟩,fun _ _=>trivial,fun h=>got w x l g i e h.1 h.2.1 h.2.2.1 h.2.2.2,fun y hy h=>up w x l g i e j hj (hy h)⟩) (by rw [show N + (2000 - w.q.length - w1.q.length) + w1.q.length=N + (2000 - w.q.length) from by omega]; exact g1) b1.1 (fun _ _=>trivial)
 rw [ed]
 refine uO (N:=N) (Λ:=Λ) (by omega) g2 b2 hj ?_
 rcases q1 with q | ⟨m,m1,m2,m3⟩
 ·exact uO (N:=N + (2000 - w.q.length - w1.q.length)) (Λ:=Λ) (by omega) (by rw [show N + (2000 - w.q.length - w1.q.length) + w1.q.length=N + (2000 - w.q.length) from by omega]; exact g1) b1.1 hj q
 ·exact d2 _ m1 ⟨rfl,rfl,m2,m3⟩
theorem Io (h:Λ<=2900) {k:Nat} (g:Good n (N + k) w) (b:Bs n T Λ w) {p t:Int} (hp:Mb n p) (pt:t<=(w.R p).term):t<=((dl k w).R p).term:=by
 obtain ⟨g',i'⟩:=dlI (N:=N) (n:=n) (I:=fun w=>Bs n T Λ w/\t<=(w.R p).term) (fun w x l g i e=>by
  obtain ⟨out,k⟩:=i.1.tk g h e
  refine ⟨i.1.take g h e,?_⟩
  by_cases ej:p=x.2.1
  ·subst ej; have:=k.mo; have:=i.2; omega
  ·rw [k.oth p ej]; exact i.2) k w g ⟨b,pt⟩
 exact i'.2
/-- a round in which nobody asks for votes above the greatest term -/
theorem CJ (n2:2<=n) (g:Good n (N + 2010) w) (i:Pr n T Λ E w) (hΛ:2 * (Λ + 2 * n)<=2000) (ha:∀ j,Mb n j->bX (w.R j)->(w.R j).term + 1<=T) :
  ∃ E',Pr n T (Λ + 2 * n) E' (rnd n w)/\E' + lo n T (rnd n w)<=E + lo n T w:=by
 have n1:=g.n1
 have pt:=i.b.pt
 obtain ⟨t,g',p'⟩:=mJ (N:=N + 2000) n.toNat (by omega) (g.mono (by omega)) (by omega)
 have b':=zi (N:=N + 2000) n2 (g.mono (by omega)) i.b (by omega) (Int.le_refl _) ha
 have l':=wG (N:=N + 2000) n2 (g.mono (by omega)) i.l (by omega)
 obtain ⟨g2,b2,a1,a2,a3⟩:=EO (N:=N) hΛ g' b'
 obtain ⟨p,hp,pT⟩:=i.ex
 have np:¬ bX (w.R p):=fun q=>by have:=ha p hp q; omega
 have pW:((tks n.toNat w).R p).term=T:=by rw [(pU n2 g t hp).2 np]; exact pT
 have len:=Hq (N:=N) (C:=fun j=>decide (bX (w.R j))) (E:=E) (by omega) g' ⟨b',fun y hy k=>by
  rcases uU n2 g t hy with q | ⟨_,q,_,_⟩ | ⟨_,_,q,_⟩
  ·exact absurd k (i.na y q)
  ·exact decide_eq_true q
  ·omega,fun y hy k ky=>by
  rcases uU n2 g t hy with q | ⟨_,_,q,_⟩ | ⟨_,_,q,_⟩
  ·exact absurd ⟨k,ky⟩ (i.ny y q)
  ·rw [q,(uR _).1] at k; omega
  ·omega,l'.mono (by have:=(Gd (C:=fun j=>decide (bX (w.R j))) g').1; omega)⟩
 refine ⟨E + cn (fun j=>decide (bX (w.R j))) n,⟨b2,⟨p,hp,uO (N:=N) (Λ:=Λ + 2 * n) (by omega) g' b' hp pW⟩,a1,a2,a3,len⟩,?_⟩
 have:=uf (f:=fun j=>(if ((rnd n w).R j).term < T then 1 else 0) + (if decide (bX (w.R j))=true then 1 else 0)) (g:=fun j=>if (w.R j).term < T then 1 else 0) n.toNat fun j j0 j1=>by
  have hj:Mb n j:=⟨j0,by omega⟩
  by_cases c:bX (w.R j)
  ·have ct:=ha j hj c
   have kk:=(pU n2 g t hj).1 c
   have e:((rnd n w).R j).term=T:=by
    by_cases q:(w.R j).term + 1=T
    ·exact uO (N:=N) (Λ:=Λ + 2 * n) (by omega) g' b' hj (by rw [kk.term]; exact q)
    ·have ne:p≠j:=fun e=>by subst e; exact np c
     exact told (N:=N) hΛ g' b' hp hj (fun q=>ne q.symm) pW (Eu n2 g t hj c hp ne) rfl (by rw [(uR _).2.1]; omega)
   rw [if_neg (by omega),if_pos (decide_eq_true c),if_pos (by omega)]
   omega
  ·rw [if_neg (show ¬ decide (bX (w.R j))=true from by simpa using c)]
   have e:(w.R j).term<=((rnd n w).R j).term:=Io (N:=N) (Λ:=Λ + 2 * n) (by omega) g' b' hj (by rw [(pU n2 g t hj).2 c]; exact Int.le_refl _)
   by_cases q:((rnd n w).R j).term < T
   ·rw [if_pos q,if_pos (by omega)]; omega
   ·rw [if_neg q]; split <;> omega
 rw [GR] at this
 have ec:cn (fun j=>decide (bX (w.R j))) n=sm (fun j=>if decide (bX (w.R j))=true then 1 else 0) n.toNat:=rfl
 rw [ec]
 unfold lo
 omega
/-- with none that leads: who is in the greatest term is left alone -/
theorem Lm (n2:2<=n) (g:Good n (N + 2010) w) (i:Pr n T Λ E w) (hΛ:2 * (Λ + 2 * n)<=2000) (ha:∀ j,Mb n j->bX (w.R j)->(w.R j).term + 1 < T) (nl:¬ ou n T w) :
  ¬ ou n T (rnd n w)/\∀ p,Mb n p->(w.R p).term=T->((rnd n w).R p).term=T/\((rnd n w).R p).ticks=(w.R p).ticks + 1:=by
 have n1:=g.n1
 have pt:=i.b.pt
 obtain ⟨t,g',p'⟩:=mJ (N:=N + 2000) n.toNat (by omega) (g.mono (by omega)) (by omega)
 have b':=zi (N:=N + 2000) n2 (g.mono (by omega)) i.b (by omega) (Int.le_refl _) fun j hj q=>by have:=ha j hj q; omega
 obtain ⟨W,eW⟩:∃ W,W=tks n.toNat w:=⟨_,rfl⟩
 have er:rnd n w=dl 2000 W:=by unfold rnd; rw [eW]
 rw [← eW] at t g' b'
 have q0:∀ y∈W.q,y.2.2.term=T->y.2.2.kind≠1/\y.2.2.kind≠3/\y.2.2.kind≠5/\¬ (y.2.2.kind=2/\y.2.2.yes=true):=fun y hy yt=>by
  rcases uU n2 g t hy with q | ⟨a,q1,q2,_⟩ | ⟨a,q1,q2,q3,_⟩
  ·exact ⟨i.na y q,fun k=>nl (i.q y q yt (.inl k)),fun k=>nl (i.q y q yt (.inr k)),i.ny y q⟩
  ·have:=ha _ a q1
   rw [q2,(uR _).2.1] at yt; omega
  ·exact absurd ⟨_,a,q1.1,by omega⟩ nl
 have nW:¬ ou n T W:=fun ⟨j,hj,j2,jt⟩=>by
  by_cases c:bX (w.R j)
  ·rw [((pU n2 g t hj).1 c).role] at j2; omega
  ·rw [(pU n2 g t hj).2 c] at j2 jt; exact nl ⟨j,hj,j2,jt⟩
 obtain ⟨g9,b9,nl9,q9,k9⟩:=dlI (N:=N) (n:=n) (I:=fun w'=>Bs n T (Λ + 2 * n) w'/\¬ ou n T w'/\(∀ y∈w'.q,y.2.2.term=T->y.2.2.kind≠1/\y.2.2.kind≠3/\y.2.2.kind≠5/\¬ (y.2.2.kind=2/\y.2.2.yes=true))/\∀ j,Mb n j->(W.R j).term=T->w'.R j=W.R j) (fun w' x l g i e=>by
  obtain ⟨b,nl,q,s⟩:=i
  have hx:x∈w'.q:=by rw [e]; exact List.mem_cons_self
  obtain ⟨hf,hi⟩:=g.lt hx
  obtain ⟨out,k⟩:=b.tk g (by omega) e
  have nl':¬ ou n T w'.take:=fun ⟨j,hj,j2,jt⟩=>by
   by_cases ej:j=x.2.1
   ·subst ej
    obtain ⟨r1,r2⟩:=k.r2 j2
    rcases r2 with r2 | r2
    ·exact nl ⟨_,hj,r2,by omega⟩
    ·exact (q x hx (by omega)).2.2.2 ⟨r2.2.1,r2.2.2.1⟩
   ·rw [k.oth j ej] at j2 jt; exact nl ⟨j,hj,j2,jt⟩
  refine ⟨b.take g (by omega) e,nl',fun y hy yt=>?_,fun j hj jt=>?_⟩
  ·rw [k.q] at hy
   rcases List.mem_append.1 hy with hy | hy
   ·exact q y (by rw [e]; exact List.mem_cons_of_mem _ hy) yt
   ·obtain ⟨z,hz,rfl⟩:=List.mem_map.1 hy
    have zt:z.2.term=T:=yt
    have r2:∀ h:z.2.kind=3∨z.2.kind=5,False:=fun h=>nl' ⟨_,hi,k.due z hz h,by rw [← k.ot z hz]; exact zt⟩
    refine ⟨k.ak z hz,fun h=>r2 (.inl h),fun h=>r2 (.inr h),fun h=>?_⟩
    have ys:=k.yes z hz h.1 h.2
    exact (q x hx (by omega)).1 ys.1
  ·by_cases ej:j=x.2.1
   ·subst ej
    have s0:=s _ hj jt
    rcases dD g e (b.fit g (by omega)) with ⟨out',e2,_⟩ | ⟨o,hm,r',out',e1,e2,t2,ot⟩
    ·rw [e2]; exact s0
    ·have xt:=b.tq x hx
     rw [s0] at hm
     have xT:x.2.2.term=T:=by omega
     obtain ⟨x1,x3,x5,x2⟩:=q x hx xT
     have hs:(w'.R x.2.1).at' x.2.2=w'.R x.2.1:=RS.l9 (by rw [s0]; omega)
     rw [hs] at e1
     have nr:(w'.R x.2.1).role≠2:=fun h=>nl ⟨_,hj,h,by rw [s0]; exact jt⟩
     have er:r'=w'.R x.2.1:=by
      by_cases k2:x.2.2.kind=2
      ·have yy:x.2.2.yes=false:=by
        cases hy:x.2.2.yes with
        | false=>rfl
        | true=>exact absurd ⟨k2,hy⟩ x2
       rw [RS.wy k2,RS.vH yy,RS.si] at e1
       ·exact (congrArg Prod.fst e1).symm
       ·by_cases h1:(w'.R x.2.1).role=1
        ·exact .inr (b.nw _ hj h1)
        ·exact .inl h1
      ·have o4:=o.2.2.2
       rw [RS.yf (by omega)] at e1
       unfold RS.appended at e1
       rw [if_pos nr] at e1
       exact (congrArg Prod.fst e1).symm
     rw [e2]
     show upd w'.R x.2.1 (cl r') x.2.1=_
     rw [upd_same,er,← s0]
     have:=g.k0 _ hj
     unfold cl
     rw [← this]
   ·rw [k.oth j ej]; exact s j hj jt) 2000 W g' ⟨b',nW,q0,fun _ _ _=>rfl⟩
 rw [← er] at nl9 k9
 refine ⟨nl9,fun p hp pT=>?_⟩
 have np:¬ bX (w.R p):=fun q=>by have:=ha p hp q; omega
 have eP:=(pU n2 g t hp).2 np
 rw [k9 p hp (by rw [eP]; exact pT),eP]
 exact ⟨pT,rfl⟩
/-- with one that leads -/
theorem MO (n2:2<=n) (g:Good n (N + 2010) w) (ib:Bs n T Λ w) (hΛ:Λ + 2 * n<=2000) (ha:∀ j,Mb n j->bX (w.R j)->(w.R j).term + 1<=T) {c:Int} (hc:Mb n c) (c2:(w.R c).role=2) (ct:(w.R c).term=T) :
  ((rnd n w).R c).role=2/\((rnd n w).R c).term=T/\((rnd n w).R c).ticks=(w.R c).ticks + 1 /\
   (pM (w.R c)->(∀ j,Mb n j->((rnd n w).R j).term=T)/\∀ j,Mb n j->j≠c->((rnd n w).R j).ticks=0):=by
 have n1:=g.n1
 have pt:=ib.pt
 obtain ⟨t,g',p'⟩:=mJ (N:=N + 2000) n.toNat (by omega) (g.mono (by omega)) (by omega)
 have b':=zi (N:=N + 2000) n2 (g.mono (by omega)) ib (by omega) (Int.le_refl _) ha
 obtain ⟨W,eW⟩:∃ W,W=tks n.toNat w:=⟨_,rfl⟩
 have er:rnd n w=dl 2000 W:=by unfold rnd; rw [eW]
 rw [← eW] at t g' b'
 have nc:¬ bX (w.R c):=fun q=>q.1 c2
 have eC:=(pU n2 g t hc).2 nc
 have hb:∀ {w':PW} {N':Nat},Bs n T (Λ + 2 * n) w'->Good n N' w'->(w'.q.length:Int)<=Λ + 2 * n:=fun b g=>by have:=b.pt; have:=uy g; omega
 have l0:=hb b' g'
 have key:=dlI (N:=N) (n:=n) (I:=fun w'=>Bs n T (Λ + 2 * n) w'/\(w'.R c).role=2/\(w'.R c).term=T/\(w'.R c).ticks=(w.R c).ticks + 1) (fun w' x l g i e=>by
  have q:=rf i.1 g (by omega) e hc i.2.1 i.2.2.1
  exact ⟨i.1.take g (by omega) e,q.1,q.2,(EX i.1 g (by omega) e hc i.2.1 i.2.2.1).trans i.2.2.2⟩) 2000 W g' ⟨b',by rw [eC]; exact c2,by rw [eC]; exact ct,by rw [eC]⟩
 rw [← er] at key
 refine ⟨key.2.2.1,key.2.2.2.1,key.2.2.2.2,fun bt=>?_⟩
 obtain ⟨g1,b1,_,d1,_⟩:=rC (N:=N + (2000 - W.q.length)) (I:=fun w'=>Bs n T (Λ + 2 * n) w') (P0:=fun _=>True) (P:=fun _ _=>True) (D:=fun y w'=>Mb n y.2.1->y.1=c->y.2.1≠c->(y.2.2.kind=3∨y.2.2.kind=5)->y.2.2.term=T->(w'.R y.2.1).term=T/\(w'.R y.2.1).ticks=0)
  (fun w' x l g i e _=>by
   have hx:x∈w'.q:=by rw [e]; exact List.mem_cons_self
   obtain ⟨hf,hi⟩:=g.lt hx
   obtain ⟨out,k⟩:=i.tk g (by omega) e
   have b2:=i.take g (by omega) e
   refine ⟨b2,⟨_,k.q,fun _ _=>trivial⟩,fun _ _=>trivial,fun hj e1 ne k1 kt=>?_,fun y hy hj e1 ne k1 kt=>?_⟩
   ·rcases dD g e (i.fit g (by omega)) with ⟨out',e2,o1,o2,o3,_⟩ | ⟨o,ht,r',out',e1',e2,t2,ot⟩
    ·have:=o3 ⟨hf.1,by rw [(g.rn hi).1]; exact hf.2,by rw [(g.rn hi).2,e1]; exact fun q=>ne q.symm,by omega,by omega⟩
     have:=i.tr _ hi
     omega
    ·rw [e2]
     show (upd w'.R x.2.1 (cl r') x.2.1).term=T/\(upd w'.R x.2.1 (cl r') x.2.1).ticks=0
     rw [upd_same]
     refine ⟨?_,(t2.r5 k1).2⟩
     show r'.term=T
     rw [t2.term,RS.Aa ht]; exact kt
   ·obtain ⟨z1,z2⟩:=hy hj e1 ne k1 kt
    by_cases ej:y.2.1=x.2.1
    ·rw [ej] at z1 z2 hj ⊢
     refine ⟨?_,?_⟩
     ·have:=k.mo; have:=b2.tr _ hj; omega
     ·rcases k.tk with q | q
      ·rw [q]; exact z2
      ·exact q
    ·rw [k.oth _ ej]; exact ⟨z1,z2⟩) (by rw [show N + (2000 - W.q.length) + W.q.length=N + 2000 from by omega]; exact g') b' (fun _ _=>trivial)
 have one:∀ j,Mb n j->j≠c->((rnd n w).R j).term=T/\((rnd n w).R j).ticks=0:=fun j hj ne=>by
  have h1:=d1 _ (Ef n2 g t hc bt hj ne) hj rfl ne (RS.mK _) (by rw [RS.lU]; exact ct)
  have:=dlI (N:=N) (n:=n) (I:=fun w'=>Bs n T (Λ + 2 * n) w'/\(w'.R j).term=T/\(w'.R j).ticks=0) (fun w' x l g i e=>by
   obtain ⟨out,k⟩:=i.1.tk g (by omega) e
   have b2:=i.1.take g (by omega) e
   refine ⟨b2,?_⟩
   by_cases ej:j=x.2.1
   ·subst ej
    refine ⟨?_,?_⟩
    ·have:=k.mo; have:=b2.tr _ hj; have:=i.2.1; omega
    ·rcases k.tk with q | q
     ·rw [q]; exact i.2.2
     ·exact q
   ·rw [k.oth _ ej]; exact i.2) (2000 - W.q.length) _ g1 ⟨b1,h1⟩
  rw [← nG,show W.q.length + (2000 - W.q.length)=2000 from by omega,← er] at this
  exact this.2.2
 refine ⟨fun j hj=>?_,fun j hj ne=>(one j hj ne).2⟩
 by_cases ej:j=c
 ·rw [ej]; exact key.2.2.2.1
 ·exact (one j hj ej).1
theorem Led.mono {E':Int} (L:Led n T Λ E w) (h:E<=E'):Led n T Λ E' w:=⟨L.b,L.all,L.c,L.l.mono h⟩
theorem Nn.mono {E':Int} (L:Nn n T E w) (h:E<=E'):Nn n T E' w:=⟨L.b,L.all,L.nl,L.q,L.l.mono h⟩
def Out (n S:Int) (w:PW):Prop:=∃ T' Λ',Λ'<=530/\(Led n T' Λ' (S + 1) w∨Nn n T' S w)
def Pl (n S T c:Int) (N d:Nat):Prop:=∀ (w:PW) (E Λ:Int),Good n (N + 2010 * (d + 1)) w->Pr n T Λ E w->E + lo n T w<=S->Λ + 2 * n * (d + 1)<=530->(w.R c).role=2->(w.R c).term=T->2 - (w.R c).ticks % 3=d->∃ k,1<=k/\k<=d + 1/\Out n S (rds n k w)
theorem lo0 (n1:1<=n):0<=lo n T w:=by
 have a:=uf (f:=fun _=>0) (g:=fun j=>if (w.R j).term < T then 1 else 0) n.toNat fun j _ _=>by split <;> omega
 rw [mI] at a
 unfold lo; omega
theorem above (n2:2<=n) (g:Good n (N + 2010) w) (i:Pr n T Λ E w) (hS:E + lo n T w<=S) (hΛ:Λ + 2 * n<=530) {T':Int} (hT:T'=T + 1∨T'=T/\¬ ou n T w) (hc:∀ j,Mb n j->bX (w.R j)->(w.R j).term + 1<=T') {c:Int} (mc:Mb n c) (cc:bX (w.R c)) (ct:(w.R c).term + 1=T'):Out n S (rnd n w):=by
 have l0:=lo0 (T:=T) (w:=w) (by omega:1<=n)
 rcases EA n2 g i (by omega) hT hc mc cc ct with q | q
 ·exact ⟨T',_,hΛ,.inl (q.mono (by omega))⟩
 ·exact ⟨T',0,by omega,.inr (q.mono (by omega))⟩
theorem Et (n2:2<=n) {c:Int} (hc:Mb n c) {d:Nat} (ih:∀ d',d=d' + 1->Pl n S T c N d'):Pl n S T c N d:=by
 intro w E Λ g i hS hΛ c2 ct hd
 have n1:=g.n1
 have l0:=lo0 (T:=T) (w:=rnd n w) (by omega:1<=n)
 have dn:2 * n * ((d:Int) + 1)=2 * n * d + 2 * n:=by rw [Int.mul_add]; omega
 have dn0:0<=2 * n * (d:Int):=Int.mul_nonneg (by omega) (by omega)
 have g1:Good n (N + 2010 * d + 2010) w:=g.mono (by omega)
 by_cases up:∃ a,Mb n a/\bX (w.R a)/\(w.R a).term=T
 ·obtain ⟨a,ha,a1,a2⟩:=up
  exact ⟨1,by omega,by omega,above n2 g1 i hS (by omega) (T':=T + 1) (.inl rfl) (fun j hj _=>by have:=i.b.tr j hj; omega) ha a1 (by omega)⟩
 ·have ha:∀ j,Mb n j->bX (w.R j)->(w.R j).term + 1<=T:=fun j hj q=>by
   have:=i.b.tr j hj
   have:(w.R j).term≠T:=fun e=>up ⟨j,hj,q,e⟩
   omega
  obtain ⟨E',i',hS'⟩:=CJ n2 g1 i (by omega) ha
  obtain ⟨r1,r2,r3,r4⟩:=MO n2 g1 i.b (by omega) ha hc c2 ct
  by_cases bt:pM (w.R c)
  ·obtain ⟨q1,q2⟩:=r4 bt
   have:=bt.2
   exact ⟨1,by omega,by omega,T,_,by omega,.inl (Led.mono ⟨i'.b,q1,⟨c,hc,r1,by rw [show ((rds n 1 w).R c).ticks=(w.R c).ticks + 1 from r3]; exact bt.2,q2⟩,i'.l⟩ (by omega))⟩
  ·have nb:¬ ((w.R c).ticks + 1) % 3=0:=fun q=>bt ⟨c2,q⟩
   have tk:=g.tk c hc
   have dd:d=(d - 1) + 1:=by omega
   have dm:2 * n * (((d - 1:Nat):Int) + 1)=2 * n * d:=by rw [show ((d - 1:Nat):Int) + 1=d from by omega]
   obtain ⟨k,k0,k1,o⟩:=ih (d - 1) dd (rnd n w) E' (Λ + 2 * n) ((Good.round (N:=N + 2010 * d) g1).mono (by omega)) i' (by omega) (by rw [dm]; omega) r1 r2 (by rw [r3]; omega)
   exact ⟨k + 1,by omega,by omega,o⟩
theorem J6 (n2:2<=n) {c:Int} (hc:Mb n c):∀ d:Nat,Pl n S T c N d
 | 0=>Et n2 hc fun d' h=>by omega
 | d + 1=>Et n2 hc fun d' h=>by rw [← Nat.succ.inj h]; exact J6 n2 hc d
def Pq (n S T p:Int) (N d:Nat):Prop:=∀ (w:PW) (E Λ:Int),Good n (N + 2010 * (d + 1)) w->Pr n T Λ E w->E + lo n T w<=S->Λ + 2 * n * (d + 1)<=530->¬ ou n T w->(w.R p).term=T->9 + 7 * p - (w.R p).ticks<=d->∃ k,1<=k/\k<=d + 1/\Out n S (rds n k w)
theorem EJ (n2:2<=n) {p:Int} (hp:Mb n p) {d:Nat} (ih:∀ d',d=d' + 1->Pq n S T p N d'):Pq n S T p N d:=by
 intro w E Λ g i hS hΛ nl pT hd
 have n1:=g.n1
 have dn:2 * n * ((d:Int) + 1)=2 * n * d + 2 * n:=by rw [Int.mul_add]; omega
 have dn0:0<=2 * n * (d:Int):=Int.mul_nonneg (by omega) (by omega)
 have g1:Good n (N + 2010 * d + 2010) w:=g.mono (by omega)
 by_cases up:∃ a,Mb n a/\bX (w.R a)/\(w.R a).term=T
 ·obtain ⟨a,ha,a1,a2⟩:=up
  exact ⟨1,by omega,by omega,above n2 g1 i hS (by omega) (T':=T + 1) (.inl rfl) (fun j hj _=>by have:=i.b.tr j hj; omega) ha a1 (by omega)⟩
 ·have ha:∀ j,Mb n j->bX (w.R j)->(w.R j).term + 1<=T:=fun j hj q=>by
   have:=i.b.tr j hj
   have:(w.R j).term≠T:=fun e=>up ⟨j,hj,q,e⟩
   omega
  by_cases up2:∃ a,Mb n a/\bX (w.R a)/\(w.R a).term + 1=T
  ·obtain ⟨a,ma,a1,a2⟩:=up2
   exact ⟨1,by omega,by omega,above n2 g1 i hS (by omega) (T':=T) (.inr ⟨rfl,nl⟩) ha ma a1 a2⟩
  ·have ha2:∀ j,Mb n j->bX (w.R j)->(w.R j).term + 1 < T:=fun j hj q=>by
    have:=ha j hj q
    have:(w.R j).term + 1≠T:=fun e=>up2 ⟨j,hj,q,e⟩
    omega
   obtain ⟨E',i',hS'⟩:=CJ n2 g1 i (by omega) ha
   obtain ⟨r1,r2⟩:=Lm n2 g1 i (by omega) ha2 nl
   obtain ⟨r3,r4⟩:=r2 p hp pT
   have np:¬ bX (w.R p):=fun q=>by have:=ha p hp q; omega
   have p2:(w.R p).role≠2:=fun h=>nl ⟨p,hp,h,pT⟩
   have lt:(w.R p).ticks + 1 < 10 + 7 * p:=by
    apply Classical.byContradiction
    intro q
    exact np ⟨p2,by rw [(g.rn hp).2]; omega⟩
   have dd:d=(d - 1) + 1:=by omega
   have dm:2 * n * (((d - 1:Nat):Int) + 1)=2 * n * d:=by rw [show ((d - 1:Nat):Int) + 1=d from by omega]
   obtain ⟨k,k0,k1,o⟩:=ih (d - 1) dd (rnd n w) E' (Λ + 2 * n) ((Good.round (N:=N + 2010 * d) g1).mono (by omega)) i' (by omega) (by rw [dm]; omega) r1 r3 (by rw [r4]; omega)
   exact ⟨k + 1,by omega,by omega,o⟩
theorem J8 (n2:2<=n) {p:Int} (hp:Mb n p):∀ d:Nat,Pq n S T p N d
 | 0=>EJ n2 hp fun d' h=>by omega
 | d + 1=>EJ n2 hp fun d' h=>by rw [← Nat.succ.inj h]; exact J8 n2 hp d
theorem pre (n2:2<=n) (g:Good n (N + 2010 * 38) w) (i:Pr n T Λ E w) (hS:E + lo n T w<=S) (hΛ:Λ<=130):∃ k,1<=k/\k<=38/\Out n S (rds n k w):=by
 have n1:=g.n1
 by_cases L:ou n T w
 ·obtain ⟨c,hc,c2,ct⟩:=L
  obtain ⟨d,hd⟩:∃ d:Nat,2 - (w.R c).ticks % 3=d:=⟨(2 - (w.R c).ticks % 3).toNat,by omega⟩
  have d2:d<=2:=by have:=Int.emod_nonneg (w.R c).ticks (by decide:(3:Int)≠0); omega
  obtain ⟨k,k0,k1,o⟩:=J6 (S:=S) (T:=T) (N:=N) n2 hc d w E Λ (g.mono (by omega)) i hS (by
   have:2 * n * ((d:Int) + 1)<=2 * n * 3:=Int.mul_le_mul_of_nonneg_left (by omega) (by omega)
   omega) c2 ct hd
  exact ⟨k,k0,by omega,o⟩
 ·obtain ⟨p,hp,pT⟩:=i.ex
  have tk:=g.tk p hp
  have hp':=hp
  unfold Mb at hp'
  obtain ⟨k,k0,k1,o⟩:=J8 (S:=S) (T:=T) (N:=N) n2 hp 37 w E Λ (g.mono (by omega)) i hS (by omega) L pT (by omega)
  exact ⟨k,k0,by omega,o⟩
/-- whatever was done: one leads within 115 rounds -/
theorem MG (n2:2<=n) (g:Good n (N + 2010 * 115) w) (b:Bs n T Λ w) (l:Len n E w) (ex:∃ p,Mb n p/\(w.R p).term=T) (hΛ:Λ<=120):∃ k,1<=k/\k<=115/\∃ T' Λ',Λ'<=530/\Led n T' Λ' (E + 2 * n) (rds n k w):=by
 have n1:=g.n1
 obtain ⟨T1,i1⟩:=Ky (N:=N + 2010 * 114) n2 (g.mono (by omega)) b l ex (by omega)
 have g1:Good n (N + 2010 * 114) (rnd n w):=Good.round (g.mono (by omega))
 obtain ⟨p,hp,pT⟩:=i1.ex
 have ll:=(Np (by omega:1<=n) hp pT).2
 obtain ⟨k,k0,k1,T2,Λ2,h2,o⟩:=pre (S:=E + 2 * n - 1) (N:=N + 2010 * 76) n2 (g1.mono (by omega)) i1 (by omega) (by omega)
 rcases o with o | o
 ·exact ⟨k + 1,by omega,by omega,T2,Λ2,h2,by rw [show E + 2 * n=E + 2 * n - 1 + 1 from by omega]; exact o⟩
 ·have g2:Good n (N + 2010 * 76) (rds n k (rnd n w)):=Good.rounds k (g1.mono (by omega))
  obtain ⟨k',h',T3,o'⟩:=KJ n2 g2 o
  refine ⟨(k + k') + 1,by omega,by omega,T3,60,by omega,?_⟩
  show Led n T3 60 _ (rds n (k + k') (rnd n w))
  rw [l6,show E + 2 * n=E + 2 * n - 1 + 1 from by omega]
  exact o'
end
end Go.Q.Rf
end
section
/- One leads: what letters do to what it knows of the others. -/
namespace Go.Q.Rf
structure Sb (n T c Λ E:Int) (L:Lg) (w:PW):Prop where
 b:Bs n T Λ w
 all:∀ j,Mb n j->(w.R j).term=T
 c2:(w.R c).role=2
 lg:(w.R c).log=L
 l:Len n E w
def nxt (w:PW) (c f:Int):Int:=(w.R c).next.getD f.toNat 0
def hst (w:PW) (c f:Int):Int:=(w.R c).has.getD f.toNat 0
theorem nT {l:List Int} {k:Nat} {v:Int} (h:k < l.length):(l.set k v).getD k 0=v:=by
 rw [List.getD_eq_getElem?_getD,List.getElem?_set_self h]; rfl
theorem getD_set_ne {l:List Int} {k j:Nat} {v:Int} (h:k≠j):(l.set k v).getD j 0=l.getD j 0:=by
 rw [List.getD_eq_getElem?_getD,List.getElem?_set_ne h,← List.getD_eq_getElem?_getD]
section
variable {n T c Λ E:Int} {N:Nat} {w:PW} {x:Let} {l:List Let} {L:Lg}
/-- what it knows of one -/
structure Kn (n c:Int) (L:Lg) (w:PW) (f:Int):Prop where
 nx:1<=nxt w c f/\nxt w c f<=L.last + 1
 hs:0<=hst w c f/\hst w c f<=L.last
 nl:f.toNat < (w.R c).next.length/\f.toNat < (w.R c).has.length
 lx:0<=L.ix/\L.ix<=L.last/\L.last<=10000000
theorem Sb.kn (s:Sb n T c Λ E L w) (g:Good n N w) (hc:Mb n c) {f:Int} (hf:Mb n f):Kn n c L w f:=by
 obtain ⟨B,G,q,b⟩:=g.s
 have m:=q.core.mi c hc.1 hc.2
 have A:=m.l1 s.c2
 have ll:=m.rep.last
 have i0:=m.rep.i0
 have i1:=m.rep.i1
 have bf:=m.bf
 rw [s.lg] at ll i0 i1
 have hf':=hf
 unfold Mb at hf'
 have k:f.toNat < (w.R c).next.length:=by rw [A.nl]; omega
 have e:nxt w c f=(w.R c).next[f.toNat]:=by unfold nxt; rw [List.getD_eq_getElem?_getD,List.getElem?_eq_getElem k]; rfl
 have h1:=A.nx _ (List.getElem_mem k)
 have h2:=A.hs f.toNat (by omega)
 have a3:=(q.core.mi f hf.1 hf.2).a3 (w.R c).term
 rw [show ((f.toNat:Nat):Int)=f from by omega] at h2
 rw [← A.F] at a3
 refine ⟨by rw [e]; omega,?_,⟨k,by rw [A.hl]; omega⟩,i0,by omega,by omega⟩
 unfold hst; omega
theorem Sb.yes (s:Sb n T c Λ E L w) (g:Good n N w) (hc:Mb n c) {y:Let} (hy:y∈w.q) (k4:y.2.2.kind=4) (yy:y.2.2.yes=true) (yt:y.2.2.term=T):0<=y.2.2.index/\y.2.2.index<=L.last:=by
 obtain ⟨B,G,q,b⟩:=g.s
 obtain ⟨hf,_⟩:=g.lt hy
 have m:=q.core.mi c hc.1 hc.2
 have A:=m.l1 s.c2
 have ll:=m.rep.last
 rw [s.lg] at ll
 have li:=(q.ls y hy).1.k4 k4 yy
 have a3:=(q.core.mi y.1 hf.1 hf.2).a3 y.2.2.term
 rw [yt,← s.all c hc,← A.F] at a3
 rw [yt,← s.all c hc] at li
 omega
/-- a letter comes: the leader's part -/
inductive Ls (n T c:Int) (L:Lg) (w:PW) (x:Let) (out:List gQ) (w':PW):Prop where
 | same (h:(w'.R c).next=(w.R c).next/\(w'.R c).has=(w.R c).has/\(w'.R c).commit=(w.R c).commit) (d:x.2.1=c->∀ z∈out,z.2.kind≠3/\z.2.kind≠5) (z:¬ (x.2.1=c/\x.2.2.kind=4/\x.2.2.term=T/\x.1≠c))
 | no (a:x.2.1=c/\x.2.2.kind=4/\x.2.2.term=T/\Mb n x.1/\x.1≠c) (y:x.2.2.yes=false) (m:Int) (h:(w'.R c).next=(w.R c).next.set x.1.toNat (max 1 (min (nxt w c x.1 - 1) m))/\(w'.R c).has=(w.R c).has/\(w'.R c).commit=(w.R c).commit) (d:out=[(x.1,(w'.R c).due x.1)])
 | yes (a:x.2.1=c/\x.2.2.kind=4/\x.2.2.term=T/\Mb n x.1/\x.1≠c) (y:x.2.2.yes=true) (i:0<=x.2.2.index/\x.2.2.index<=L.last) (h:(w'.R c).next=(w.R c).next.set x.1.toNat (max (nxt w c x.1) (x.2.2.index + 1))/\(w'.R c).has=(w.R c).has.set x.1.toNat (max (hst w c x.1) x.2.2.index))
   (cm:(w.R c).commit<=(w'.R c).commit/\(cmt (w'.R c).has > (w.R c).commit->(L.aF (cmt (w'.R c).has)).2=0->(L.aF (cmt (w'.R c).has)).1=T->(w'.R c).commit=cmt (w'.R c).has)) (d:out=[(x.1,(w'.R c).due x.1)]∨out=[])
theorem GH (r:RS) (f:Int):(cl r).due f=r.due f:=rfl
theorem eZ (h:Λ<=2900) (s:Sb n T c Λ E L w) (g:Good n 1 w) (hc:Mb n c) (e:w.q=x :: l):∃ out,Tk w x l out w.take/\(w.take.R c).log=L/\Ls n T c L w x out w.take:=by
 have hx:x∈w.q:=by rw [e]; exact List.mem_cons_self
 obtain ⟨hf,hi⟩:=g.lt hx
 have rn:=g.rn hi
 obtain ⟨out0,k0⟩:=s.b.tk g h e
 by_cases ec:x.2.1=c
 ·have sr:(w.R x.2.1).role=2:=by rw [ec]; exact s.c2
  have eq_out:∀ out,w.take.q=l ++ bK x.2.1 out->out0=out:=fun out q=>by
   have:=k0.q
   rw [q] at this
   have:=List.append_cancel_left this
   unfold bK at this
   have inj:∀ (a b:List gQ),a.map (fun y=>((x.2.1,y.1,y.2):Let))=b.map (fun y=>(x.2.1,y.1,y.2))->a=b:=fun a b q=>by
    have:=congrArg (List.map fun z:Let=>(z.2.1,z.2.2)) q
    rw [List.map_map,List.map_map,show ((fun z:Let=>(z.2.1,z.2.2)) ∘ fun y:gQ=>((x.2.1,y.1,y.2):Let))=id from rfl,List.map_id,List.map_id] at this
    exact this
   exact (inj _ _ this).symm
  rcases dD g e (s.b.fit g h) with ⟨out,e2,o1,o2,o3⟩ | ⟨o,hm,r',out,e1,e2,t,ot⟩
  ·have:=eq_out out (by rw [e2])
   subst this
   refine ⟨_,k0,by rw [e2]; exact s.lg,.same (by rw [e2]; exact ⟨rfl,rfl,rfl⟩) (fun _ z hz=>?_) fun ⟨_,z4,zt,z1⟩=>?_⟩
   ·have:=(o1 z hz).2.2.2; omega
   ·have:=o3.1 ⟨hf.1,by rw [rn.1]; exact hf.2,by rw [rn.2,ec]; exact z1,by omega,by omega⟩
    have:=s.all _ hi
    omega
  ·have:=eq_out out (by rw [e2])
   subst this
   have xt:=s.b.tq x hx
   have ti:=s.all _ hi
   have xT:x.2.2.term=T:=by omega
   have et:(w.R x.2.1).term=x.2.2.term:=by omega
   have eR:w.take.R c=cl r':=by rw [e2,← ec]; exact upd_same _ _ _
   rw [RS.l9 et] at t e1
   have nk:x.2.2.kind≠3/\x.2.2.kind≠5:=by
    obtain ⟨B,G,q,bb⟩:=g.s
    have ld:=((q.core.mi _ hi.1 hi.2).l1 sr).ld
    have Li:=(q.ls x hx).1
    have key:G.ld x.2.2.term≠some x.1:=fun q=>by
     rw [et,q] at ld
     exact o.2.2.1 (by rw [rn.2]; exact Option.some.inj ld)
    exact ⟨fun k=>key (Li.k3 k).1,fun k=>key (Li.k5 k).1⟩
   have a:∀ k4:x.2.2.kind=4,x.2.1=c/\x.2.2.kind=4/\x.2.2.term=T/\Mb n x.1/\x.1≠c:=fun k4=>⟨ec,k4,xT,hf,by rw [← ec,← rn.2]; exact o.2.2.1⟩
   have o4:=o.2.2.2
   by_cases k1:x.2.2.kind=1
   ·rw [RS.tC k1] at e1
    unfold RS.lv at e1
    have nv:¬ (w.R x.2.1).mP x.1 x.2.2=true:=fun z=>by
     unfold RS.mP at z
     rw [s.b.vl _ hi (by omega)] at z
     simp only [Bool.and_eq_true,Bool.or_eq_true,beq_iff_eq] at z
     have:=hi.1
     have:=o.2.2.1
     omega
    rw [if_neg nv] at e1
    have e3:=(congrArg Prod.fst e1).symm
    dsimp only at e3
    refine ⟨_,k0,by rw [eR,e3,ec]; exact s.lg,.same (by rw [eR,e3,ec]; exact ⟨rfl,rfl,rfl⟩) (fun _ z hz=>?_) fun z=>by omega⟩
    rcases t.kd z hz with q | q | q
    ·omega
    ·omega
    ·have:=(congrArg Prod.snd e1).symm
     dsimp only at this
     rw [this] at hz
     unfold RS.answer at hz
     rw [List.mem_singleton] at hz
     subst hz
     rcases q.1 with q | q <;> cases q
   by_cases k2:x.2.2.kind=2
   ·rw [RS.wy k2] at e1
    have en:(w.R x.2.1).counted x.1 x.2.2=w.R x.2.1:=by
     unfold RS.counted; rw [if_neg (by rw [sr]; omega)]
    rw [en,RS.si (.inl (by rw [sr]; omega))] at e1
    have e3:=(congrArg Prod.fst e1).symm
    have e4:=(congrArg Prod.snd e1).symm
    dsimp only at e3 e4
    exact ⟨_,k0,by rw [eR,e3,ec]; exact s.lg,.same (by rw [eR,e3,ec]; exact ⟨rfl,rfl,rfl⟩) (fun _ z hz=>by rw [e4] at hz; cases hz) fun z=>by omega⟩
   have k4:x.2.2.kind=4:=by omega
   rw [RS.yf k4] at e1
   unfold RS.appended at e1
   rw [if_neg (by rw [sr]; omega)] at e1
   have kn:=s.kn g hc hf
   have w1:W (nxt w c x.1 - 1)=nxt w c x.1 - 1:=tN (by have:=kn.nx; omega) (by have:=kn.nx; have:=kn.lx; omega)
   cases hy:x.2.2.yes with
   | false =>
    rw [if_pos hy] at e1
    have e3:=(congrArg Prod.fst e1).symm
    have e4:=(congrArg Prod.snd e1).symm
    dsimp only at e3 e4
    refine ⟨_,k0,by rw [eR,e3,ec]; exact s.lg,.no (a k4) hy (W (x.2.2.index + 1)) ⟨?_,by rw [eR,e3,ec]; rfl,by rw [eR,e3,ec]; rfl⟩ (by rw [e4,eR,GH,e3])⟩
    rw [eR,e3,ec]
    show (w.R c).next.set x.1.toNat (max 1 (min (W (nxt w c x.1 - 1)) _))=_
    rw [w1]
   | true =>
    rw [if_neg (by rw [hy]; simp)] at e1
    have ix:=s.yes g hc hx k4 hy xT
    rw [if_neg (by rw [ec,s.lg]; omega)] at e1
    have w2:W (x.2.2.index + 1)=x.2.2.index + 1:=tN (by omega) (by have:=kn.lx; omega)
    obtain ⟨s1,s2,s3,s4,s5,s6,s7,s8,s9,_⟩:=RS.sI (r:={ w.R c with has:=(w.R c).has.set x.1.toNat (max ((w.R c).has.getD x.1.toNat 0) x.2.2.index),next:=(w.R c).next.set x.1.toNat (max ((w.R c).next.getD x.1.toNat 0) (W (x.2.2.index + 1))) })
    have ef:r'=(w.R c).gD x.1 x.2.2:=by
     have:r'=(w.R x.2.1).gD x.1 x.2.2:=by
      split at e1 <;> exact (congrArg Prod.fst e1).symm
     rw [this,ec]
    have e4:out0=[(x.1,r'.due x.1)]∨out0=[]:=by
     rw [ef,← ec]
     split at e1
     ·exact .inl (congrArg Prod.snd e1).symm
     ·exact .inr (congrArg Prod.snd e1).symm
    have hlog:((w.R c).gD x.1 x.2.2).log=L:=s3.trans s.lg
    refine ⟨_,k0,by rw [eR,ef]; exact hlog,.yes (a k4) hy ix ⟨?_,?_⟩ ?_ (by rw [eR,GH]; exact e4)⟩
    ·rw [eR,ef]
     refine (show ((w.R c).gD x.1 x.2.2).next=_ from s5).trans ?_
     show (w.R c).next.set x.1.toNat (max (nxt w c x.1) (W (x.2.2.index + 1)))=_
     rw [w2]
    ·rw [eR,ef]
     exact (show ((w.R c).gD x.1 x.2.2).has=_ from s6)
    ·have eh:((w.R c).gD x.1 x.2.2).has=(w.R c).has.set x.1.toNat (max (hst w c x.1) x.2.2.index):=s6
     rw [eR,ef]
     change (w.R c).commit<=((w.R c).gD x.1 x.2.2).commit/\(cmt ((w.R c).gD x.1 x.2.2).has > (w.R c).commit->(L.aF (cmt ((w.R c).gD x.1 x.2.2).has)).2=0->(L.aF (cmt ((w.R c).gD x.1 x.2.2).has)).1=T->((w.R c).gD x.1 x.2.2).commit=cmt ((w.R c).gD x.1 x.2.2).has)
     rw [eh]
     show (w.R c).commit<=(RS.settle _).commit/\(_->_->_->(RS.settle _).commit=_)
     unfold RS.settle
     dsimp only
     have ecl:(w.R c).has.set x.1.toNat (max ((w.R c).has.getD x.1.toNat 0) x.2.2.index)=(w.R c).has.set x.1.toNat (max (hst w c x.1) x.2.2.index):=rfl
     rw [ecl,s.lg,s.all c hc]
     split
     ·rename_i q
      exact ⟨by dsimp only; omega,fun _ _ _=>rfl⟩
     ·rename_i q
      exact ⟨Int.le_refl _,fun a b d=>absurd ⟨a,b,d⟩ q⟩
 ·have eR:=k0.oth c fun q=>ec q.symm
  exact ⟨out0,k0,by rw [eR]; exact s.lg,.same (by rw [eR]; exact ⟨rfl,rfl,rfl⟩) (fun q=>absurd q ec) fun z=>ec z.1⟩
theorem Sb.take (h:Λ<=2900) (s:Sb n T c Λ E L w) (g:Good n 1 w) (hc:Mb n c) (e:w.q=x :: l):Sb n T c Λ E L w.take:=by
 have hx:x∈w.q:=by rw [e]; exact List.mem_cons_self
 obtain ⟨hf,hi⟩:=g.lt hx
 have g':=g.take (N:=0)
 obtain ⟨out,k,lg,_⟩:=eZ h s g hc e
 have b':=s.b.take g h e
 have lk:=rf s.b g h e hc s.c2 (s.all c hc)
 have all':∀ j,Mb n j->(w.take.R j).term=T:=fun j hj=>by
  have u:=b'.tr j hj
  have a:=s.all j hj
  by_cases ej:j=x.2.1
  ·subst ej; have:=k.mo; omega
  ·rw [k.oth j ej]; exact a
 refine ⟨b',all',lk.1,lg,?_⟩
 rcases s.l.take s.b g h e with q | q
 ·exact q
 ·have:=g'.one hc hi lk.1 q.2.1 (by rw [lk.2,all' _ hi])
  subst this
  have:=s.c2
  have:=q.1
  omega
theorem Sb.len (h:Λ<=2900) (s:Sb n T c Λ E L w) (g:Good n 1 w) (hc:Mb n c) (e:w.q=x :: l):w.take.q.length<=w.q.length:=by
 have hx:x∈w.q:=by rw [e]; exact List.mem_cons_self
 obtain ⟨hf,hi⟩:=g.lt hx
 have g':=g.take (N:=0)
 obtain ⟨out,k,lg,_⟩:=eZ h s g hc e
 have s':=s.take h g hc e
 rw [k.q,e,List.length_append,bK,List.length_map,List.length_cons]
 rcases k.ln with q | q
 ·omega
 ·have:=g'.one hc hi s'.c2 q.2 (by rw [s'.all c hc,s'.all _ hi])
  subst this
  have:=s.c2
  have:=q.1
  omega
end
end Go.Q.Rf
end
section
/- One leads: what others answer; what it learns in a round. -/
namespace Go.Q.Rf
section
variable {n T c Λ E:Int} {N:Nat} {w:PW} {x:Let} {l:List Let} {L:Lg}
theorem Bw (g:Good n N w) (j:Int):(w.R j).commit<=(w.take.R j).commit:=by
 unfold PW.take
 cases e:w.q with
 | nil=>exact Int.le_refl _
 | cons x l =>
  show (w.R j).commit<=(upd w.R x.2.1 (cl ((w.R x.2.1).take x.1 x.2.2).1) j).commit
  by_cases c:j=x.2.1
  ·rw [c,upd_same]
   exact (RS.yj (r:=w.R x.2.1) (f:=x.1) (m:=x.2.2)).1.c
  ·rw [aL c]; exact Int.le_refl _
/-- it takes what the leader sends -/
theorem yn (h:Λ<=2900) (s:Sb n T c Λ E L w) (g:Good n 1 w) (hc:Mb n c) (hE:E<=64) (e:w.q=x :: l) (x1:x.1=c) (ne:x.2.1≠c) (xt:x.2.2.term=T) (k:x.2.2.kind=3∨x.2.2.kind=5) :
  ∃ a:Msg,w.take.q=l ++ [(x.2.1,c,a)]/\a.kind=4/\a.term=T/\(x.2.2.kind=3->(a.yes=true->a.index=x.2.2.index + x.2.2.aM.length/\min x.2.2.commit (x.2.2.index + x.2.2.aM.length)<=(w.take.R x.2.1).commit)/\(x.2.2.index<=hst w c x.2.1->a.yes=true))/\(x.2.2.kind=5->a.yes=true/\x.2.2.index<=a.index):=by
 have hx:x∈w.q:=by rw [e]; exact List.mem_cons_self
 obtain ⟨hf,hi⟩:=g.lt hx
 have rn:=g.rn hi
 have ti:=s.all _ hi
 rcases dD g e (s.b.fit g h) with ⟨out,e2,o1,o2,o3,_⟩ | ⟨o,hm,r',out,e1,e2,t,ot⟩
 ·have:=o3 ⟨hf.1,by rw [rn.1]; exact hf.2,by rw [rn.2,x1]; exact fun q=>ne q.symm,by omega,by omega⟩
  omega
 ·have et:(w.R x.2.1).term=x.2.2.term:=by omega
  have eR:w.take.R x.2.1=cl r':=by rw [e2]; exact upd_same _ _ _
  rw [RS.l9 et] at e1
  obtain ⟨f1,_,_,_,_,f6,f7,_⟩:=RS.y9 (f:=x.1) et
  by_cases k3:x.2.2.kind=3
  ·rw [RS.BM k3] at e1
   unfold RS.appends RS.mQ at e1
   obtain ⟨p0,pb⟩:0<=x.2.2.index/\x.2.2.index + x.2.2.aM.length<=100000000:=by
    obtain ⟨B,G,q,bb⟩:=g.s
    exact (q.ls x hx).2.2.2.2 k3
   have lx:=g.log hi
   have le:=s.l.l _ hi
   have k3e:=s.l.k3 x hx k3
   by_cases c1:(((w.R x.2.1).dZ x.1 x.2.2).log.append x.2.2.index x.2.2.logTerm x.2.2.aM).2.2≠0
   ·rw [if_pos c1] at e1
    have e4:=(congrArg Prod.snd e1).symm
    dsimp only at e4
    refine ⟨_,by rw [e2,e4]; unfold RS.answer bK; rw [x1]; rfl,rfl,f1.trans xt,fun _=>⟨fun q=>(by cases q),fun q=>?_⟩,fun q=>by omega⟩
    exfalso
    apply c1
    rw [f6]
    unfold Lg.append
    have ap:=xe (ix:=(w.R x.2.1).log.ix) (es:=(w.R x.2.1).log.es) (more:=x.2.2.aM) lx.1 p0 pb x.2.2.aM.length (Nat.le_refl _)
    have ll:(w.R x.2.1).log.last=(w.R x.2.1).log.ix + (w.R x.2.1).log.es.length:=rfl
    rw [if_neg,if_neg]
    ·omega
    ·rintro ⟨q1,q2⟩
     obtain ⟨B,G,z,bb⟩:=g.s
     have m:=z.core.mi _ hi.1 hi.2
     have A:=(z.core.mi c hc.1 hc.2).l1 s.c2
     have ak:=(A.hs x.2.1.toNat (by have:=hi.1; have:=hi.2; omega)).2
     rw [show ((x.2.1.toNat:Nat):Int)=x.2.1 from by have:=hi.1; omega,s.all c hc] at ak
     have a4:=m.a4 x.2.2.index.toNat (by rw [ti]; unfold hst at q; omega)
     obtain ⟨_,_,k1,k2,_⟩:=(z.ls x hx).1.k3 k3
     rw [ti] at a4
     rw [xt] at k1 k2
     have len:=congrArg List.length a4
     rw [List.length_take,List.length_take] at len
     have:(w.R x.2.1).log.mat x.2.2.index x.2.2.logTerm=true:=(m.rep.mat p0).2 ⟨by have:=m.rep.i0; omega,by omega,by rw [E8 a4 (Nat.le_refl _)]; exact k2⟩
     rw [this] at q2; cases q2
   ·rw [if_neg c1] at e1
    have c1:=Decidable.not_not.1 c1
    have e3:=(congrArg Prod.fst e1).symm
    have e4:=(congrArg Prod.snd e1).symm
    dsimp only at e3 e4
    have ei:(((w.R x.2.1).dZ x.1 x.2.2).log.append x.2.2.index x.2.2.logTerm x.2.2.aM).2.1=x.2.2.index + x.2.2.aM.length:=by
     unfold Lg.append at c1 ⊢
     split
     ·rename_i q; rw [if_pos q] at c1; exact absurd c1 (by simp)
     ·rename_i q
      rw [if_neg q] at c1
      split
      ·rename_i q2; rw [if_pos q2] at c1; exact absurd c1 (by simp)
      ·exact tN (by omega) (by omega)
    refine ⟨_,by rw [e2,e4]; unfold RS.answer bK; rw [x1]; rfl,rfl,f1.trans xt,fun _=>⟨fun _=>⟨ei,?_⟩,fun _=>rfl⟩,fun q=>by omega⟩
    rw [eR,e3]
    show _<=max _ (min x.2.2.commit (((w.R x.2.1).dZ x.1 x.2.2).log.append x.2.2.index x.2.2.logTerm x.2.2.aM).2.1)
    rw [ei]; omega
  ·have k5:x.2.2.kind=5:=by omega
   rw [RS.Bp k5] at e1
   unfold RS.dK at e1
   have e4:=(congrArg Prod.snd e1).symm
   dsimp only at e4
   have et2:(((w.R x.2.1).dZ x.1 x.2.2).lV x.2.2).term=T:=by
    have:(((w.R x.2.1).dZ x.1 x.2.2).lV x.2.2).term=((w.R x.2.1).dZ x.1 x.2.2).term:=by unfold RS.lV; split <;> rfl
    rw [this,f1]; exact xt
   have key:x.2.2.index<=(((w.R x.2.1).dZ x.1 x.2.2).lV x.2.2).commit:=by
    unfold RS.lV
    split
    ·exact Int.le_refl _
    ·rename_i q; omega
   exact ⟨_,by rw [e2,e4]; unfold RS.answer bK; rw [x1]; rfl,rfl,by rw [← x1]; exact et2,fun q=>absurd q k3,fun _=>⟨rfl,by rw [← x1]; exact key⟩⟩
/-- what the leader sends to one -/
theorem Cg (s:Sb n T c Λ E L w) (g:Good n N w) (hc:Mb n c) {f:Int} (hf:Mb n f) {r:RS} (e1:r.next=(w.R c).next) (e2:r.log=L) (e3:r.term=T) (e4:r.commit=(w.R c).commit) :
  (r.due f).term=T/\(r.due f).commit=(w.R c).commit/\((nxt w c f<=L.ix/\(r.due f).kind=5/\(r.due f).index=L.ix)∨(L.ix < nxt w c f/\(r.due f).kind=3/\(r.due f).index=nxt w c f - 1/\((r.due f).aM.length:Int)=min 4 (L.last + 1 - nxt w c f))):=by
 have k:=s.kn g hc hf
 have w1:W (nxt w c f - 1)=nxt w c f - 1:=tN (by have:=k.nx; omega) (by have:=k.nx; have:=k.lx; omega)
 unfold RS.due
 rw [e1,e2,e3,e4]
 have nd:(w.R c).next.getD f.toNat 0=nxt w c f:=rfl
 rw [nd]
 by_cases q:nxt w c f<=L.ix
 ·rw [if_pos q]
  exact ⟨rfl,rfl,.inl ⟨q,rfl,rfl⟩⟩
 ·rw [if_neg q]
  refine ⟨rfl,rfl,.inr ⟨by omega,rfl,w1,?_⟩⟩
  show (((L.frm (nxt w c f) 4).1.length:Nat):Int)=_
  have kn:=k.nx
  have kl:=k.lx
  have hlast:L.last=L.ix + L.es.length:=rfl
  have to:(L.aF (nxt w c f - 1)).2=0:=by
   unfold Lg.aF
   rw [if_neg (by omega),if_neg (by omega)]
   split <;> rfl
  unfold Lg.frm
  rw [if_neg (by omega),if_neg (by rw [to]; simp)]
  show ((((L.es.drop (nxt w c f - 1 - L.ix).toNat).take (4:Int).toNat).length:Nat):Int)=_
  rw [List.length_take,List.length_drop]
  omega
end
end Go.Q.Rf
end

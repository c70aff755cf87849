/- A part of the proof of statements of this seat: lemmas, no statement of their own. -/
import Derived.Test.YthjafnfadiijgaaYiZbd
set_option linter.unusedVariables false
set_option linter.unusedSimpArgs false
section
/- A round in which somebody asks for votes in the greatest term. -/
namespace Go.Q.Rf
section
variable {n T Λ E:Int} {N:Nat} {w:PW} {x:Let} {l:List Let}
/-- what a letter does, seen from the world -/
structure Tk (w:PW) (x:Let) (l:List Let) (out:List gQ) (w':PW):Prop where
 q:w'.q=l ++ bK x.2.1 out
 oth:∀ j,j≠x.2.1->w'.R j=w.R j
 ot:∀ y∈out,y.2.term=(w'.R x.2.1).term
 mo:(w.R x.2.1).term<=(w'.R x.2.1).term
 tk:(w'.R x.2.1).ticks=(w.R x.2.1).ticks∨(w'.R x.2.1).ticks=0
 ak:∀ y∈out,y.2.kind≠1
 yes:∀ y∈out,y.2.kind=2->y.2.yes=true->x.2.2.kind=1/\y.1=x.1/\x.2.2.term=y.2.term
 due:∀ y∈out,(y.2.kind=3∨y.2.kind=5)->(w'.R x.2.1).role=2
 kd:∀ y∈out,y.2.kind=2∨y.2.kind=3∨y.2.kind=4∨y.2.kind=5
 r1:(w'.R x.2.1).role=1->(w.R x.2.1).role=1
 r2:(w'.R x.2.1).role=2->(w'.R x.2.1).term=(w.R x.2.1).term/\((w.R x.2.1).role=2∨(w.R x.2.1).role=1/\x.2.2.kind=2/\x.2.2.yes=true/\x.2.2.term=(w.R x.2.1).term/\(w'.R x.2.1).ticks=0/\∀ i,Mb (w.R x.2.1).n i->i≠x.2.1->∃ y∈out,y.1=i/\(y.2.kind=3∨y.2.kind=5))
 tm:RS.Ok (w.R x.2.1) x.1 x.2.2->x.2.2.term<=(w'.R x.2.1).term
 st:(w'.R x.2.1).term=(w.R x.2.1).term∨(w'.R x.2.1).term=x.2.2.term
 tz:(w'.R x.2.1).ticks=(w.R x.2.1).ticks∨x.2.2.kind=1/\(w.R x.2.1).log.newer x.2.2.index x.2.2.logTerm=true∨x.2.2.kind=3∨x.2.2.kind=5∨(w'.R x.2.1).role=2
 lg:x.2.2.kind≠3->x.2.2.kind≠5->(w'.R x.2.1).role≠2->(w'.R x.2.1).log=(w.R x.2.1).log
 ln:out.length<=1∨(w.R x.2.1).role=1/\(w'.R x.2.1).role=2
 vt:x.2.2.kind≠1->(w'.R x.2.1).term=(w.R x.2.1).term->(w'.R x.2.1).aN=(w.R x.2.1).aN
theorem Bs.tk (b:Bs n T Λ w) (g:Good n 1 w) (h:Λ<=2900) (e:w.q=x :: l):∃ out,Tk w x l out w.take:=by
 have hx:x∈w.q:=by rw [e]; exact List.mem_cons_self
 obtain ⟨hf,hi⟩:=g.lt hx
 have rn:=g.rn hi
 rcases dD g e (b.fit g h) with ⟨out,e2,o1,o2,o3,_⟩ | ⟨o,ht,r',out,e1,e2,t,ot⟩
 ·refine ⟨out,?_⟩
  rw [e2]
  exact ⟨rfl,fun _ _=>rfl,fun y hy=>(o1 y hy).2.1,Int.le_refl _,.inl rfl,fun y hy=>by have:=(o1 y hy).2.2.2; omega,fun y hy _ hy2=>(by rw [(o1 y hy).2.2.1] at hy2; cases hy2),fun y hy k=>by have:=(o1 y hy).2.2.2; omega,fun y hy=>by have:=(o1 y hy).2.2.2; omega,fun h=>h,fun h=>⟨rfl,.inl h⟩,fun q=>Int.le_of_lt (o3 q),.inl rfl,.inl rfl,fun _ _ _=>rfl,.inl o2,fun _ _=>rfl⟩
 ·refine ⟨out,?_⟩
  obtain ⟨an,am,al,at0,_⟩:=RS.DJ (r:=w.R x.2.1) (m:=x.2.2)
  have rt:r'.term=x.2.2.term:=t.term.trans (RS.Aa ht)
  have eR:w.take.R x.2.1=cl r':=by rw [e2]; exact upd_same _ _ _
  have ar:=RS.wO (r:=w.R x.2.1) (m:=x.2.2)
  refine ⟨by rw [e2],fun j hj=>by rw [e2]; exact aL hj,fun y hy=>?_,?_,?_,fun y hy=>?_,fun y hy k yy=>?_,fun y hy k=>?_,fun y hy=>?_,fun hr=>?_,fun hr=>?_,fun _=>?_,?_,?_,fun k3 k5 h2=>?_,?_,fun k1 ht'=>?_⟩
  ·rw [eR,ot y hy]; exact rt.symm
  ·rw [eR]; show _<=r'.term; omega
  ·rw [eR]; show r'.ticks=_∨r'.ticks=0; rw [← at0]; exact t.tk
  ·rcases t.kd y hy with q | q | q <;> omega
  ·rcases t.kd y hy with q | q | q
   ·exact ⟨q.2.1,q.2.2,(ot y hy).symm⟩
   ·omega
   ·omega
  ·rw [eR]
   rcases t.kd y hy with q | q | q
   ·omega
   ·omega
   ·exact q.2
  ·rcases t.kd y hy with q | q | q <;> omega
  ·rw [eR] at hr
   rcases ar with p | p
   ·have:=t.r1 hr; omega
   ·rw [← p.1]; exact t.r1 hr
  ·rw [eR] at hr ⊢
   rcases ar with p | p
   ·rcases t.r2 hr with q | q <;> omega
   ·have et:(w.R x.2.1).term=x.2.2.term:=by omega
    refine ⟨by show r'.term=_; omega,?_⟩
    rcases t.r2 hr with q | q
    ·exact .inl (by rw [← p.1]; exact q)
    ·have h1:(w.R x.2.1).role=1:=by rw [← p.1]; exact q.1
     refine .inr ⟨h1,q.2.1,?_,et.symm,q.2.2.2.1,fun i hi ne=>q.2.2.2.2 i ⟨hi.1,by rw [an]; exact hi.2,by rw [am,rn.2]; exact ne⟩⟩
     cases hy:x.2.2.yes with
     | true=>rfl
     | false =>
      have:=q.2.2.1
      rw [RS.vH hy,RS.l9 et,b.nw _ hi h1] at this
      cases this
  ·rw [eR]; show _<=r'.term; omega
  ·right; rw [eR]; exact rt
  ·rw [eR,← at0,← al]
   show r'.ticks=_∨_∨_∨_∨r'.role=2
   exact t.tz.imp id (Or.imp id (Or.imp id (Or.imp id fun q=>q.2)))
  ·rw [eR] at h2 ⊢
   show r'.log=_
   rw [t.lg k3 k5 h2]; exact al
  ·rw [eR]
   refine t.ln.imp id fun q=>⟨?_,q.2.1⟩
   rcases ar with p | p
   ·omega
   ·rw [← p.1]; exact q.1
  ·rw [eR] at ht' ⊢
   have e3:r'.term=(w.R x.2.1).term:=ht'
   show r'.aN=_
   rw [t.vt k1,RS.l9 (by omega)]
/-- who leads in the greatest term leads on -/
theorem rf (b:Bs n T Λ w) (g:Good n 1 w) (h:Λ<=2900) (e:w.q=x :: l) {c:Int} (hc:Mb n c) (h2:(w.R c).role=2) (ht:(w.R c).term=T):(w.take.R c).role=2/\(w.take.R c).term=T:=by
 have hx:x∈w.q:=by rw [e]; exact List.mem_cons_self
 obtain ⟨hf,hi⟩:=g.lt hx
 have rn:=g.rn hi
 by_cases ec:c=x.2.1
 ·subst ec
  rcases dD g e (b.fit g h) with ⟨out,e2,o1,o2,o3⟩ | ⟨o,hm,r',out,e1,e2,t,ot⟩
  ·rw [e2]; exact ⟨h2,ht⟩
  ·have xt:=b.tq x hx
   have et:(w.R x.2.1).term=x.2.2.term:=by omega
   have eR:w.take.R x.2.1=cl r':=by rw [e2]; exact upd_same _ _ _
   have nk:x.2.2.kind≠3/\x.2.2.kind≠5:=by
    obtain ⟨B,G,s,bb⟩:=g.s
    have ld:=((s.core.mi _ hi.1 hi.2).l1 h2).ld
    have L:=(s.ls x hx).1
    have key:G.ld x.2.2.term≠some x.1:=fun q=>by
     rw [et,q] at ld
     exact o.2.2.1 (by rw [rn.2]; exact Option.some.inj ld)
    exact ⟨fun k=>key (L.k3 k).1,fun k=>key (L.k5 k).1⟩
   rw [eR]
   refine ⟨t.r3 (by rw [RS.l9 et]; exact h2) nk.1 nk.2,?_⟩
   show r'.term=T
   rw [t.term,RS.l9 et]; exact ht
 ·obtain ⟨out,k⟩:=b.tk g h e
  rw [k.oth c ec]; exact ⟨h2,ht⟩
/-- does one lead in the greatest term? -/
def ou (n T:Int) (w:PW):Prop:=∃ i,Mb n i/\(w.R i).role=2/\(w.R i).term=T
theorem ou.take (L:ou n T w) (b:Bs n T Λ w) (g:Good n 1 w) (h:Λ<=2900) (e:w.q=x :: l):ou n T w.take:=by
 obtain ⟨c,hc,h2,ht⟩:=L
 have:=rf b g h e hc h2 ht
 exact ⟨c,hc,this.1,this.2⟩
/-- no letter of the greatest term speaks for one that leads, but if one does -/
def Quiet (n T:Int) (w:PW):Prop:=∀ y∈w.q,y.2.2.term=T->y.2.2.kind=3∨y.2.2.kind=5->ou n T w
theorem Quiet.take (Q:Quiet n T w) (b:Bs n T Λ w) (g:Good n 1 w) (h:Λ<=2900) (e:w.q=x :: l):Quiet n T w.take:=by
 have hx:x∈w.q:=by rw [e]; exact List.mem_cons_self
 obtain ⟨hf,hi⟩:=g.lt hx
 obtain ⟨out,k⟩:=b.tk g h e
 intro y hy ht hk
 rw [k.q] at hy
 rcases List.mem_append.1 hy with hy | hy
 ·exact (Q y (by rw [e]; exact List.mem_cons_of_mem _ hy) ht hk).take b g h e
 ·obtain ⟨z,hz,rfl⟩:=List.mem_map.1 hy
  exact ⟨x.2.1,hi,k.due z hz hk,by rw [← k.ot z hz]; exact ht⟩
/-- letters of others, and not yet a win -/
structure E0 (n T Λ E:Int) (w:PW):Prop where
 b:Bs n T Λ w
 l:Len n E w
 nl:¬ ou n T w
 q:Quiet n T w
theorem BA (h:Λ<=2900) (g:Good n 1 w) (i:E0 n T Λ E w) (e:w.q=x :: l) (p:¬ (x.2.2.kind=2/\x.2.2.yes=true)):E0 n T Λ E w.take:=by
 have hx:x∈w.q:=by rw [e]; exact List.mem_cons_self
 obtain ⟨hf,hi⟩:=g.lt hx
 obtain ⟨out,k⟩:=i.b.tk g h e
 refine ⟨i.b.take g h e,?_,?_,i.q.take i.b g h e⟩
 ·rcases i.l.take i.b g h e with q | q
  ·exact q
  ·exact absurd ⟨q.2.2.1,q.2.2.2.1⟩ p
 ·rintro ⟨c,hc,h2,ht⟩
  by_cases ec:c=x.2.1
  ·subst ec
   obtain ⟨q1,q2⟩:=k.r2 h2
   rcases q2 with q2 | q2
   ·exact i.nl ⟨_,hc,q2,by omega⟩
   ·exact p ⟨q2.2.1,q2.2.2.1⟩
  ·rw [k.oth c ec] at h2 ht
   exact i.nl ⟨c,hc,h2,ht⟩
/-- the asks come -/
theorem Mm (h:Λ<=2900) (g:Good n (N + w.q.length) w) (i:E0 n T Λ E w) (p:∀ x∈w.q,¬ (x.2.2.kind=2/\x.2.2.yes=true)) {c:Int} (hc:Mb n c) (ct:(w.R c).term=T) (ca:∀ j,Mb n j->j≠c->∃ m,(c,j,m)∈w.q/\m.kind=1/\m.term=T) :
  Good n N (dl w.q.length w)/\E0 n T Λ E (dl w.q.length w)/\(∀ y∈(dl w.q.length w).q,y.2.2.kind≠1)/\∀ j,Mb n j->((dl w.q.length w).R j).term=T:=by
 obtain ⟨g',i',hp,hd,hk⟩:=rC (I:=fun w=>E0 n T Λ E w/\(w.R c).term=T) (P0:=fun x=>¬ (x.2.2.kind=2/\x.2.2.yes=true)) (P:=fun _ y=>y.2.2.kind≠1) (D:=fun y w=>Mb n y.2.1->y.1=c->y.2.1≠c->y.2.2.kind=1->y.2.2.term=T->(w.R y.2.1).term=T)
  (fun w x l g i e p=>by
   have hx:x∈w.q:=by rw [e]; exact List.mem_cons_self
   obtain ⟨hf,hi⟩:=g.lt hx
   obtain ⟨out,k⟩:=i.1.b.tk g h e
   have i':=BA h g i.1 e p
   have mono:∀ j,Mb n j->(w.R j).term=T->(w.take.R j).term=T:=fun j hj ht=>by
    have u:=i'.b.tr j hj
    by_cases ej:j=x.2.1
    ·subst ej; have:=k.mo; omega
    ·rw [k.oth j ej]; exact ht
   refine ⟨⟨i',mono c hc i.2⟩,⟨_,k.q,fun y hy=>?_⟩,fun y hy=>hy,fun hj e1 ne k1 kt=>?_,fun y hy hj e1 ne k1 kt=>mono _ hj (hy hj e1 ne k1 kt)⟩
   ·obtain ⟨z,hz,rfl⟩:=List.mem_map.1 hy
    exact k.ak z hz
   ·have:=k.tm ⟨hf.1,by rw [(g.rn hi).1]; exact hf.2,by rw [(g.rn hi).2,e1]; exact fun q=>ne q.symm,by omega,by omega⟩
    have u:=i'.b.tr _ hi
    omega) g ⟨i,ct⟩ p
 refine ⟨g',i'.1,hp,fun j hj=>?_⟩
 by_cases ec:j=c
 ·rw [ec]; exact i'.2
 ·obtain ⟨m,m1,m2,m3⟩:=ca j hj ec
  exact hd _ m1 hj rfl ec m2 m3
/-- all are in one term; if one leads, it has told the others, or its letters are on their way -/
structure E1 (n T Λ E:Int) (w:PW):Prop where
 b:Bs n T Λ w
 all:∀ j,Mb n j->(w.R j).term=T
 l:Len n (E + 1) w
 l0:¬ ou n T w->Len n E w
 q:Quiet n T w
 k:∀ c,Mb n c->(w.R c).role=2->(w.R c).ticks=0/\∀ j,Mb n j->j≠c->(w.R j).ticks=0∨∃ m,(c,j,m)∈w.q/\(m.kind=3∨m.kind=5)/\m.term=T
theorem rT (h:Λ<=2900) (g:Good n 1 w) (i:E1 n T Λ E w) (e:w.q=x :: l):E1 n T Λ E w.take:=by
 have hx:x∈w.q:=by rw [e]; exact List.mem_cons_self
 obtain ⟨hf,hi⟩:=g.lt hx
 have g':=g.take (N:=0)
 obtain ⟨out,k⟩:=i.b.tk g h e
 have b':=i.b.take g h e
 have all':∀ j,Mb n j->(w.take.R j).term=T:=fun j hj=>by
  have u:=b'.tr j hj
  have a:=i.all j hj
  by_cases ej:j=x.2.1
  ·subst ej; have:=k.mo; omega
  ·rw [k.oth j ej]; exact a
 have won:(w.R x.2.1).role=1->(w.take.R x.2.1).role=2->¬ ou n T w:=fun h1 h2 ⟨c,hc,c2,ct⟩=>by
  have k1:=rf i.b g h e hc c2 ct
  have:=g'.one hc hi k1.1 h2 (by rw [k1.2,all' _ hi])
  subst this
  omega
 refine ⟨b',all',?_,fun nl=>?_,i.q.take i.b g h e,fun c hc c2=>?_⟩
 ·by_cases L:ou n T w
  ·rcases i.l.take i.b g h e with q | q
   ·exact q
   ·exact absurd L (won q.1 q.2.1)
  ·rcases (i.l0 L).take i.b g h e with q | q
   ·exact q.mono (by omega)
   ·exact q.2.2.2.2.2.2
 ·have L:¬ ou n T w:=fun q=>nl (q.take i.b g h e)
  rcases (i.l0 L).take i.b g h e with q | q
  ·exact q
  ·exact absurd ⟨_,hi,q.2.1,all' _ hi⟩ nl
 ·-- who leads
  by_cases ec:(w.R c).role=2
  ·obtain ⟨t0,kk⟩:=i.k c hc ec
   have zero:∀ j,(w.R j).ticks=0->(w.take.R j).ticks=0:=fun j hj=>by
    by_cases ej:j=x.2.1
    ·subst ej
     rcases k.tk with q | q
     ·rw [q]; exact hj
     ·exact q
    ·rw [k.oth j ej]; exact hj
   refine ⟨zero c t0,fun j hj ne=>?_⟩
   rcases kk j hj ne with q | ⟨m,m1,m2,m3⟩
   ·exact .inl (zero j q)
   ·rw [e] at m1
    rcases List.mem_cons.1 m1 with m1 | m1
    ·left
     subst m1
     rcases dD g e (i.b.fit g h) with ⟨out',e2,o1,o2,o3,_⟩ | ⟨o,ht,r',out',e1,e2,t,ot⟩
     ·have:=o3 ⟨hf.1,by rw [(g.rn hi).1]; exact hf.2,by rw [(g.rn hi).2]; exact fun q=>ne q.symm,by dsimp only; omega,by dsimp only; omega⟩
      have a:=i.all j hj
      dsimp only at this
      omega
     ·rw [e2]
      show (upd w.R j (cl r') j).ticks=0
      rw [upd_same]
      exact (t.r5 m2).2
    ·right
     exact ⟨m,by rw [k.q]; exact List.mem_append.2 (.inl m1),m2,m3⟩
  ·by_cases ej:c=x.2.1
   ·subst ej
    obtain ⟨r1,r2⟩:=k.r2 c2
    rcases r2 with r2 | r2
    ·exact absurd r2 ec
    ·refine ⟨r2.2.2.2.2.1,fun j hj ne=>.inr ?_⟩
     obtain ⟨y,hy,y1,y2⟩:=r2.2.2.2.2.2 j (by rw [(g.rn hi).1]; exact hj) ne
     refine ⟨y.2,?_,y2,by rw [k.ot y hy]; exact all' _ hi⟩
     rw [k.q]
     refine List.mem_append.2 (.inr (List.mem_map.2 ⟨y,hy,?_⟩))
     rw [y1]
   ·rw [k.oth c ej] at c2; exact absurd c2 ec
/-- what comes of it: one leads, and all have heard of it; or none, and nothing is on its way -/
structure xW (n T Λ E:Int) (w:PW):Prop where
 b:Bs n T Λ w
 all:∀ j,Mb n j->(w.R j).term=T
 r:(∃ c,Mb n c/\(w.R c).role=2/\(∀ j,Mb n j->(w.R j).ticks=0)/\Len n (E + 1) w)∨((∀ j,Mb n j->(w.R j).role≠2)/\w.q=[]/\Len n E w)
theorem JX (h:3 * Λ<=2000) (g:Good n (N + 2000) w) (i:E0 n T Λ E w) (p:∀ x∈w.q,¬ (x.2.2.kind=2/\x.2.2.yes=true)) {c:Int} (hc:Mb n c) (ct:(w.R c).term=T) (ca:∀ j,Mb n j->j≠c->∃ m,(c,j,m)∈w.q/\m.kind=1/\m.term=T) :
  Good n N (dl 2000 w)/\xW n T Λ E (dl 2000 w):=by
 have hb:∀ {w':PW} {N':Nat},Bs n T Λ w'->Good n N' w'->(w'.q.length:Int)<=Λ:=fun b g=>by have:=b.pt; have:=uy g; omega
 have l0:=hb i.b g
 obtain ⟨g1,i1,p1,t1⟩:=Mm (N:=N + (2000 - w.q.length)) (by omega) (by rw [show N + (2000 - w.q.length) + w.q.length=N + 2000 from by omega]; exact g) i p hc ct ca
 obtain ⟨w1,e1⟩:∃ w1,w1=dl w.q.length w:=⟨_,rfl⟩
 rw [← e1] at g1 i1 p1 t1
 have l1:=hb i1.b g1
 have L1:E1 n T Λ E w1:=⟨i1.b,t1,i1.l.mono (by omega),fun _=>i1.l,i1.q,fun c hc c2=>absurd ⟨c,hc,c2,t1 c hc⟩ i1.nl⟩
 -- the votes come
 obtain ⟨g2,i2,p2,d2,k2⟩:=rC (N:=N + (2000 - w.q.length - w1.q.length)) (I:=E1 n T Λ E) (P0:=fun x=>x.2.2.kind≠1) (P:=fun w y=>(¬ (y.2.2.kind=2/\y.2.2.yes=true))/\(ou n T w∨y.2.2.kind=2∨y.2.2.kind=4)) (D:=fun _ _=>True)
  (fun w x l g i e p=>by
   have hx:x∈w.q:=by rw [e]; exact List.mem_cons_self
   obtain ⟨hf,hi⟩:=g.lt hx
   obtain ⟨out,k⟩:=i.b.tk g (by omega) e
   have i':=rT (by omega) g i e
   refine ⟨i',⟨_,k.q,fun y hy=>?_⟩,fun y hy=>⟨hy.1,hy.2.imp (fun L=>L.take i.b g (by omega) e) id⟩,trivial,fun _ _=>trivial⟩
   obtain ⟨z,hz,rfl⟩:=List.mem_map.1 hy
   refine ⟨fun q=>p (k.yes z hz q.1 q.2).1,?_⟩
   rcases k.kd z hz with q | q | q | q
   ·exact .inr (.inl q)
   ·exact .inl ⟨_,hi,k.due z hz (.inl q),i'.all _ hi⟩
   ·exact .inr (.inr q)
   ·exact .inl ⟨_,hi,k.due z hz (.inr q),i'.all _ hi⟩) (by rw [show N + (2000 - w.q.length - w1.q.length) + w1.q.length=N + (2000 - w.q.length) from by omega]; exact g1) L1 p1
 obtain ⟨w2,e2⟩:∃ w2,w2=dl w1.q.length w1:=⟨_,rfl⟩
 rw [← e2] at g2 i2 p2
 have l2:=hb i2.b g2
 obtain ⟨rest,er⟩:∃ rest,rest=2000 - w.q.length - w1.q.length - w2.q.length:=⟨_,rfl⟩
 have ed:dl 2000 w=dl rest (dl w2.q.length w2):=by
  rw [show 2000=w.q.length + (w1.q.length + (w2.q.length + rest)) from by omega,nG,← e1,nG,← e2,nG]
 rw [ed]
 by_cases L:ou n T w2
 ·obtain ⟨c,hc,c2,ct⟩:=L
  -- its letters come
  obtain ⟨g3,i3,_,d3,_⟩:=rC (N:=N + rest) (I:=fun w=>E1 n T Λ E w/\(w.R c).role=2) (P0:=fun _=>True) (P:=fun _ _=>True) (D:=fun y w=>Mb n y.2.1->y.1=c->y.2.1≠c->(y.2.2.kind=3∨y.2.2.kind=5)->y.2.2.term=T->(w.R y.2.1).ticks=0)
   (fun w x l g i e _=>by
    have hx:x∈w.q:=by rw [e]; exact List.mem_cons_self
    obtain ⟨hf,hi⟩:=g.lt hx
    obtain ⟨out,k⟩:=i.1.b.tk g (by omega) e
    have i':=rT (by omega) g i.1 e
    have zero:∀ j,(w.R j).ticks=0->(w.take.R j).ticks=0:=fun j hj=>by
     by_cases ej:j=x.2.1
     ·subst ej
      rcases k.tk with q | q
      ·rw [q]; exact hj
      ·exact q
     ·rw [k.oth j ej]; exact hj
    refine ⟨⟨i',(rf i.1.b g (by omega) e hc i.2 (i.1.all c hc)).1⟩,⟨_,k.q,fun _ _=>trivial⟩,fun _ _=>trivial,fun hj e1 ne k1 kt=>?_,fun y hy hj e1 ne k1 kt=>zero _ (hy hj e1 ne k1 kt)⟩
    rcases dD g e (i.1.b.fit g (by omega)) with ⟨out',e2,o1,o2,o3,_⟩ | ⟨o,ht,r',out',e1,e2,t,ot⟩
    ·have:=o3 ⟨hf.1,by rw [(g.rn hi).1]; exact hf.2,by rw [(g.rn hi).2,e1]; exact fun q=>ne q.symm,by omega,by omega⟩
     have a:=i.1.all _ hi
     omega
    ·rw [e2]
     show (upd w.R x.2.1 (cl r') x.2.1).ticks=0
     rw [upd_same]
     exact (t.r5 k1).2) (by rw [show N + rest + w2.q.length=N + (2000 - w.q.length - w1.q.length) from by omega]; exact g2) ⟨i2,c2⟩ (fun _ _=>trivial)
  obtain ⟨w3,e3⟩:∃ w3,w3=dl w2.q.length w2:=⟨_,rfl⟩
  -- all have heard
  have z3:∀ j,Mb n j->(w3.R j).ticks=0:=fun j hj=>by
   by_cases ej:j=c
   ·rw [ej,e3]; exact (i3.1.k c hc i3.2).1
   ·rcases (i2.k c hc c2).2 j hj ej with q | ⟨m,m1,m2,m3⟩
    ·-- it was 0, and stays so
     have:=dlI (N:=N + rest) (n:=n) (I:=fun w=>Bs n T Λ w/\(w.R j).ticks=0) (fun w x l g i e=>by
      obtain ⟨out,k⟩:=i.1.tk g (by omega) e
      refine ⟨i.1.take g (by omega) e,?_⟩
      by_cases ej:j=x.2.1
      ·subst ej
       rcases k.tk with q | q
       ·rw [q]; exact i.2
       ·exact q
      ·rw [k.oth j ej]; exact i.2) w2.q.length w2 (by rw [show N + rest + w2.q.length=N + (2000 - w.q.length - w1.q.length) from by omega]; exact g2) ⟨i2.b,q⟩
     rw [e3]; exact this.2.2
    ·rw [e3]; exact d3 _ m1 hj rfl ej m2 m3
  rw [← e3] at g3 i3 ⊢
  obtain ⟨g4,i4⟩:=dlI (N:=N) (n:=n) (I:=fun w=>(E1 n T Λ E w/\(w.R c).role=2)/\∀ j,Mb n j->(w.R j).ticks=0) (fun w x l g i e=>by
   obtain ⟨out,k⟩:=i.1.1.b.tk g (by omega) e
   refine ⟨⟨rT (by omega) g i.1.1 e,(rf i.1.1.b g (by omega) e hc i.1.2 (i.1.1.all c hc)).1⟩,fun j hj=>?_⟩
   by_cases ej:j=x.2.1
   ·subst ej
    rcases k.tk with q | q
    ·rw [q]; exact i.2 _ hj
    ·exact q
   ·rw [k.oth j ej]; exact i.2 j hj) rest w3 g3 ⟨i3,z3⟩
  exact ⟨g4,i4.1.1.b,i4.1.1.all,.inl ⟨c,hc,i4.1.2,i4.2,i4.1.1.l⟩⟩
 ·obtain ⟨g3,i3,p3,_⟩:=rC (N:=N + rest) (I:=fun w=>E1 n T Λ E w/\¬ ou n T w) (P0:=fun y=>(¬ (y.2.2.kind=2/\y.2.2.yes=true))/\(y.2.2.kind=2∨y.2.2.kind=4)) (P:=fun _ _=>False) (D:=fun _ _=>True)
   (fun w x l g i e p=>by
    have hx:x∈w.q:=by rw [e]; exact List.mem_cons_self
    obtain ⟨hf,hi⟩:=g.lt hx
    have e0:=BA (by omega) g ⟨i.1.b,i.1.l0 i.2,i.2,i.1.q⟩ e p.1
    have i':=rT (by omega) g i.1 e
    refine ⟨⟨i',e0.nl⟩,?_,fun _ h=>h.elim,trivial,fun _ _=>trivial⟩
    rcases dD g e (i.1.b.fit g (by omega)) with ⟨out',e2,o1,o2,o3,_⟩ | ⟨o,ht,r',out',e1,e2,t,ot⟩
    ·refine ⟨bK x.2.1 out',by rw [e2],fun y hy=>?_⟩
     obtain ⟨z,hz,rfl⟩:=List.mem_map.1 hy
     have:=(o1 z hz).2.2.2; have:=p.2; omega
    ·refine ⟨bK x.2.1 out',by rw [e2],fun y hy=>?_⟩
     obtain ⟨z,hz,rfl⟩:=List.mem_map.1 hy
     have p2:=p.2
     rcases t.kd z hz with q | q | q
     ·omega
     ·omega
     ·exact e0.nl ⟨_,hi,by rw [e2]; show (upd w.R x.2.1 (cl r') x.2.1).role=2; rw [upd_same]; exact q.2,i'.all _ hi⟩) (by rw [show N + rest + w2.q.length=N + (2000 - w.q.length - w1.q.length) from by omega]; exact g2) ⟨i2,L⟩ (fun y hy=>⟨(p2 y hy).1,(p2 y hy).2.resolve_left L⟩)
  have q3:(dl w2.q.length w2).q=[]:=by
   cases hq:(dl w2.q.length w2).q with
   | nil=>rfl
   | cons y q=>exact (p3 y (by rw [hq]; exact List.mem_cons_self)).elim
  rw [BF rest _ q3]
  exact ⟨g3.mono (by omega),i3.1.b,i3.1.all,.inr ⟨fun j hj h2=>i3.2 ⟨j,hj,h2,i3.1.all j hj⟩,q3,i3.1.l0 i3.2⟩⟩
end
end Go.Q.Rf
end
section
/- All are in one term, none leads, nothing is on its way: until one leads. -/
namespace Go.Q.Rf
/-- a log is at most another -/
def lle (a b:Lg):Prop:=a.newer b.last b.lastT=true
theorem xV {a b:Lg}:lle a b ↔ b.lastT > a.lastT∨b.lastT=a.lastT/\b.last>=a.last:=by
 unfold lle Lg.newer
 simp only [Bool.or_eq_true,decide_eq_true_eq,Bool.and_eq_true,beq_iff_eq]
theorem zu (a:Lg):lle a a:=xV.2 (by omega)
theorem xh {a b c:Lg} (h:lle a b) (k:lle b c):lle a c:=by rw [xV] at *; omega
theorem FI (a b:Lg):lle a b∨lle b a:=by rw [xV,xV]; omega
/-- a round without proposals -/
def rnd (n:Int) (w:PW):PW:=dl 2000 (tks n.toNat w)
structure Nn (n T E:Int) (w:PW):Prop where
 b:Bs n T 50 w
 all:∀ j,Mb n j->(w.R j).term=T
 nl:∀ j,Mb n j->(w.R j).role≠2
 q:w.q=[]
 l:Len n E w
section
variable {n T Λ E:Int} {N:Nat} {w:PW}
theorem uW (g:Good n N w):tL n w.R<=10 * n:=by
 have n1:=g.n1
 have:=uf (f:=fun i=>pot (w.R i)) (g:=fun _=>10) n.toNat fun j h0 h1=>Em (g.tk j ⟨h0,by omega⟩)
 rw [mI] at this
 unfold tL
 omega
/-- what the ticks of such a world are -/
structure Nt (n T E:Int) (w W:PW):Prop where
 b:Bs n (T + 1) 60 W
 l:Len n E W
 c:∀ j,Mb n j->bX (w.R j)->Cmp (w.R j) (W.R j)
 d:∀ j,Mb n j->¬ bX (w.R j)->W.R j = { w.R j with ticks:=(w.R j).ticks + 1 }
 q:∀ y∈W.q,Mb n y.1/\bX (w.R y.1)/\y.2.2=ask (w.R y.1)/\y.2.1≠y.1
 a:∀ c,Mb n c->bX (w.R c)->∀ j,Mb n j->j≠c->(c,j,ask (w.R c))∈W.q
theorem yK (n2:2<=n) (g:Good n (N + 2 * n.toNat) w) (i:Nn n T E w):Good n N (tks n.toNat w)/\Nt n T E w (tks n.toNat w):=by
 have n1:=g.n1
 have ps:=uW g
 have ql:w.q.length=0:=by rw [i.q]; rfl
 obtain ⟨t,g',p'⟩:=mJ (N:=N) n.toNat (by omega) g (by omega)
 have b':=zi n2 g (T':=T + 1) i.b (by omega) (by omega) fun j hj _=>by rw [i.all j hj]; exact Int.le_refl _
 have l':=wG n2 g i.l (by omega)
 have mb:∀ j,Mb n j->0<=j/\j < (n.toNat:Int):=fun j hj=>by unfold Mb at hj; omega
 refine ⟨g',⟨⟨b'.tr,b'.tq,b'.nw,b'.vl,by omega⟩,l',fun j hj c=>?_,fun j hj c=>?_,fun y hy=>?_,fun c hc cc j hj ne=>?_⟩⟩
 ·have k:=(jR (by rw [(g.rn hj).1]; exact n2) (g.tm hj) c).1
  rw [t.a j (mb j hj)]
  exact ⟨k.term,k.role,k.ticks,k.aN,k.ballot,k.log,k.me,k.n,k.commit⟩
 ·rw [t.a j (mb j hj),nA c]
  have:=g.k0 j hj
  unfold cl
  rw [← this]
 ·obtain ⟨new,q1,q2,q3⟩:=t.q
  rw [q1,i.q,List.nil_append] at hy
  obtain ⟨m1,m2⟩:=q2 y hy
  have hj:Mb n y.1:=⟨m1.1,by omega⟩
  by_cases c:bX (w.R y.1)
  ·rw [(jR (by rw [(g.rn hj).1]; exact n2) (g.tm hj) c).2] at m2
   have om:=RS.jC m2
   exact ⟨hj,c,om.1,by rw [(g.rn hj).2] at om; exact om.2.2.2⟩
  ·rw [mX c (fun h=>i.nl _ hj h.1)] at m2; cases m2
 ·obtain ⟨new,q1,q2,q3⟩:=t.q
  rw [q1]
  refine List.mem_append.2 (.inr (q3 c (j,ask (w.R c)) (mb c hc) ?_))
  rw [(jR (by rw [(g.rn hc).1]; exact n2) (g.tm hc) cc).2]
  exact RS.sW (g:=fun _=>ask (w.R c)) ⟨hj.1,by rw [(g.rn hc).1]; exact hj.2,by rw [(g.rn hc).2]; exact ne⟩
theorem uR (r:RS):(ask r).kind=1/\(ask r).term=r.term + 1/\(ask r).index=r.log.last/\(ask r).logTerm=r.log.lastT:=⟨rfl,rfl,rfl,rfl⟩
theorem Mg (n2:2<=n) (g:Good n (N + 2 * n.toNat) w) (i:Nn n T E w):E0 n (T + 1) 60 E (tks n.toNat w):=by
 obtain ⟨g',t⟩:=yK n2 g i
 refine ⟨t.b,t.l,fun ⟨c,hc,c2,ct⟩=>?_,fun y hy _ k=>?_⟩
 ·by_cases h:bX (w.R c)
  ·rw [(t.c c hc h).role] at c2; omega
  ·rw [t.d c hc h] at c2; exact i.nl c hc c2
 ·obtain ⟨_,_,e,_⟩:=t.q y hy
  rw [e,(uR _).1] at k
  omega
/-- nobody campaigns: one tick more -/
theorem Di (n2:2<=n) (g:Good n (N + 2 * n.toNat) w) (i:Nn n T E w) (h:∀ j,Mb n j->¬ bX (w.R j)):Nn n T E (rnd n w)/\Good n N (rnd n w)/\∀ j,Mb n j->(rnd n w).R j = { w.R j with ticks:=(w.R j).ticks + 1 }:=by
 obtain ⟨g',t⟩:=yK n2 g i
 have q0:(tks n.toNat w).q=[]:=by
  cases hq:(tks n.toNat w).q with
  | nil=>rfl
  | cons y q =>
   obtain ⟨a,b,_⟩:=t.q y (by rw [hq]; exact List.mem_cons_self)
   exact absurd b (h _ a)
 have e:rnd n w=tks n.toNat w:=BF _ _ q0
 rw [e]
 have n1:=g.n1
 have nl:∀ j,Mb n j->((tks n.toNat w).R j).role≠2:=fun j hj=>by rw [t.d j hj (h j hj)]; exact i.nl j hj
 have all:∀ j,Mb n j->((tks n.toNat w).R j).term=T:=fun j hj=>by rw [t.d j hj (h j hj)]; exact i.all j hj
 refine ⟨⟨⟨fun j hj=>by rw [all j hj]; exact Int.le_refl _,fun x hx=>(by rw [q0] at hx; cases hx),t.b.nw,t.b.vl,?_⟩,all,nl,q0,t.l⟩,g',fun j hj=>t.d j hj (h j hj)⟩
 have:=uW g'
 rw [q0]
 show (0:Int) + _<=_
 omega
/-- logs stay, and who hears of a log as long as its own begins to wait anew -/
structure Fl (n:Int) (w W w':PW):Prop where
 m:∀ j,Mb n j->(w'.R j).log=(w.R j).log/\((w'.R j).ticks=(W.R j).ticks∨(w'.R j).ticks=0/\∃ c,Mb n c/\bX (w.R c)/\lle (w.R j).log (w.R c).log)
 a:∀ y∈w'.q,y.2.2.kind=1->Mb n y.1/\bX (w.R y.1)/\y.2.2.index=(w.R y.1).log.last/\y.2.2.logTerm=(w.R y.1).log.lastT
 k:∀ y∈w'.q,y.2.2.kind≠3/\y.2.2.kind≠5
theorem Fl.take {W w':PW} {x:Let} {l:List Let} (F:Fl n w W w') (b:Bs n T Λ w') (g:Good n 1 w') (h:Λ<=2900) (e:w'.q=x :: l) (h2:(w'.take.R x.2.1).role≠2):Fl n w W w'.take:=by
 have hx:x∈w'.q:=by rw [e]; exact List.mem_cons_self
 obtain ⟨out,k⟩:=b.tk g h e
 obtain ⟨k3,k5⟩:=F.k x hx
 refine ⟨fun j hj=>?_,fun y hy y1=>?_,fun y hy=>?_⟩
 ·by_cases ej:j=x.2.1
  ·subst ej
   obtain ⟨a1,a2⟩:=F.m _ hj
   refine ⟨(k.lg k3 k5 h2).trans a1,?_⟩
   rcases k.tz with q | q | q | q | q
   ·rw [q]; exact a2
   ·rcases k.tk with z | z
    ·rw [z]; exact a2
    ·refine .inr ⟨z,x.1,(F.a x hx q.1).1,(F.a x hx q.1).2.1,?_⟩
     have:=q.2
     rw [a1,(F.a x hx q.1).2.2.1,(F.a x hx q.1).2.2.2] at this
     exact this
   ·exact absurd q k3
   ·exact absurd q k5
   ·exact absurd q h2
  ·rw [k.oth j ej]; exact F.m j hj
 ·rw [k.q] at hy
  rcases List.mem_append.1 hy with hy | hy
  ·exact F.a y (by rw [e]; exact List.mem_cons_of_mem _ hy) y1
  ·obtain ⟨z,hz,rfl⟩:=List.mem_map.1 hy
   exact absurd y1 (k.ak z hz)
 ·rw [k.q] at hy
  rcases List.mem_append.1 hy with hy | hy
  ·exact F.k y (by rw [e]; exact List.mem_cons_of_mem _ hy)
  ·obtain ⟨z,hz,rfl⟩:=List.mem_map.1 hy
   exact ⟨fun q=>h2 (k.due z hz (.inl q)),fun q=>h2 (k.due z hz (.inr q))⟩
/-- while the asks come: who voted in the new term begins to wait anew; with one candidate alone, all votes are its -/
structure Vt (n T:Int) (w w':PW):Prop where
 r:∀ j,Mb n j->(w'.R j).role≠2
 v:∀ j,Mb n j->(w'.R j).term=T->(w'.R j).aN≠0->(w'.R j).ticks=0
 t:∀ y∈w'.q,y.2.2.kind=1->y.2.2.term=T
/-- somebody campaigns -/
theorem xU (n2:2<=n) (g:Good n (N + 2000 + 2 * n.toNat) w) (i:Nn n T E w) {c:Int} (hc:Mb n c) (cc:bX (w.R c)) :
  Good n N (rnd n w)/\xW n (T + 1) 60 E (rnd n w)/\((∀ j,Mb n j->((rnd n w).R j).role≠2)->Nn n (T + 1) E (rnd n w)/\Fl n w (tks n.toNat w) (rnd n w) /\
   ((∀ j,Mb n j->lle (w.R j).log (w.R c).log)->(∀ j,Mb n j->((rnd n w).R j).ticks=0)/\∃ d,Mb n d/\bX (w.R d)/\d≠c)):=by
 obtain ⟨g0,t⟩:=yK (N:=N + 2000) n2 g i
 have e0:=Mg n2 g i
 have n1:=g.n1
 have kk:=t.c c hc cc
 have p:∀ x∈(tks n.toNat w).q,¬ (x.2.2.kind=2/\x.2.2.yes=true):=fun x hx q=>by
  obtain ⟨_,_,e,_⟩:=t.q x hx
  rw [e,(uR _).1] at q; omega
 have ct:((tks n.toNat w).R c).term=T + 1:=by rw [kk.term,i.all c hc]
 have ca:∀ j,Mb n j->j≠c->∃ m,(c,j,m)∈(tks n.toNat w).q/\m.kind=1/\m.term=T + 1:=fun j hj ne=>⟨_,t.a c hc cc j hj ne,rfl,by rw [(uR _).2.1,i.all c hc]⟩
 obtain ⟨g9,el⟩:=JX (N:=N) (by omega) g0 e0 p hc ct ca
 rw [show dl 2000 (tks n.toNat w)=rnd n w from rfl] at g9 el
 refine ⟨g9,el,fun nl=>?_⟩
 have NL:¬ ou n (T + 1) (rnd n w):=fun ⟨d,hd,d2,_⟩=>nl d hd d2
 obtain ⟨q9,len9⟩:(rnd n w).q=[]/\Len n E (rnd n w):=by
  rcases el.r with ⟨d,hd,d2,_⟩ | ⟨_,a,b⟩
  ·exact absurd d2 (nl d hd)
  ·exact ⟨a,b⟩
 -- the asks
 obtain ⟨W,eW⟩:∃ W,W=tks n.toNat w:=⟨_,rfl⟩
 have er:rnd n w=dl 2000 W:=by unfold rnd; rw [eW]
 rw [← eW] at t e0 p ct ca g0 kk
 have hb:∀ {w':PW} {N':Nat},Bs n (T + 1) 60 w'->Good n N' w'->(w'.q.length:Int)<=60:=fun b g=>by have:=b.pt; have:=uy g; omega
 have l0:=hb t.b g0
 have F0:Fl n w W W:=by
  refine ⟨fun j hj=>⟨?_,.inl rfl⟩,fun y hy k=>?_,fun y hy=>?_⟩
  ·by_cases h:bX (w.R j)
   ·exact (t.c j hj h).log
   ·rw [t.d j hj h]
  ·obtain ⟨a,b,e,_⟩:=t.q y hy
   rw [e]; exact ⟨a,b,rfl,rfl⟩
  ·obtain ⟨a,b,e,_⟩:=t.q y hy
   rw [e,(uR _).1]; omega
 have V0:Vt n (T + 1) w W:=by
  refine ⟨fun j hj h2=>?_,fun j hj ht hv=>?_,fun y hy k=>?_⟩
  ·by_cases h:bX (w.R j)
   ·rw [(t.c j hj h).role] at h2; omega
   ·rw [t.d j hj h] at h2; exact i.nl j hj h2
  ·by_cases h:bX (w.R j)
   ·exact (t.c j hj h).ticks
   ·rw [t.d j hj h] at ht
    have:(w.R j).term=T + 1:=ht
    rw [i.all j hj] at this; omega
  ·obtain ⟨a,b,e,_⟩:=t.q y hy
   rw [e,(uR _).2.1,i.all _ a]
 have P0:∀ x∈W.q,x.2.2.kind=1:=fun x hx=>by
  obtain ⟨a,b,e,_⟩:=t.q x hx
  rw [e]; rfl
 -- one step while the asks come
 have st:∀ w' x l,Good n 1 w'->(E0 n (T + 1) 60 E w'/\Fl n w W w'/\Vt n (T + 1) w w')->w'.q=x :: l->x.2.2.kind=1->E0 n (T + 1) 60 E w'.take/\Fl n w W w'.take/\Vt n (T + 1) w w'.take:=fun w' x l g ⟨i,F,V⟩ e p=>by
  have hx:x∈w'.q:=by rw [e]; exact List.mem_cons_self
  obtain ⟨hf,hi⟩:=g.lt hx
  obtain ⟨out,k⟩:=i.b.tk g (by omega) e
  have h2:(w'.take.R x.2.1).role≠2:=fun h=>by
   rcases (k.r2 h).2 with q | q
   ·exact V.r _ hi q
   ·omega
  refine ⟨BA (by omega) g i e (by omega),F.take i.b g (by omega) e h2,fun j hj=>?_,fun j hj ht hv=>?_,fun y hy y1=>?_⟩
  ·by_cases ej:j=x.2.1
   ·rw [ej]; exact h2
   ·rw [k.oth j ej]; exact V.r j hj
  ·by_cases ej:j=x.2.1
   ·subst ej
    rcases dD g e (i.b.fit g (by omega)) with ⟨out',e2,o1,o2,o3,_⟩ | ⟨o,hm,r',out',e1,e2,t2,ot⟩
    ·rw [e2] at ht hv ⊢; exact V.v _ hj ht hv
    ·have eR:w'.take.R x.2.1=cl r':=by rw [e2]; exact upd_same _ _ _
     rw [eR] at hv ⊢
     rw [RS.tC p] at e1
     unfold RS.lv at e1
     by_cases vv:((w'.R x.2.1).at' x.2.2).mP x.1 x.2.2=true
     ·rw [if_pos vv] at e1
      have e3:=(congrArg Prod.fst e1).symm
      dsimp only at e3
      rw [e3]
      split <;> rfl
     ·rw [if_neg vv] at e1
      have e3:=(congrArg Prod.fst e1).symm
      dsimp only at e3
      have xt:=V.t x hx p
      by_cases en:(w'.R x.2.1).term < x.2.2.term
      ·have:(cl r').aN=0:=by rw [e3]; exact (RS.at_new en).2.1
       exact absurd this hv
      ·have hs:(w'.R x.2.1).at' x.2.2=w'.R x.2.1:=RS.l9 (by omega)
       rw [hs] at e3
       rw [e3] at hv ⊢
       exact V.v _ hj (by omega) hv
   ·rw [k.oth j ej] at ht hv ⊢; exact V.v j hj ht hv
  ·rw [k.q] at hy
   rcases List.mem_append.1 hy with hy | hy
   ·exact V.t y (by rw [e]; exact List.mem_cons_of_mem _ hy) y1
   ·obtain ⟨z,hz,rfl⟩:=List.mem_map.1 hy
    exact absurd y1 (k.ak z hz)
 have gN:Good n (N + (2000 - W.q.length) + W.q.length) W:=by rw [show N + (2000 - W.q.length) + W.q.length=N + 2000 from by omega]; exact g0
 -- all terms
 obtain ⟨g1,i1,p1,t1⟩:=Mm (N:=N + (2000 - W.q.length)) (by omega) gN e0 p hc ct ca
 -- what holds of the logs behind the asks
 obtain ⟨_,⟨_,F1,V1⟩,_,_,_⟩:=rC (N:=N + (2000 - W.q.length)) (I:=fun w'=>E0 n (T + 1) 60 E w'/\Fl n w W w'/\Vt n (T + 1) w w') (P0:=fun x=>x.2.2.kind=1) (P:=fun _ _=>True) (D:=fun _ _=>True)
  (fun w' x l g i e p=>by
   obtain ⟨out,k⟩:=i.1.b.tk g (by omega) e
   exact ⟨st w' x l g i e p,⟨_,k.q,fun _ _=>trivial⟩,fun _ _=>trivial,trivial,fun _ _=>trivial⟩) gN ⟨e0,F0,V0⟩ P0
 obtain ⟨w1,e1⟩:∃ w1,w1=dl W.q.length W:=⟨_,rfl⟩
 have ed:rnd n w=dl (2000 - W.q.length) w1:=by
  rw [er,show 2000=W.q.length + (2000 - W.q.length) from by omega,nG,← e1]
  rw [show W.q.length + (2000 - W.q.length) - W.q.length=2000 - W.q.length from by omega]
 rw [← e1] at g1 i1 p1 t1 F1 V1
 have L1:E1 n (T + 1) 60 E w1:=⟨i1.b,t1,i1.l.mono (by omega),fun _=>i1.l,i1.q,fun c hc c2=>absurd ⟨c,hc,c2,t1 c hc⟩ i1.nl⟩
 obtain ⟨g5,i5,f5⟩:=dlI (N:=N) (n:=n) (I:=fun w'=>E1 n (T + 1) 60 E w'/\(ou n (T + 1) w'∨Fl n w W w')) (fun w' x l g i e=>by
  have hx:x∈w'.q:=by rw [e]; exact List.mem_cons_self
  obtain ⟨hf,hi⟩:=g.lt hx
  have i':=rT (by omega) g i.1 e
  refine ⟨i',?_⟩
  by_cases L:ou n (T + 1) w'.take
  ·exact .inl L
  ·refine .inr ?_
   rcases i.2 with q | F
   ·exact absurd (q.take i.1.b g (by omega) e) L
   ·exact F.take i.1.b g (by omega) e fun h=>L ⟨_,hi,h,i'.all _ hi⟩) (2000 - W.q.length) w1 g1 ⟨L1,.inr F1⟩
 rw [← ed] at g5 i5 f5
 have f9:=f5.resolve_left NL
 refine ⟨⟨⟨fun j hj=>by rw [el.all j hj]; exact Int.le_refl _,fun x hx=>(by rw [q9] at hx; cases hx),el.b.nw,el.b.vl,?_⟩,el.all,nl,q9,len9⟩,by rw [← eW]; exact f9,fun top=>?_⟩
 ·have:=uW g9
  rw [q9]
  show (0:Int) + _<=_
  omega
 -- the top campaigns
 have vstep:∀ w' x l,Good n 1 w'->(E0 n (T + 1) 60 E w'/\Fl n w W w'/\Vt n (T + 1) w w')->w'.q=x :: l->x.2.2.kind=1->x.1=c->x.2.1≠c->∃ r' out,w'.take=⟨upd w'.R x.2.1 (cl r'),l ++ bK x.2.1 out⟩/\(((w'.R x.2.1).at' x.2.2).mP x.1 x.2.2=true->r'.ticks=0/\out=[(x.1,⟨2,T + 1,0,0,0,true,[],[]⟩)]/\(r'.aN=x.1 + 1∨((w'.R x.2.1).at' x.2.2).aN≠0/\r'.aN=((w'.R x.2.1).at' x.2.2).aN))/\(¬ ((w'.R x.2.1).at' x.2.2).mP x.1 x.2.2=true->r'=(w'.R x.2.1).at' x.2.2)/\(((w'.R x.2.1).at' x.2.2).log.newer x.2.2.index x.2.2.logTerm=true):=fun w' x l g i e p x1 x2=>by
  have hx:x∈w'.q:=by rw [e]; exact List.mem_cons_self
  obtain ⟨hf,hi⟩:=g.lt hx
  have xt:=i.2.2.t x hx p
  obtain ⟨_,_,ki,kl⟩:=i.2.1.a x hx p
  rcases dD g e (i.1.b.fit g (by omega)) with ⟨out',e2,o1,o2,o3,_⟩ | ⟨o,hm,r',out',e1',e2,t2,ot⟩
  ·have:=o3 ⟨hf.1,by rw [(g.rn hi).1]; exact hf.2,by rw [(g.rn hi).2,x1]; exact fun q=>x2 q.symm,by omega,by omega⟩
   have:=i.1.b.tr _ hi
   omega
  ·refine ⟨r',out',e2,fun vv=>?_,fun vv=>?_,?_⟩
   ·rw [RS.tC p] at e1'
    unfold RS.lv at e1'
    rw [if_pos vv] at e1'
    have e3:=(congrArg Prod.fst e1').symm
    have e4:=(congrArg Prod.snd e1').symm
    dsimp only at e3 e4
    refine ⟨by rw [e3]; split <;> rfl,?_,?_⟩
    ·rw [e4]; unfold RS.answer; rw [RS.Aa hm,xt]
    ·rw [e3]
     split
     ·exact .inl rfl
     ·rename_i q; exact .inr ⟨q,rfl⟩
   ·rw [RS.tC p] at e1'
    unfold RS.lv at e1'
    rw [if_neg vv] at e1'
    exact (congrArg Prod.fst e1').symm
   ·rw [RS.DJ.2.2.1,(i.2.1.m _ hi).1,ki,kl,x1]
    exact top _ hi
 constructor
 ·obtain ⟨_,i1',_,d1,_⟩:=rC (N:=N + (2000 - W.q.length)) (I:=fun w'=>(E0 n (T + 1) 60 E w'/\Fl n w W w'/\Vt n (T + 1) w w')/\(w'.R c).ticks=0) (P0:=fun x=>x.2.2.kind=1) (P:=fun _ _=>True) (D:=fun y w'=>Mb n y.2.1->y.1=c->y.2.1≠c->(w'.R y.2.1).ticks=0)
   (fun w' x l g i e p=>by
    have hx:x∈w'.q:=by rw [e]; exact List.mem_cons_self
    obtain ⟨hf,hi⟩:=g.lt hx
    obtain ⟨out,k⟩:=i.1.1.b.tk g (by omega) e
    have zero:∀ j,(w'.R j).ticks=0->(w'.take.R j).ticks=0:=fun j hj=>by
     by_cases ej:j=x.2.1
     ·subst ej
      rcases k.tk with q | q
      ·rw [q]; exact hj
      ·exact q
     ·rw [k.oth j ej]; exact hj
    refine ⟨⟨st w' x l g i.1 e p,zero c i.2⟩,⟨_,k.q,fun _ _=>trivial⟩,fun _ _=>trivial,fun _ e1 ne=>?_,fun y hy hj e1 ne=>zero _ (hy hj e1 ne)⟩
    obtain ⟨r',out',e2,v1,v2,nw⟩:=vstep w' x l g i.1 e p e1 ne
    have xt:=i.1.2.2.t x hx p
    have eR:w'.take.R x.2.1=cl r':=by rw [e2]; exact upd_same _ _ _
    rw [eR]
    show r'.ticks=0
    by_cases vv:((w'.R x.2.1).at' x.2.2).mP x.1 x.2.2=true
    ·exact (v1 vv).1
    ·have v0:((w'.R x.2.1).at' x.2.2).aN≠0:=fun q=>vv (by
      unfold RS.mP
      rw [Bool.and_eq_true]
      exact ⟨by rw [q]; rfl,nw⟩)
     have en:¬ (w'.R x.2.1).term < x.2.2.term:=fun q=>v0 (RS.at_new q).2.1
     have tr:=i.1.1.b.tr _ hi
     rw [v2 vv,RS.DJ.2.2.2.1]
     by_cases et:(w'.R x.2.1).term=x.2.2.term
     ·rw [RS.l9 et] at v0
      exact i.1.2.2.v _ hi (by omega) v0
     ·omega) gN ⟨⟨e0,F0,V0⟩,kk.ticks⟩ P0
  rw [← e1] at d1 i1'
  have z1:∀ j,Mb n j->(w1.R j).ticks=0:=fun j hj=>by
   by_cases ej:j=c
   ·rw [ej]; exact i1'.2
   ·exact d1 _ (t.a c hc cc j hj ej) hj rfl ej
  have:=dlI (N:=N) (n:=n) (I:=fun w'=>E1 n (T + 1) 60 E w'/\∀ j,Mb n j->(w'.R j).ticks=0) (fun w' x l g i e=>by
   obtain ⟨out,k⟩:=i.1.b.tk g (by omega) e
   refine ⟨rT (by omega) g i.1 e,fun j hj=>?_⟩
   by_cases ej:j=x.2.1
   ·subst ej
    rcases k.tk with q | q
    ·rw [q]; exact i.2 _ hj
    ·exact q
   ·rw [k.oth j ej]; exact i.2 j hj) (2000 - W.q.length) w1 g1 ⟨L1,z1⟩
  rw [← ed] at this
  exact this.2.2
 ·-- alone it would win
  apply Classical.byContradiction
  intro hno
  have alone:∀ d,Mb n d->bX (w.R d)->d=c:=fun d hd cd=>Classical.byContradiction fun ne=>hno ⟨d,hd,cd,ne⟩
  apply NL
  obtain ⟨_,i1',_,d1,_⟩:=rC (N:=N + (2000 - W.q.length)) (I:=fun w'=>(E0 n (T + 1) 60 E w'/\Fl n w W w'/\Vt n (T + 1) w w')/\(∀ j,Mb n j->(w'.R j).term=T + 1->(w'.R j).aN=0∨(w'.R j).aN=c + 1)/\(w'.R c).role=1/\(w'.R c).term=T + 1/\(w'.R c).ballot=some [c]) (P0:=fun x=>x.2.2.kind=1/\x.2.1≠c) (P:=fun _ _=>True) (D:=fun y w'=>Mb n y.2.1->y.2.1≠c->∃ m,(y.2.1,c,m)∈w'.q/\m.kind=2/\m.yes=true/\m.term=T + 1)
   (fun w' x l g i e p=>by
    have hx:x∈w'.q:=by rw [e]; exact List.mem_cons_self
    obtain ⟨hf,hi⟩:=g.lt hx
    obtain ⟨out,k⟩:=i.1.1.b.tk g (by omega) e
    have x1:x.1=c:=alone _ (i.1.2.1.a x hx p.1).1 (i.1.2.1.a x hx p.1).2.1
    have xt:=i.1.2.2.t x hx p.1
    obtain ⟨r',out',e2,v1,v2,nw⟩:=vstep w' x l g i.1 e p.1 x1 p.2
    have eR:w'.take.R x.2.1=cl r':=by rw [e2]; exact upd_same _ _ _
    have tr:=i.1.1.b.tr _ hi
    have av:((w'.R x.2.1).at' x.2.2).aN=0∨((w'.R x.2.1).at' x.2.2).aN=c + 1:=by
     by_cases en:(w'.R x.2.1).term < x.2.2.term
     ·exact .inl (RS.at_new en).2.1
     ·rw [RS.l9 (by omega)]
      exact i.2.1 _ hi (by omega)
    have vv:((w'.R x.2.1).at' x.2.2).mP x.1 x.2.2=true:=by
     unfold RS.mP
     rw [Bool.and_eq_true]
     refine ⟨?_,nw⟩
     rw [Bool.or_eq_true,beq_iff_eq,beq_iff_eq,x1]; exact av
    obtain ⟨_,o1,o2⟩:=v1 vv
    have nc:c≠x.2.1:=fun q=>p.2 q.symm
    refine ⟨⟨st w' x l g i.1 e p.1,fun j hj ht=>?_,by rw [k.oth c nc]; exact i.2.2.1,by rw [k.oth c nc]; exact i.2.2.2.1,by rw [k.oth c nc]; exact i.2.2.2.2⟩,⟨_,k.q,fun _ _=>trivial⟩,fun _ _=>trivial,fun _ ne=>?_,fun y hy hj ne=>?_⟩
    ·by_cases ej:j=x.2.1
     ·subst ej
      rw [eR]
      show r'.aN=0∨r'.aN=c + 1
      rcases o2 with q | ⟨q1,q2⟩
      ·rw [q,x1]; exact .inr rfl
      ·rw [q2]; exact av
     ·rw [k.oth j ej] at ht ⊢; exact i.2.1 j hj ht
    ·rw [e2,o1]
     exact ⟨_,List.mem_append.2 (.inr (List.mem_map.2 ⟨_,List.mem_singleton.2 rfl,by rw [x1]⟩)),rfl,rfl,rfl⟩
    ·obtain ⟨m,m1,m2⟩:=hy hj ne
     rw [e] at m1
     rcases List.mem_cons.1 m1 with m1 | m1
     ·have:=p.1
      rw [← m1] at this
      dsimp only at this
      omega
     ·exact ⟨m,by rw [k.q]; exact List.mem_append.2 (.inl m1),m2⟩) gN ⟨⟨e0,F0,V0⟩,fun j hj ht=>by
    by_cases h:bX (w.R j)
    ·rw [(t.c j hj h).aN,(g.rn hj).2,alone j hj h]; exact .inr rfl
    ·rw [t.d j hj h] at ht
     have:(w.R j).term=T + 1:=ht
     rw [i.all j hj] at this; omega,kk.role,ct,by rw [kk.ballot,(g.rn hc).2]⟩ (fun x hx=>by
    refine ⟨P0 x hx,fun q=>?_⟩
    obtain ⟨a,b,_,ne⟩:=t.q x hx
    rw [alone _ a b] at ne
    exact ne q)
  rw [← e1] at d1 i1'
  obtain ⟨⟨_,_,_⟩,_,rc,_,bc⟩:=i1'
  -- the votes come
  obtain ⟨g2,i2,_,d2,_⟩:=rC (N:=N) (I:=fun w'=>E1 n (T + 1) 60 E w'/\(ou n (T + 1) w'∨(w'.R c).role=1/\∃ b,(w'.R c).ballot=some b/\c∈b)) (P0:=fun _=>True) (P:=fun _ _=>True) (D:=fun y w'=>Mb n y.1->y.2.1=c->y.2.2.kind=2->y.2.2.yes=true->y.2.2.term=T + 1->ou n (T + 1) w'∨∃ b,(w'.R c).ballot=some b/\y.1∈b)
   (fun w' x l g i e _=>by
    have hx:x∈w'.q:=by rw [e]; exact List.mem_cons_self
    obtain ⟨hf,hi⟩:=g.lt hx
    obtain ⟨out,k⟩:=i.1.b.tk g (by omega) e
    have i':=rT (by omega) g i.1 e
    -- what becomes of its ballot
    have bal:ou n (T + 1) w'∨(w'.R c).role=1/\(∃ b,(w'.R c).ballot=some b/\c∈b)->ou n (T + 1) w'.take∨(w'.take.R c).role=1/\∃ b b',(w'.R c).ballot=some b/\(w'.take.R c).ballot=some b'/\(∀ v∈b,v∈b')/\(x.2.1=c->x.2.2.kind=2->x.2.2.yes=true->x.2.2.term=T + 1->x.1∈b'):=fun q=>by
     rcases q with q | ⟨q1,b,q2,q3⟩
     ·exact .inl (q.take i.1.b g (by omega) e)
     by_cases ec:x.2.1=c
     ·rcases dD g e (i.1.b.fit g (by omega)) with ⟨out',e2,o1,o2,o3,_⟩ | ⟨o,hm,r',out',e1',e2,t2,ot⟩
      ·right
       rw [e2]
       refine ⟨q1,b,b,q2,q2,fun _ h=>h,fun _ k2 _ kt=>?_⟩
       by_cases xc:x.1=c
       ·rw [xc]; exact q3
       ·have:=o3 ⟨hf.1,by rw [(g.rn hi).1]; exact hf.2,by rw [(g.rn hi).2,ec]; exact xc,by omega,by omega⟩
        have:=i.1.all _ hi
        omega
      ·have eR:w'.take.R c=cl r':=by rw [e2,ec]; exact upd_same _ _ _
       have xt:=i.1.b.tq x hx
       have et:(w'.R x.2.1).term=x.2.2.term:=by have:=i.1.all _ hi; omega
       rw [RS.l9 et] at t2
       by_cases h35:x.2.2.kind=3∨x.2.2.kind=5
       ·exact .inl ((i.1.q x hx (by have:=i.1.all _ hi; omega) h35).take i.1.b g (by omega) e)
       have r4:=t2.r4 (by rw [ec]; exact q1) (fun q=>h35 (.inl q)) fun q=>h35 (.inr q)
       rcases r4 with r4 | r4
       ·right
        rw [eR]
        have bl:=t2.bl r4
        refine ⟨r4,b,?_⟩
        by_cases k2:x.2.2.kind=2
        ·rw [if_pos k2] at bl
         unfold RS.counted at bl
         by_cases yy:x.2.2.yes=true
         ·rw [if_pos ⟨by rw [ec]; exact q1,yy⟩] at bl
          refine ⟨RS.say b x.1 (w'.R x.2.1).n,q2,?_,fun v hv=>?_,fun _ _ _ _=>?_⟩
          ·show r'.ballot=_
           rw [bl,ec,q2]; rfl
          ·unfold RS.say
           split
           ·exact hv
           ·exact List.mem_append.2 (.inl hv)
          ·unfold RS.say
           split
           ·rename_i q
            have:=o.1; have:=o.2.1
            rcases q with q | q | q
            ·omega
            ·omega
            ·exact q
           ·exact List.mem_append.2 (.inr (List.mem_singleton.2 rfl))
         ·rw [if_neg (fun q=>yy q.2)] at bl
          exact ⟨b,q2,by show r'.ballot=_; rw [bl,ec,q2],fun _ h=>h,fun _ _ h=>absurd h yy⟩
        ·rw [if_neg k2] at bl
         exact ⟨b,q2,by show r'.ballot=_; rw [bl,ec,q2],fun _ h=>h,fun _ h=>absurd h k2⟩
       ·exact .inl ⟨c,hc,by rw [eR]; exact r4,i'.all c hc⟩
     ·right
      have e3:=k.oth c fun q=>ec q.symm
      rw [e3]
      exact ⟨q1,b,b,q2,q2,fun _ h=>h,fun h=>absurd h ec⟩
    have b2:=bal i.2
    refine ⟨⟨i',?_⟩,⟨_,k.q,fun _ _=>trivial⟩,fun _ _=>trivial,fun _ ec k2 ky kt=>?_,fun y hy h1 h2 h3 h4 h5=>?_⟩
    ·rcases b2 with q | ⟨q1,b,b',q2,q3,q4,_⟩
     ·exact .inl q
     ·rcases i.2 with q | ⟨_,b0,z1,z2⟩
      ·exact .inl (q.take i.1.b g (by omega) e)
      ·rw [q2] at z1; cases z1
       exact .inr ⟨q1,b',q3,q4 _ z2⟩
    ·rcases b2 with q | ⟨q1,b,b',q2,q3,q4,q5⟩
     ·exact .inl q
     ·exact .inr ⟨b',q3,q5 ec k2 ky kt⟩
    ·rcases hy h1 h2 h3 h4 h5 with q | ⟨b0,z1,z2⟩
     ·exact .inl (q.take i.1.b g (by omega) e)
     ·rcases b2 with q | ⟨q1,b,b',q2,q3,q4,_⟩
      ·exact .inl q
      ·rw [q2] at z1; cases z1
       exact .inr ⟨b',q3,q4 _ z2⟩) (g1.mono (by have:=hb i1.b g1; omega)) ⟨L1,.inr ⟨rc,[c],bc,by simp⟩⟩ (fun _ _=>trivial)
  have L2:ou n (T + 1) (dl w1.q.length w1):=by
   apply Classical.byContradiction
   intro nL
   rcases i2.2 with q | ⟨q1,b,q2,q3⟩
   ·exact nL q
   have mem:∀ j,Mb n j->j∈b:=fun j hj=>by
    by_cases ej:j=c
    ·rw [ej]; exact q3
    ·obtain ⟨m,m1,m2,m3,m4⟩:=d1 _ (t.a c hc cc j hj ej) hj ej
     rcases d2 _ m1 hj rfl m2 m3 m4 with q | ⟨b',z1,z2⟩
     ·exact absurd q nL
     ·rw [q2] at z1; cases z1
      exact z2
   have nw:=i2.1.b.nw c hc q1
   unfold RS.won at nw
   rw [q2,(g2.rn hc).1] at nw
   have nd:((List.range n.toNat).map fun (i:Nat)=>(i:Int)).Nodup:=List.Pairwise.map _ (fun a b h=>by omega) List.nodup_range
   have:=sQ (l:=b) nd fun z hz=>by
    obtain ⟨j,hj,rfl⟩:=List.mem_map.1 hz
    have:=List.mem_range.1 hj
    exact mem _ ⟨by omega,by omega⟩
   rw [List.length_map,List.length_range] at this
   have nw':=of_decide_eq_false nw
   omega
  have l1:=hb i1.b g1
  have:=dlI (N:=N) (n:=n) (I:=fun w'=>E1 n (T + 1) 60 E w'/\ou n (T + 1) w') (fun w' x l g i e=>⟨rT (by omega) g i.1 e,i.2.take i.1.b g (by omega) e⟩) (2000 - W.q.length - w1.q.length) (dl w1.q.length w1) (by
   have:=Good.dl (n:=n) (N:=N + (2000 - W.q.length - w1.q.length)) w1.q.length (w:=w1) (g1.mono (by omega))
   exact this) ⟨i2.1,L2⟩
  rw [← nG,show w1.q.length + (2000 - W.q.length - w1.q.length)=2000 - W.q.length from by omega,← ed] at this
  exact this.2.2
end
end Go.Q.Rf
end

/- A part of the proof of statements of this seat: lemmas, no statement of their own. -/
import Derived.Test.YthjafnfadiijgaaYiZbh
set_option linter.unusedVariables false
set_option linter.unusedSimpArgs false
section
/- What is proposed, and the rounds behind it. -/
namespace Go.Q.Rf
def dC:List Int:=[108,97,115,116]
abbrev Zt:=PW × Int × Bool
/-- a member ticks; if it leads, late enough, it proposes -/
def stp (t:Int) (z:Zt) (i:Int):Zt :=
 if ((z.1.tick i).R i).role=2/\z.2.2=false/\t > 200 then
  ((z.1.tick i).pF i dC,if (((z.1.tick i).R i).aI dC).2.2=0 then (((z.1.tick i).R i).aI dC).2.1 else z.2.1,decide ((((z.1.tick i).R i).aI dC).2.2=0))
 else (z.1.tick i,z.2.1,z.2.2)
def pq (t:Int):Nat->Zt->Zt
 | 0,z=>z
 | k + 1,z=>stp t (pq t k z) k
def uA (n t:Int) (z:Zt):Zt:=(dl 2000 (pq t n.toNat z).1,(pq t n.toNat z).2.1,(pq t n.toNat z).2.2)
def run (n:Int) (z:Zt):Nat->Zt
 | 0=>z
 | k + 1=>uA n k (run n z k)
theorem BD {t:Int} {z:Zt} {i:Int} (h:¬ (((z.1.tick i).R i).role=2/\z.2.2=false/\t > 200)):stp t z i=(z.1.tick i,z.2.1,z.2.2):=by unfold stp; rw [if_neg h]
theorem EI {t:Int} {w:PW} {ix:Int} {p:Bool} (h:t<=200∨p=true):∀ k,pq t k (w,ix,p)=(tks k w,ix,p)
 | 0=>rfl
 | k + 1=>by
  show stp t (pq t k (w,ix,p)) k=_
  rw [EI h k,BD]
  ·rfl
  ·rintro ⟨_,q,r⟩
   rcases h with h | h
   ·omega
   ·rw [h] at q; cases q
theorem Eo {n t:Int} {w:PW} {ix:Int} {p:Bool} (h:t<=200∨p=true):uA n t (w,ix,p)=(rnd n w,ix,p):=by
 unfold uA rnd
 rw [EI h]
theorem Bv {n:Int} {w:PW}:∀ k,k<=201->run n (w,0,false) k=(rds n k w,0,false)
 | 0,_=>rfl
 | k + 1,h=>by
  show uA n k (run n (w,0,false) k)=_
  rw [Bv k (by omega),Eo (.inl (by omega)),← CU]
theorem xD {n:Int} {z:Zt} {a:Nat} {w:PW} {ix:Int} (h:run n z a=(w,ix,true)):∀ k,run n z (a + k)=(rds n k w,ix,true)
 | 0=>h
 | k + 1=>by
  show uA n _ (run n z (a + k))=_
  rw [xD h k,Eo (.inr rfl),← CU]
/-! ### the proposal -/
theorem uM {l:Lg} (h:0<=l.ix):l.aF l.last=(l.lastT,0):=by
 unfold Lg.aF Lg.last Lg.lastT
 rw [if_neg (by omega),if_neg (by omega)]
 by_cases c:l.es.length=0
 ·rw [if_pos (by omega)]
  have:l.es=[]:=List.length_eq_zero_iff.1 c
  rw [this]; rfl
 ·rw [if_neg (by omega)]
  rw [List.getLast?_eq_getElem?,show (l.ix + (l.es.length:Int) - l.ix - 1).toNat=l.es.length - 1 from by omega,List.getD_eq_getElem?_getD,List.getElem?_eq_getElem (by omega)]
  rfl
theorem wR {l:Lg} (h0:0<=l.ix) (h1:l.last<=10000000) (h2:l.es.length < 64) (e:Ent):l.append l.last l.lastT [e]=({ l with es:=l.es ++ [e] },l.last + 1,0):=by
 have hl:l.last=l.ix + l.es.length:=rfl
 have w:W (l.last + ((0:Nat):Int) + 1)=l.last + 1:=by
  rw [show l.last + ((0:Nat):Int) + 1=l.last + 1 from by omega]
  exact tN (by omega) (by omega)
 have ap:Lg.fD l.ix l.last l.es [e] 1=l.es ++ [e]:=by
  show Lg.dG l.ix l.last l.es 0 e=_
  unfold Lg.dG
  rw [w,if_neg (by omega),if_neg (by omega)]
 unfold Lg.append
 have m:l.mat l.last l.lastT=true:=by unfold Lg.mat; rw [uM h0]; simp
 rw [if_neg (by rw [m]; simp)]
 simp only [List.length_singleton]
 rw [ap,if_neg (by simp; omega)]
 rw [show l.last + ((1:Nat):Int)=l.last + 1 from by omega,tN (x:=l.last + 1) (by omega) (by omega)]
def lgp (l:Lg) (T:Int):Lg:={ l with es:=l.es ++ [(T,dC)] }
theorem oM (l:Lg) (T:Int):(lgp l T).last=l.last + 1:=by unfold lgp Lg.last; simp; omega
theorem AR (l:Lg) (T:Int):(lgp l T).lastT=T:=by unfold lgp Lg.lastT; simp
theorem uN {r:RS} (h2:r.role=2) (h0:0<=r.log.ix) (h1:r.log.last<=10000000) (h3:r.log.es.length < 64):(r.aI dC).2=(r.log.last + 1,0)/\(r.aI dC).1.log=lgp r.log r.term/\(r.aI dC).1.has=r.has.set r.me.toNat (r.log.last + 1)/\(r.aI dC).1.next=r.next/\(r.aI dC).1.role=2/\(r.aI dC).1.term=r.term/\(r.aI dC).1.aN=r.aN/\(r.aI dC).1.ticks=r.ticks/\r.commit<=(r.aI dC).1.commit:=by
 unfold RS.aI
 rw [if_neg (by omega)]
 have up:=(RS.Bn (r:=r) dC).1.c
 unfold RS.put at up ⊢
 have ap:=wR h0 h1 h3 (r.term,dC)
 rw [ap] at up ⊢
 rw [if_neg (by simp)] at up ⊢
 dsimp only at up ⊢
 obtain ⟨a,b,c,d,e,f,g,h,i,j,k⟩:=RS.sI (r:={ r with log:={ r.log with es:=r.log.es ++ [(r.term,dC)] },keeps:=r.keeps ++ [⟨2,r.log.lastT,0,r.log.last,[(r.term,dC)],[]⟩],has:=r.has.set r.me.toNat (r.log.last + 1) })
 exact ⟨rfl,c,f,e,g.trans h2,i,j,d,up⟩
theorem wF (q:List Let):cap q []=q:=by unfold cap; simp
theorem FD {w:PW} {c k:Int} (h:k≠c) (cmd:List Int):(w.pF c cmd).tick k=(w.tick k).pF c cmd:=by
 have e1:(w.pF c cmd).R k=w.R k:=aL h
 have e2:upd w.R k (cl (w.R k).tick.1) c=w.R c:=aL fun q=>h q.symm
 unfold PW.tick
 rw [e1]
 unfold PW.pF PW.act
 dsimp only
 have m0:bK c []=[]:=rfl
 rw [e2,m0,wF,wF]
 congr 1
 funext j
 by_cases cj:j=k
 ·subst cj; rw [upd_same,aL h,upd_same]
 ·by_cases cc:j=c
  ·subst cc; rw [aL cj,upd_same,upd_same]
  ·rw [aL cj,aL cc,aL cc,aL cj]
section
variable {n T c Q E t ix:Int} {N:Nat} {w:PW} {L:Lg}
theorem Ap (n2:2<=n) (g:Good n (N + 2010) w) (st:St n T c Q E L w) (hc:Mb n c) (hQ:Q<=1800) (hE:E<=63) (ht:t > 200):∀ k:Nat,(k:Int)<=n->pq t k (w,ix,false)=if (k:Int)<=c then (tks k w,ix,false) else ((tks k w).pF c dC,L.last + 1,true)
 | 0,_=>by rw [if_pos (by have:=hc.1; omega)]; rfl
 | k + 1,hk=>by
  have n1:=g.n1
  have pt:=st.s.b.pt
  have nc:=st.G8 g hc
  show stp t (pq t k (w,ix,false)) k=_
  rw [Ap n2 g st hc hQ hE ht k (by omega)]
  have hkm:Mb n k:=⟨by omega,by omega⟩
  obtain ⟨t1,g1,_⟩:=mJ (N:=N) (k + 1) (by omega) (g.mono (by omega)) (by omega)
  have ek:(tks (k + 1) w).R k=cl (w.R k).tick.1:=t1.a k (by omega)
  rw [nA (nc k hkm)] at ek
  by_cases a:(k:Int) < c
  ·rw [if_pos (by omega),if_pos (by omega)]
   rw [BD]
   ·rfl
   ·rintro ⟨q,_⟩
    have q':((tks (k + 1) w).R k).role=2:=q
    rw [ek] at q'
    have:k=c:=g.one hkm hc q' st.s.c2 (by rw [st.s.all _ hkm,st.s.all c hc])
    omega
  ·by_cases b:(k:Int)=c
   ·rw [if_pos (by omega),if_neg (by omega)]
    rw [b] at ek hkm
    have er:(tks (k + 1) w).R c = { w.R c with ticks:=(w.R c).ticks + 1,keeps:=[] }:=ek
    have lx:=st.s.kn g hc hc
    have el:=st.s.l.l c hc
    rw [st.s.lg] at el
    have hl:L.last=L.ix + L.es.length:=rfl
    have lx':=lx.lx
    obtain ⟨p1,_⟩:=uN (r:=(tks (k + 1) w).R c) (by rw [er]; exact st.s.c2) (by rw [er]; show 0<=(w.R c).log.ix; rw [st.s.lg]; omega) (by rw [er]; show (w.R c).log.last<=_; rw [st.s.lg]; omega) (by rw [er]; show (w.R c).log.es.length < 64; rw [st.s.lg]; omega)
    have e0:((tks k w).tick k)=tks (k + 1) w:=rfl
    have elog:((tks (k + 1) w).R c).log.last=L.last:=by rw [er]; show (w.R c).log.last=_; rw [st.s.lg]
    unfold stp
    dsimp only
    rw [e0,b]
    rw [if_pos ⟨by rw [er]; exact st.s.c2,rfl,ht⟩]
    rw [p1,elog]
    rfl
   ·rw [if_neg (by omega),if_neg (by omega)]
    rw [BD (by rintro ⟨_,q,_⟩; cases q)]
    dsimp only
    rw [FD b]
    rfl
/-- the round of the proposal -/
theorem DY (n2:2<=n) (g:Good n (N + 2011) w) (st:St n T c Q E L w) (hc:Mb n c) (hQ:Q<=900) (hE:E<=63) (ht:t > 200):∃ w',uA n t (w,ix,false)=(w',L.last + 1,true)/\Good n N w'/\St n T c (Q + 4) (E + 1) (lgp L T) w'/\hst w' c c=(lgp L T).last/\(∀ f v,Mb n f->f≠c->1<=v->Mt c f w∨nxt w c f<=v->Mt c f w'∨nxt w' c f<=v):=by
 have n1:=g.n1
 obtain ⟨gW,z⟩:=yD (N:=N + 1) (Q':=Q + 4) n2 (g.mono (by omega)) st hc (by omega) (by omega) (fun _=>Int.le_refl _)
 have sp:=Ap (N:=N + 1) (ix:=ix) n2 (g.mono (by omega)) st hc (by omega) hE ht n.toNat (by omega)
 rw [if_neg (by unfold Mb at hc; omega)] at sp
 obtain ⟨W,eW⟩:∃ W,W=tks n.toNat w:=⟨_,rfl⟩
 rw [← eW] at gW z sp
 have lx:=z.s.kn gW hc hc
 have lx':=lx.lx
 have hl:L.last=L.ix + L.es.length:=rfl
 have el:=z.s.l.l c hc
 rw [z.s.lg] at el
 obtain ⟨p1,p2,p3,p4,p5,p6,p7,p8,p9⟩:=uN (r:=W.R c) z.s.c2 (by rw [z.s.lg]; omega) (by rw [z.s.lg]; omega) (by rw [z.s.lg]; omega)
 rw [z.s.lg,z.s.all c hc] at p2
 rw [z.s.lg,(gW.rn hc).2] at p3
 have g2:Good n (N + 2000) (W.pF c dC):=Good.pF (by rw [show N + 2000 + 1=N + 1 + 2000 from by omega]; exact gW) hc dC
 have q2:(W.pF c dC).q=W.q:=wF W.q
 have Rc:(W.pF c dC).R c=cl ((W.R c).aI dC).1:=upd_same _ _ _
 have Rj:∀ j,j≠c->(W.pF c dC).R j=W.R j:=fun j h=>aL h
 have hn:c.toNat < (W.R c).has.length:=lx.nl.2
 have s2:Sb n T c (Q + 4 + 60) (E + 1) (lgp L T) (W.pF c dC):=by
  refine ⟨⟨fun j hj=>?_,fun x hx=>by rw [q2] at hx; exact z.s.b.tq x hx,fun j hj hr=>?_,fun j hj hr=>?_,?_⟩,fun j hj=>?_,by rw [Rc]; exact p5,by rw [Rc]; exact p2,⟨fun j hj=>?_,fun x hx k=>by rw [q2] at hx; have:=z.s.l.k3 x hx k; omega,fun x hx k=>by rw [q2] at hx; have:=z.s.l.k5 x hx k; omega⟩⟩
  ·by_cases e:j=c
   ·subst e; rw [Rc]; show ((W.R j).aI dC).1.term<=T; rw [p6]; exact z.s.b.tr j hj
   ·rw [Rj j e]; exact z.s.b.tr j hj
  ·by_cases e:j=c
   ·subst e
    rw [Rc] at hr
    have:((W.R j).aI dC).1.role=1:=hr
    omega
   ·rw [Rj j e] at hr ⊢; exact z.s.b.nw j hj hr
  ·by_cases e:j=c
   ·subst e
    rw [Rc]
    show ((W.R j).aI dC).1.aN=_
    rw [p7]; exact z.s.b.vl j hj (by rw [z.s.c2]; omega)
   ·rw [Rj j e] at hr ⊢; exact z.s.b.vl j hj hr
  ·rw [q2]
   have:=uW g2
   have:=z.q
   omega
  ·by_cases e:j=c
   ·subst e; rw [Rc]; show ((W.R j).aI dC).1.term=T; rw [p6]; exact z.s.all j hj
   ·rw [Rj j e]; exact z.s.all j hj
  ·by_cases e:j=c
   ·subst e
    rw [Rc]
    show ((W.R j).aI dC).1.log.last<=_
    rw [p2,oM]; omega
   ·rw [Rj j e]; have:=z.s.l.l j hj; omega
 have er:uA n t (w,ix,false)=(dl 2000 (W.pF c dC),L.last + 1,true):=by
  unfold uA
  rw [sp]
 have Wc:=z.at' c hc
 have r:=Km (N:=N) (w:=w) g2 s2 hc (by omega) (by rw [q2]; exact z.q) (by rw [Rc]; show ((W.R c).aI dC).1.ticks=_; rw [p8,Wc]) (fun j hj ne=>⟨st.tk j hj ne,by rw [Rj j ne,z.at' j hj]⟩) g.tk st.s.c2 fun bt f hf ne=>⟨_,by rw [q2]; exact z.due bt f hf ne,RS.mK _,by rw [RS.lU]; exact st.s.all c hc⟩
 refine ⟨_,er,r.1,r.2.1,?_,fun f v hf ne v1 q=>?_⟩
 ·have h0:hst (W.pF c dC) c c=(lgp L T).last:=by
   unfold hst
   rw [Rc]
   show ((W.R c).aI dC).1.has.getD c.toNat 0=_
   rw [p3,nT hn,oM]
  have:=dlI (N:=N) (n:=n) (I:=fun w'=>Sb n T c (Q + 4 + 60) (E + 1) (lgp L T) w'/\hst w' c c=(lgp L T).last) (fun w' x l g i e=>by
   obtain ⟨out,k,lg,ls⟩:=eZ (by omega) i.1 g hc e
   refine ⟨i.1.take (by omega) g hc e,?_⟩
   have i2:=i.2
   cases ls with
   | same q d z=>unfold hst at *; rw [q.2.1]; exact i2
   | no a y m q d=>unfold hst at *; rw [q.2.1]; exact i2
   | yes a y ix q cm d =>
    unfold hst at *
    rw [q.2,getD_set_ne (rH a.2.2.2.1 hc a.2.2.2.2)]; exact i2) 2000 _ g2 ⟨s2,h0⟩
  exact this.2.2
 ·refine JD (N:=N) (by omega) g2 s2 hc hf ne v1 ?_
  have e1:nxt (W.pF c dC) c f=nxt w c f:=by
   rw [← (z.nx hc f).1]
   unfold nxt
   rw [Rc]
   show ((W.R c).aI dC).1.next.getD _ _=_
   rw [p4]
  have e2:hst (W.pF c dC) c f=hst w c f:=by
   rw [← (z.nx hc f).2]
   unfold hst
   rw [Rc]
   show ((W.R c).aI dC).1.has.getD _ _=_
   rw [p3,getD_set_ne (rH hc hf fun q=>ne q.symm)]
  unfold Mt
  rw [e1,e2]
  exact q
end
end Go.Q.Rf
end
section
/- All of it: at least two members. -/
namespace Go.Q.Rf
section
variable {n T c Q E:Int} {N:Nat} {w:PW} {L:Lg}
/-- each beat: one below -/
theorem G5 (n2:2<=n) (hc:Mb n c) (hE:E<=64) {v:Int} (v1:1<=v):∀ (j:Nat) {w:PW} {Q:Int},Good n (N + 2010 * (3 * j)) w->St n T c Q E L w->Q + 4 * j<=890->(∀ f,Mb n f->f≠c->Mt c f w∨nxt w c f<=v + j)->Good n N (rds n (3 * j) w)/\St n T c (Q + 4 * j) E L (rds n (3 * j) w)/\∀ f,Mb n f->f≠c->Mt c f (rds n (3 * j) w)∨nxt (rds n (3 * j) w) c f<=v
 | 0,w,Q,g,st,_,h=>⟨g,by show St n T c (Q + 4 * ((0:Nat):Int)) E L w; simpa using st,fun f hf ne=>by have:=h f hf ne; show Mt c f w∨nxt w c f<=v; simpa using this⟩
 | j + 1,w,Q,g,st,hQ,h=>by
  obtain ⟨g1,s1,b1⟩:=three (N:=N + 2010 * (3 * j)) n2 hc (A:=fun w=>∀ f,Mb n f->f≠c->Mt c f w∨nxt w c f<=v + j + 1) (B:=fun w=>∀ f,Mb n f->f≠c->Mt c f w∨nxt w c f<=v + j)
   (fun w Q g s q a f hf ne=>LD (N:=0) n2 (g.mono (by omega)) s hc q hf ne (by omega) (a f hf ne))
   (fun w Q g s q bt a f hf ne=>by
    have:=IP (N:=0) n2 (g.mono (by omega)) s hc q hE hf ne bt (v:=v + j + 1) (by omega) (a f hf ne)
    rwa [show v + (j:Int) + 1 - 1=v + j from by omega] at this)
   (fun w Q g s q a f hf ne=>LD (N:=0) n2 (g.mono (by omega)) s hc q hf ne (by omega) (a f hf ne))
   (by rw [show N + 2010 * (3 * j) + 2010 * 3=N + 2010 * (3 * (j + 1)) from by omega]; exact g) st (by omega) (fun f hf ne=>by have:=h f hf ne; rwa [show v + (((j + 1:Nat)):Int)=v + j + 1 from by omega] at this)
  have:=G5 n2 hc hE v1 j g1 s1 (by omega) b1
  rw [show 3 * (j + 1)=3 + 3 * j from by omega,l6,show Q + 4 * (((j + 1:Nat)):Int)=Q + 4 + 4 * j from by omega]
  exact this
/-- single rounds -/
theorem Ka (n2:2<=n) (hc:Mb n c) {v:Int} (v1:1<=v):∀ (j:Nat) {w:PW} {Q:Int},Good n (N + 2010 * j) w->St n T c Q E L w->Q + 4 * j<=890->(∀ f,Mb n f->f≠c->Mt c f w∨nxt w c f<=v)->Good n N (rds n j w)/\St n T c (Q + 4 * j) E L (rds n j w)/\∀ f,Mb n f->f≠c->Mt c f (rds n j w)∨nxt (rds n j w) c f<=v
 | 0,w,Q,g,st,_,h=>⟨g,by show St n T c (Q + 4 * ((0:Nat):Int)) E L w; simpa using st,h⟩
 | j + 1,w,Q,g,st,hQ,h=>by
  have g':Good n (N + 2010 * j + 2010) w:=by rw [show N + 2010 * j + 2010=N + 2010 * (j + 1) from by omega]; exact g
  obtain ⟨g1,s1,_⟩:=mq (Q':=Q + 4) n2 g' st hc (by omega) (by omega) (fun _=>Int.le_refl _)
  have:=Ka n2 hc v1 j g1 s1 (by omega) fun f hf ne=>LD n2 g' st hc (by omega) hf ne v1 (h f hf ne)
  rw [show Q + 4 * (((j + 1:Nat)):Int)=Q + 4 + 4 * j from by omega]
  exact this
/-- what is committed stays so -/
theorem Kl (n2:2<=n) (hc:Mb n c) {v:Int}:∀ (j:Nat) {w:PW} {Q:Int},Good n (N + 2010 * j) w->St n T c Q E L w->Q + 4 * j<=1900->(∀ f,Mb n f->v<=(w.R f).commit)->Good n N (rds n j w)/\St n T c (Q + 4 * j) E L (rds n j w)/\∀ f,Mb n f->v<=((rds n j w).R f).commit
 | 0,w,Q,g,st,_,h=>⟨g,by show St n T c (Q + 4 * ((0:Nat):Int)) E L w; simpa using st,h⟩
 | j + 1,w,Q,g,st,hQ,h=>by
  have g':Good n (N + 2010 * j + 2010) w:=by rw [show N + 2010 * j + 2010=N + 2010 * (j + 1) from by omega]; exact g
  obtain ⟨g1,s1,_,c1⟩:=mq (Q':=Q + 4) n2 g' st hc (by omega) (by omega) (fun _=>Int.le_refl _)
  have:=Kl n2 hc j g1 s1 (by omega) fun f hf=>Int.le_trans (h f hf) (c1 f hf)
  rw [show Q + 4 * (((j + 1:Nat)):Int)=Q + 4 + 4 * j from by omega]
  exact this
/-- each beat: four more -/
theorem H9 (n2:2<=n) (hc:Mb n c) (hE:E<=64):∀ (j:Nat) {w:PW} {Q v:Int},Good n (N + 2010 * (3 * j)) w->St n T c Q E L w->Q + 4 * j<=890->L.ix + 1<=v->v<=L.last + 1->(hst w c c=L.last/\∀ f,Mb n f->f≠c->Cl T c f w/\v<=nxt w c f)->Good n N (rds n (3 * j) w)/\St n T c (Q + 4 * j) E L (rds n (3 * j) w)/\hst (rds n (3 * j) w) c c=L.last/\∀ f,Mb n f->f≠c->Cl T c f (rds n (3 * j) w)/\min (L.last + 1) (v + 4 * j)<=nxt (rds n (3 * j) w) c f
 | 0,w,Q,v,g,st,_,_,hv,h=>⟨g,by show St n T c (Q + 4 * ((0:Nat):Int)) E L w; simpa using st,h.1,fun f hf ne=>⟨(h.2 f hf ne).1,by have:=(h.2 f hf ne).2; show min (L.last + 1) (v + 4 * 0)<=nxt w c f; omega⟩⟩
 | j + 1,w,Q,v,g,st,hQ,v0,hv,h=>by
  obtain ⟨g1,s1,b0,b1⟩:=three (N:=N + 2010 * (3 * j)) n2 hc (A:=fun w=>hst w c c=L.last/\∀ f,Mb n f->f≠c->Cl T c f w/\v<=nxt w c f) (B:=fun w=>hst w c c=L.last/\∀ f,Mb n f->f≠c->Cl T c f w/\min (L.last + 1) (v + 4)<=nxt w c f)
   (fun w Q g s q a=>⟨rX (N:=0) n2 (g.mono (by omega)) s hc q a.1,fun f hf ne=>by
    have:=zZ (N:=0) n2 (g.mono (by omega)) s hc q hE hf ne (a.2 f hf ne).1
    exact ⟨this.1,Int.le_trans (a.2 f hf ne).2 this.2⟩⟩)
   (fun w Q g s q bt a=>⟨rX (N:=0) n2 (g.mono (by omega)) s hc q a.1,fun f hf ne=>by
    have k1:=zZ (N:=0) n2 (g.mono (by omega)) s hc q hE hf ne (a.2 f hf ne).1
    have k2:=(J7 (N:=0) n2 (g.mono (by omega)) s hc q hE hf ne (a.2 f hf ne).1 bt).2 (by have:=(a.2 f hf ne).2; omega)
    have:=(a.2 f hf ne).2
    exact ⟨k1.1,by omega⟩⟩)
   (fun w Q g s q a=>⟨rX (N:=0) n2 (g.mono (by omega)) s hc q a.1,fun f hf ne=>by
    have:=zZ (N:=0) n2 (g.mono (by omega)) s hc q hE hf ne (a.2 f hf ne).1
    exact ⟨this.1,Int.le_trans (a.2 f hf ne).2 this.2⟩⟩)
   (by rw [show N + 2010 * (3 * j) + 2010 * 3=N + 2010 * (3 * (j + 1)) from by omega]; exact g) st (by omega) h
  have:=H9 n2 hc hE j (v:=min (L.last + 1) (v + 4)) g1 s1 (by omega) (by omega) (by omega) ⟨b0,b1⟩
  rw [show 3 * (j + 1)=3 + 3 * j from by omega,l6,show Q + 4 * (((j + 1:Nat)):Int)=Q + 4 + 4 * j from by omega]
  refine ⟨this.1,this.2.1,this.2.2.1,fun f hf ne=>?_⟩
  have:=this.2.2.2 f hf ne
  exact ⟨this.1,by omega⟩
/-- from a world that knows of all: all is committed, and told -/
theorem finish (n2:2<=n) (hc:Mb n c) (hE:E<=62) (tl:L.lastT=T) (g:Good n (N + 2010 * 58) w) (st:St n T c Q E L w) (hQ:Q<=810) (own:hst w c c=L.last) (m:∀ f,Mb n f->f≠c->Mt c f w):Good n N (rds n 58 w)/\St n T c (Q + 80) E L (rds n 58 w)/\∀ f,Mb n f->L.last<=((rds n 58 w).R f).commit:=by
 have n1:=g.n1
 have g':Good n (N + 2010 * 57 + 2010) w:=g.mono (by omega)
 obtain ⟨g1,s1,_⟩:=mq (Q':=Q + 4) n2 g' st hc (by omega) (by omega) (fun _=>Int.le_refl _)
 have c1:hst (rnd n w) c c=L.last/\∀ f,Mb n f->f≠c->Cl T c f (rnd n w):=⟨rX n2 g' st hc (by omega) own,fun f hf ne=>Gi n2 g' st hc (by omega) (by omega) hf ne (m f hf ne)⟩
 obtain ⟨w1,e1⟩:∃ w1,w1=rnd n w:=⟨_,rfl⟩
 have ed:rds n 58 w=rds n 57 w1:=by rw [e1]; rfl
 rw [← e1] at g1 s1 c1
 have kn:=s1.s.kn g1 hc hc
 have lx:=kn.lx
 have le:=s1.s.l.l c hc
 rw [s1.s.lg] at le
 -- behind the base
 obtain ⟨g2,s2,o2,b2⟩:=three (N:=N + 2010 * 54) n2 hc (A:=fun w=>hst w c c=L.last/\∀ f,Mb n f->f≠c->Cl T c f w) (B:=fun w=>hst w c c=L.last/\∀ f,Mb n f->f≠c->Cl T c f w/\L.ix + 1<=nxt w c f)
  (fun w Q g s q a=>⟨rX (N:=0) n2 (g.mono (by omega)) s hc q a.1,fun f hf ne=>(zZ (N:=0) n2 (g.mono (by omega)) s hc q (by omega) hf ne (a.2 f hf ne)).1⟩)
  (fun w Q g s q bt a=>⟨rX (N:=0) n2 (g.mono (by omega)) s hc q a.1,fun f hf ne=>⟨(zZ (N:=0) n2 (g.mono (by omega)) s hc q (by omega) hf ne (a.2 f hf ne)).1,(J7 (N:=0) n2 (g.mono (by omega)) s hc q (by omega) hf ne (a.2 f hf ne) bt).1⟩⟩)
  (fun w Q g s q a=>⟨rX (N:=0) n2 (g.mono (by omega)) s hc q a.1,fun f hf ne=>by
   have:=zZ (N:=0) n2 (g.mono (by omega)) s hc q (by omega) hf ne (a.2 f hf ne).1
   exact ⟨this.1,Int.le_trans (a.2 f hf ne).2 this.2⟩⟩)
  (g1.mono (by omega)) s1 (by omega) c1
 -- to the end
 obtain ⟨g3,s3,o3,b3⟩:=H9 (N:=N + 2010 * 6) n2 hc (by omega) 16 (v:=L.ix + 1) (g2.mono (by omega)) s2 (by omega) (Int.le_refl _) (by omega) ⟨o2,b2⟩
 have f3:∀ f,Mb n f->f≠c->Cl T c f (rds n (3 * 16) (rds n 3 w1))/\nxt (rds n (3 * 16) (rds n 3 w1)) c f=L.last + 1:=fun f hf ne=>by
  obtain ⟨q1,q2⟩:=b3 f hf ne
  have:=(s3.s.kn g3 hc hf).nx
  exact ⟨q1,by omega⟩
 have F3:Full n c L (rds n (3 * 16) (rds n 3 w1)):=fun j hj=>by
  by_cases e:j=c
  ·rw [e]; exact o3
  ·obtain ⟨q1,q2⟩:=f3 j hj e
   have k:=(s3.s.kn g3 hc hj).hs
   have:=q1.m
   unfold Mt at this
   omega
 obtain ⟨w3,e3⟩:∃ w3,w3=rds n (3 * 16) (rds n 3 w1):=⟨_,rfl⟩
 rw [← e3] at g3 s3 f3 F3
 -- another one
 obtain ⟨f0,hf0,ne0⟩:∃ f0,Mb n f0/\f0≠c:=by
  by_cases q:c=0
  ·exact ⟨1,⟨by omega,by omega⟩,by omega⟩
  ·exact ⟨0,⟨by omega,by omega⟩,fun z=>q z.symm⟩
 have tl':L.aF L.last=(T,0):=by rw [uM lx.1,tl]
 have nx_keep:∀ (w:PW) (Q:Int),Good n 2010 w->St n T c Q E L w->Q<=900->(∀ f,Mb n f->f≠c->Cl T c f w/\nxt w c f=L.last + 1)->∀ f,Mb n f->f≠c->Cl T c f (rnd n w)/\nxt (rnd n w) c f=L.last + 1:=fun w Q g s q a f hf ne=>by
  have z:=zZ (N:=0) n2 (g.mono (by omega)) s hc q (by omega) hf ne (a f hf ne).1
  obtain ⟨g',s',_⟩:=mq (N:=0) (Q':=Q + 4) n2 (g.mono (by omega)) s hc (by omega) (by omega) (fun _=>Int.le_refl _)
  have:=(s'.s.kn g' hc hf).nx
  have:=(a f hf ne).2
  have:=z.2
  exact ⟨z.1,by omega⟩
 obtain ⟨g4,s4,b4,c4⟩:=three (N:=N + 2010 * 3) n2 hc (A:=fun w=>(∀ f,Mb n f->f≠c->Cl T c f w/\nxt w c f=L.last + 1)/\Full n c L w) (B:=fun w=>(∀ f,Mb n f->f≠c->Cl T c f w/\nxt w c f=L.last + 1)/\L.last<=(w.R c).commit)
  (fun w Q g s q a=>⟨nx_keep w Q g s q a.1,JR (N:=0) n2 (g.mono (by omega)) s hc q a.2⟩)
  (fun w Q g s q bt a=>⟨nx_keep w Q g s q a.1,Fz (N:=0) n2 (g.mono (by omega)) s hc q (by omega) hf0 ne0 (a.1 f0 hf0 ne0).1 a.2 tl' bt⟩)
  (fun w Q g s q a=>⟨nx_keep w Q g s q a.1,Int.le_trans a.2 ((mq (N:=0) (Q':=Q + 4) n2 (g.mono (by omega)) s hc (by omega) (by omega) (fun _=>Int.le_refl _)).2.2.2 c hc)⟩)
  (g3.mono (by omega)) s3 (by omega) ⟨f3,F3⟩
 obtain ⟨g5,s5,b5⟩:=three (N:=N) n2 hc (A:=fun w=>(∀ f,Mb n f->f≠c->Cl T c f w/\nxt w c f=L.last + 1)/\L.last<=(w.R c).commit) (B:=fun w=>∀ f,Mb n f->L.last<=(w.R f).commit)
  (fun w Q g s q a=>⟨nx_keep w Q g s q a.1,Int.le_trans a.2 ((mq (N:=0) (Q':=Q + 4) n2 (g.mono (by omega)) s hc (by omega) (by omega) (fun _=>Int.le_refl _)).2.2.2 c hc)⟩)
  (fun w Q g s q bt a f hf=>by
   by_cases e:f=c
   ·rw [e]; exact Int.le_trans a.2 ((mq (N:=0) (Q':=Q + 4) n2 (g.mono (by omega)) s hc (by omega) (by omega) (fun _=>Int.le_refl _)).2.2.2 c hc)
   ·exact JE (N:=0) n2 (g.mono (by omega)) s hc q (by omega) hf e (a.1 f hf e).1 (a.1 f hf e).2 a.2 bt)
  (fun w Q g s q a f hf=>Int.le_trans (a f hf) ((mq (N:=0) (Q':=Q + 4) n2 (g.mono (by omega)) s hc (by omega) (by omega) (fun _=>Int.le_refl _)).2.2.2 f hf))
  g4 s4 (by omega) ⟨b4,c4⟩
 have e5:rds n 58 w=rds n 3 (rds n 3 w3):=by
  rw [ed,e3,show 57=3 + (3 * 16 + (3 + 3)) from rfl,l6,l6,l6]
 rw [e5]
 exact ⟨g5,by rw [show Q + 80=Q + 4 + 4 + 4 * ((16:Nat):Int) + 4 + 4 from by omega]; exact s5,b5⟩
/-- how it ends -/
structure Fin (n:Int) (z:Zt):Prop where
 pr:z.2.2=true
 g:Good n 0 z.1
 e:∃ c T L,Mb n c/\(∀ j,Mb n j->(z.1.R j).term=T)/\(z.1.R c).role=2/\(z.1.R c).log=lgp L T/\z.2.1=(lgp L T).last
 cm:∀ j,Mb n j->z.2.1<=(z.1.R j).commit
theorem KW (n2:2<=n) (g:Good n 1300000 w) (b:Bs n T 120 w) (l:Len n 51 w) (ex:∃ p,Mb n p/\(w.R p).term=T):Fin n (run n (w,0,false) 400):=by
 have n1:=g.n1
 obtain ⟨k,k0,k1,T1,Λ,hΛ,led⟩:=MG (N:=1300000 - 2010 * 115) n2 (g.mono (by omega)) b l ex (Int.le_refl _)
 have gk:Good n (1300000 - 2010 * 115) (rds n k w):=Good.rounds k (g.mono (by omega))
 obtain ⟨c,hc,c2,cz,jz⟩:=led.c
 obtain ⟨w1,e1⟩:∃ w1,w1=rds n k w:=⟨_,rfl⟩
 rw [← e1] at gk led c2 cz jz
 have st1:St n T1 c 530 61 (w1.R c).log w1:=by
  have ps:=uy gk
  have pt:=led.b.pt
  refine ⟨⟨⟨led.b.tr,led.b.tq,led.b.nw,led.b.vl,by omega⟩,led.all,c2,rfl,led.l.mono (by omega)⟩,by omega,fun j hj ne=>by rw [jz j hj ne]; omega⟩
 obtain ⟨L,eL⟩:∃ L,L=(w1.R c).log:=⟨_,rfl⟩
 rw [← eL] at st1
 have lE:=st1.s.l.l c hc
 rw [← eL] at lE
 -- until the proposal
 obtain ⟨j1,hj1⟩:∃ j1:Nat,j1=(201 - k) / 3:=⟨_,rfl⟩
 obtain ⟨rr,hrr⟩:∃ rr:Nat,rr=(201 - k) % 3:=⟨_,rfl⟩
 obtain ⟨v,hv⟩:∃ v:Int,v=max 1 (62 - (j1:Int)):=⟨_,rfl⟩
 obtain ⟨g2,s2,b2⟩:=G5 (N:=1300000 - 2010 * 115 - 2010 * (3 * j1)) n2 hc (by omega) (v:=v) (by omega) j1 (by rw [show 1300000 - 2010 * 115 - 2010 * (3 * j1) + 2010 * (3 * j1)=1300000 - 2010 * 115 from by omega]; exact gk) st1 (by omega) (fun f hf ne=>.inr (by have:=(st1.s.kn gk hc hf).nx; omega))
 obtain ⟨g3,s3,b3⟩:=Ka (N:=1300000 - 2010 * 115 - 2010 * (3 * j1) - 2010 * rr) n2 hc (v:=v) (by omega) rr (by rw [show 1300000 - 2010 * 115 - 2010 * (3 * j1) - 2010 * rr + 2010 * rr=1300000 - 2010 * 115 - 2010 * (3 * j1) from by omega]; exact g2) s2 (by omega) b2
 have e3:rds n rr (rds n (3 * j1) w1)=rds n 201 w:=by
  rw [e1,← l6,← l6,show k + (3 * j1 + rr)=201 from by omega]
 rw [e3] at g3 s3 b3
 have er:run n (w,0,false) 201=(rds n 201 w,0,false):=Bv 201 (Nat.le_refl _)
 obtain ⟨w4,e4,g4,s4,o4,b4⟩:=DY (N:=1300000 - 2010 * 115 - 2010 * (3 * j1) - 2010 * rr - 2011) (t:=((201:Nat):Int)) (ix:=0) n2 (by rw [show 1300000 - 2010 * 115 - 2010 * (3 * j1) - 2010 * rr - 2011 + 2011=1300000 - 2010 * 115 - 2010 * (3 * j1) - 2010 * rr from by omega]; exact g3) s3 hc (by omega) (by omega) (by decide)
 have e5:run n (w,0,false) 202=(w4,L.last + 1,true):=by
  show uA n ((201:Nat):Int) (run n (w,0,false) 201)=_
  rw [er]; exact e4
 -- behind it
 obtain ⟨j2,hj2⟩:∃ j2:Nat,j2=(v - 1).toNat:=⟨_,rfl⟩
 obtain ⟨g6,s6,b6⟩:=G5 (N:=2010 * 200) n2 hc (by omega) (v:=1) (Int.le_refl _) j2 (g4.mono (by omega)) s4 (by omega) (fun f hf ne=>by
  have:=b4 f v hf ne (by omega) (b3 f hf ne)
  rwa [show (1:Int) + (j2:Int)=v from by omega])
 have own6:hst (rds n (3 * j2) w4) c c=(lgp L T1).last:=by
  -- three by three
  have k3:∀ (j:Nat) (w:PW) (Q:Int),Good n (2010 * (3 * j)) w->St n T1 c Q 62 (lgp L T1) w->Q + 4 * j<=890->hst w c c=(lgp L T1).last->hst (rds n (3 * j) w) c c=(lgp L T1).last:=by
   intro j
   induction j with
   | zero=>intro w Q _ _ _ h; exact h
   | succ j ih =>
    intro w Q g s hQ h
    obtain ⟨g1,s1,b1⟩:=three (N:=2010 * (3 * j)) n2 hc (A:=fun w=>hst w c c=(lgp L T1).last) (B:=fun w=>hst w c c=(lgp L T1).last)
     (fun w Q g s q a=>rX (N:=0) n2 (g.mono (by omega)) s hc q a)
     (fun w Q g s q _ a=>rX (N:=0) n2 (g.mono (by omega)) s hc q a)
     (fun w Q g s q a=>rX (N:=0) n2 (g.mono (by omega)) s hc q a) (g.mono (by omega)) s (by omega) h
    rw [show 3 * (j + 1)=3 + 3 * j from by omega,l6]
    exact ih _ (Q + 4) g1 s1 (by omega) b1
  exact k3 j2 w4 _ (g4.mono (by omega)) s4 (by omega) o4
 obtain ⟨w6,e6⟩:∃ w6,w6=rds n (3 * j2) w4:=⟨_,rfl⟩
 rw [← e6] at g6 s6 b6 own6
 have m6:∀ f,Mb n f->f≠c->Mt c f w6:=fun f hf ne=>by
  rcases b6 f hf ne with q | q
  ·exact q
  ·have:=(s6.s.kn g6 hc hf).hs
   unfold Mt; omega
 obtain ⟨g7,s7,b7⟩:=finish (N:=2010 * 142) n2 hc (by omega) (AR L T1) (g6.mono (by omega)) s6 (by omega) own6 m6
 obtain ⟨rest,hrest⟩:∃ rest:Nat,rest=400 - 202 - 3 * j2 - 58:=⟨_,rfl⟩
 obtain ⟨g8,s8,b8⟩:=Kl (N:=0) n2 hc rest (g7.mono (by omega)) s7 (by omega) b7
 have e8:run n (w,0,false) 400=(rds n rest (rds n 58 w6),L.last + 1,true):=by
  have:=xD e5 (3 * j2 + 58 + rest)
  rw [l6,l6,← e6,show 202 + (3 * j2 + 58 + rest)=400 from by omega] at this
  exact this
 rw [e8]
 exact ⟨rfl,g8,⟨c,T1,L,hc,s8.s.all,s8.s.c2,s8.s.lg,(oM L T1).symm⟩,fun j hj=>by have:=b8 j hj; rw [oM] at this; exact this⟩
end
end Go.Q.Rf
end
section
/- All of it: one member alone. -/
namespace Go.Q.Rf
section
variable {N:Nat} {w:PW}
theorem mb0:Mb 1 0:=⟨Int.le_refl _,by decide⟩
theorem Ih (g:Good 1 N w):w.take.R=w.R:=by
 unfold PW.take
 cases e:w.q with
 | nil=>rfl
 | cons x l =>
  have hx:x∈w.q:=by rw [e]; exact List.mem_cons_self
  obtain ⟨hf,hi⟩:=g.lt hx
  unfold Mb at hf hi
  have e1:x.1=0:=by omega
  have e2:x.2.1=0:=by omega
  show upd w.R x.2.1 (cl ((w.R x.2.1).take x.1 x.2.2).1)=w.R
  rw [e2]
  have rn:=g.rn mb0
  have no:(w.R 0).take x.1 x.2.2=(w.R 0,[]):=RS.BC fun o=>o.2.2.1 (by rw [e1,rn.2])
  rw [no]
  have:=g.k0 0 mb0
  have ec:cl (w.R 0)=w.R 0:=by unfold cl; rw [← this]
  rw [ec,mD]
theorem GJ:∀ (k:Nat) {w:PW},Good 1 (N + k) w->Good 1 N (dl k w)/\(dl k w).R=w.R:=fun k w g=>by
 obtain ⟨g',i⟩:=dlI (N:=N) (n:=1) (I:=fun w'=>w'.R=w.R) (fun w' x l g i e=>(Ih g).trans i) k w g rfl
 exact ⟨g',i⟩
theorem Fe (g:Good 1 (N + 2010) w):Good 1 N (rnd 1 w)/\(rnd 1 w).R 0=cl (w.R 0).tick.1:=by
 have g1:Good 1 (N + 2000) (w.tick 0):=Good.tick (g.mono (by omega)) mb0
 obtain ⟨g2,e⟩:=GJ (N:=N) 2000 g1
 have er:rnd 1 w=dl 2000 (w.tick 0):=rfl
 rw [er]
 refine ⟨g2,?_⟩
 rw [e]
 exact upd_same w.R 0 (cl (w.R 0).tick.1)
/-- a tick, alone -/
theorem yA (g:Good 1 N w):((w.R 0).role=2->(w.R 0).tick.1 = { w.R 0 with ticks:=(w.R 0).ticks + 1 }) /\
  ((w.R 0).role≠2->(w.R 0).ticks + 1>=10->(w.R 0).tick.1.role=2/\(w.R 0).tick.1.log.last<=(w.R 0).log.last + 1) /\
  ((w.R 0).role≠2->¬ (w.R 0).ticks + 1>=10->(w.R 0).tick.1 = { w.R 0 with ticks:=(w.R 0).ticks + 1 }):=by
 have rn:=g.rn mb0
 have tm:=g.tm mb0
 have lg:=g.log mb0
 refine ⟨fun h=>nA fun q=>q.1 h,fun h q=>?_,fun h q=>nA fun z=>q (by have:=z.2; rw [rn.2] at this; omega)⟩
 have c:bX (w.R 0):=⟨h,by rw [rn.2]; omega⟩
 unfold RS.tick
 rw [if_neg (fun q=>h q.1),if_pos (show (w.R 0).role≠2/\(w.R 0).ticks + 1>=10 + 7 * (w.R 0).me from c)]
 unfold RS.dJ
 rw [if_neg (by show ¬ (w.R 0).term>=_; omega)]
 have wn:(RS.asks { w.R 0 with ticks:=(w.R 0).ticks + 1 }).won=true:=by
  unfold RS.won RS.asks
  show decide (((1:Nat):Int)>=(w.R 0).n / 2 + 1)=true
  rw [rn.1]; decide
 refine ⟨(RS.AO rfl wn).1,?_⟩
 show (RS.win _).1.log.last<=_
 rw [RS.vz rfl wn]
 exact wK (RS.asks { w.R 0 with ticks:=(w.R 0).ticks + 1 }).lead [] lg.1 lg.2.1
/-- it leads within ten rounds -/
theorem CZ (E:Int):∀ (r:Nat) {w:PW} (t:Int),Good 1 (N + 2010 * r) w->((w.R 0).role=2/\(w.R 0).log.last<=E + 1)∨((w.R 0).role≠2/\t<=(w.R 0).ticks/\(w.R 0).log.last<=E)->Good 1 N (rds 1 r w)/\((((rds 1 r w).R 0).role=2/\((rds 1 r w).R 0).log.last<=E + 1)∨(((rds 1 r w).R 0).role≠2/\t + r<=((rds 1 r w).R 0).ticks/\((rds 1 r w).R 0).log.last<=E/\(1<=r->((rds 1 r w).R 0).ticks < 10)))
 | 0,w,t,g,h=>⟨g,h.imp id fun q=>⟨q.1,by show t + ((0:Nat):Int)<=(w.R 0).ticks; have:=q.2.1; omega,q.2.2,fun z=>by omega⟩⟩
 | r + 1,w,t,g,h=>by
  obtain ⟨g1,e⟩:=Fe (N:=N + 2010 * r) (by rw [show N + 2010 * r + 2010=N + 2010 * (r + 1) from by omega]; exact g)
  obtain ⟨t1,t2,t3⟩:=yA g
  have nx:(((rnd 1 w).R 0).role=2/\((rnd 1 w).R 0).log.last<=E + 1)∨(((rnd 1 w).R 0).role≠2/\t + 1<=((rnd 1 w).R 0).ticks/\((rnd 1 w).R 0).log.last<=E):=by
   rw [e]
   rcases h with ⟨h1,h2⟩ | ⟨h1,h2,h3⟩
   ·left; rw [t1 h1]; exact ⟨h1,h2⟩
   ·by_cases q:(w.R 0).ticks + 1>=10
    ·left
     obtain ⟨a,b⟩:=t2 h1 q
     exact ⟨a,by show (w.R 0).tick.1.log.last<=_; omega⟩
    ·right; rw [t3 h1 q]; exact ⟨h1,by show t + 1<=(w.R 0).ticks + 1; omega,h3⟩
  obtain ⟨g2,h2⟩:=CZ E r (t + 1) g1 nx
  refine ⟨g2,h2.imp id fun q=>⟨q.1,by have:=q.2.1; show t + (((r + 1:Nat)):Int)<=((rds 1 r (rnd 1 w)).R 0).ticks; omega,q.2.2.1,fun _=>?_⟩⟩
  rcases Nat.eq_zero_or_pos r with hr | hr
  ·subst hr
   show ((rnd 1 w).R 0).ticks < 10
   rw [e]
   have q1:=q.1
   change ((rnd 1 w).R 0).role≠2 at q1
   rw [e] at q1
   rcases h with ⟨h1,h2⟩ | ⟨h1,h2,h3⟩
   ·rw [t1 h1] at q1; exact absurd h1 q1
   ·by_cases z:(w.R 0).ticks + 1>=10
    ·exact absurd (t2 h1 z).1 q1
    ·rw [t3 h1 z]; show (w.R 0).ticks + 1 < 10; omega
  ·exact q.2.2.2 hr
/-- what is proposed stays, committed -/
theorem Dg:∀ (r:Nat) {w:PW},Good 1 (N + 2010 * r) w->(w.R 0).role=2->Good 1 N (rds 1 r w)/\((rds 1 r w).R 0).role=2/\((rds 1 r w).R 0).term=(w.R 0).term/\((rds 1 r w).R 0).log=(w.R 0).log/\((rds 1 r w).R 0).commit=(w.R 0).commit
 | 0,w,g,h=>⟨g,h,rfl,rfl,rfl⟩
 | r + 1,w,g,h=>by
  obtain ⟨g1,e⟩:=Fe (N:=N + 2010 * r) (by rw [show N + 2010 * r + 2010=N + 2010 * (r + 1) from by omega]; exact g)
  rw [(yA g).1 h] at e
  obtain ⟨a,b,c,d,f⟩:=Dg r g1 (by rw [e]; exact h)
  rw [e] at c d f
  exact ⟨a,b,c,d,f⟩
theorem LP (g:Good 1 1300000 w) (l:(w.R 0).log.last<=51):Fin 1 (run 1 (w,0,false) 400):=by
 have t0:=g.tk 0 mb0
 obtain ⟨g1,h1⟩:=CZ (N:=1300000 - 2010 * 201) 51 201 0 (g.mono (by omega)) (by
  by_cases q:(w.R 0).role=2
  ·exact .inl ⟨q,by omega⟩
  ·exact .inr ⟨q,t0,l⟩)
 have er:run 1 (w,0,false) 201=(rds 1 201 w,0,false):=Bv 201 (Nat.le_refl _)
 obtain ⟨w1,e1⟩:∃ w1,w1=rds 1 201 w:=⟨_,rfl⟩
 rw [← e1] at g1 h1 er
 have h2:(w1.R 0).role=2/\(w1.R 0).log.last<=52:=by
  rcases h1 with q | q
  ·exact ⟨q.1,by omega⟩
  ·have:=q.2.2.2 (by omega); have:=q.2.1; omega
 -- the proposal
 have gt:Good 1 (1300000 - 2010 * 201 - 2) (w1.tick 0):=Good.tick (g1.mono (by omega)) mb0
 have eR:(w1.tick 0).R 0=cl (w1.R 0).tick.1:=upd_same w1.R 0 (cl (w1.R 0).tick.1)
 rw [(yA g1).1 h2.1] at eR
 obtain ⟨r,erd⟩:∃ r,r=(w1.tick 0).R 0:=⟨_,rfl⟩
 have r2:r.role=2:=by rw [erd,eR]; exact h2.1
 have rl:r.log.last<=52:=by rw [erd,eR]; exact h2.2
 have lg:=gt.log mb0
 rw [← erd] at lg
 have hl:r.log.last=r.log.ix + r.log.es.length:=rfl
 have rn:=gt.rn mb0
 rw [← erd] at rn
 obtain ⟨p1,p2,p3,p4,p5,p6,p7,p8,p9⟩:=uN r2 lg.1 (by omega) (by omega)
 have gp:Good 1 (1300000 - 2010 * 201 - 3) ((w1.tick 0).pF 0 dC):=Good.pF (gt.mono (by omega)) mb0 dC
 have eP:((w1.tick 0).pF 0 dC).R 0=cl (r.aI dC).1:=by rw [erd]; exact upd_same (w1.tick 0).R 0 (cl (((w1.tick 0).R 0).aI dC).1)
 obtain ⟨gd,ed⟩:=GJ (N:=2010 * 198) 2000 (gp.mono (by omega))
 have e5:run 1 (w,0,false) 202=(dl 2000 ((w1.tick 0).pF 0 dC),r.log.last + 1,true):=by
  show uA 1 ((201:Nat):Int) (run 1 (w,0,false) 201)=_
  rw [er]
  have es:pq ((201:Nat):Int) (1:Int).toNat (w1,0,false)=((w1.tick 0).pF 0 dC,r.log.last + 1,true):=by
   show stp _ (w1,0,false) ((0:Nat):Int)=_
   unfold stp
   dsimp only
   rw [show ((0:Nat):Int)=0 from rfl,← erd,if_pos ⟨r2,rfl,by decide⟩,p1]
   rfl
  unfold uA
  rw [es]
 obtain ⟨m,hm⟩:∃ m:Nat,m=198:=⟨_,rfl⟩
 have e8:=xD e5 m
 rw [show 202 + m=400 from by omega] at e8
 obtain ⟨w2,e2⟩:∃ w2,w2=dl 2000 ((w1.tick 0).pF 0 dC):=⟨_,rfl⟩
 rw [← e2] at gd ed e8
 have eW:w2.R 0=cl (r.aI dC).1:=by rw [ed,eP]
 obtain ⟨g9,q1,q2,q3,q4⟩:=Dg (N:=0) m (w:=w2) (gd.mono (by omega)) (by rw [eW]; exact p5)
 rw [e8]
 have m0:∀ j,Mb 1 j->j=0:=fun j hj=>by unfold Mb at hj; omega
 refine ⟨rfl,g9,⟨0,r.term,r.log,mb0,fun j hj=>?_,q1,?_,(oM _ _).symm⟩,fun j hj=>?_⟩
 ·rw [m0 j hj,q2,eW]; exact p6
 ·rw [q3,eW]; exact p2
 ·rw [m0 j hj,q4,eW]
  show r.log.last + 1<=(r.aI dC).1.commit
  -- it is known as committed at once
  have hl1:r.has.length=1:=by
   obtain ⟨B,G,s,b⟩:=gt.s
   have:=((s.core.mi 0 mb0.1 mb0.2).l1 (by rw [← erd]; exact r2)).hl
   rw [← erd] at this; exact this
  have ap:=wR lg.1 (by omega) (by omega:r.log.es.length < 64) (r.term,dC)
  have eh:r.has.set r.me.toNat (r.log.last + 1)=[r.log.last + 1]:=by
   rw [rn.2]
   match h:r.has,hl1 with
   | [a],_=>rfl
  unfold RS.aI
  rw [if_neg (by omega)]
  unfold RS.put
  rw [ap]
  rw [if_neg (by simp)]
  dsimp only
  unfold RS.settle
  dsimp only
  rw [eh]
  have ec:cmt [r.log.last + 1]=r.log.last + 1:=EG (by simp) (by omega) (by simp)
  rw [ec]
  have to:({ r.log with es:=r.log.es ++ [(r.term,dC)] }:Lg).aF (r.log.last + 1)=(r.term,0):=by
   have a:=uM (l:=lgp r.log r.term) lg.1
   rw [oM,AR] at a
   exact a
  rw [to]
  split
  ·exact Int.le_refl _
  ·rename_i q
   show r.log.last + 1<=r.commit
   apply Classical.byContradiction
   intro z
   exact q ⟨by omega,rfl,rfl⟩
end
/-! ### what is seen at the end -/
theorem Fin.look {n:Int} {z:Zt} (F:Fin n z):(∃ c,Mb n c/\(z.1.R c).role=2/\∀ j,Mb n j->(z.1.R j).role=2->j=c)/\(∀ j,Mb n j->z.2.1<=(z.1.R j).commit)/\1<=z.2.1/\∀ j,Mb n j->((z.1.R j).entry z.2.1).2=0->((z.1.R j).entry z.2.1).1.2=dC:=by
 obtain ⟨c,T,L,hc,all,c2,lg,ix⟩:=F.e
 have g:=F.g
 refine ⟨⟨c,hc,c2,fun j hj j2=>g.one hj hc j2 c2 (by rw [all j hj,all c hc])⟩,F.cm,?_,fun j hj e0=>?_⟩
 ·have:=g.log hc
  rw [lg] at this
  rw [ix,oM]
  have h2:(lgp L T).last=(lgp L T).ix + (L.es.length + 1:Nat):=by unfold Lg.last lgp; simp
  have h3:(lgp L T).last=L.last + 1:=oM _ _
  have h4:(lgp L T).ix=L.ix:=rfl
  omega
 ·obtain ⟨B,G,s,b⟩:=g.s
  have Mc:=s.core.mi c hc.1 hc.2
  have Mj:=s.core.mi j hj.1 hj.2
  have A:=Mc.l1 c2
  have rep:=Mc.rep
  have ll:=rep.last
  have xl:=rep.i1
  have x0:=rep.i0
  rw [lg] at rep ll xl x0
  have h3:(lgp L T).last=L.last + 1:=oM _ _
  have es:(lgp L T).es=L.es ++ [(T,dC)]:=rfl
  have hL:L.last=L.ix + L.es.length:=rfl
  have h4:(lgp L T).ix=L.ix:=rfl
  -- the entry stands in the leader's log
  have inF:(G.F c)[z.2.1.toNat - 1]? = some (T,dC):=by
   have:=rep.es
   have h5:=congrArg (fun l=>l[L.es.length]?) this
   rw [es] at h5
   simp only [List.getElem?_drop] at h5
   rw [List.getElem?_append_right (Nat.le_refl _)] at h5
   simp at h5
   rw [show z.2.1.toNat - 1=(lgp L T).ix.toNat + L.es.length from by omega]
   exact h5.symm
  have k1:1<=z.2.1:=by omega
  rcases zo Mj k1 with ⟨_,le,x,hx,ex⟩ | ⟨_,ne,_⟩
  ·rw [ex]
   -- it stands in all others' logs
   have ld:G.ld (z.1.R j).term≠none:=by rw [all j hj,← all c hc,A.ld]; simp
   have i1:=(Mj.Fy s.core.el ld).1
   rw [all j hj,← all c hc,← A.F] at i1
   have cm:=F.cm j hj
   have h6:=congrArg (fun l=>l[z.2.1.toNat - 1]?) i1
   simp only [List.getElem?_take] at h6
   rw [if_pos (by omega),if_pos (by omega),hx,inF] at h6
   have:=Option.some.inj h6
   show x.2=dC
   rw [this]
  ·exact absurd e0 ne
end Go.Q.Rf
end

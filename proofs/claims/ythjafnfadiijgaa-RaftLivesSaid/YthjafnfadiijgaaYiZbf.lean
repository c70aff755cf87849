/- A part of the proof of statements of this seat: lemmas, no statement of their own. -/
import Derived.Test.YthjafnfadiijgaaYiZbe
set_option linter.unusedVariables false
set_option linter.unusedSimpArgs false
section
/- Until one leads: the longest log's turn comes. -/
namespace Go.Q.Rf
def rds (n:Int):Nat->PW->PW
 | 0,w=>w
 | k + 1,w=>rds n k (rnd n w)
theorem l6 (n:Int):∀ (a b:Nat) (w:PW),rds n (a + b) w=rds n b (rds n a w)
 | 0,b,w=>by rw [Nat.zero_add]; rfl
 | a + 1,b,w=>by rw [Nat.succ_add]; exact l6 n a b (rnd n w)
theorem CU (n:Int) (k:Nat) (w:PW):rds n (k + 1) w=rnd n (rds n k w):=l6 n k 1 w
/-- one leads, and all have just heard of it -/
structure Led (n T Λ E:Int) (w:PW):Prop where
 b:Bs n T Λ w
 all:∀ j,Mb n j->(w.R j).term=T
 c:∃ c,Mb n c/\(w.R c).role=2/\(w.R c).ticks % 3=0/\∀ j,Mb n j->j≠c->(w.R j).ticks=0
 l:Len n E w
section
variable {n T Λ E:Int} {N:Nat} {w:PW}
theorem Good.round (g:Good n (N + 2010) w):Good n N (rnd n w):=by
 have n1:=g.n1
 have key:∀ (k:Nat) (M:Nat),(k:Int)<=n->Good n (M + 2 * k) w->Good n M (tks k w):=by
  intro k
  induction k with
  | zero=>intro M _ g; exact g
  | succ k ih =>
   intro M hk g
   exact (ih (M + 2) (by omega) (by rw [show M + 2 + 2 * k=M + 2 * (k + 1) from by omega]; exact g)).tick ⟨by omega,by omega⟩
 exact (key n.toNat (N + 2000) (by omega) (g.mono (by omega))).dl 2000
theorem Good.rounds:∀ (k:Nat) {w:PW},Good n (N + 2010 * k) w->Good n N (rds n k w)
 | 0,_,g=>g
 | k + 1,w,g=>Good.rounds k (Good.round (N:=N + 2010 * k) (by rw [show N + 2010 * k + 2010=N + 2010 * (k + 1) from by omega]; exact g))
/-- the longest log -/
theorem DX (R:Int->RS):∀ k:Nat,1<=k->∃ u:Int,(0<=u/\u < k)/\∀ j:Int,0<=j/\j < k->lle (R j).log (R u).log
 | 0,h=>by omega
 | k + 1,_=>by
  by_cases c:k=0
  ·subst c
   refine ⟨0,by omega,fun j hj=>?_⟩
   have:j=0:=by omega
   subst this; exact zu _
  ·obtain ⟨u,hu,h⟩:=DX R k (by omega)
   rcases FI (R k).log (R u).log with q | q
   ·refine ⟨u,by omega,fun j hj=>?_⟩
    by_cases e:j=k
    ·subst e; exact q
    ·exact h j (by omega)
   ·refine ⟨k,by omega,fun j hj=>?_⟩
    by_cases e:j=k
    ·subst e; exact zu _
    ·exact xh (h j (by omega)) q
/-- the first of the longest -/
theorem Bb (R:Int->RS) (k:Nat):∀ (d:Nat) (u:Int),u.toNat<=d->(0<=u/\u < k)->(∀ j:Int,0<=j/\j < k->lle (R j).log (R u).log)->∃ b:Int,(0<=b/\b < k)/\(∀ j:Int,0<=j/\j < k->lle (R j).log (R b).log)/\∀ c:Int,0<=c/\c < k->lle (R b).log (R c).log->b<=c
 | d,u,hd,hu,h=>by
  by_cases q:∃ c:Int,(0<=c/\c < k)/\lle (R u).log (R c).log/\c < u
  ·obtain ⟨c,hc,hl,lt⟩:=q
   match d with
   | 0=>omega
   | d + 1=>exact Bb R k d c (by omega) hc fun j hj=>xh (h j hj) hl
  ·exact ⟨u,hu,h,fun c hc hl=>Int.not_lt.1 fun lt=>q ⟨c,hc,hl,lt⟩⟩
theorem xW.led (e:xW n T Λ E w) (h:¬ ∀ j,Mb n j->(w.R j).role≠2):Led n T Λ (E + 1) w:=by
 rcases e.r with ⟨c,hc,c2,z,l⟩ | ⟨q,_⟩
 ·exact ⟨e.b,e.all,⟨c,hc,c2,by rw [z c hc]; rfl,fun j hj _=>z j hj⟩,l⟩
 ·exact absurd q h
/-- before long one leads, or all wait anew -/
def Rt (n E:Int) (N:Nat) (u:Int) (d:Nat):Prop:=∀ (T:Int) (w:PW),Good n (N + 2010 * (d + 1)) w->Nn n T E w->(∀ j,Mb n j->lle (w.R j).log (w.R u).log)->9 + 7 * u - (w.R u).ticks<=d ->
  ∃ k,1<=k/\k<=d + 1/\∃ T',Led n T' 60 (E + 1) (rds n k w)∨(Nn n T' E (rds n k w)/\∀ j,Mb n j->((rds n k w).R j).ticks=0)
theorem Ep (n2:2<=n) {u:Int} (hu:Mb n u) {d:Nat} (ih:∀ d',d=d' + 1->Rt n E N u d'):Rt n E N u d:=by
  intro T w g i top hd
  have n1:=g.n1
  have gb:Good n (N + 2010 * d + 2000 + 2 * n.toNat) w:=g.mono (by omega)
  have g1:Good n (N + 2010 * d) (rnd n w):=Good.round (g.mono (by omega))
  have ue:(w.R u).me=u:=(g.rn hu).2
  -- go on from the next round
  have goon:∀ T',Nn n T' E (rnd n w)->((rnd n w).R u).ticks=(w.R u).ticks + 1->(∀ j,Mb n j->((rnd n w).R j).log=(w.R j).log)->¬ bX (w.R u)->∃ k,1<=k/\k<=d + 1/\∃ T',Led n T' 60 (E + 1) (rds n k w)∨(Nn n T' E (rds n k w)/\∀ j,Mb n j->((rds n k w).R j).ticks=0):=fun T' i' tu lg nc=>by
   have:(w.R u).ticks + 1 < 10 + 7 * u:=by
    apply Classical.byContradiction
    intro q
    exact nc ⟨i.nl u hu,by rw [ue]; omega⟩
   have dd:d=(d - 1) + 1:=by omega
   obtain ⟨k,k0,k1,T2,h⟩:=ih (d - 1) dd T' (rnd n w) (g1.mono (by omega)) i' (fun j hj=>by rw [lg j hj,lg u hu]; exact top j hj) (by rw [tu]; omega)
   exact ⟨k + 1,by omega,by omega,T2,h⟩
  by_cases cc:∃ c,Mb n c/\bX (w.R c)
  ·by_cases ct:∃ c,Mb n c/\bX (w.R c)/\lle (w.R u).log (w.R c).log
   ·obtain ⟨c,hc,c1,c2⟩:=ct
    obtain ⟨_,el,h⟩:=xU (N:=N + 2010 * d) n2 gb i hc c1
    refine ⟨1,by omega,by omega,T + 1,?_⟩
    show Led n (T + 1) 60 (E + 1) (rnd n w)∨(Nn n (T + 1) E (rnd n w)/\∀ j,Mb n j->((rnd n w).R j).ticks=0)
    by_cases nl:∀ j,Mb n j->((rnd n w).R j).role≠2
    ·obtain ⟨h1,h2,h3⟩:=h nl
     exact .inr ⟨h1,(h3 fun j hj=>xh (top j hj) c2).1⟩
    ·exact .inl (el.led nl)
   ·obtain ⟨c,hc,c1⟩:=cc
    obtain ⟨_,el,h⟩:=xU (N:=N + 2010 * d) n2 gb i hc c1
    by_cases nl:∀ j,Mb n j->((rnd n w).R j).role≠2
    ·obtain ⟨h1,h2,h3⟩:=h nl
     have nu:¬ bX (w.R u):=fun q=>ct ⟨u,hu,q,zu _⟩
     obtain ⟨_,t⟩:=yK (N:=N + 2010 * d) n2 (g.mono (by omega)) i
     refine goon _ h1 ?_ (fun j hj=>(h2.m j hj).1) nu
     rcases (h2.m u hu).2 with q | ⟨_,c',hc',q1,q2⟩
     ·rw [q,t.d u hu nu]
     ·exact absurd ⟨c',hc',q1,q2⟩ ct
    ·exact ⟨1,by omega,by omega,T + 1,.inl (el.led nl)⟩
  ·have h:∀ j,Mb n j->¬ bX (w.R j):=fun j hj q=>cc ⟨j,hj,q⟩
   obtain ⟨i',_,e⟩:=Di (N:=N + 2010 * d) n2 (g.mono (by omega)) i h
   exact goon T i' (by rw [e u hu]) (fun j hj=>by rw [e j hj]) (h u hu)
theorem AC (n2:2<=n) {u:Int} (hu:Mb n u):∀ d:Nat,Rt n E N u d
 | 0=>Ep n2 hu fun d' h=>by omega
 | d + 1=>Ep n2 hu fun d' h=>by rw [← Nat.succ.inj h]; exact AC n2 hu d
/-- all began to wait at one time: at s rounds behind it -/
structure Sy2 (n b s:Int) (w0 w:PW):Prop where
 lg:∀ j,Mb n j->(w.R j).log=(w0.R j).log
 tb:(w.R b).ticks=s
 t:∀ j,Mb n j->(w.R j).ticks < 10 + 7 * j/\∃ a K:Int,0<=a/\0<=K/\(a=0->K=0)/\s - (w.R j).ticks=10 * a + 7 * K
def Rl (n E:Int) (N:Nat) (b:Int) (w0:PW) (d:Nat):Prop:=∀ (T s:Int) (w:PW),Good n (N + 2010 * (d + 1)) w->Nn n T E w->Sy2 n b s w0 w->9 + 7 * b - s=d->∃ k,1<=k/\k<=d + 1/\∃ T',Led n T' 60 (E + 1) (rds n k w)
theorem Ej (n2:2<=n) {b:Int} (hb:Mb n b) {w0:PW} (top:∀ j,Mb n j->lle (w0.R j).log (w0.R b).log) (least:∀ c,Mb n c->lle (w0.R b).log (w0.R c).log->b<=c) {d:Nat} (ih:∀ d',d=d' + 1->Rl n E N b w0 d'):Rl n E N b w0 d:=by
  intro T s w g i y hd
  have n1:=g.n1
  have gb:Good n (N + 2010 * d + 2000 + 2 * n.toNat) w:=g.mono (by omega)
  have g1:Good n (N + 2010 * d) (rnd n w):=Good.round (g.mono (by omega))
  obtain ⟨_,t⟩:=yK (N:=N + 2010 * d) n2 (g.mono (by omega)) i
  have hb':=hb
  unfold Mb at hb'
  -- who campaigns now
  have cm:∀ c,Mb n c->bX (w.R c)->∃ a K:Int,1<=a/\0<=K/\s + 1=10 * a + 7 * K/\(w.R c).ticks + 1=10 + 7 * c/\(a=1->K=c)/\(w.R c).ticks<=s/\c<=K:=fun c hc q=>by
   obtain ⟨h1,a,K,a0,K0,z,e⟩:=y.t c hc
   have q2:=q.2
   rw [(g.rn hc).2] at q2
   have c0:=hc.1
   exact ⟨a + 1,K + c,by omega,by omega,by omega,by omega,fun h=>by have:=z (by omega); omega,by omega,by omega⟩
  have cmb:∀ c,Mb n c->bX (w.R c)->lle (w0.R b).log (w0.R c).log->s + 1=10 + 7 * b->c=b:=fun c hc q l e=>by
   obtain ⟨a,K,_,_,_,h1,_,h2,_⟩:=cm c hc q
   have:=least c hc l
   omega
  by_cases fin:s + 1=10 + 7 * b
  ·have cb:bX (w.R b):=⟨i.nl b hb,by rw [(g.rn hb).2,y.tb]; omega⟩
   obtain ⟨_,el,h⟩:=xU (N:=N + 2010 * d) n2 gb i hb cb
   refine ⟨1,by omega,by omega,T + 1,?_⟩
   show Led n (T + 1) 60 (E + 1) (rnd n w)
   refine el.led fun nl=>?_
   obtain ⟨_,_,h3⟩:=h nl
   obtain ⟨_,c,hc,cc,ne⟩:=h3 fun j hj=>by rw [y.lg j hj,y.lg b hb]; exact top j hj
   obtain ⟨a,K,p1,p2,p3,p4,p5,p6,p7⟩:=cm c hc cc
   have:a=1:=by omega
   have:=p5 this
   omega
  ·have nb:¬ bX (w.R b):=fun q=>by
    have:=q.2
    rw [(g.rn hb).2,y.tb] at this; omega
   have notop:∀ c,Mb n c->bX (w.R c)->¬ lle (w0.R b).log (w0.R c).log:=fun c hc q l=>by
    obtain ⟨a,K,_,_,_,h1,_,h2,_⟩:=cm c hc q
    have:=least c hc l
    omega
   have goon:∀ T',Nn n T' E (rnd n w)->Sy2 n b (s + 1) w0 (rnd n w)->∃ k,1<=k/\k<=d + 1/\∃ T',Led n T' 60 (E + 1) (rds n k w):=fun T' i' y'=>by
    have dd:d=(d - 1) + 1:=by omega
    obtain ⟨k,k0,k1,T2,h⟩:=ih (d - 1) dd T' (s + 1) (rnd n w) (g1.mono (by omega)) i' y' (by omega)
    exact ⟨k + 1,by omega,by omega,T2,h⟩
   have step1:∀ j,Mb n j->¬ bX (w.R j)->(w.R j).ticks + 1 < 10 + 7 * j:=fun j hj q=>by
    apply Classical.byContradiction
    intro h
    exact q ⟨i.nl j hj,by rw [(g.rn hj).2]; omega⟩
   by_cases cc:∃ c,Mb n c/\bX (w.R c)
   ·obtain ⟨c,hc,c1⟩:=cc
    obtain ⟨_,el,h⟩:=xU (N:=N + 2010 * d) n2 gb i hc c1
    by_cases nl:∀ j,Mb n j->((rnd n w).R j).role≠2
    ·obtain ⟨h1,h2,h3⟩:=h nl
     have reset:∀ c',Mb n c'->bX (w.R c')->∃ a K:Int,0<=a/\0<=K/\(a=0->K=0)/\s + 1 - 0=10 * a + 7 * K:=fun c' hc' q=>by
      obtain ⟨a,K,p1,p2,p3,_⟩:=cm c' hc' q
      exact ⟨a,K,by omega,p2,fun h=>by omega,by omega⟩
     refine goon _ h1 ⟨fun j hj=>by rw [(h2.m j hj).1,y.lg j hj],?_,fun j hj=>?_⟩
     ·rcases (h2.m b hb).2 with q | ⟨_,c',hc',q1,q2⟩
      ·rw [q,t.d b hb nb]; show (w.R b).ticks + 1=s + 1; rw [y.tb]
      ·rw [y.lg b hb,y.lg c' hc'] at q2
       exact absurd q2 (notop c' hc' q1)
     ·have j0:=hj.1
      by_cases cj:bX (w.R j)
      ·have:((rnd n w).R j).ticks=0:=by
        rcases (h2.m j hj).2 with q | q
        ·rw [q,(t.c j hj cj).ticks]
        ·exact q.1
       rw [this]
       exact ⟨by omega,reset j hj cj⟩
      ·rcases (h2.m j hj).2 with q | ⟨q,c',hc',q1,q2⟩
       ·rw [q,t.d j hj cj]
        obtain ⟨_,a,K,a0,K0,z,e⟩:=y.t j hj
        exact ⟨step1 j hj cj,a,K,a0,K0,z,by show s + 1 - ((w.R j).ticks + 1)=_; omega⟩
       ·rw [q]
        exact ⟨by omega,reset c' hc' q1⟩
    ·exact ⟨1,by omega,by omega,T + 1,el.led nl⟩
   ·have h:∀ j,Mb n j->¬ bX (w.R j):=fun j hj q=>cc ⟨j,hj,q⟩
    obtain ⟨i',_,e⟩:=Di (N:=N + 2010 * d) n2 (g.mono (by omega)) i h
    refine goon T i' ⟨fun j hj=>by rw [e j hj]; exact y.lg j hj,by rw [e b hb]; show (w.R b).ticks + 1=_; rw [y.tb],fun j hj=>?_⟩
    rw [e j hj]
    obtain ⟨_,a,K,a0,K0,z,e⟩:=y.t j hj
    exact ⟨step1 j hj (h j hj),a,K,a0,K0,z,by show s + 1 - ((w.R j).ticks + 1)=_; omega⟩
theorem yN (n2:2<=n) {b:Int} (hb:Mb n b) {w0:PW} (top:∀ j,Mb n j->lle (w0.R j).log (w0.R b).log) (least:∀ c,Mb n c->lle (w0.R b).log (w0.R c).log->b<=c):∀ d:Nat,Rl n E N b w0 d
 | 0=>Ej n2 hb top least fun d' h=>by omega
 | d + 1=>Ej n2 hb top least fun d' h=>by rw [← Nat.succ.inj h]; exact yN n2 hb top least d
/-- from such a world, one leads within 76 rounds -/
theorem KJ (n2:2<=n) (g:Good n (N + 2010 * 76) w) (i:Nn n T E w):∃ k,k<=76/\∃ T',Led n T' 60 (E + 1) (rds n k w):=by
 have n1:=g.n1
 have mb:∀ j:Int,0<=j/\j < (n.toNat:Int)->Mb n j:=fun j h=>⟨h.1,by omega⟩
 have bm:∀ j:Int,Mb n j->0<=j/\j < (n.toNat:Int):=fun j h=>by unfold Mb at h; omega
 obtain ⟨u,hu,top⟩:=DX w.R n.toNat (by omega)
 have tu:=g.tk u (mb u hu)
 obtain ⟨k,k0,k1,T1,h⟩:=AC (N:=N + 2010 * 38) n2 (mb u hu) 37 T w (g.mono (by omega)) i (fun j hj=>top j (bm j hj)) (by omega)
 rcases h with h | ⟨i1,z⟩
 ·exact ⟨k,by omega,T1,h⟩
 ·obtain ⟨w1,e1⟩:∃ w1,w1=rds n k w:=⟨_,rfl⟩
  rw [← e1] at i1 z
  have g1:Good n (N + 2010 * 38) w1:=by
   rw [e1]
   exact Good.rounds k (g.mono (by omega))
  obtain ⟨u,hu,top⟩:=DX w1.R n.toNat (by omega)
  obtain ⟨b,hb,t1,t2⟩:=Bb w1.R n.toNat u.toNat u (Nat.le_refl _) hu top
  have hb2:=mb b hb
  obtain ⟨k',k0',k1',T2,h⟩:=yN (N:=N) n2 hb2 (w0:=w1) (fun j hj=>t1 j (bm j hj)) (fun c hc=>t2 c (bm c hc)) (9 + 7 * b).toNat T1 0 w1 (g1.mono (by omega)) i1 ⟨fun _ _=>rfl,z b hb2,fun j hj=>by rw [z j hj]; exact ⟨by have:=hj.1; omega,0,0,by omega,by omega,fun _=>rfl,by omega⟩⟩ (by omega)
  refine ⟨k + k',by omega,T2,?_⟩
  rw [l6,← e1]; exact h
end
end Go.Q.Rf
end
section
/- From whatever was done until all are in one term, or one leads. -/
namespace Go.Q.Rf
instance (r:RS):Decidable (bX r):=by unfold bX; infer_instance
/-- how a round ends -/
structure Pr (n T Λ E:Int) (w:PW):Prop where
 b:Bs n T Λ w
 ex:∃ p,Mb n p/\(w.R p).term=T
 na:∀ y∈w.q,y.2.2.kind≠1
 ny:∀ y∈w.q,¬ (y.2.2.kind=2/\y.2.2.yes=true)
 q:Quiet n T w
 l:Len n E w
/-- how many are in lesser terms -/
def lo (n T:Int) (w:PW):Int:=sm (fun j=>if (w.R j).term < T then 1 else 0) n.toNat
/-- how many of some ask no more -/
def kw (C:Int->Bool) (n:Int) (w:PW):Int:=sm (fun j=>if C j=true/\(w.R j).role≠1 then 1 else 0) n.toNat
def cn (C:Int->Bool) (n:Int):Int:=sm (fun j=>if C j=true then 1 else 0) n.toNat
section
variable {n T Λ E:Int} {N:Nat} {w:PW} {x:Let} {l:List Let} {C:Int->Bool}
/-- letters of ticks -/
theorem uU (n2:2<=n) (g:Good n N w) {W:PW} (t:TkS n.toNat w W) {y:Let} (hy:y∈W.q):y∈w.q∨(Mb n y.1/\bX (w.R y.1)/\y.2.2=ask (w.R y.1)/\y.2.1≠y.1)∨(Mb n y.1/\pM (w.R y.1)/\(y.2.2.kind=3∨y.2.2.kind=5)/\y.2.2.term=(w.R y.1).term/\y.2.2=RS.due { w.R y.1 with ticks:=(w.R y.1).ticks + 1 } y.2.1):=by
 have n1:=g.n1
 obtain ⟨new,q1,q2,q3⟩:=t.q
 rw [q1] at hy
 rcases List.mem_append.1 hy with hy | hy
 ·exact .inl hy
 ·right
  obtain ⟨m1,m2⟩:=q2 y hy
  have hj:Mb n y.1:=⟨m1.1,by omega⟩
  by_cases c:bX (w.R y.1)
  ·left
   rw [(jR (by rw [(g.rn hj).1]; exact n2) (g.tm hj) c).2] at m2
   have om:=RS.jC m2
   exact ⟨hj,c,om.1,by rw [(g.rn hj).2] at om; exact om.2.2.2⟩
  ·by_cases d:pM (w.R y.1)
   ·right
    rw [pV d] at m2
    have om:=RS.jC m2
    exact ⟨hj,d,by rw [om.1]; exact RS.mK _,by rw [om.1]; exact RS.lU _,om.1⟩
   ·rw [mX c d] at m2; cases m2
theorem Eu (n2:2<=n) (g:Good n N w) {W:PW} (t:TkS n.toNat w W) {c:Int} (hc:Mb n c) (cc:bX (w.R c)) {j:Int} (hj:Mb n j) (ne:j≠c):(c,j,ask (w.R c))∈W.q:=by
 have n1:=g.n1
 obtain ⟨new,q1,q2,q3⟩:=t.q
 rw [q1]
 refine List.mem_append.2 (.inr (q3 c (j,ask (w.R c)) (by unfold Mb at hc; omega) ?_))
 rw [(jR (by rw [(g.rn hc).1]; exact n2) (g.tm hc) cc).2]
 exact RS.sW (g:=fun _=>ask (w.R c)) ⟨hj.1,by rw [(g.rn hc).1]; exact hj.2,by rw [(g.rn hc).2]; exact ne⟩
theorem Ef (n2:2<=n) (g:Good n N w) {W:PW} (t:TkS n.toNat w W) {c:Int} (hc:Mb n c) (cc:pM (w.R c)) {j:Int} (hj:Mb n j) (ne:j≠c):(c,j,RS.due { w.R c with ticks:=(w.R c).ticks + 1 } j)∈W.q:=by
 have n1:=g.n1
 obtain ⟨new,q1,q2,q3⟩:=t.q
 rw [q1]
 refine List.mem_append.2 (.inr (q3 c (j,RS.due { w.R c with ticks:=(w.R c).ticks + 1 } j) (by unfold Mb at hc; omega) ?_))
 rw [pV cc]
 exact RS.sW (r:={ w.R c with ticks:=(w.R c).ticks + 1 }) (g:=RS.due { w.R c with ticks:=(w.R c).ticks + 1 }) ⟨hj.1,by show j < (w.R c).n; rw [(g.rn hc).1]; exact hj.2,by show j≠(w.R c).me; rw [(g.rn hc).2]; exact ne⟩
theorem pU (n2:2<=n) (g:Good n N w) {W:PW} (t:TkS n.toNat w W) {j:Int} (hj:Mb n j):(bX (w.R j)->Cmp (w.R j) (W.R j))/\(¬ bX (w.R j)->W.R j = { w.R j with ticks:=(w.R j).ticks + 1 }):=by
 have n1:=g.n1
 have mb:0<=j/\j < (n.toNat:Int):=by unfold Mb at hj; omega
 refine ⟨fun c=>?_,fun c=>?_⟩
 ·have k:=(jR (by rw [(g.rn hj).1]; exact n2) (g.tm hj) c).1
  rw [t.a j mb]
  exact ⟨k.term,k.role,k.ticks,k.aN,k.ballot,k.log,k.me,k.n,k.commit⟩
 ·rw [t.a j mb,nA c]
  have:=g.k0 j hj
  unfold cl
  rw [← this]
/-- behind a round no wish for a vote, and no vote, is on its way -/
theorem EO (h:2 * Λ<=2000) (g:Good n (N + 2000) w) (b:Bs n T Λ w):Good n N (dl 2000 w)/\Bs n T Λ (dl 2000 w)/\(∀ y∈(dl 2000 w).q,y.2.2.kind≠1)/\(∀ y∈(dl 2000 w).q,¬ (y.2.2.kind=2/\y.2.2.yes=true))/\Quiet n T (dl 2000 w):=by
 have hb:∀ {w':PW} {N':Nat},Bs n T Λ w'->Good n N' w'->(w'.q.length:Int)<=Λ:=fun b g=>by have:=b.pt; have:=uy g; omega
 have l0:=hb b g
 obtain ⟨g1,b1,p1,_⟩:=rC (N:=N + (2000 - w.q.length)) (I:=Bs n T Λ) (P0:=fun _=>True) (P:=fun w y=>y.2.2.kind≠1/\(y.2.2.term=T->y.2.2.kind=3∨y.2.2.kind=5->ou n T w)) (D:=fun _ _=>True)
  (fun w x l g i e _=>by
   have hx:x∈w.q:=by rw [e]; exact List.mem_cons_self
   obtain ⟨hf,hi⟩:=g.lt hx
   obtain ⟨out,k⟩:=i.tk g (by omega) e
   refine ⟨i.take g (by omega) e,⟨_,k.q,fun y hy=>?_⟩,fun y hy=>⟨hy.1,fun a c=>(hy.2 a c).take i g (by omega) e⟩,trivial,fun _ _=>trivial⟩
   obtain ⟨z,hz,rfl⟩:=List.mem_map.1 hy
   exact ⟨k.ak z hz,fun a c=>⟨_,hi,k.due z hz c,by rw [← k.ot z hz]; exact a⟩⟩) (by rw [show N + (2000 - w.q.length) + w.q.length=N + 2000 from by omega]; exact g) b (fun _ _=>trivial)
 obtain ⟨w1,e1⟩:∃ w1,w1=dl w.q.length w:=⟨_,rfl⟩
 rw [← e1] at g1 b1 p1
 have l1:=hb b1 g1
 obtain ⟨g2,i2,p2,_⟩:=rC (N:=N + (2000 - w.q.length - w1.q.length)) (I:=fun w=>Bs n T Λ w/\Quiet n T w) (P0:=fun x=>x.2.2.kind≠1) (P:=fun _ y=>y.2.2.kind≠1/\¬ (y.2.2.kind=2/\y.2.2.yes=true)) (D:=fun _ _=>True)
  (fun w x l g i e p=>by
   obtain ⟨out,k⟩:=i.1.tk g (by omega) e
   refine ⟨⟨i.1.take g (by omega) e,i.2.take i.1 g (by omega) e⟩,⟨_,k.q,fun y hy=>?_⟩,fun y hy=>hy,trivial,fun _ _=>trivial⟩
   obtain ⟨z,hz,rfl⟩:=List.mem_map.1 hy
   exact ⟨k.ak z hz,fun q=>p (k.yes z hz q.1 q.2).1⟩) (by rw [show N + (2000 - w.q.length - w1.q.length) + w1.q.length=N + (2000 - w.q.length) from by omega]; exact g1) ⟨b1,fun y hy=>(p1 y hy).2⟩ (fun y hy=>(p1 y hy).1)
 obtain ⟨g3,i3⟩:=dlI (N:=N) (n:=n) (I:=fun w=>(Bs n T Λ w/\Quiet n T w)/\∀ y∈w.q,y.2.2.kind≠1/\¬ (y.2.2.kind=2/\y.2.2.yes=true)) (fun w x l g i e=>by
  have hx:x∈w.q:=by rw [e]; exact List.mem_cons_self
  obtain ⟨out,k⟩:=i.1.1.tk g (by omega) e
  refine ⟨⟨i.1.1.take g (by omega) e,i.1.2.take i.1.1 g (by omega) e⟩,fun y hy=>?_⟩
  rw [k.q] at hy
  rcases List.mem_append.1 hy with hy | hy
  ·exact i.2 y (by rw [e]; exact List.mem_cons_of_mem _ hy)
  ·obtain ⟨z,hz,rfl⟩:=List.mem_map.1 hy
   exact ⟨k.ak z hz,fun q=>(i.2 x hx).1 (k.yes z hz q.1 q.2).1⟩) (2000 - w.q.length - w1.q.length) _ g2 ⟨i2,p2⟩
 rw [e1,← nG,← nG,← e1,show w.q.length + (w1.q.length + (2000 - w.q.length - w1.q.length))=2000 from by omega] at g3 i3
 exact ⟨g3,i3.1.1,fun y hy=>(i3.2 y hy).1,fun y hy=>(i3.2 y hy).2,i3.1.2⟩
/-- only some may win, each once -/
structure Ic (C:Int->Bool) (n T Λ E:Int) (w:PW):Prop where
 b:Bs n T Λ w
 ca:∀ y∈w.q,y.2.2.kind=1->C y.1=true
 cy:∀ y∈w.q,y.2.2.kind=2->y.2.2.yes=true->C y.2.1=true
 l:Len n (E + kw C n w) w
theorem Js (h:Λ<=2900) (g:Good n 1 w) (i:Ic C n T Λ E w) (e:w.q=x :: l):Ic C n T Λ E w.take:=by
 have n1:=g.n1
 have hx:x∈w.q:=by rw [e]; exact List.mem_cons_self
 obtain ⟨hf,hi⟩:=g.lt hx
 obtain ⟨out,k⟩:=i.b.tk g h e
 have ku:=xx (f:=fun j=>if C j=true/\(w.R j).role≠1 then 1 else 0) (g:=fun j=>if C j=true/\(w.take.R j).role≠1 then 1 else 0) (i:=x.2.1) (fun j hj=>by rw [k.oth j hj]) n.toNat
 have hi':=hi
 unfold Mb at hi'
 rw [if_pos (by omega)] at ku
 have up:kw C n w<=kw C n w.take/\((w.R x.2.1).role=1->(w.take.R x.2.1).role=2->C x.2.1=true->kw C n w + 1<=kw C n w.take):=by
  refine ⟨?_,fun h1 h2 hc=>?_⟩
  ·show sm _ _<=sm _ _
   rw [ku]
   by_cases a:C x.2.1=true/\(w.R x.2.1).role≠1
   ·rw [if_pos a,if_pos ⟨a.1,fun q=>a.2 (k.r1 q)⟩]; omega
   ·rw [if_neg a]; split <;> omega
  ·show sm _ _ + 1<=sm _ _
   have a1:(if C x.2.1=true/\(w.take.R x.2.1).role≠1 then (1:Int) else 0)=1:=if_pos ⟨hc,by rw [h2]; omega⟩
   have a2:(if C x.2.1=true/\(w.R x.2.1).role≠1 then (1:Int) else 0)=0:=if_neg fun q=>q.2 h1
   rw [ku,a1,a2]; omega
 refine ⟨i.b.take g h e,fun y hy y1=>?_,fun y hy y1 y2=>?_,?_⟩
 ·rw [k.q] at hy
  rcases List.mem_append.1 hy with hy | hy
  ·exact i.ca y (by rw [e]; exact List.mem_cons_of_mem _ hy) y1
  ·obtain ⟨z,hz,rfl⟩:=List.mem_map.1 hy
   exact absurd y1 (k.ak z hz)
 ·rw [k.q] at hy
  rcases List.mem_append.1 hy with hy | hy
  ·exact i.cy y (by rw [e]; exact List.mem_cons_of_mem _ hy) y1 y2
  ·obtain ⟨z,hz,rfl⟩:=List.mem_map.1 hy
   have:=k.yes z hz y1 y2
   show C z.1=true
   rw [this.2.1]; exact i.ca x hx this.1
 ·rcases i.l.take i.b g h e with q | ⟨q1,q2,q3,q4,_,_,q⟩
  ·exact q.mono (by omega)
  ·have:=up.2 q1 q2 (i.cy x hx q3 q4)
   exact q.mono (by omega)
theorem Gd (g:Good n N w):0<=kw C n w/\kw C n w<=cn C n:=by
 have a:=uf (f:=fun _=>0) (g:=fun j=>if C j=true/\(w.R j).role≠1 then 1 else 0) n.toNat fun j _ _=>by split <;> omega
 rw [mI] at a
 refine ⟨by unfold kw; omega,?_⟩
 exact uf n.toNat fun j _ _=>by
  by_cases h:C j=true
  ·rw [if_pos h]; split <;> omega
  ·rw [if_neg h,if_neg (fun q=>h q.1)]; omega
theorem Hq (h:Λ<=2900) {k:Nat} (g:Good n (N + k) w) (i:Ic C n T Λ E w):Len n (E + cn C n) (dl k w):=by
 obtain ⟨g',i'⟩:=dlI (N:=N) (n:=n) (I:=Ic C n T Λ E) (fun w x l g i e=>Js h g i e) k w g i
 exact i'.l.mono (by have:=(Gd (C:=C) g').2; omega)
/-- terms stay at the greatest -/
theorem uO (h:Λ<=2900) {k:Nat} (g:Good n (N + k) w) (b:Bs n T Λ w) {p:Int} (hp:Mb n p) (pt:(w.R p).term=T):((dl k w).R p).term=T:=by
 obtain ⟨g',i'⟩:=dlI (N:=N) (n:=n) (I:=fun w=>Bs n T Λ w/\(w.R p).term=T) (fun w x l g i e=>by
  have hx:x∈w.q:=by rw [e]; exact List.mem_cons_self
  obtain ⟨out,k⟩:=i.1.tk g h e
  have b':=i.1.take g h e
  refine ⟨b',?_⟩
  have u:=b'.tr p hp
  by_cases ej:p=x.2.1
  ·subst ej; have:=k.mo; omega
  ·rw [k.oth p ej]; exact i.2) k w g ⟨b,pt⟩
 exact i'.2
/-- the first round, behind whatever was done -/
theorem Ky (n2:2<=n) (g:Good n (N + 2010) w) (b:Bs n T Λ w) (l:Len n E w) (ex:∃ p,Mb n p/\(w.R p).term=T) (hΛ:2 * (Λ + 2 * n)<=2000):∃ T',Pr n T' (Λ + 2 * n) (E + n) (rnd n w):=by
 have n1:=g.n1
 have pt:=b.pt
 obtain ⟨t,g',p'⟩:=mJ (N:=N + 2000) n.toNat (by omega) (g.mono (by omega)) (by omega)
 have key:∀ T',T<=T'->(∀ j,Mb n j->bX (w.R j)->(w.R j).term + 1<=T')->(∃ p,Mb n p/\((tks n.toNat w).R p).term=T')->Pr n T' (Λ + 2 * n) (E + n) (rnd n w):=fun T' hT hc ⟨p,hp,pT⟩=>by
  have b':=zi (N:=N + 2000) n2 (g.mono (by omega)) b (by omega) hT hc
  have l':=wG (N:=N + 2000) n2 (g.mono (by omega)) l (by omega)
  obtain ⟨g2,b2,a1,a2,a3⟩:=EO (N:=N) hΛ g' b'
  refine ⟨b2,⟨p,hp,uO (N:=N) (by omega) g' b' hp pT⟩,a1,a2,a3,?_⟩
  have:=Hq (N:=N) (C:=fun _=>true) (E:=E) (by omega) g' ⟨b',fun _ _ _=>rfl,fun _ _ _ _=>rfl,l'.mono (by have:=(Gd (C:=fun _=>true) g').1; omega)⟩
  have c1:cn (fun _=>true) n=n:=by
   unfold cn
   have:=mI 1 n.toNat
   simp only [if_true]
   rw [this]; omega
  rw [c1] at this
  exact this
 by_cases c:∃ c,Mb n c/\bX (w.R c)/\(w.R c).term=T
 ·obtain ⟨c,hc,c1,c2⟩:=c
  refine ⟨T + 1,key (T + 1) (by omega) (fun j hj _=>by have:=b.tr j hj; omega) ⟨c,hc,?_⟩⟩
  rw [((pU n2 g t hc).1 c1).term,c2]
 ·obtain ⟨p,hp,pT⟩:=ex
  have np:¬ bX (w.R p):=fun q=>c ⟨p,hp,q,pT⟩
  refine ⟨T,key T (Int.le_refl _) (fun j hj q=>?_) ⟨p,hp,?_⟩⟩
  ·have:=b.tr j hj
   have:(w.R j).term≠T:=fun e=>c ⟨j,hj,q,e⟩
   omega
  ·rw [(pU n2 g t hp).2 np]; exact pT
theorem Np (n1:1<=n) {p:Int} (hp:Mb n p) (pt:(w.R p).term=T):0<=lo n T w/\lo n T w<=n - 1:=by
 have a:=uf (f:=fun _=>0) (g:=fun j=>if (w.R j).term < T then 1 else 0) n.toNat fun j _ _=>by split <;> omega
 rw [mI] at a
 refine ⟨by unfold lo; omega,?_⟩
 have u:=xx (f:=fun _=>1) (g:=fun j=>if j=p then 0 else 1) (i:=p) (fun j hj=>if_neg hj) n.toNat
 rw [mI,if_pos (by unfold Mb at hp; omega),if_pos rfl] at u
 have:=uf (f:=fun j=>if (w.R j).term < T then 1 else 0) (g:=fun j=>if j=p then 0 else 1) n.toNat fun j _ _=>by
  by_cases h:j=p
  ·rw [if_pos h,h,if_neg (by omega)]; omega
  ·rw [if_neg h]; split <;> omega
 unfold lo
 omega
/-- somebody asks for votes in the greatest term, that none leads -/
theorem EA (n2:2<=n) (g:Good n (N + 2010) w) (i:Pr n T Λ E w) (hΛ:3 * (Λ + 2 * n)<=2000) {T':Int} (hT:T'=T + 1∨T'=T/\¬ ou n T w) (hc:∀ j,Mb n j->bX (w.R j)->(w.R j).term + 1<=T') {c:Int} (mc:Mb n c) (cc:bX (w.R c)) (ct:(w.R c).term + 1=T') :
  Led n T' (Λ + 2 * n) (E + 1) (rnd n w)∨Nn n T' E (rnd n w):=by
 have n1:=g.n1
 have pt:=i.b.pt
 obtain ⟨t,g',p'⟩:=mJ (N:=N + 2000) n.toNat (by omega) (g.mono (by omega)) (by omega)
 have b':=zi (N:=N + 2000) n2 (g.mono (by omega)) i.b (by omega) (by omega) hc
 have l':=wG (N:=N + 2000) n2 (g.mono (by omega)) i.l (by omega)
 have kk:=(pU n2 g t mc).1 cc
 have lead0:∀ j,Mb n j->(w.R j).role=2->(w.R j).term=T'->False:=fun j hj j2 jt=>by
  have:=i.b.tr j hj
  rcases hT with q | ⟨q1,q2⟩
  ·omega
  ·exact q2 ⟨j,hj,j2,by omega⟩
 have e0:E0 n T' (Λ + 2 * n) E (tks n.toNat w):=by
  refine ⟨b',l',fun ⟨j,hj,j2,jt⟩=>?_,fun y hy yt yk=>?_⟩
  ·by_cases h:bX (w.R j)
   ·rw [((pU n2 g t hj).1 h).role] at j2; omega
   ·rw [(pU n2 g t hj).2 h] at j2 jt; exact lead0 j hj j2 jt
  ·exfalso
   rcases uU n2 g t hy with q | ⟨_,_,q,_⟩ | ⟨a,q1,q2,q3,_⟩
   ·have:=i.b.tq y q
    rcases hT with q' | ⟨q1,q2⟩
    ·omega
    ·exact q2 (i.q y q (by omega) yk)
   ·rw [q,(uR _).1] at yk; omega
   ·exact lead0 _ a q1.1 (by omega)
 have p:∀ x∈(tks n.toNat w).q,¬ (x.2.2.kind=2/\x.2.2.yes=true):=fun y hy h=>by
  rcases uU n2 g t hy with q | ⟨_,_,q,_⟩ | ⟨a,q1,q2,q3,_⟩
  ·exact i.ny y q h
  ·rw [q,(uR _).1] at h; omega
  ·omega
 obtain ⟨g9,el⟩:=JX (N:=N) hΛ g' e0 p mc (kk.term.trans ct) fun j hj ne=>⟨_,Eu n2 g t mc cc hj ne,rfl,by rw [(uR _).2.1]; exact ct⟩
 rw [show dl 2000 (tks n.toNat w)=rnd n w from rfl] at g9 el
 by_cases nl:∀ j,Mb n j->((rnd n w).R j).role≠2
 ·right
  obtain ⟨q9,len9⟩:(rnd n w).q=[]/\Len n E (rnd n w):=by
   rcases el.r with ⟨d,hd,d2,_⟩ | ⟨_,a,b⟩
   ·exact absurd d2 (nl d hd)
   ·exact ⟨a,b⟩
  refine ⟨⟨el.b.tr,el.b.tq,el.b.nw,el.b.vl,?_⟩,el.all,nl,q9,len9⟩
  have:=uW g9
  rw [q9]
  show (0:Int) + _<=_
  omega
 ·exact .inl (el.led nl)
/-- who leads in the greatest term: its ticks stay, as letters come -/
theorem EX (b:Bs n T Λ w) (g:Good n 1 w) (h:Λ<=2900) (e:w.q=x :: l) {c:Int} (hc:Mb n c) (h2:(w.R c).role=2) (ht:(w.R c).term=T):(w.take.R c).ticks=(w.R c).ticks:=by
 have hx:x∈w.q:=by rw [e]; exact List.mem_cons_self
 obtain ⟨hf,hi⟩:=g.lt hx
 have rn:=g.rn hi
 by_cases ec:c=x.2.1
 ·subst ec
  rcases dD g e (b.fit g h) with ⟨out,e2,o1,o2,o3⟩ | ⟨o,hm,r',out,e1,e2,t,ot⟩
  ·rw [e2]
  ·have xt:=b.tq x hx
   have et:(w.R x.2.1).term=x.2.2.term:=by omega
   have eR:w.take.R x.2.1=cl r':=by rw [e2]; exact upd_same _ _ _
   rw [RS.l9 et] at t e1
   have nk:x.2.2.kind≠3/\x.2.2.kind≠5:=by
    obtain ⟨B,G,s,bb⟩:=g.s
    have ld:=((s.core.mi _ hi.1 hi.2).l1 h2).ld
    have L:=(s.ls x hx).1
    have key:G.ld x.2.2.term≠some x.1:=fun q=>by
     rw [et,q] at ld
     exact o.2.2.1 (by rw [rn.2]; exact Option.some.inj ld)
    exact ⟨fun k=>key (L.k3 k).1,fun k=>key (L.k5 k).1⟩
   rw [eR]
   show r'.ticks=_
   rcases t.tz with q | q | q | q | q
   ·exact q
   ·have v:=b.vl _ hc (by omega)
    rw [RS.tC q.1] at e1
    unfold RS.lv at e1
    have nv:¬ (w.R x.2.1).mP x.1 x.2.2=true:=fun z=>by
     unfold RS.mP at z
     rw [v] at z
     simp only [Bool.and_eq_true,Bool.or_eq_true,beq_iff_eq] at z
     have:=hc.1
     have:=o.2.2.1
     omega
    rw [if_neg nv] at e1
    have:=(congrArg Prod.fst e1).symm
    dsimp only at this
    rw [this]
   ·exact absurd q nk.1
   ·exact absurd q nk.2
   ·omega
 ·obtain ⟨out,k⟩:=b.tk g h e
  rw [k.oth c ec]
end
end Go.Q.Rf
end

/- A part of the proof of statements of this seat: lemmas, no statement of their own. -/
import Derived.Test.YthjafnfadiijgaaYiZbi
import Derived.Test.YthjafnfadiijgaaYiZbc
import Derived.Test.YthjafnfadiijgaaYiZar
set_option linter.unusedVariables false
set_option linter.unusedSimpArgs false
set_option linter.unusedSectionVars false
set_option maxRecDepth 100000
section
/- The script: how many letters and entries its acts leave. -/
namespace Go.Q.Rf
structure Scr (n:Int) (a:Nat) (w:PW):Prop where
 b:∃ T,Bs n T (2 * a) w/\∃ p,Mb n p/\(w.R p).term=T
 j:((∀ i,Mb n i->(w.R i).role=0/\(w.R i).ticks<=a)/\w.q=[]/\Len n 0 w)∨(10<=a/\Len n ((a:Int) - 9) w)
section
variable {n:Int} {N a:Nat} {w:PW} {i:Int}
theorem Scr.begin (n1:1<=n):Scr n 0 ⟨fun i=>RS.start i n 0 0 ⟨0,0,[]⟩ [],[]⟩:=by
 refine ⟨⟨0,⟨fun i _=>Int.le_refl _,fun x hx=>(by cases hx),fun i _ h=>(by cases h),fun i _ h=>absurd rfl h,?_⟩,0,⟨Int.le_refl _,by omega⟩,rfl⟩,.inl ⟨fun i _=>⟨rfl,Int.le_refl _⟩,rfl,⟨fun i _=>Int.le_refl _,fun x hx=>(by cases hx),fun x hx=>(by cases hx)⟩⟩⟩
 have:=mI 0 n.toNat
 show (0:Int) + sm (fun _=>0) n.toNat<=0
 rw [this]; omega
/-- one member turns, its letters go -/
theorem Scr.turn (s:Scr n a w) (g:Good n N w) (hi:Mb n i) (ha:a<=1000) {r:RS} {out:List gQ} {q0:List Let} (sub:∀ x∈q0,x∈w.q) {T':Int} (T0:∀ T,Bs n T (2 * a) w->(∃ p,Mb n p/\(w.R p).term=T)->(w.R i).term<=r.term/\(r.term<=T∨r.term=T + 1) )
  (ot:∀ y∈out,y.2.term=r.term) (nw:r.role=1->r.won=false) (vl:r.role≠0->r.aN=i + 1) (pt:∀ T,Bs n T (2 * a) w->(q0.length:Int) + out.length + pot r<=w.q.length + pot (w.R i) + 2):∃ T,Bs n T (2 * (a + 1:Nat)) (PW.act ⟨w.R,q0⟩ i (r,out))/\∃ p,Mb n p/\((PW.act ⟨w.R,q0⟩ i (r,out)).R p).term=T:=by
 obtain ⟨T,b,p,hp,pT⟩:=s.b
 obtain ⟨h1,h2⟩:=T0 T b ⟨p,hp,pT⟩
 have ps:=uy g
 have bp:=b.pt
 have pp:=pt T b
 have po:0<=pot (w.R i)/\pot (w.R i)<=10:=⟨Ec (g.tk i hi),Em (g.tk i hi)⟩
 have Ri:(PW.act ⟨w.R,q0⟩ i (r,out)).R i=cl r:=upd_same _ _ _
 have Rj:∀ j,j≠i->(PW.act ⟨w.R,q0⟩ i (r,out)).R j=w.R j:=fun j h=>aL h
 have key:∀ U:Int,T<=U->r.term<=U->Bs n U (2 * (a + 1:Nat)) (PW.act ⟨w.R,q0⟩ i (r,out)):=fun U hU hr=>by
  refine ⟨fun j hj=>?_,fun x hx=>?_,fun j hj hr'=>?_,fun j hj hr'=>?_,?_⟩
  ·by_cases e:j=i
   ·rw [e,Ri]; exact hr
   ·rw [Rj j e]; have:=b.tr j hj; omega
  ·have hx':x∈q0 ++ (bK i out).take (3000 - q0.length):=hx
   rcases List.mem_append.1 hx' with q | q
   ·have:=b.tq x (sub x q); omega
   ·obtain ⟨z,hz,rfl⟩:=List.mem_map.1 (List.mem_of_mem_take q)
    show z.2.term<=U
    rw [ot z hz]; exact hr
  ·by_cases e:j=i
   ·rw [e,Ri] at hr' ⊢; exact nw hr'
   ·rw [Rj j e] at hr' ⊢; exact b.nw j hj hr'
  ·by_cases e:j=i
   ·rw [e,Ri] at hr' ⊢; exact vl hr'
   ·rw [Rj j e] at hr' ⊢; exact b.vl j hj hr'
  ·show ((q0 ++ (bK i out).take (3000 - q0.length)).length:Int) + tL n (upd w.R i (cl r))<=_
   rw [yZ hi,DV,List.length_append,List.length_take,bK,List.length_map]
   omega
 rcases h2 with h2 | h2
 ·refine ⟨T,key T (Int.le_refl _) h2,p,hp,?_⟩
  by_cases e:p=i
  ·rw [e,Ri]
   rw [e] at pT
   show r.term=T
   omega
  ·rw [Rj p e]; exact pT
 ·exact ⟨T + 1,key (T + 1) (by omega) (by omega),i,hi,by rw [Ri]; exact h2⟩
/-- letters of a tick -/
theorem Ht (r:RS) (hm:r.term<=10000000/\0<=r.term):(∀ z∈r.tick.2,z.2.term=r.tick.1.term/\((z.2.kind=3∨z.2.kind=5)->r.tick.1.role=2))/\(r.tick.1.term=r.term∨r.tick.1.term=r.term + 1)/\r.tick.1.n=r.n/\r.tick.1.me=r.me /\
  (r.tick.1.role=1->(r.role=1->r.won=false)->r.tick.1.won=false)/\(r.tick.1.role≠0->(r.role≠0->r.aN=r.me + 1)->r.tick.1.aN=r.me + 1):=by
 by_cases c:bX r
 ·have w1:W (r.term + 1)=r.term + 1:=tN (by omega) (by omega)
  obtain ⟨A,eA⟩:∃ A,A=RS.asks { r with ticks:=r.ticks + 1 }:=⟨_,rfl⟩
  have e:r.tick=(A.win.1,A.others (fun _=>⟨1,A.term,r.log.last,r.log.lastT,0,false,[],[]⟩) ++ A.win.2):=by
   unfold RS.tick
   rw [if_neg (fun q=>c.1 q.1),if_pos (show r.role≠2/\r.ticks + 1>=10 + 7 * r.me from c)]
   unfold RS.dJ
   rw [if_neg (by show ¬ r.term>=_; omega),eA]
  have At:A.term=r.term + 1:=by rw [eA]; exact w1
  have Ar:A.role=1:=by rw [eA]; rfl
  have Av:A.aN=r.me + 1:=by rw [eA]; rfl
  have An:A.n=r.n/\A.me=r.me:=by rw [eA]; exact ⟨rfl,rfl⟩
  rw [e]
  have wl:=RS.BV (r:=A)
  by_cases wn:A.won=true
  ·obtain ⟨e1,e2,e3,e4,e5,e6⟩:=RS.AO Ar wn
   refine ⟨fun z hz=>?_,.inr (e3.trans At),e4.trans An.1,e5.trans An.2,fun h=>by have:A.win.1.role=1:=h; omega,fun _ _=>e6.trans Av⟩
   rcases List.mem_append.1 hz with q | q
   ·have:=(RS.jC q).1
    rw [this]
    exact ⟨e3.symm,fun k=>e1⟩
   ·exact ⟨(wl z q).2,fun _=>e1⟩
  ·have wf:A.won=false:=by simpa using wn
   have en:=RS.si (r:=A) (.inr wf)
   rw [en]
   refine ⟨fun z hz=>?_,.inr At,An.1,An.2,fun _ _=>wf,fun _ _=>Av⟩
   rw [List.append_nil] at hz
   have:=(RS.jC hz).1
   rw [this]
   exact ⟨rfl,fun k=>by rcases k with k | k <;> cases k⟩
 ·by_cases d:pM r
  ·rw [pV d]
   refine ⟨fun z hz=>?_,.inl rfl,rfl,rfl,fun h h'=>h' h,fun h h'=>h' h⟩
   have:=(RS.jC hz).1
   rw [this]
   exact ⟨RS.lU _,fun _=>d.1⟩
  ·rw [mX c d]
   exact ⟨fun z hz=>(by cases hz),.inl rfl,rfl,rfl,fun h h'=>h' h,fun h h'=>h' h⟩
theorem FJ (r:RS) (x0:0<=r.log.ix) (bd:r.log.last<=10000000):r.tick.1.log.last<=r.log.last + 1:=by
 unfold RS.tick
 split
 ·show r.log.last<=_; omega
 ·split
  ·unfold RS.dJ
   split
   ·show r.log.last<=_; omega
   ·show (RS.win _).1.log.last<=_
    by_cases wn:(RS.asks { r with ticks:=r.ticks + 1 }).won=true
    ·rw [RS.vz rfl wn]
     exact wK (RS.asks { r with ticks:=r.ticks + 1 }).lead [] x0 bd
    ·rw [RS.si (.inr (by simpa using wn))]
     show r.log.last<=_; omega
  ·show r.log.last<=_; omega
/-- lengths, when one turns -/
theorem wu {E:Int} (L:Len n E w) (hi:Mb n i) {r:RS} {out:List gQ} {q0:List Let} (sub:∀ x∈q0,x∈w.q) {E':Int} (hE:E<=E') (hl:r.log.last<=E') {M:Nat} (g':Good n M (PW.act ⟨w.R,q0⟩ i (r,out))) (hd:∀ z∈out,(z.2.kind=3∨z.2.kind=5)->r.role=2/\z.2.term=r.term):Len n E' (PW.act ⟨w.R,q0⟩ i (r,out)):=by
 have Ri:(PW.act ⟨w.R,q0⟩ i (r,out)).R i=cl r:=upd_same _ _ _
 have Rj:∀ j,j≠i->(PW.act ⟨w.R,q0⟩ i (r,out)).R j=w.R j:=fun j h=>aL h
 have lR:∀ j,Mb n j->((PW.act ⟨w.R,q0⟩ i (r,out)).R j).log.last<=E':=fun j hj=>by
  by_cases e:j=i
  ·rw [e,Ri]; exact hl
  ·rw [Rj j e]; have:=L.l j hj; omega
 have key:∀ y∈(PW.act ⟨w.R,q0⟩ i (r,out)).q,y∈w.q∨((y.2.2.kind=3∨y.2.2.kind=5)->Mb n y.1/\((PW.act ⟨w.R,q0⟩ i (r,out)).R y.1).role=2/\((PW.act ⟨w.R,q0⟩ i (r,out)).R y.1).term=y.2.2.term):=fun y hy=>by
  have hy':y∈q0 ++ (bK i out).take (3000 - q0.length):=hy
  rcases List.mem_append.1 hy' with q | q
  ·exact .inl (sub y q)
  ·right
   obtain ⟨z,hz,rfl⟩:=List.mem_map.1 (List.mem_of_mem_take q)
   intro k
   obtain ⟨h1,h2⟩:=hd z hz k
   exact ⟨hi,by rw [Ri]; exact h1,by rw [Ri]; exact h2.symm⟩
 refine ⟨lR,fun y hy k=>?_,fun y hy k=>?_⟩
 ·rcases key y hy with q | q
  ·have:=L.k3 y q k; omega
  ·obtain ⟨a,b,c⟩:=q (.inl k)
   have:=(g'.due hy b c).1 k
   have:=lR _ a; omega
 ·rcases key y hy with q | q
  ·have:=L.k5 y q k; omega
  ·obtain ⟨a,b,c⟩:=q (.inr k)
   have:=(g'.due hy b c).2 k
   have:=lR _ a; omega
theorem Scr.tick (s:Scr n a w) (g:Good n N w) (hi:Mb n i) (ha:a<=1000) {M:Nat} (g':Good n M (w.tick i)):Scr n (a + 1) (w.tick i):=by
 have n1:=g.n1
 have rn:=g.rn hi
 have tm:=g.tm hi
 have lg:=g.log hi
 obtain ⟨t1,t2,t3,t4,t5,t6⟩:=Ht (w.R i) ⟨tm.2,tm.1⟩
 have b':=s.turn g hi ha (r:=(w.R i).tick.1) (out:=(w.R i).tick.2) (q0:=w.q) (fun _ h=>h) (T':=0) (fun T b _=>by have:=b.tr i hi; omega) (fun y hy=>(t1 y hy).1) (fun h=>by
  obtain ⟨T,b,_⟩:=s.b
  exact t5 h (b.nw i hi)) (fun h=>by
  obtain ⟨T,b,_⟩:=s.b
  rw [t6 h (fun q=>by rw [b.vl i hi q,rn.2]),rn.2]) (fun T b=>by
  have:=Cs (g.tk i hi) (by rw [rn.1]; omega) (by rw [rn.1,rn.2]; exact hi)
  omega)
 refine ⟨b',?_⟩
 have tl:=FJ (w.R i) lg.1 lg.2.1
 rcases s.j with ⟨h1,h2,h3⟩ | ⟨h1,h2⟩
 ·by_cases c:bX (w.R i)
  ·right
   have:=(h1 i hi).2
   have c2:=c.2
   rw [rn.2] at c2
   have i0:=hi.1
   have l0:=h3.l i hi
   exact ⟨by omega,wu (r:=(w.R i).tick.1) (out:=(w.R i).tick.2) (E':=((a + 1:Nat):Int) - 9) (q0:=w.q) h3 hi (fun _ h=>h) (by omega) (by omega) g' fun z hz k=>⟨(t1 z hz).2 k,(t1 z hz).1⟩⟩
  ·left
   have nb:¬ pM (w.R i):=fun q=>by have:=q.1; rw [(h1 i hi).1] at this; omega
   have et:=mX c nb
   have Ri:(w.tick i).R i=cl { w.R i with ticks:=(w.R i).ticks + 1 }:=by
    have:(w.tick i).R i=cl (w.R i).tick.1:=upd_same w.R i (cl (w.R i).tick.1)
    rw [this,et]
   have q':(w.tick i).q=[]:=by
    show w.q ++ (bK i (w.R i).tick.2).take _=[]
    rw [et,h2]; simp [bK]
   refine ⟨fun j hj=>?_,q',?_⟩
   ·by_cases e:j=i
    ·rw [e,Ri]
     have:=h1 i hi
     exact ⟨this.1,by show (w.R i).ticks + 1<=_; omega⟩
    ·have:(w.tick i).R j=w.R j:=aL e
     rw [this]
     have:=h1 j hj
     exact ⟨this.1,by omega⟩
   ·refine ⟨fun j hj=>?_,fun x hx=>by rw [q'] at hx; (cases hx),fun x hx=>by rw [q'] at hx; (cases hx)⟩
    by_cases e:j=i
    ·rw [e,Ri]; exact h3.l i hi
    ·have:(w.tick i).R j=w.R j:=aL e
     rw [this]; exact h3.l j hj
 ·right
  have l0:=h2.l i hi
  exact ⟨by omega,wu (r:=(w.R i).tick.1) (out:=(w.R i).tick.2) (E':=((a + 1:Nat):Int) - 9) (q0:=w.q) h2 hi (fun _ h=>h) (by omega) (by omega) g' fun z hz k=>⟨(t1 z hz).2 k,(t1 z hz).1⟩⟩
/-- a turn without letters, that leaves most -/
theorem Scr.quiet (s:Scr n a w) (g:Good n N w) (hi:Mb n i) (ha:a<=1000) {r:RS} (e1:r.term=(w.R i).term) (e2:r.role=(w.R i).role/\r.ballot=(w.R i).ballot/\r.aN=(w.R i).aN/\r.ticks=(w.R i).ticks∨r.role=0/\r.ticks=0) (e3:r.n=(w.R i).n) (el:r.log.last<=(w.R i).log.last∨(w.R i).role=2/\r.log.last<=(w.R i).log.last + 1) {M:Nat} (g':Good n M (w.act i (r,[]))):Scr n (a + 1) (w.act i (r,[])):=by
 have tk:=g.tk i hi
 have b':=s.turn g hi ha (r:=r) (out:=[]) (q0:=w.q) (fun _ h=>h) (T':=0) (fun T b _=>by have:=b.tr i hi; omega) (fun y hy=>by cases hy) (fun h=>by
  obtain ⟨T,b,_⟩:=s.b
  rcases e2 with q | q
  ·rw [RS.DZ q.2.1 e3]; exact b.nw i hi (by rw [← q.1]; exact h)
  ·omega) (fun h=>by
  obtain ⟨T,b,_⟩:=s.b
  rcases e2 with q | q
  ·rw [q.2.2.1]; exact b.vl i hi (by rw [← q.1]; exact h)
  ·omega) (fun T b=>by
  have:pot r<=pot (w.R i):=by
   rcases e2 with q | q
   ·unfold pot; rw [q.1,q.2.2.2]; exact Int.le_refl _
   ·have:pot r=0:=by unfold pot fo; rw [if_neg (by omega),if_neg (by omega),q.2]; rfl
    rw [this]; exact Ec tk
  show (w.q.length:Int) + 0 + pot r<=_
  omega)
 refine ⟨b',?_⟩
 have q':(w.act i (r,[])).q=w.q:=wF w.q
 have Ri:(w.act i (r,[])).R i=cl r:=upd_same _ _ _
 have Rj:∀ j,j≠i->(w.act i (r,[])).R j=w.R j:=fun j h=>aL h
 rcases s.j with ⟨h1,h2,h3⟩ | ⟨h1,h2⟩
 ·left
  refine ⟨fun j hj=>?_,by rw [q']; exact h2,?_⟩
  ·by_cases e:j=i
   ·rw [e,Ri]
    have:=h1 i hi
    rcases e2 with q | q
    ·exact ⟨q.1.trans this.1,by show r.ticks<=_; omega⟩
    ·exact ⟨q.1,by show r.ticks<=_; omega⟩
   ·rw [Rj j e]; have:=h1 j hj; exact ⟨this.1,by omega⟩
  ·exact wu (r:=r) (out:=[]) (E':=0) (q0:=w.q) h3 hi (fun _ h=>h) (Int.le_refl _) (by
    have:=h3.l i hi
    rcases el with q | q
    ·omega
    ·have:=(h1 i hi).1; omega) g' fun z hz=>by cases hz
 ·right
  exact ⟨by omega,wu (r:=r) (out:=[]) (E':=((a + 1:Nat):Int) - 9) (q0:=w.q) h2 hi (fun _ h=>h) (by omega) (by have:=h2.l i hi; rcases el with q | q <;> omega) g' fun z hz=>by cases hz⟩
/-- letters are lost -/
theorem Scr.fewer (s:Scr n a w) {q0:List Let} (sub:∀ x∈q0,x∈w.q) (hl:q0.length<=w.q.length):Scr n (a + 1) ⟨w.R,q0⟩:=by
 obtain ⟨T,b,ex⟩:=s.b
 refine ⟨⟨T,⟨b.tr,fun x hx=>b.tq x (sub x hx),b.nw,b.vl,?_⟩,ex⟩,?_⟩
 ·have:=b.pt
  show (q0.length:Int) + tL n w.R<=_
  omega
 ·have sl:∀ {E E':Int},Len n E w->E<=E'->Len n E' ⟨w.R,q0⟩:=fun L h=>⟨fun j hj=>by have:=L.l j hj; show (w.R j).log.last<=_; omega,fun x hx k=>by have:=L.k3 x (sub x hx) k; omega,fun x hx k=>by have:=L.k5 x (sub x hx) k; omega⟩
  rcases s.j with ⟨h1,h2,h3⟩ | ⟨h1,h2⟩
  ·left
   refine ⟨fun j hj=>⟨(h1 j hj).1,by have:=(h1 j hj).2; show (w.R j).ticks<=_; omega⟩,?_,sl h3 (Int.le_refl _)⟩
   rw [h2] at hl
   exact List.length_eq_zero_iff.1 (by simp at hl; exact hl ▸ rfl)
  ·exact .inr ⟨by omega,sl h2 (by omega)⟩
/-- a letter comes; it may stay -/
theorem Scr.takes (s:Scr n a w) (g:Good n (N + 1) w) (ha:a<=1000) {x:Let} (hx:x∈w.q) {q0:List Let} (sub:∀ y∈q0,y∈w.q) (hl:q0.length<=w.q.length):Scr n (a + 1) (PW.sJ ⟨w.R,q0⟩ x)/\Good n N (PW.sJ ⟨w.R,q0⟩ x):=by
 obtain ⟨T,b,p,hp,pT⟩:=s.b
 have ps:=uy g
 have pt:=b.pt
 obtain ⟨v,ev⟩:∃ v:PW,v=⟨w.R,x :: q0⟩:=⟨_,rfl⟩
 have et:v.take=PW.sJ ⟨w.R,q0⟩ x:=by rw [ev]; rfl
 have sub':∀ y∈x :: q0,y∈w.q:=fun y hy=>by
  rcases List.mem_cons.1 hy with rfl | hy
  ·exact hx
  ·exact sub y hy
 have gv:Good n (N + 1) v:=by
  obtain ⟨B,G,z,bb⟩:=g.s
  rw [ev]
  exact ⟨g.n1,g.k0,g.tk,B,G,⟨z.core,z.ls.sub sub'⟩,bb⟩
 have bv:Bs n T (2 * (a + 1:Nat)) v:=by
  rw [ev]
  refine ⟨b.tr,fun y hy=>b.tq y (sub' y hy),b.nw,b.vl,?_⟩
  show ((x :: q0:List Let).length:Int) + tL n w.R<=_
  rw [List.length_cons]; omega
 have ev2:v.q=x :: q0:=by rw [ev]
 have g1:=gv.take (N:=N)
 have b1:=bv.take (gv.mono (by omega)) (by omega) ev2
 rw [← et]
 refine ⟨⟨⟨T,b1,p,hp,?_⟩,?_⟩,g1⟩
 ·obtain ⟨out,k⟩:=bv.tk (gv.mono (by omega)) (by omega) ev2
  have u:=b1.tr p hp
  by_cases e:p=x.2.1
  ·subst e
   have:=k.mo
   rw [ev] at this
   have h2:(w.R x.2.1).term<=(v.take.R x.2.1).term:=by rw [ev]; exact this
   omega
  ·rw [k.oth p e,ev]; exact pT
 ·rcases s.j with ⟨h1,h2,h3⟩ | ⟨h1,h2⟩
  ·rw [h2] at hx; cases hx
  ·right
   refine ⟨by omega,?_⟩
   have Lv:Len n ((a:Int) - 9) v:=by
    rw [ev]
    exact ⟨h2.l,fun y hy k=>h2.k3 y (sub' y hy) k,fun y hy k=>h2.k5 y (sub' y hy) k⟩
   rcases Lv.take bv (gv.mono (by omega)) (by omega) ev2 with q | q
   ·exact q.mono (by omega)
   ·have:=q.2.2.2.2.2.2
    rw [show (((a + 1:Nat)):Int) - 9=(a:Int) - 9 + 1 from by omega]
    exact this
theorem Good.cm (g:Good n N w) (hi:Mb n i):0<=(w.R i).commit/\(w.R i).commit<=(w.R i).log.last:=by
 obtain ⟨B,G,s,b⟩:=g.s
 have m:=s.core.mi i hi.1 hi.2
 have:=m.c0; have:=m.c2; have:=m.rep.i0; have:=m.rep.last
 omega
theorem Scr.pF (s:Scr n a w) (g:Good n N w) (hi:Mb n i) (ha:a<=1000) (cmd:List Int) {M:Nat} (g':Good n M (w.act i (((w.R i).aI cmd).1,[]))):Scr n (a + 1) (w.act i (((w.R i).aI cmd).1,[])):=by
 have lg:=g.log hi
 have e:((w.R i).aI cmd).1=w.R i∨(w.R i).role=2/\((w.R i).aI cmd).1=((w.R i).put cmd).1:=by
  unfold RS.aI
  split
  ·exact .inl rfl
  ·rename_i q; exact .inr ⟨Decidable.not_not.1 q,rfl⟩
 refine s.quiet g hi ha ?_ ?_ ?_ ?_ g'
 ·rcases e with e | ⟨_,e⟩ <;> rw [e]
  exact (RS.xL cmd).2.2.2.2.2.2.1
 ·rcases e with e | ⟨_,e⟩ <;> rw [e]
  ·exact .inl ⟨rfl,rfl,rfl,rfl⟩
  ·obtain ⟨_,_,p3,_,p5,p6,_,p8⟩:=RS.xL (r:=w.R i) cmd
   exact .inl ⟨p5,p6,p8,p3⟩
 ·rcases e with e | ⟨_,e⟩ <;> rw [e]
  exact (RS.xL cmd).1
 ·rcases e with e | ⟨q,e⟩ <;> rw [e]
  ·exact .inl (Int.le_refl _)
  ·exact .inr ⟨q,wK _ cmd lg.1 lg.2.1⟩
theorem Scr.again (s:Scr n a w) (g:Good n N w) (hi:Mb n i) (ha:a<=1000) {M:Nat} (g':Good n M ⟨upd w.R i (RS.start i n (w.R i).term (w.R i).aN (w.R i).log (w.R i).aQ),w.q⟩):Scr n (a + 1) ⟨upd w.R i (RS.start i n (w.R i).term (w.R i).aN (w.R i).log (w.R i).aQ),w.q⟩:=by
 have e:(⟨upd w.R i (RS.start i n (w.R i).term (w.R i).aN (w.R i).log (w.R i).aQ),w.q⟩:PW)=w.act i (RS.start i n (w.R i).term (w.R i).aN (w.R i).log (w.R i).aQ,[]):=by
  unfold PW.act
  rw [show bK i ((RS.start i n (w.R i).term (w.R i).aN (w.R i).log (w.R i).aQ,([]:List gQ)).2)=[] from rfl,wF]
  rfl
 rw [e] at g' ⊢
 exact s.quiet g hi ha rfl (.inr ⟨rfl,rfl⟩) (by rw [(g.rn hi).1]; rfl) (.inl (Int.le_refl _)) g'
theorem Scr.cut (s:Scr n a w) (g:Good n N w) (hi:Mb n i) (ha:a<=1000) (sn:List Int) {M:Nat} (g':Good n M (w.act i (((w.R i).mU (w.R i).commit sn).1,[]))):Scr n (a + 1) (w.act i (((w.R i).mU (w.R i).commit sn).1,[])):=by
 have cm:=g.cm hi
 have e:((w.R i).mU (w.R i).commit sn).1=w.R i∨∃ t,((w.R i).mU (w.R i).commit sn).1=(w.R i).base (w.R i).commit t sn:=by
  unfold RS.mU
  split
  ·exact .inl rfl
  ·split
   ·exact .inl rfl
   ·exact .inr ⟨_,rfl⟩
 refine s.quiet g hi ha ?_ ?_ ?_ ?_ g'
 ·rcases e with e | ⟨t,e⟩ <;> rw [e]
  rfl
 ·rcases e with e | ⟨t,e⟩ <;> rw [e] <;> exact .inl ⟨rfl,rfl,rfl,rfl⟩
 ·rcases e with e | ⟨t,e⟩ <;> rw [e]
  rfl
 ·rcases e with e | ⟨t,e⟩ <;> rw [e]
  ·exact .inl (Int.le_refl _)
  ·exact .inl (by have:=AA (w.R i) (t:=t) sn cm.1; omega)
/-- the script is done: all of it -/
theorem lives {w:PW} (s:Scr n a w) (ha:a<=60) (g:Good n 1300000 w):Fin n (run n (w,0,false) 400):=by
 have n1:=g.n1
 have pt:∀ {T:Int},Bs n T (2 * a) w->Bs n T 120 w:=fun b=>⟨b.tr,b.tq,b.nw,b.vl,by have:=b.pt; omega⟩
 have len:Len n 51 w:=by
  rcases s.j with ⟨_,_,h⟩ | ⟨_,h⟩
  ·exact h.mono (by omega)
  ·exact h.mono (by omega)
 by_cases h:n=1
 ·subst h
  exact LP g (len.l 0 mb0)
 ·obtain ⟨T,b,ex⟩:=s.b
  exact KW (by omega) (g.mono (by omega)) (pt b) len ex
end
end Go.Q.Rf
end
section
/- What a member is to keep is stored, then its letters go. -/
namespace Go.Q.Yi
open Rf
theorem Il (S:Int->SS) (i:Int) (a b:SS):vP (vP S i a) i b=vP S i b:=by
 funext k; unfold vP; split <;> rfl
theorem IA (S:Int->SS) (i:Int):vP S i (S i)=S:=by
 funext k; unfold vP; split
 ·rename_i e; rw [e]
 ·rfl
/-- how a world stands -/
structure Sx [QC] (n:Int) (B T:Nat) (O:bz) (h:Heap) (M:MLy) (R:Int->RS) (S:Int->SS) (Ls:List Let) (kn:List Ent) (ld:List Int):Prop where
 W:WAt n O h M R S Ls kn ld
 G:Wi n B R S Ls kn ld
 ll:Ls.length<=3000
 kl:kn.length<=300
 dl:ld.length<=300
 lw:∀ x∈Ls,WFm x.2.2
 ak:∀ i,In n i->(R i).role=1->∃ l,(R i).ballot=some l
 tk:∀ i,In n i->(R i).ticks<=T
section
variable [QC] {n:Int} {O:bz} {h h':Heap} {M:MLy} {R:Int->RS} {S:Int->SS} {Ls:List Let} {kn:List Ent} {ld:List Int} {i:Int} {B T:Nat}
theorem Jv {h:Heap} {s:Slc} {ks:List aj} (T:Row 0 h 107 6 s (ks.flatMap aj.cs)) {j:Nat} {v:aj} (hv:ks[j]? = some v):∃ a,s.a=some a/\aJ h (a.add (j * 6)) (aj.cs v):=by
 have:=T.1
 rw [Bf] at this
 exact (LsAt.tJ (cs:=aj.cs) (w:=6) (fun _=>rfl) T.slc (by omega) (by decide)).at' j v hv
theorem Gl {Ls:List Let} {i:Int} {out:List gQ} {j:Nat} (h:Ls.length + j<=3000) (e:j=out.length∨Ls.length + j=3000):Ls ++ bK i (out.take j)=cap Ls (bK i out):=by
 unfold cap bK
 rw [← List.map_take]
 rcases e with e | e
 ·rw [e,List.take_of_length_le (Nat.le_refl _),List.take_of_length_le (by omega)]
 ·rw [show 3000 - Ls.length=j from by omega]
/-- letters go, as long as there is room -/
theorem BI {out:List gQ} {s kslc:Slc} {k:KP Unit} {nx:KP Int} (W:WAt n O h M R S Ls kn ld) (Mo:aP O h s out) (ol:out.length<=100000) (ll:Ls.length<=3000) (kl:kn.length<=300) (dl:ld.length<=300) (hi:In n i)
  (act:Wi n B R S (cap Ls (bK i out)) kn ld)
  (lw:∀ x∈Ls,WFm x.2.2) (ow:∀ x∈out,WFm x.2) (ak:∀ i,In n i->(R i).role=1->∃ l,(R i).ballot=some l) (tk:∀ i,In n i->(R i).ticks<=T)
  (H:∀ O' h' M' kn' ld',Sx n B T O' h' M' R S (cap Ls (bK i out)) kn' ld'->M'.w=M.w->k () h'):nI (some ⟨M.w,0,none⟩) i s 0 k nx h:=by
 unfold nI
 refine ⟨fun j h'=>(0<=j/\j<=out.length)/\∃ O' M',WAt n O' h' M' R S (Ls ++ bK i (out.take j.toNat)) kn ld/\aP O' h' s out/\Ls.length + j<=3000/\M'.w=M.w,fun j _=>(out.length - j).toNat,⟨by omega,O,M,by simpa [bK] using W,Mo,by omega,rfl⟩,?_⟩
 rintro j h1 ⟨⟨j0,j1⟩,O1,M1,W1,Mo1,ll1,ew⟩
 have c1:af h1 ((⟨M.w,0,none⟩:Addr).add 1)=some (Slc.v M1.lt):=by rw [← ew]; exact W1.c 1
 have lt:=W1.l.len
 have ml:(bK i (out.take j.toNat)).length=j.toNat:=by unfold bK; rw [List.length_map,List.length_take]; omega
 rw [List.length_append,ml] at lt
 have no:(j=out.length∨Ls.length + j=3000)->fP (some ⟨M.w,0,none⟩) i s j false k nx (fun j' h'=>((0<=j'/\j'<=out.length)/\∃ O' M',WAt n O' h' M' R S (Ls ++ bK i (out.take j'.toNat)) kn ld/\aP O' h' s out/\Ls.length + j'<=3000/\M'.w=M.w)/\(out.length - j').toNat < (out.length - j).toNat) h1:=fun e=>by
  unfold fP
  rw [if_neg (by simp)]
  have ec:Ls ++ bK i (out.take j.toNat)=cap Ls (bK i out):=Gl (by omega) (by omega)
  rw [ec] at W1
  obtain ⟨G,g⟩:=act
  have:=look_ok (k:=k) W1 g.core g.kn g.ld kl dl hi fun O' h' M' kn' ld' A=>by
   refine H O' h' M' kn' ld' ⟨A.W,⟨G,g.core,g.ls,A.K,A.D,g.sy⟩,?_,A.kl,A.dl,fun x hx=>?_,ak,tk⟩ (A.w.trans ew)
   ·unfold cap
    rw [List.length_append,List.length_take]; omega
   ·unfold cap at hx
    rcases List.mem_append.1 hx with q | q
    ·exact lw x q
    ·obtain ⟨y,hy,rfl⟩:=List.mem_map.1 (List.mem_of_mem_take q)
     exact ow y hy
  rw [ew] at this
  exact this
 unfold qh
 have sl:=Mo1.len
 by_cases hj:j < (s.len:Int)
 ·rw [if_pos (by simpa using hj)]
  refine ⟨_,rfl,M1.lt,c1,?_⟩
  by_cases h3:(M1.lt.len:Int) < 3000
  ·rw [show decide ((M1.lt.len:Int) < 3000)=true from by simpa using h3]
   unfold fP
   rw [if_pos rfl]
   obtain ⟨ms,Tm,em,Im⟩:=Mo1.m
   obtain ⟨y,hy⟩:∃ y,out[j.toNat]? = some y:=⟨_,List.getElem?_eq_getElem (by omega)⟩
   obtain ⟨v,hv⟩:∃ v,ms[j.toNat]? = some v:=⟨_,List.getElem?_eq_getElem (by omega)⟩
   obtain ⟨e1,V⟩:=Im _ v y hv hy
   obtain ⟨a,ha,cv⟩:=(LsAt.tJ (cs:=aG.cs) (w:=9) (fun _=>rfl) Tm.slc (by omega) (by decide)).at' _ _ hv
   have X:=Ext.push h1 (.cells (ai.cs ⟨i,v.uz,v.f_M⟩).toArray 109) (Nat.le_refl _)
   have W2:=W1.ext X
   have Mo2:=Mo1.ext X
   have V2:=(V.ext X).mono (O':=O1) fun g hg=>.inl (.inl hg)
   refine ⟨_,rfl,M1.lt,c1,a,ha,j0,hj,v.uz,?_,a,ha,j0,hj,v.f_M,?_,_,_,rfl,rfl,?_⟩
   ·have:=cv 0 (.int .i64 v.uz) rfl
    rwa [fI,Nat.add_zero] at this
   ·intro q w hq
    rw [fI,fI,← fI]
    refine cv (1 + q) w ?_
    show ([Value.int .i64 v.uz] ++ ah.cs v.f_M)[1 + q]? = some w
    rw [List.getElem?_append_right (by simp)]
    simpa using hq
   generalize h1.push (.cells (ai.cs ⟨i,v.uz,v.f_M⟩).toArray 109)=h2 at *
   refine ⟨by rw [← ew]; exact W2.c 1,?_⟩
   have:=Dk (x:=(i,y.1,y.2)) (v:=⟨i,v.uz,v.f_M⟩) (k:=fun h'=>∃ x,x=IntKind.i64.wrap (j + 1)/\((0<=x/\x<=out.length)/\∃ O' M',WAt n O' h' M' R S (Ls ++ bK i (out.take x.toNat)) kn ld/\aP O' h' s out/\Ls.length + x<=3000/\M'.w=M.w)/\(out.length - x).toNat < (out.length - j).toNat) W2 ⟨rfl,e1,V2⟩ (by rw [List.length_append,ml]; omega) fun O3 h3 s3 W3 G3=>by
    refine ⟨_,rfl,?_⟩
    rw [az (by omega) (by omega)]
    have em:Ls ++ bK i (out.take (j + 1).toNat)=Ls ++ bK i (out.take j.toNat) ++ [(i,y.1,y.2)]:=by
     rw [show (j + 1).toNat=j.toNat + 1 from by omega,List.take_add_one,hy]
     simp [bK]
    refine ⟨⟨by omega,O3,{ M1 with lt:=s3 },by rw [em]; exact W3,Mo2.step G3.p (fun g hg=>.inl hg) G3.o,by omega,ew⟩,by omega⟩
   rw [ew] at this
   exact this
  ·rw [show decide ((M1.lt.len:Int) < 3000)=false from by simpa using h3]
   exact no (.inr (by omega))
 ·rw [if_neg (by simpa using hj)]
  exact no (.inl (by omega))
theorem EE {r:RS} {out:List gQ} {s:Slc} {k:KP Unit} (W:WAt n O h M (upd R i r) S Ls kn ld) (Mo:aP O h s out) (ol:out.length<=100000) (ll:Ls.length<=3000) (kl:kn.length<=300) (dl:ld.length<=300) (hi:In n i)
  (sy:kf (S i) r.keeps=some (ofR r)) (kp:Kpt r) (act:Wi n B (upd R i { r with keeps:=[] }) (vP S i (ofR r)) (cap Ls (bK i out)) kn ld)
  (lw:∀ x∈Ls,WFm x.2.2) (ow:∀ x∈out,WFm x.2) (ak:∀ j,In n j->(upd R i r j).role=1->∃ l,(upd R i r j).ballot=some l) (tk:∀ j,In n j->(upd R i r j).ticks<=T)
  (H:∀ O' h' M' kn' ld',Sx n B T O' h' M' (upd R i { r with keeps:=[] }) (vP S i (ofR r)) (cap Ls (bK i out)) kn' ld'->M'.w=M.w->k () h'):bF (some ⟨M.w,0,none⟩) i s k h:=by
 obtain ⟨a,ha,i0,i1,cr,_⟩:=W.mr hi
 have Ri:=W.r i hi
 rw [upd_same] at Ri
 unfold bF
 refine ⟨_,rfl,M.m,W.c0,a,ha,i0,i1,_,cr,Hf Ri fun h1 ks Tk Ik R1 S1=>?_⟩
 have F1:∀ g,own { M.rs i with keeps:=⟨none,0,0⟩ } g->own (M.rs i) g:=fun g hg=>by
  rcases hg with hg | hg | hg | hg | hg | hg | hg
  ·exact .inl hg
  ·exact .inr (.inl hg)
  ·exact .inr (.inr (.inl hg))
  ·exact .inr (.inr (.inr (.inl hg)))
  ·exact .inr (.inr (.inr (.inr (.inl hg))))
  ·simp [Slc.blk] at hg
  ·exact .inr (.inr (.inr (.inr (.inr (.inr hg)))))
 have W1:=W.act hi (r':={ r with keeps:=[] }) (L':={ M.rs i with keeps:=⟨none,0,0⟩ }) (h':=h1) ⟨R1.g,S1.mono fun g hg=>.inl (.inl hg),fun g hg=>.inl (F1 g hg),rfl⟩
 rw [nY] at W1
 have o1:∀ g,Yi.G O { M.rs i with keeps:=⟨none,0,0⟩ } g->O g:=fun g hg=>hg.elim id fun q=>Ri.ow g (F1 g q)
 have Mo1:=Mo.step (O':=Yi.G O { M.rs i with keeps:=⟨none,0,0⟩ }) S1 (fun g hg=>.inl (by subst hg; exact Ri.Ob)) fun g hg=>.inl (o1 g hg)
 have Ik1:=Ik.mono (O':=Yi.G O { M.rs i with keeps:=⟨none,0,0⟩ }) fun g hg=>.inl (o1 g hg)
 generalize Yi.G O { M.rs i with keeps:=⟨none,0,0⟩ } = O1 at *
 obtain ⟨M1,eM⟩:∃ M1,M1=Ab M i { M.rs i with keeps:=⟨none,0,0⟩ }:=⟨_,rfl⟩
 rw [← eM] at W1
 have ew:M1.w=M.w:=by rw [eM]; rfl
 generalize (M.rs i).keeps=kslc at *
 have ksl:ks.length=r.keeps.length:=Ik1.now.1
 have ksn:kslc.len=ks.length:=by have:=Tk.1; rw [Bf] at this; omega
 unfold qJ
 refine ⟨fun j h'=>(0<=j/\j<=r.keeps.length)/\∃ O' M' sj,WAt n O' h' M' (upd R i { r with keeps:=[] }) (vP S i sj) Ls kn ld/\aP O' h' s out/\Row 0 h' 107 6 kslc (ks.flatMap aj.cs)/\Imm O' h' (fun h=>yx h ks r.keeps)/\M'.w=M.w/\kf sj (r.keeps.drop j.toNat)=some (ofR r),fun j _=>(r.keeps.length - j).toNat,⟨by omega,O1,M1,S i,by rw [IA]; exact W1,Mo1,Tk,Ik1,ew,sy⟩,?_⟩
 rintro j h2 ⟨⟨j0,j1⟩,O2,M2,sj,W2,Mo2,Tk2,Ik2,ew2,kj⟩
 unfold qj
 by_cases hj:j < (kslc.len:Int)
 ·rw [if_pos (by simpa using hj)]
  obtain ⟨a2,ha2,q0,q1,_,cs2⟩:=W2.mr hi
  obtain ⟨x,hx⟩:∃ x,r.keeps[j.toNat]? = some x:=⟨_,List.getElem?_eq_getElem (by omega)⟩
  obtain ⟨v,hv⟩:∃ v,ks[j.toNat]? = some v:=⟨_,List.getElem?_eq_getElem (by omega)⟩
  obtain ⟨a3,ha3,cv⟩:=Jv Tk2 hv
  have hd:r.keeps.drop j.toNat=x :: r.keeps.drop (j.toNat + 1):=by
   rw [List.drop_eq_getElem?_toList_append,hx]; rfl
  rw [hd] at kj
  have kj2:(match o8 sj x with | some s'=>kf s' (r.keeps.drop (j.toNat + 1)) | none=>none)=some (ofR r):=kj
  obtain ⟨s',hs'⟩:∃ s',o8 sj x=some s':=by
   cases hh:o8 sj x with
   | none=>rw [hh] at kj2; cases kj2
   | some s'=>exact ⟨s',rfl⟩
  rw [hs'] at kj2
  have Si:=W2.s i hi
  have eS:vP S i sj i=sj:=if_pos rfl
  rw [eS] at Si
  refine ⟨_,rfl,M2.m,by rw [← ew2]; exact W2.c0,a2,ha2,q0,q1,_,cs2,a3,ha3,j0,hj,v,cv,?_⟩
  refine JM Si W2.ob (Ik2.imp fun _ q=>q.2 _ v x hv hx) (kp x (List.mem_of_getElem? hx)) hs' fun h3 L3 A3 e1 e2 e3 S3=>?_
  rw [if_neg (by simp)]
  have W3:=W2.keep hi A3 e1 e2 e3 S3
  rw [Il] at W3
  have hX:∀ g,pQ (M2.ss i) g->O2 g∨h2.size<=g:=fun g hg=>.inl (hg.elim (fun e=>by subst e; exact Si.ob) fun e=>by subst e; exact Si.l.ob)
  have hO:∀ g,(O2 g∨g=L3.lb)->O2 g∨h2.size<=g:=fun g hg=>hg.elim .inl fun e=>by
   subst e
   exact e2.elim (fun e=>.inl (by rw [e]; exact Si.l.ob)) .inr
  unfold kT
  refine ⟨_,rfl,?_⟩
  rw [az (by omega) (by have:=Ri.wf.kp; omega)]
  exact ⟨⟨by omega,_,_,s',W3,Mo2.step S3 hX hO,S3.row Tk2 (W2.vT hi Tk2 (by decide)),Ik2.step (S3.mono hX) hO,ew2,by rw [show (j + 1).toNat=j.toNat + 1 from by omega]; exact kj2⟩,by dsimp only; omega⟩
 ·rw [if_neg (by simpa using hj)]
  have hjn:j.toNat=r.keeps.length:=by omega
  rw [hjn,List.drop_length] at kj
  have es:sj=ofR r:=Option.some.inj kj
  subst es
  have:=BI (kslc:=kslc) (T:=T) (B:=B) (k:=k) (nx:=fun q h'=>((0<=q/\q<=r.keeps.length)/\∃ O' M' sj,WAt n O' h' M' (upd R i { r with keeps:=[] }) (vP S i sj) Ls kn ld/\aP O' h' s out/\Row 0 h' 107 6 kslc (ks.flatMap aj.cs)/\Imm O' h' (fun h=>yx h ks r.keeps)/\M'.w=M.w/\kf sj (r.keeps.drop q.toNat)=some (ofR r))/\(r.keeps.length - q).toNat < (r.keeps.length - j).toNat) W2 Mo2 ol ll kl dl hi act lw ow (fun j hj hr=>?_) (fun j hj=>?_) fun O' h' M' kn' ld' A e=>H O' h' M' kn' ld' A (e.trans ew2)
  ·rw [ew2] at this
   exact this
  ·by_cases c:j=i
   ·subst c
    have:=ak j hj
    rw [upd_same] at this hr ⊢
    exact this hr
   ·have:=ak j hj
    rw [aL c] at this hr ⊢
    exact this hr
  ·by_cases c:j=i
   ·subst c
    have:=tk j hj
    rw [upd_same] at this ⊢
    exact this
   ·have:=tk j hj
    rw [aL c] at this ⊢
    exact this
end
end Go.Q.Yi
end
section
/- Blocks laid and filled at once; items of slices of structs. -/
namespace Go.Q
/-- a block that is laid and filled -/
theorem bx {cs z:List Value} {E n:Nat} {h:Heap} {K:Nat->Heap->Prop} (hl:cs.length=z.length) (hn:n<=z.length) (H:∀ h',Blk h' h.size cs E->Ext h.size h h'->K h.size h') :
  ∃ (b:Nat) (h2:Heap),b=h.size/\h2=h.push (.cells z.toArray E)/\(∃ h3:Heap,dE h2 (⟨b,0,none⟩:Addr) n/\h3=aU h2 (⟨b,0,none⟩:Addr) 0 cs/\K b h3) :=
 have P:=Blk.push h z E
 ⟨_,_,rfl,rfl,_,dE.eQ P hn,rfl,H _ (P.jZ hl) ((Ext.push h _ (Nat.le_refl _)).trans (Ext.sets _ 0 cs (by show h.size<=h.size; exact Nat.le_refl _)))⟩
section
variable {α:Type} {cs:α->List Value} {w:Nat} {h:Heap} {s:Slc} {xs:List α}
/-- an item of a slice -/
theorem LsAt.it (L:LsAt cs w h s xs) {i:Int} (h0:0<=i) (h1:i < (xs.length:Int)):∃ (a:Addr) (x:α),s.a=some a/\(0:Int)<=i/\i < (s.len:Int)/\xs[i.toNat]? = some x/\aJ h (a.add (i.toNat * w)) (cs x):=by
 obtain ⟨x,hx⟩:∃ x,xs[i.toNat]? = some x:=⟨_,List.getElem?_eq_getElem (by omega)⟩
 obtain ⟨a,ha,hc⟩:=L.at' _ _ hx
 exact ⟨a,x,ha,h0,by rw [L.l]; exact h1,hx,hc⟩
end
/-- a part of a slice of structs -/
theorem LsAt.sub {α:Type} {cs:α->List Value} {w:Nat} {h:Heap} {s:Slc} {xs:List α} (L:LsAt cs w h s xs) {a b m:Nat} (h1:a<=b) (h2:b<=s.len) (h3:b<=m):LsAt cs w h (dS s w a b m) ((xs.take b).drop a):=by
 have hl:=L.l
 refine ⟨by simp only [dS,List.length_drop,List.length_take]; omega,fun i x hx=>?_⟩
 rw [List.getElem?_drop,List.getElem?_take] at hx
 split at hx
 ·obtain ⟨a',ha,hc⟩:=L.at' _ _ hx
  refine ⟨a'.add (a * w),?_,?_⟩
  ·simp only [dS]
   rw [if_neg (by omega),ha]; rfl
  ·rw [show (a'.add (a * w)).add (i * w)=a'.add ((a + i) * w) from by rw [Rw.fI,Nat.add_mul]]; exact hc
 ·cases hx
/-- an append to one of two rows of one's own -/
theorem Ae {B E w E2 w2 bytes:Nat} {z:List Value} {h:Heap} {s t:Slc} {m:Nat} {news xs ys:List Value} {k:Slc->Heap->Prop} (r:Row B h E w s xs) (r2:Row B h E2 w2 t ys) (dj:∀ g,s.blk=some g->t.blk≠some g) (hB:B<=h.size) (hz:z.length=w) (hl:news.length=m * w) (h1:∀ v∈news,v.oneCell'=true)
  (hb:(s.len + m) * bytes<=140737488355328) (hm:s.len + m<=maxLen)
  (H:∀ s' h',Row B h' E w s' (xs ++ news)->s'.len=s.len + m->Row B h' E2 w2 t ys->(∀ g,s'.blk=some g->t.blk≠some g)->Ext B h h'->k s' h'):App E w bytes z h s m news k :=
 App.row r hB hz hl h1 hb hm fun s' h' a b c d e=>H s' h' a b (r2.keep fun g hg=>d g (r2.bd hg).2 fun e2=>dj g e2 hg)
  (fun g hg ht=>by
   rcases e with e | e
   ·exact dj g (e ▸ hg) ht
   ·rw [e] at hg; cases hg; exact Nat.lt_irrefl _ (r2.bd ht).2)
  ⟨c,fun i hi=>d i (Nat.lt_of_lt_of_le hi hB) fun e=>Nat.lt_irrefl _ (Nat.lt_of_lt_of_le hi (r.bd e).1)⟩
/-- the cells of a slice of structs -/
theorem LsAt.LV {α:Type} {cs:α->List Value} {w:Nat} (hc:∀ x,(cs x).length=w) (hw:0 < w) {h:Heap} {s:Slc} {xs:List α} (L:LsAt cs w h s xs):SlcAt h s (xs.flatMap cs):=by
 refine ⟨fun hn=>?_,fun a ha j v hj=>?_⟩
 ·cases xs with
  | nil=>rfl
  | cons x r=>obtain ⟨a,ha,_⟩:=L.at' 0 x rfl; rw [hn] at ha; cases ha
 ·have hl:j < (xs.flatMap cs).length:=(List.getElem?_eq_some_iff.1 hj).1
  rw [Rw.rW hc] at hl
  have h1:j / w < xs.length:=(Nat.div_lt_iff_lt_mul hw).2 hl
  have dm:j / w * w + j % w=j:=by rw [Nat.mul_comm]; exact Nat.div_add_mod j w
  have e:=Rw.vN hc xs (j / w) (j % w) (Nat.mod_lt _ hw)
  rw [dm,hj] at e
  obtain ⟨x,hx⟩:∃ x,xs[j / w]? = some x:=⟨_,List.getElem?_eq_getElem h1⟩
  rw [hx] at e
  obtain ⟨a',ha',hc2⟩:=L.at' _ _ hx
  rw [ha] at ha'; cases ha'
  have:=hc2 (j % w) v e.symm
  rwa [Rw.fI,dm] at this
end Go.Q
end
section
/- The acts. -/
namespace Go.Q.Yi
open Rf
theorem EP {r:RS}:∀ x∈r.tick.2,0<=x.1/\x.1 < r.n:=by
 unfold RS.tick
 split
 ·exact fun x hx=>by
   have:=(RS.sD (r:={ r with ticks:=r.ticks + 1 }) (RS.due { r with ticks:=r.ticks + 1 }) (fun i=>RS.lU i) x hx).1
   exact ⟨this.1,this.2.1⟩
 ·split
  ·unfold RS.dJ
   split
   ·exact fun x hx=>by cases hx
   ·intro x hx
    rcases List.mem_append.1 hx with hx | hx
    ·have:=(RS.sD (r:=RS.asks { r with ticks:=r.ticks + 1 }) _ (fun i=>rfl) x hx).1
     exact ⟨this.1,this.2.1⟩
    ·have:=(RS.BV (r:=RS.asks { r with ticks:=r.ticks + 1 }) x hx).1
     exact ⟨this.1,this.2.1⟩
  ·exact fun x hx=>by cases hx
theorem Ck {r:RS} (n32:r.n<=32):r.tick.2.length<=1000:=by
 unfold RS.tick
 split
 ·have:=tQ { r with ticks:=r.ticks + 1 } (RS.due { r with ticks:=r.ticks + 1 })
  have e:({ r with ticks:=r.ticks + 1 }:RS).n=r.n:=rfl
  dsimp only
  omega
 ·split
  ·unfold RS.dJ
   split
   ·show 0<=1000; omega
   ·rw [List.length_append]
    have a:=tQ (RS.asks { r with ticks:=r.ticks + 1 }) (fun _=>⟨1,(RS.asks { r with ticks:=r.ticks + 1 }).term,r.log.last,r.log.lastT,0,false,[],[]⟩)
    have b:=EW (r:=RS.asks { r with ticks:=r.ticks + 1 })
    have e:(RS.asks { r with ticks:=r.ticks + 1 }).n=r.n:=rfl
    rw [e] at a b
    dsimp only at a b ⊢
    omega
  ·show 0<=1000; omega
section
variable [QC] {n:Int} {O:bz} {h h':Heap} {M:MLy} {R:Int->RS} {S:Int->SS} {Ls:List Let} {kn:List Ent} {ld:List Int} {i:Int} {B T B':Nat}
theorem EU (Ls:List Let) (i:Int) (out:List gQ):∀ x∈cap Ls (bK i out),x∈Ls∨∃ y∈out,x=(i,y.1,y.2):=fun x hx=>by
 unfold cap at hx
 rcases List.mem_append.1 hx with q | q
 ·exact .inl q
 ·obtain ⟨y,hy,e⟩:=List.mem_map.1 (List.mem_of_mem_take q)
  exact .inr ⟨y,hy,e.symm⟩
theorem Sx.post {r':RS} {L':RLy} {out:List gQ} {s:Slc} {k:KP Unit} (A:Sx n B T O h M R S Ls kn ld) (hi:In n i) (q:Res O h (M.rs i) r' h' L') (Mo:aP (Yi.G O L') h' s out) (ol:out.length<=100000) (hB:B<=B') (hB':B'<=10000000)
  (gh:∀ G,WG n B G R S Ls kn ld->∃ G',Core n B' G' (upd R i r')/\Pst n G G'/\Lts n B' G' i out) (to:∀ x∈out,0<=x.1/\x.1 < n) (sy:Sy (S i) r') (kp:Kpt r') (ow:∀ x∈out,WFm x.2) (ak:r'.role=1->∃ l,r'.ballot=some l) (tk:r'.ticks<=T + 1)
  (H:∀ O' h' M' S' kn' ld',Sx n B' (T + 1) O' h' M' (PW.act ⟨R,Ls⟩ i (r',out)).R S' (PW.act ⟨R,Ls⟩ i (r',out)).q kn' ld'->M'.w=M.w->k () h'):bF (some ⟨M.w,0,none⟩) i s k h':=by
 obtain ⟨G,g⟩:=A.G
 refine EE (M:=Ab M i L') (B:=B') (T:=T + 1) (A.W.act hi q) Mo ol A.ll A.kl A.dl hi sy kp (g.act hi.1 hi.2 hB hB' (gh G g) to (EU _ _ _)) A.lw ow (fun j hj hr=>?_) (fun j hj=>?_) fun O' h' M' kn' ld' A' e=>H O' h' M' _ kn' ld' A' e
 ·by_cases c:j=i
  ·subst c; rw [upd_same] at hr ⊢; exact ak hr
  ·rw [aL c] at hr ⊢; exact A.ak j hj hr
 ·by_cases c:j=i
  ·subst c; rw [upd_same]; exact tk
  ·rw [aL c]; have:=A.tk j hj; omega
theorem Sx.lok (A:Sx n B T O h M R S Ls kn ld) (hB:B<=10000000) (hi:In n i):lok (R i).log:=by
 obtain ⟨G,g⟩:=A.G
 have m:=g.core.mi i hi.1 hi.2
 have:=m.rep.last
 have:=m.bf
 unfold Yi.lok
 omega
theorem Sx.k0 (A:Sx n B T O h M R S Ls kn ld) (hi:In n i):(R i).keeps=[]:=by
 obtain ⟨G,g⟩:=A.G
 exact (g.sy i hi.1 hi.2).2
theorem Sx.kp (A:Sx n B T O h M R S Ls kn ld) (hi:In n i):Kpt (R i):=fun k hk=>by rw [A.k0 hi] at hk; cases hk
theorem Sx.sy (A:Sx n B T O h M R S Ls kn ld) (hi:In n i):Sy (S i) (R i):=by
 obtain ⟨G,g⟩:=A.G
 exact g.syi hi.1 hi.2
theorem Sx.rn (A:Sx n B T O h M R S Ls kn ld) (hi:In n i):(R i).n=n:=by
 obtain ⟨G,g⟩:=A.G
 exact (g.core.mi i hi.1 hi.2).rn
theorem Sx.ext (A:Sx n B T O h M R S Ls kn ld) (X:Ext h.size h h'):Sx n B T O h' M R S Ls kn ld:=⟨A.W.ext X,A.G,A.ll,A.kl,A.dl,A.lw,A.ak,A.tk⟩
theorem Sx.good (A:Sx n B T O h M R S Ls kn ld) (n5:n<=5) {N:Nat} (hN:B + N<=9000000):Rf.Good n N ⟨R,Ls⟩:=by
 obtain ⟨G,g⟩:=A.G
 exact ⟨⟨A.W.n1.1,n5⟩,fun i hi=>A.k0 hi,fun i hi=>(A.W.r i hi).wf.tk.1,B,G,⟨g.core,g.ls⟩,hN⟩
theorem Sx.fewer (A:Sx n B T O h M R S Ls kn ld) {O':bz} {h':Heap} {M':MLy} {Ls':List Let} (W:WAt n O' h' M' R S Ls' kn ld) (sub:∀ x∈Ls',x∈Ls) (hl:Ls'.length<=Ls.length):Sx n B T O' h' M' R S Ls' kn ld:=by
 obtain ⟨G,g⟩:=A.G
 exact ⟨W,⟨G,g.core,g.ls.sub sub,g.kn,g.ld,g.sy⟩,by have:=A.ll; omega,A.kl,A.dl,fun x hx=>A.lw x (sub x hx),A.ak,A.tk⟩
/-- a letter is taken away -/
theorem zD {p:Int} {k:Heap->Prop} (A:Sx n B T O h M R S Ls kn ld) (p0:0<=p) (p1:p < Ls.length)
  (H:∀ O' h' s',Sx n B T O' h' { M with lt:=s' } R S (Ls.eraseIdx p.toNat) kn ld->Go O h O' h'->k h') :
  (∃ v65:Slc,af h ((⟨M.w,0,none⟩:Addr).add 1)=some (Slc.v v65)/\(∃ s66:Slc,(0:Int)<=0/\(0:Int)<=p/\(p:Int)<=(v65.cap:Int)/\(v65.cap:Int)<=(v65.cap:Int)/\s66=dS v65 10 (0:Int).toNat p.toNat (v65.cap:Int).toNat/\(∃ v67:Slc,af h ((⟨M.w,0,none⟩:Addr).add 1)=some (Slc.v v67)/\(∃ s68:Slc,(0:Int)<=(IntKind.i64.wrap (p + 1))/\((IntKind.i64.wrap (p + 1)):Int)<=(v67.len:Int)/\((v67.len:Int):Int)<=(v67.cap:Int)/\(v67.cap:Int)<=(v67.cap:Int)/\s68=dS v67 10 (IntKind.i64.wrap (p + 1)).toNat (v67.len:Int).toNat (v67.cap:Int).toNat/\(∃ (b69:Nat) (h70:Heap),b69=h.size/\h70=h.push (.cells ([]).toArray 109)/\(af h70 ((⟨M.w,0,none⟩:Addr).add 1)=some (Slc.v v67)/\af h70 ((⟨M.w,0,none⟩:Addr).add 1)=some (Slc.v v65)/\(∃ l75:List Value,SlcAt h70 s66 l75/\App 109 10 112 [.int .i64 0,.int .i64 0,.int .i64 0,.int .u64 0,.int .u64 0,.int .u64 0,.int .u64 0,.bool false,.slice none 0 0,.slice none 0 0] h70 (⟨some ⟨b69,0,none⟩,0,0⟩:Slc) s66.len l75 (fun s73 h74=>af h74 ((⟨M.w,0,none⟩:Addr).add 1)=some (Slc.v v67)/\(∃ l79:List Value,SlcAt h74 s68 l79/\App 109 10 112 [.int .i64 0,.int .i64 0,.int .i64 0,.int .u64 0,.int .u64 0,.int .u64 0,.int .u64 0,.bool false,.slice none 0 0,.slice none 0 0] h74 s73 s68.len l79 (fun s77 h78=>∃ h80:Heap,WrH h78 ((⟨M.w,0,none⟩:Addr).add 1)/\h80=setH h78 ((⟨M.w,0,none⟩:Addr).add 1) (Slc.v s77)/\(k h80))))))))))):=by
 have W:=A.W
 have ll:=A.ll
 have ltl:=W.l.len
 obtain ⟨ls,T0,e,I⟩:=id W.l
 have cap:=T0.cap
 have lsl:M.lt.len=ls.length:=by omega
 have Lt:=LsAt.tJ (cs:=ai.cs) (w:=10) (fun _=>rfl) T0.slc lsl (by decide)
 have c1:=W.c 1
 rw [az (x:=p + 1) (by omega) (by omega)]
 refine ⟨M.lt,c1,_,by omega,by omega,by omega,by omega,rfl,M.lt,c1,_,by omega,by omega,by omega,by omega,rfl,?_⟩
 have LA:=Lt.sub (a:=(0:Int).toNat) (b:=p.toNat) (m:=(M.lt.cap:Int).toNat) (by show 0<=_; omega) (by omega) (by omega)
 have LB:=Lt.sub (a:=(p + 1).toNat) (b:=(M.lt.len:Int).toNat) (m:=(M.lt.cap:Int).toNat) (by omega) (by omega) (by omega)
 generalize dS M.lt 10 (0:Int).toNat p.toNat (M.lt.cap:Int).toNat=sa at LA ⊢
 generalize dS M.lt 10 (p + 1).toNat (M.lt.len:Int).toNat (M.lt.cap:Int).toNat=sb at LB ⊢
 rw [show (ls.take p.toNat).drop (0:Int).toNat=ls.take p.toNat from rfl] at LA
 rw [show (ls.take (M.lt.len:Int).toNat)=ls from List.take_of_length_le (by omega),show (p + 1).toNat=p.toNat + 1 from by omega] at LB
 have one:∀ l:List ai,∀ v∈l.flatMap ai.cs,v.oneCell'=true:=fun l v hv=>by
  obtain ⟨x,_,hx⟩:=List.mem_flatMap.1 hv
  exact uu (l:=ai.cs x) (by simp [ai.cs,ah.cs,Value.oneCell']) v hx
 have fl:∀ l:List ai,(l.flatMap ai.cs).length=l.length * 10:=fun l=>rW (w:=10) (fun _=>rfl) l
 have X0:=Ext.push h (.cells ([]:List Value).toArray 109) (Nat.le_refl _)
 have W0:=W.ext X0
 have R0:Row h.size (h.push (.cells ([]:List Value).toArray 109)) 109 10 ⟨some ⟨h.size,0,none⟩,0,0⟩ [] :=
  ⟨by simp,by simp [maxLen],.inr ⟨h.size,[],rfl,Nat.le_refl _,Blk.push _ _ _,Nat.le_refl _,by simp,by simp⟩⟩
 refine ⟨_,_,rfl,rfl,W0.c 1,W0.c 1,_,(LA.LV (w:=10) (fun _=>rfl) (by decide)).ext X0,?_⟩
 have la:=LA.l
 have lb:=LB.l
 have la':sa.len<=3000:=by rw [la,List.length_take]; omega
 have lb':sb.len<=3000:=by rw [lb,List.length_drop]; omega
 have SB0:=(LB.LV (w:=10) (fun _=>rfl) (by decide)).ext X0
 generalize h.push (.cells ([]:List Value).toArray 109)=h0 at *
 have z0:=X0.size
 refine App.row R0 z0 rfl (by rw [fl,la]) (one _) (by simp only; omega) (by simp only [maxLen]; omega) fun s1 h1 R1 l1 z1 o1 b1=>?_
 simp only [List.nil_append,Nat.zero_add] at R1 l1
 have X1:Ext h0.size h0 h1∨True:=.inr trivial
 have E1:Ext h.size h h1:=X0.trans ⟨by omega,fun g hg=>o1 g (by omega) fun e=>by simp [Slc.blk] at e; omega⟩
 have W1:=W.ext E1
 have SB1:SlcAt h1 sb ((ls.drop (p.toNat + 1)).flatMap ai.cs):=(LB.LV (w:=10) (fun _=>rfl) (by decide)).ext E1
 refine ⟨W1.c 1,_,SB1,?_⟩
 refine App.row R1 (by omega) rfl (by rw [fl,lb]) (one _) (by omega) (by simp only [maxLen]; omega) fun s2 h2 R2 l2 z2 o2 b2=>?_
 have E2:Ext h.size h h2:=E1.trans ⟨by have:=E1.size; omega,fun g hg=>o2 g (by have:=E1.size; omega) fun e=>by have:=(R1.bd e).1; omega⟩
 rw [← List.flatMap_append,← List.eraseIdx_eq_take_drop_succ] at R2
 have sb2:∀ g,s2.blk=some g->h.size<=g:=fun g hg=>(R2.bd hg).1
 refine GL W (Stp.bu E2) (fun g hg=>.inr (sb2 g hg)) (Ls':=Ls.eraseIdx p.toNat) ⟨ls.eraseIdx p.toNat,R2.mono (Nat.zero_le _),by rw [List.length_eraseIdx,List.length_eraseIdx,e],fun j u y hu hy=>?_⟩ (fun g hg=>(R2.bd hg).2) fun O' h' W' G=>H O' h' s2 (A.fewer W' (fun x hx=>List.mem_of_mem_eraseIdx hx) (by rw [List.length_eraseIdx]; split <;> omega)) G
 rw [List.getElem?_eraseIdx] at hu hy
 have st:∀ {v:ai} {x:Let},(v.uw=x.1/\v.Dt=x.2.1/\Imm O h fun h=>uE h v.f_M x.2.2)->v.uw=x.1/\v.Dt=x.2.1/\Imm (OB O s2) h2 fun h=>uE h v.f_M x.2.2:=fun q=>⟨q.1,q.2.1,q.2.2.step (Stp.bu E2) fun g hg=>hg.elim .inl fun q=>.inr (sb2 g q)⟩
 split at hu
 ·rename_i c
  rw [if_pos c] at hy
  exact st (I j u y hu hy)
 ·rename_i c
  rw [if_neg c] at hy
  exact st (I (j + 1) u y hu hy)
end
end Go.Q.Yi
end

/- A part of the proof of statements of this seat: lemmas, no statement of their own. -/
import Derived.Test.YthjafnfadiijgaaYiZbg
set_option linter.unusedVariables false
set_option linter.unusedSimpArgs false
section
/- One leads: what a delivery brings. -/
namespace Go.Q.Rf
/-- what it knows of one is not more than that one has -/
def Mt (c f:Int) (w:PW):Prop:=nxt w c f - 1<=hst w c f
/-- letters between the two that are sure to be answered well -/
def Ca (T c f:Int) (w:PW) (y:Let):Prop:=y.1=c->y.2.1=f->y.2.2.kind=3∨y.2.2.kind=5->y.2.2.term=T/\(y.2.2.kind=3->y.2.2.index<=hst w c f)
def Cb (T c f:Int) (y:Let):Prop:=y.1=f->y.2.1=c->y.2.2.kind=4->y.2.2.term=T->y.2.2.yes=true
structure Cl (T c f:Int) (w:PW):Prop where
 m:Mt c f w
 a:∀ y∈w.q,Ca T c f w y
 b:∀ y∈w.q,Cb T c f y
/-- what becomes of what it knows of one -/
structure Nh (T c f:Int) (w:PW) (x:Let) (w':PW):Prop where
 a:Mt c f w->Mt c f w'
 b:∀ v,1<=v->Mt c f w∨nxt w c f<=v->Mt c f w'∨nxt w' c f<=v
 hm:hst w c f<=hst w' c f
 d:¬ (x.1=f/\x.2.1=c/\x.2.2.kind=4/\x.2.2.term=T/\x.2.2.yes=false)->nxt w c f<=nxt w' c f
 e:x.1=f->x.2.1=c->x.2.2.kind=4->x.2.2.term=T->x.2.2.yes=false->∀ v,2<=v->Mt c f w∨nxt w c f<=v->Mt c f w'∨nxt w' c f<=v - 1
 g:x.1=f->x.2.1=c->x.2.2.kind=4->x.2.2.term=T->x.2.2.yes=true->x.2.2.index + 1<=nxt w' c f/\∀ v,v - 1<=x.2.2.index->Mt c f w∨nxt w c f<=v->Mt c f w'
section
variable {n T c Λ E f:Int} {N:Nat} {w:PW} {x:Let} {l:List Let} {L:Lg}
theorem rH {a b:Int} (ha:Mb n a) (hb:Mb n b) (h:a≠b):a.toNat≠b.toNat:=by have:=ha.1; have:=hb.1; omega
theorem sP (h:Λ<=2900) (s:Sb n T c Λ E L w) (g:Good n 1 w) (hc:Mb n c) (hf:Mb n f) (ne:f≠c) (e:w.q=x :: l) {out:List gQ} (ls:Ls n T c L w x out w.take) (k:Tk w x l out w.take):Nh T c f w x w.take:=by
 have kn:=s.kn g hc hf
 have hx:x∈w.q:=by rw [e]; exact List.mem_cons_self
 obtain ⟨xf,xi⟩:=g.lt hx
 have eq:∀ (en:nxt w.take c f=nxt w c f) (eh:hst w.take c f=hst w c f) (z:¬ (x.1=f/\x.2.1=c/\x.2.2.kind=4/\x.2.2.term=T)),Nh T c f w x w.take:=fun en eh z=>by
  refine ⟨fun q=>?_,fun v _ q=>?_,by omega,fun _=>by omega,fun a b d t=>absurd ⟨a,b,d,t⟩ z,fun a b d t=>absurd ⟨a,b,d,t⟩ z⟩
  ·unfold Mt at *; rw [en,eh]; exact q
  ·unfold Mt at *; rw [en,eh]; exact q
 cases ls with
 | same q d z0 =>
  have en:nxt w.take c f=nxt w c f:=by unfold nxt; rw [q.1]
  have eh:hst w.take c f=hst w c f:=by unfold hst; rw [q.2.1]
  exact eq en eh fun z=>z0 ⟨z.2.1,z.2.2.1,z.2.2.2,by rw [z.1]; exact ne⟩
 | no a y m q d =>
  have eh:hst w.take c f=hst w c f:=by unfold hst; rw [q.2.1]
  by_cases ef:x.1=f
  ·subst ef
   have en:nxt w.take c x.1=max 1 (min (nxt w c x.1 - 1) m):=by unfold nxt; rw [q.1]; exact nT kn.nl.1
   have k1:=kn.nx
   have k2:=kn.hs
   refine ⟨fun q=>?_,fun v v1 q=>?_,by omega,fun z=>absurd ⟨rfl,a.1,a.2.1,a.2.2.1,y⟩ z,fun _ _ _ _ _ v v2 q=>?_,fun _ _ _ _ yy=>by rw [y] at yy; cases yy⟩
   ·unfold Mt at *; omega
   ·unfold Mt at *; omega
   ·unfold Mt at *; omega
  ·have en:nxt w.take c f=nxt w c f:=by unfold nxt; rw [q.1]; exact getD_set_ne (rH a.2.2.2.1 hf ef)
   exact eq en eh fun z=>ef z.1
 | yes a y ix q cm d =>
  by_cases ef:x.1=f
  ·subst ef
   have en:nxt w.take c x.1=max (nxt w c x.1) (x.2.2.index + 1):=by unfold nxt; rw [q.1]; exact nT kn.nl.1
   have eh:hst w.take c x.1=max (hst w c x.1) x.2.2.index:=by unfold hst; rw [q.2]; exact nT kn.nl.2
   have k1:=kn.nx
   have k2:=kn.hs
   refine ⟨fun q=>?_,fun v v1 q=>?_,by omega,fun _=>by omega,fun _ _ _ _ yy=>(by rw [y] at yy; cases yy),fun _ _ _ _ _=>⟨by omega,fun v hv q=>?_⟩⟩
   ·unfold Mt at *; omega
   ·unfold Mt at *; omega
   ·unfold Mt at *; omega
  ·have en:nxt w.take c f=nxt w c f:=by unfold nxt; rw [q.1]; exact getD_set_ne (rH a.2.2.2.1 hf ef)
   have eh:hst w.take c f=hst w c f:=by unfold hst; rw [q.2]; exact getD_set_ne (rH a.2.2.2.1 hf ef)
   exact eq en eh fun z=>ef z.1
/-- the letters that it sends to one, as answers come -/
theorem Hd (h:Λ<=2900) (s:Sb n T c Λ E L w) (g:Good n 1 w) (hc:Mb n c) (hf:Mb n f) (e:w.q=x :: l) {out:List gQ} (lg:(w.take.R c).log=L) (ls:Ls n T c L w x out w.take) (k:Tk w x l out w.take) (m:Mt c f w.take):∀ y∈bK x.2.1 out,Ca T c f w.take y:=by
 have g':=g.take (N:=0)
 have s':=s.take h g hc e
 have key:x.2.1=c->∀ z∈out,z=(x.1,(w.take.R c).due x.1)->z.1=f->z.2.term=T/\(z.2.kind=3->z.2.index<=hst w.take c f):=fun ec z hz ez e1=>by
  have zf:x.1=f:=by rw [← e1,ez]
  obtain ⟨d1,_,d3⟩:=Cg s' g' hc hf (r:=w.take.R c) rfl lg (s'.all c hc) rfl
  rw [ez,zf]
  refine ⟨d1,fun k3=>?_⟩
  rcases d3 with ⟨_,q,_⟩ | ⟨_,_,q,_⟩
  ·rw [q] at k3; omega
  ·rw [q]; exact m
 intro y hy
 obtain ⟨z,hz,rfl⟩:=List.mem_map.1 hy
 intro y1 y2 yk
 cases ls with
 | same q d z0 =>
  have:=d y1 z hz
  rcases yk with yk | yk
  ·exact absurd yk this.1
  ·exact absurd yk this.2
 | no a y m q d =>
  rw [d] at hz
  exact key a.1 z (by rw [d]; exact hz) (List.mem_singleton.1 hz) y2
 | yes a y ix q cm d =>
  rcases d with d | d
  ·rw [d] at hz
   exact key a.1 z (by rw [d]; exact hz) (List.mem_singleton.1 hz) y2
  ·rw [d] at hz; cases hz
/-- answers to letters that are sure -/
theorem J2 (h:Λ<=2900) (s:Sb n T c Λ E L w) (g:Good n 1 w) (hc:Mb n c) (hE:E<=64) (ne:f≠c) (e:w.q=x :: l) {out:List gQ} (k:Tk w x l out w.take) (a:Ca T c f w x):∀ y∈bK x.2.1 out,Cb T c f y:=by
 have hx:x∈w.q:=by rw [e]; exact List.mem_cons_self
 obtain ⟨xf,xi⟩:=g.lt hx
 have rn:=g.rn xi
 intro y hy y1 y2 y4 yt
 by_cases d:x.1=c/\(x.2.2.kind=3∨x.2.2.kind=5)
 ·obtain ⟨z,hz,ez⟩:=List.mem_map.1 hy
  have xf':x.2.1=f:=by rw [← y1,← ez]
  have ca:=a d.1 xf' d.2
  obtain ⟨am,q1,_,_,q3,q5⟩:=yn h s g hc hE e d.1 (by rw [xf']; exact ne) ca.1 d.2
  rw [k.q] at q1
  rw [List.append_cancel_left q1] at hy
  rw [List.mem_singleton] at hy
  rw [hy]
  rcases d.2 with k3 | k5
  ·exact (q3 k3).2 (by rw [xf']; exact ca.2 k3)
  ·exact (q5 k5).1
 ·exfalso
  obtain ⟨z,hz,ez⟩:=List.mem_map.1 hy
  rcases dD g e (s.b.fit g h) with ⟨out',e2,o1,_⟩ | ⟨o,hm,r',out',e1,e2,t,ot⟩
  ·have q:=k.q
   rw [e2] at q
   have q':bK x.2.1 out'=bK x.2.1 out:=List.append_cancel_left q
   rw [← q'] at hy
   obtain ⟨z,hz,rfl⟩:=List.mem_map.1 hy
   have:=o1 z hz
   have y4':z.2.kind=4:=y4
   have y2':z.1=c:=y2
   exact d ⟨by rw [← this.1]; exact y2',by omega⟩
  ·have q:=k.q
   rw [e2] at q
   have q':bK x.2.1 out'=bK x.2.1 out:=List.append_cancel_left q
   rw [← q'] at hy
   obtain ⟨z,hz,rfl⟩:=List.mem_map.1 hy
   have y4':z.2.kind=4:=y4
   have y2':z.1=c:=y2
   rcases t.kd z hz with p | p | p
   ·omega
   ·exact d ⟨by rw [← p.2.2]; exact y2',p.2.1⟩
   ·omega
theorem Ca.mono {w':PW} (h:hst w c f<=hst w' c f) {y:Let} (a:Ca T c f w y):Ca T c f w' y:=fun h1 h2 h3=>⟨(a h1 h2 h3).1,fun k=>Int.le_trans ((a h1 h2 h3).2 k) h⟩
/-- what holds goes on -/
theorem uY (h:Λ<=2900) (s:Sb n T c Λ E L w) (g:Good n 1 w) (hc:Mb n c) (hf:Mb n f) (ne:f≠c) (hE:E<=64) (C:Cl T c f w) (e:w.q=x :: l):Cl T c f w.take/\nxt w c f<=nxt w.take c f:=by
 have hx:x∈w.q:=by rw [e]; exact List.mem_cons_self
 obtain ⟨out,k,lg,ls⟩:=eZ h s g hc e
 have nh:=sP h s g hc hf ne e ls k
 have m':=nh.a C.m
 refine ⟨⟨m',fun y hy=>?_,fun y hy=>?_⟩,nh.d fun z=>?_⟩
 ·rw [k.q] at hy
  rcases List.mem_append.1 hy with hy | hy
  ·exact (C.a y (by rw [e]; exact List.mem_cons_of_mem _ hy)).mono nh.hm
  ·exact Hd h s g hc hf e lg ls k m' y hy
 ·rw [k.q] at hy
  rcases List.mem_append.1 hy with hy | hy
  ·exact C.b y (by rw [e]; exact List.mem_cons_of_mem _ hy)
  ·exact J2 h s g hc hE ne e k (C.a x hx) y hy
 ·have:=C.b x hx z.1 z.2.1 z.2.2.1 z.2.2.2.1
  rw [z.2.2.2.2] at this; cases this
theorem MH (s:Sb n T c Λ E L w) (g:Good n N w):(w.q.length:Int)<=Λ:=by have:=s.b.pt; have:=uy g; omega
/-- a whole delivery -/
theorem yJ (h:Λ<=2900) {k:Nat} (g:Good n (N + k) w) (s:Sb n T c Λ E L w) (hc:Mb n c):Good n N (dl k w)/\Sb n T c Λ E L (dl k w)/\(dl k w).q.length<=w.q.length/\∀ j,(w.R j).commit<=((dl k w).R j).commit:=by
 obtain ⟨g',i⟩:=dlI (N:=N) (n:=n) (I:=fun w'=>Sb n T c Λ E L w'/\w'.q.length<=w.q.length/\∀ j,(w.R j).commit<=(w'.R j).commit) (fun w' x l g i e=>⟨i.1.take h g hc e,Nat.le_trans (i.1.len h g hc e) i.2.1,fun j=>Int.le_trans (i.2.2 j) (Bw g j)⟩) k w g ⟨s,Nat.le_refl _,fun _=>Int.le_refl _⟩
 exact ⟨g',i.1,i.2.1,i.2.2⟩
/-- (R0) -/
theorem JD (h:Λ<=2900) {k:Nat} (g:Good n (N + k) w) (s:Sb n T c Λ E L w) (hc:Mb n c) (hf:Mb n f) (ne:f≠c) {v:Int} (v1:1<=v) (q:Mt c f w∨nxt w c f<=v):Mt c f (dl k w)∨nxt (dl k w) c f<=v:=by
 obtain ⟨g',i⟩:=dlI (N:=N) (n:=n) (I:=fun w'=>Sb n T c Λ E L w'/\(Mt c f w'∨nxt w' c f<=v)) (fun w' x l g i e=>by
  obtain ⟨out,k,lg,ls⟩:=eZ h i.1 g hc e
  exact ⟨i.1.take h g hc e,(sP h i.1 g hc hf ne e ls k).b v v1 i.2⟩) k w g ⟨s,q⟩
 exact i.2
theorem NK (h:Λ<=2900) {k:Nat} (g:Good n (N + k) w) (s:Sb n T c Λ E L w) (hc:Mb n c) (hf:Mb n f) (ne:f≠c) (q:Mt c f w):Mt c f (dl k w):=by
 obtain ⟨g',i⟩:=dlI (N:=N) (n:=n) (I:=fun w'=>Sb n T c Λ E L w'/\Mt c f w') (fun w' x l g i e=>by
  obtain ⟨out,k,lg,ls⟩:=eZ h i.1 g hc e
  exact ⟨i.1.take h g hc e,(sP h i.1 g hc hf ne e ls k).a i.2⟩) k w g ⟨s,q⟩
 exact i.2
/-- (R3) -/
theorem Fb (h:Λ<=2900) {k:Nat} (g:Good n (N + k) w) (s:Sb n T c Λ E L w) (hc:Mb n c) (hf:Mb n f) (ne:f≠c) (hE:E<=64) (C:Cl T c f w):Cl T c f (dl k w)/\nxt w c f<=nxt (dl k w) c f:=by
 obtain ⟨g',i⟩:=dlI (N:=N) (n:=n) (I:=fun w'=>Sb n T c Λ E L w'/\Cl T c f w'/\nxt w c f<=nxt w' c f) (fun w' x l g i e=>by
  have:=uY h i.1 g hc hf ne hE i.2.1 e
  exact ⟨i.1.take h g hc e,this.1,Int.le_trans i.2.2 this.2⟩) k w g ⟨s,C,Int.le_refl _⟩
 exact i.2
/-- two flushes, and the rest -/
theorem two (h:2 * Λ<=2000) (s:Sb n T c Λ E L w) (g:Good n (N + 2000) w) (hc:Mb n c):∃ w1 k,w1=dl w.q.length w/\Good n (N + k + w1.q.length) w1/\Good n (N + (k + w1.q.length) + w.q.length) w/\dl 2000 w=dl k (dl w1.q.length w1):=by
 have l0:=MH s g
 obtain ⟨g1,s1,l1,_⟩:=yJ (N:=N + (2000 - w.q.length)) (k:=w.q.length) (by omega) (by rw [show N + (2000 - w.q.length) + w.q.length=N + 2000 from by omega]; exact g) s hc
 obtain ⟨w1,e1⟩:∃ w1,w1=dl w.q.length w:=⟨_,rfl⟩
 rw [← e1] at g1 s1 l1
 refine ⟨w1,2000 - w.q.length - w1.q.length,e1,by rw [show N + (2000 - w.q.length - w1.q.length) + w1.q.length=N + (2000 - w.q.length) from by omega]; exact g1,by rw [show N + (2000 - w.q.length - w1.q.length + w1.q.length) + w.q.length=N + 2000 from by omega]; exact g,?_⟩
 rw [e1,← nG,← nG,← e1,show w.q.length + (w1.q.length + (2000 - w.q.length - w1.q.length))=2000 from by omega]
/-- (R1) its letter comes, and the answer: it knows more, or asks for what stands one below -/
theorem Jw (h:2 * Λ<=2000) (s:Sb n T c Λ E L w) (g:Good n (N + 2000) w) (hc:Mb n c) (hf:Mb n f) (ne:f≠c) (hE:E<=64) {v:Int} (v2:2<=v) (q:Mt c f w∨nxt w c f<=v) {m:Msg} (hm:(c,f,m)∈w.q) (mk:m.kind=3∨m.kind=5) (mt:m.term=T) (mi:v - 1<=m.index):Mt c f (dl 2000 w)∨nxt (dl 2000 w) c f<=v - 1:=by
 obtain ⟨w1,k,e1,g1,g0,ed⟩:=two h s g hc
 have st:∀ w' x l,Good n 1 w'->Sb n T c Λ E L w'->w'.q=x :: l->∃ out,Tk w' x l out w'.take/\Sb n T c Λ E L w'.take/\Nh T c f w' x w'.take:=fun w' x l g s e=>by
  obtain ⟨out,k,lg,ls⟩:=eZ (by omega) s g hc e
  exact ⟨out,k,s.take (by omega) g hc e,sP (by omega) s g hc hf ne e ls k⟩
 -- an answer comes
 have got:∀ w' x l,Good n 1 w'->Sb n T c Λ E L w'->w'.q=x :: l->(Mt c f w'∨nxt w' c f<=v)->x.1=f->x.2.1=c->x.2.2.kind=4->x.2.2.term=T->(x.2.2.yes=true->v - 1<=x.2.2.index)->Mt c f w'.take∨nxt w'.take c f<=v - 1:=fun w' x l g s e q a1 a2 a3 a4 a5=>by
  obtain ⟨out,k,s',nh⟩:=st w' x l g s e
  cases hy:x.2.2.yes with
  | true=>exact .inl ((nh.g a1 a2 a3 a4 hy).2 v (a5 hy) q)
  | false=>exact nh.e a1 a2 a3 a4 hy v v2 q
 obtain ⟨_,i1,_,d1,_⟩:=rC (N:=N + (k + w1.q.length)) (I:=fun w'=>Sb n T c Λ E L w'/\(Mt c f w'∨nxt w' c f<=v)) (P0:=fun _=>True) (P:=fun _ _=>True) (D:=fun y w'=>(y.1=c/\y.2.1=f/\(y.2.2.kind=3∨y.2.2.kind=5)/\y.2.2.term=T/\v - 1<=y.2.2.index)->(Mt c f w'∨nxt w' c f<=v - 1)∨∃ a:Msg,(f,c,a)∈w'.q/\a.kind=4/\a.term=T/\(a.yes=true->v - 1<=a.index))
  (fun w' x l g i e _=>by
   have hx:x∈w'.q:=by rw [e]; exact List.mem_cons_self
   obtain ⟨out,k,s',nh⟩:=st w' x l g i.1 e
   refine ⟨⟨s',nh.b v (by omega) i.2⟩,⟨_,k.q,fun _ _=>trivial⟩,fun _ _=>trivial,fun ⟨y1,y2,y3,y4,y5⟩=>?_,fun y hy hh=>?_⟩
   ·obtain ⟨a,q1,a4,at',q3,q5⟩:=yn (by omega) i.1 g hc hE e y1 (by rw [y2]; exact ne) y4 y3
    refine .inr ⟨a,by rw [q1,y2]; exact List.mem_append.2 (.inr (List.mem_singleton.2 rfl)),a4,at',fun ay=>?_⟩
    rcases y3 with k3 | k5
    ·have:=((q3 k3).1 ay).1; omega
    ·have:=(q5 k5).2; omega
   ·rcases hy hh with q | ⟨a,a1,a2,a3,a4⟩
    ·exact .inl (nh.b (v - 1) (by omega) q)
    ·rw [e] at a1
     rcases List.mem_cons.1 a1 with a1 | a1
     ·exact .inl (got w' x l g i.1 e i.2 (by rw [← a1]) (by rw [← a1]) (by rw [← a1]; exact a2) (by rw [← a1]; exact a3) (by rw [← a1]; exact a4))
     ·exact .inr ⟨a,by rw [k.q]; exact List.mem_append.2 (.inl a1),a2,a3,a4⟩) g0 ⟨s,q⟩ (fun _ _=>trivial)
 have q1:=d1 _ hm ⟨rfl,rfl,mk,mt,mi⟩
 rw [← e1] at i1 q1
 obtain ⟨g2,i2,_,d2,k2⟩:=rC (N:=N + k) (I:=fun w'=>Sb n T c Λ E L w'/\(Mt c f w'∨nxt w' c f<=v)) (P0:=fun _=>True) (P:=fun _ _=>True) (D:=fun y w'=>(y.1=f/\y.2.1=c/\y.2.2.kind=4/\y.2.2.term=T/\(y.2.2.yes=true->v - 1<=y.2.2.index))->Mt c f w'∨nxt w' c f<=v - 1)
  (fun w' x l g i e _=>by
   obtain ⟨out,k,s',nh⟩:=st w' x l g i.1 e
   exact ⟨⟨s',nh.b v (by omega) i.2⟩,⟨_,k.q,fun _ _=>trivial⟩,fun _ _=>trivial,fun hh=>got w' x l g i.1 e i.2 hh.1 hh.2.1 hh.2.2.1 hh.2.2.2.1 hh.2.2.2.2,fun y hy hh=>nh.b (v - 1) (by omega) (hy hh)⟩) g1 i1 (fun _ _=>trivial)
 rw [ed]
 refine JD (N:=N) (by omega) g2 i2.1 hc hf ne (by omega) ?_
 rcases q1 with q1 | ⟨a,a1,a2,a3,a4⟩
 ·exact JD (N:=N + k) (by omega) g1 i1.1 hc hf ne (by omega) q1
 ·exact d2 _ a1 ⟨rfl,rfl,a2,a3,a4⟩
/-- (R2) what was on its way is gone -/
theorem H6 (h:2 * Λ<=2000) (s:Sb n T c Λ E L w) (g:Good n (N + 2000) w) (hc:Mb n c) (hf:Mb n f) (ne:f≠c) (hE:E<=64) (q:Mt c f w):Cl T c f (dl 2000 w):=by
 obtain ⟨w1,k,e1,g1,g0,ed⟩:=two h s g hc
 obtain ⟨_,i1,p1,_⟩:=rC (N:=N + (k + w1.q.length)) (I:=fun w'=>Sb n T c Λ E L w'/\Mt c f w') (P0:=fun _=>True) (P:=fun w' y=>Ca T c f w' y) (D:=fun _ _=>True)
  (fun w' x l g i e _=>by
   obtain ⟨out,k,lg,ls⟩:=eZ (by omega) i.1 g hc e
   have nh:=sP (by omega) i.1 g hc hf ne e ls k
   exact ⟨⟨i.1.take (by omega) g hc e,nh.a i.2⟩,⟨_,k.q,Hd (by omega) i.1 g hc hf e lg ls k (nh.a i.2)⟩,fun y hy=>hy.mono nh.hm,trivial,fun _ _=>trivial⟩) g0 ⟨s,q⟩ (fun _ _=>trivial)
 rw [← e1] at i1 p1
 obtain ⟨g2,i2,p2,_⟩:=rC (N:=N + k) (I:=fun w'=>Sb n T c Λ E L w'/\Mt c f w'/\∀ y∈w'.q,Ca T c f w' y) (P0:=fun _=>True) (P:=fun _ y=>Cb T c f y) (D:=fun _ _=>True)
  (fun w' x l g i e _=>by
   have hx:x∈w'.q:=by rw [e]; exact List.mem_cons_self
   obtain ⟨out,k,lg,ls⟩:=eZ (by omega) i.1 g hc e
   have nh:=sP (by omega) i.1 g hc hf ne e ls k
   refine ⟨⟨i.1.take (by omega) g hc e,nh.a i.2.1,fun y hy=>?_⟩,⟨_,k.q,J2 (by omega) i.1 g hc hE ne e k (i.2.2 x hx)⟩,fun y hy=>hy,trivial,fun _ _=>trivial⟩
   rw [k.q] at hy
   rcases List.mem_append.1 hy with hy | hy
   ·exact (i.2.2 y (by rw [e]; exact List.mem_cons_of_mem _ hy)).mono nh.hm
   ·exact Hd (by omega) i.1 g hc hf e lg ls k (nh.a i.2.1) y hy) g1 ⟨i1.1,i1.2,p1⟩ (fun _ _=>trivial)
 rw [ed]
 exact (Fb (N:=N) (by omega) g2 i2.1 hc hf ne hE ⟨i2.2.1,i2.2.2,p2⟩).1
/-- (R4) its letter comes, and the answer: it asks for what stands further on -/
theorem LZ (h:2 * Λ<=2000) (s:Sb n T c Λ E L w) (g:Good n (N + 2000) w) (hc:Mb n c) (hf:Mb n f) (ne:f≠c) (hE:E<=64) (C:Cl T c f w) {v:Int} {m:Msg} (hm:(c,f,m)∈w.q) (mk:m.kind=3∨m.kind=5) (m3:m.kind=3->v<=m.index + m.aM.length + 1) (m5:m.kind=5->v<=m.index + 1):v<=nxt (dl 2000 w) c f:=by
 obtain ⟨w1,k,e1,g1,g0,ed⟩:=two h s g hc
 have got:∀ w' x l,Good n 1 w'->Sb n T c Λ E L w'->Cl T c f w'->w'.q=x :: l->x.1=f->x.2.1=c->x.2.2.kind=4->x.2.2.term=T->v<=x.2.2.index + 1->v<=nxt w'.take c f:=fun w' x l g s C e a1 a2 a3 a4 a5=>by
  have hx:x∈w'.q:=by rw [e]; exact List.mem_cons_self
  obtain ⟨out,k,lg,ls⟩:=eZ (by omega) s g hc e
  have nh:=sP (by omega) s g hc hf ne e ls k
  have:=(nh.g a1 a2 a3 a4 (C.b x hx a1 a2 a3 a4)).1
  omega
 obtain ⟨_,i1,_,d1,_⟩:=rC (N:=N + (k + w1.q.length)) (I:=fun w'=>Sb n T c Λ E L w'/\Cl T c f w') (P0:=fun _=>True) (P:=fun _ _=>True) (D:=fun y w'=>(y.1=c/\y.2.1=f/\(y.2.2.kind=3∨y.2.2.kind=5)/\(y.2.2.kind=3->v<=y.2.2.index + y.2.2.aM.length + 1)/\(y.2.2.kind=5->v<=y.2.2.index + 1))->v<=nxt w' c f∨∃ a:Msg,(f,c,a)∈w'.q/\a.kind=4/\a.term=T/\v<=a.index + 1)
  (fun w' x l g i e _=>by
   have hx:x∈w'.q:=by rw [e]; exact List.mem_cons_self
   have cs:=uY (by omega) i.1 g hc hf ne hE i.2 e
   obtain ⟨out,k,lg,ls⟩:=eZ (by omega) i.1 g hc e
   refine ⟨⟨i.1.take (by omega) g hc e,cs.1⟩,⟨_,k.q,fun _ _=>trivial⟩,fun _ _=>trivial,fun ⟨y1,y2,y3,y4,y5⟩=>?_,fun y hy hh=>?_⟩
   ·obtain ⟨ct,ci⟩:=i.2.a x hx y1 y2 y3
    obtain ⟨a,q1,a4,at',q3,q5⟩:=yn (by omega) i.1 g hc hE e y1 (by rw [y2]; exact ne) ct y3
    refine .inr ⟨a,by rw [q1,y2]; exact List.mem_append.2 (.inr (List.mem_singleton.2 rfl)),a4,at',?_⟩
    rcases y3 with k3 | k5
    ·have ay:=(q3 k3).2 (by rw [y2]; exact ci k3)
     have:=((q3 k3).1 ay).1
     have:=y4 k3
     omega
    ·have:=(q5 k5).2
     have:=y5 k5
     omega
   ·rcases hy hh with q | ⟨a,a1,a2,a3,a4⟩
    ·exact .inl (Int.le_trans q cs.2)
    ·rw [e] at a1
     rcases List.mem_cons.1 a1 with a1 | a1
     ·exact .inl (got w' x l g i.1 i.2 e (by rw [← a1]) (by rw [← a1]) (by rw [← a1]; exact a2) (by rw [← a1]; exact a3) (by rw [← a1]; exact a4))
     ·exact .inr ⟨a,by rw [k.q]; exact List.mem_append.2 (.inl a1),a2,a3,a4⟩) g0 ⟨s,C⟩ (fun _ _=>trivial)
 have q1:=d1 _ hm ⟨rfl,rfl,mk,m3,m5⟩
 rw [← e1] at i1 q1
 obtain ⟨g2,i2,_,d2,k2⟩:=rC (N:=N + k) (I:=fun w'=>Sb n T c Λ E L w'/\Cl T c f w') (P0:=fun _=>True) (P:=fun _ _=>True) (D:=fun y w'=>(y.1=f/\y.2.1=c/\y.2.2.kind=4/\y.2.2.term=T/\v<=y.2.2.index + 1)->v<=nxt w' c f)
  (fun w' x l g i e _=>by
   have cs:=uY (by omega) i.1 g hc hf ne hE i.2 e
   obtain ⟨out,k,lg,ls⟩:=eZ (by omega) i.1 g hc e
   exact ⟨⟨i.1.take (by omega) g hc e,cs.1⟩,⟨_,k.q,fun _ _=>trivial⟩,fun _ _=>trivial,fun hh=>got w' x l g i.1 i.2 e hh.1 hh.2.1 hh.2.2.1 hh.2.2.2.1 hh.2.2.2.2,fun y hy hh=>Int.le_trans (hy hh) cs.2⟩) g1 i1 (fun _ _=>trivial)
 rw [ed]
 refine Int.le_trans ?_ (Fb (N:=N) (by omega) g2 i2.1 hc hf ne hE i2.2).2
 rcases q1 with q1 | ⟨a,a1,a2,a3,a4⟩
 ·exact Int.le_trans q1 (Fb (N:=N + k) (by omega) g1 i1.1 hc hf ne hE i1.2).2
 ·exact d2 _ a1 ⟨rfl,rfl,a2,a3,a4⟩
/-- all have all -/
def Full (n c:Int) (L:Lg) (w:PW):Prop:=∀ j,Mb n j->hst w c j=L.last
theorem uV (h:Λ<=2900) (s:Sb n T c Λ E L w) (g:Good n 1 w) (hc:Mb n c) (e:w.q=x :: l) (F:Full n c L w):Full n c L w.take:=fun j hj=>by
 have s':=s.take h g hc e
 have k':=(s'.kn (g.take (N:=0)) hc hj).hs
 obtain ⟨out,k,lg,ls⟩:=eZ h s g hc e
 have:hst w c j<=hst w.take c j:=by
  cases ls with
  | same q d z=>unfold hst; rw [q.2.1]; exact Int.le_refl _
  | no a y m q d=>unfold hst; rw [q.2.1]; exact Int.le_refl _
  | yes a y ix q cm d =>
   unfold hst
   rw [q.2]
   by_cases ej:x.1=j
   ·subst ej
    rw [nT (s.kn g hc hj).nl.2]
    unfold hst; omega
   ·rw [getD_set_ne (rH a.2.2.2.1 hj ej)]; exact Int.le_refl _
 have:=F j hj
 omega
theorem EG {l:List Int} {v:Int} (h1:l≠[]) (v0:0<=v) (h:∀ x∈l,x=v):cmt l=v:=by
 have hl:1<=l.length:=by
  cases l with
  | nil=>exact absurd rfl h1
  | cons a l=>simp
 have fl:(l.filter fun u=>decide (l.length / 2 + 1<=cnt l u))=l:=by
  refine List.filter_eq_self.2 fun x hx=>?_
  have:cnt l x=l.length:=by
   unfold cnt
   rw [List.countP_eq_length]
   intro y hy
   rw [h x hx,h y hy]; simp
  rw [this]; simp; omega
 unfold cmt
 rw [fl]
 rcases u7 l 0 with ⟨f1,f2⟩
 rcases f2 with f2 | f2
 ·cases l with
  | nil=>exact absurd rfl h1
  | cons a l =>
   have ha:=h a List.mem_cons_self
   rw [f2]
   have:a<=(a :: l).foldl max 0:=by
    have:=(u7 l (max 0 a)).1
    simp only [List.foldl_cons]; omega
   rw [f2] at this; omega
 ·exact h _ f2
/-- (R5) an answer comes: all is known as committed -/
theorem FB (h:2 * Λ<=2000) (s:Sb n T c Λ E L w) (g:Good n (N + 2000) w) (hc:Mb n c) (hf:Mb n f) (ne:f≠c) (hE:E<=64) (C:Cl T c f w) (F:Full n c L w) (tl:L.aF L.last=(T,0)) {m:Msg} (hm:(c,f,m)∈w.q) (mk:m.kind=3∨m.kind=5):L.last<=((dl 2000 w).R c).commit:=by
 obtain ⟨w1,k,e1,g1,g0,ed⟩:=two h s g hc
 have l0:0<=L.last:=by have:=(s.kn g hc hc).lx; omega
 have got:∀ w' x l,Good n 1 w'->Sb n T c Λ E L w'->Cl T c f w'->Full n c L w'->w'.q=x :: l->x.1=f->x.2.1=c->x.2.2.kind=4->x.2.2.term=T->L.last<=(w'.take.R c).commit:=fun w' x l g s C F e a1 a2 a3 a4=>by
  have hx:x∈w'.q:=by rw [e]; exact List.mem_cons_self
  have F':=uV (by omega) s g hc e F
  have s':=s.take (by omega) g hc e
  have g':=g.take (N:=0)
  obtain ⟨out,k,lg,ls⟩:=eZ (by omega) s g hc e
  have y:=C.b x hx a1 a2 a3 a4
  cases ls with
  | same q d z=>exact absurd ⟨a2,a3,a4,by rw [a1]; exact ne⟩ z
  | no a y' m q d=>rw [y'] at y; cases y
  | yes a y' ix q cm d =>
   have hl:(w'.take.R c).has.length=n.toNat:=by
    obtain ⟨B,G,z,bb⟩:=g'.s
    exact ((z.core.mi c hc.1 hc.2).l1 s'.c2).hl
   have ec:cmt (w'.take.R c).has=L.last:=by
    refine EG (fun q=>?_) l0 fun v hv=>?_
    ·rw [q] at hl
     have:=g.n1
     simp at hl; omega
    ·obtain ⟨i,hi⟩:=List.getElem?_of_mem hv
     have il:=(List.getElem?_eq_some_iff.1 hi).1
     have:=F' i ⟨by omega,by omega⟩
     unfold hst at this
     rw [show ((i:Int)).toNat=i from by omega,List.getD_eq_getElem?_getD,hi] at this
     exact this
   rw [ec,tl] at cm
   by_cases q:L.last > (w'.R c).commit
   ·rw [cm.2 q rfl rfl]; exact Int.le_refl _
   ·have:=cm.1; omega
 obtain ⟨_,i1,_,d1,_⟩:=rC (N:=N + (k + w1.q.length)) (I:=fun w'=>Sb n T c Λ E L w'/\Cl T c f w'/\Full n c L w') (P0:=fun _=>True) (P:=fun _ _=>True) (D:=fun y w'=>(y.1=c/\y.2.1=f/\(y.2.2.kind=3∨y.2.2.kind=5))->L.last<=(w'.R c).commit∨∃ a:Msg,(f,c,a)∈w'.q/\a.kind=4/\a.term=T)
  (fun w' x l g i e _=>by
   have hx:x∈w'.q:=by rw [e]; exact List.mem_cons_self
   have cs:=uY (by omega) i.1 g hc hf ne hE i.2.1 e
   obtain ⟨out,k,lg,ls⟩:=eZ (by omega) i.1 g hc e
   refine ⟨⟨i.1.take (by omega) g hc e,cs.1,uV (by omega) i.1 g hc e i.2.2⟩,⟨_,k.q,fun _ _=>trivial⟩,fun _ _=>trivial,fun ⟨y1,y2,y3⟩=>?_,fun y hy hh=>?_⟩
   ·obtain ⟨ct,ci⟩:=i.2.1.a x hx y1 y2 y3
    obtain ⟨a,q1,a4,at',_⟩:=yn (by omega) i.1 g hc hE e y1 (by rw [y2]; exact ne) ct y3
    exact .inr ⟨a,by rw [q1,y2]; exact List.mem_append.2 (.inr (List.mem_singleton.2 rfl)),a4,at'⟩
   ·rcases hy hh with q | ⟨a,a1,a2,a3⟩
    ·exact .inl (Int.le_trans q (Bw g c))
    ·rw [e] at a1
     rcases List.mem_cons.1 a1 with a1 | a1
     ·exact .inl (got w' x l g i.1 i.2.1 i.2.2 e (by rw [← a1]) (by rw [← a1]) (by rw [← a1]; exact a2) (by rw [← a1]; exact a3))
     ·exact .inr ⟨a,by rw [k.q]; exact List.mem_append.2 (.inl a1),a2,a3⟩) g0 ⟨s,C,F⟩ (fun _ _=>trivial)
 have q1:=d1 _ hm ⟨rfl,rfl,mk⟩
 rw [← e1] at i1 q1
 obtain ⟨g2,i2,_,d2,k2⟩:=rC (N:=N + k) (I:=fun w'=>Sb n T c Λ E L w'/\Cl T c f w'/\Full n c L w') (P0:=fun _=>True) (P:=fun _ _=>True) (D:=fun y w'=>(y.1=f/\y.2.1=c/\y.2.2.kind=4/\y.2.2.term=T)->L.last<=(w'.R c).commit)
  (fun w' x l g i e _=>by
   have cs:=uY (by omega) i.1 g hc hf ne hE i.2.1 e
   obtain ⟨out,k,lg,ls⟩:=eZ (by omega) i.1 g hc e
   exact ⟨⟨i.1.take (by omega) g hc e,cs.1,uV (by omega) i.1 g hc e i.2.2⟩,⟨_,k.q,fun _ _=>trivial⟩,fun _ _=>trivial,fun hh=>got w' x l g i.1 i.2.1 i.2.2 e hh.1 hh.2.1 hh.2.2.1 hh.2.2.2,fun y hy hh=>Int.le_trans (hy hh) (Bw g c)⟩) g1 i1 (fun _ _=>trivial)
 rw [ed]
 refine Int.le_trans ?_ ((yJ (N:=N) (by omega) g2 i2.1 hc).2.2.2 c)
 rcases q1 with q1 | ⟨a,a1,a2,a3⟩
 ·exact Int.le_trans q1 ((yJ (N:=N + k) (by omega) g1 i1.1 hc).2.2.2 c)
 ·exact d2 _ a1 ⟨rfl,rfl,a2,a3⟩
theorem JJ (h:Λ<=2900) {k:Nat} (g:Good n (N + k) w) (s:Sb n T c Λ E L w) (hc:Mb n c) (F:Full n c L w):Full n c L (dl k w):=by
 obtain ⟨g',i⟩:=dlI (N:=N) (n:=n) (I:=fun w'=>Sb n T c Λ E L w'/\Full n c L w') (fun w' x l g i e=>⟨i.1.take h g hc e,uV h i.1 g hc e i.2⟩) k w g ⟨s,F⟩
 exact i.2
/-- (R6) one is told what is committed -/
theorem JP (h:2 * Λ<=2000) (s:Sb n T c Λ E L w) (g:Good n (N + 2000) w) (hc:Mb n c) (hf:Mb n f) (ne:f≠c) (hE:E<=64) (C:Cl T c f w) {v:Int} {m:Msg} (hm:(c,f,m)∈w.q) (mk:m.kind=3) (mc:v<=m.commit) (mi:v<=m.index + m.aM.length):v<=((dl 2000 w).R f).commit:=by
 obtain ⟨w1,k,e1,g1,g0,ed⟩:=two h s g hc
 obtain ⟨g1',i1,_,d1,_⟩:=rC (N:=N + (k + w1.q.length)) (I:=fun w'=>Sb n T c Λ E L w'/\Cl T c f w') (P0:=fun _=>True) (P:=fun _ _=>True) (D:=fun y w'=>(y.1=c/\y.2.1=f/\y.2.2.kind=3/\v<=y.2.2.commit/\v<=y.2.2.index + y.2.2.aM.length)->v<=(w'.R f).commit)
  (fun w' x l g i e _=>by
   have hx:x∈w'.q:=by rw [e]; exact List.mem_cons_self
   have cs:=uY (by omega) i.1 g hc hf ne hE i.2 e
   obtain ⟨out,k,lg,ls⟩:=eZ (by omega) i.1 g hc e
   refine ⟨⟨i.1.take (by omega) g hc e,cs.1⟩,⟨_,k.q,fun _ _=>trivial⟩,fun _ _=>trivial,fun ⟨y1,y2,y3,y4,y5⟩=>?_,fun y hy hh=>Int.le_trans (hy hh) (Bw g f)⟩
   obtain ⟨ct,ci⟩:=i.2.a x hx y1 y2 (.inl y3)
   obtain ⟨a,q1,a4,at',q3,q5⟩:=yn (by omega) i.1 g hc hE e y1 (by rw [y2]; exact ne) ct (.inl y3)
   have ay:=(q3 y3).2 (by rw [y2]; exact ci y3)
   have:=((q3 y3).1 ay).2
   rw [y2] at this
   omega) g0 ⟨s,C⟩ (fun _ _=>trivial)
 have q1:=d1 _ hm ⟨rfl,rfl,mk,mc,mi⟩
 rw [← e1] at i1 q1 g1'
 obtain ⟨g2,s2,_,c2⟩:=yJ (N:=N + k) (by omega) g1 i1.1 hc
 rw [ed]
 exact Int.le_trans q1 (Int.le_trans (c2 f) ((yJ (N:=N) (by omega) g2 s2 hc).2.2.2 f))
end
end Go.Q.Rf
end
section
/- One leads: rounds. -/
namespace Go.Q.Rf
structure St (n T c Q E:Int) (L:Lg) (w:PW):Prop where
 s:Sb n T c (Q + 60) E L w
 q:(w.q.length:Int)<=Q
 tk:∀ j,Mb n j->j≠c->(w.R j).ticks<=(w.R c).ticks % 3
/-- all have ticked -/
structure Sw (n T c Q E:Int) (L:Lg) (w W:PW):Prop where
 s:Sb n T c (Q + 60) E L W
 q:(W.q.length:Int)<=Q
 at':∀ j,Mb n j->W.R j = { w.R j with ticks:=(w.R j).ticks + 1 }
 new:∀ y∈W.q,y∈w.q∨y.1=c/\(y.2.2.kind=3∨y.2.2.kind=5)/\y.2.2=RS.due { w.R c with ticks:=(w.R c).ticks + 1 } y.2.1
 due:pM (w.R c)->∀ f,Mb n f->f≠c->(c,f,RS.due { w.R c with ticks:=(w.R c).ticks + 1 } f)∈W.q
section
variable {n T c Q Q' E f:Int} {N:Nat} {w W:PW} {L:Lg}
theorem St.G8 (g:Good n N w) (st:St n T c Q E L w) (hc:Mb n c):∀ j,Mb n j->¬ bX (w.R j):=fun j hj q=>by
 by_cases e:j=c
 ·subst e; exact q.1 st.s.c2
 ·have:=st.tk j hj e
  have:=q.2
  rw [(g.rn hj).2] at this
  have:=hj.1
  omega
theorem St.ER (g:Good n N w) (st:St n T c Q E L w) (hc:Mb n c) {j:Int} (hj:Mb n j) (h:pM (w.R j)):j=c :=
 g.one hj hc h.1 st.s.c2 (by rw [st.s.all j hj,st.s.all c hc])
theorem yD (n2:2<=n) (g:Good n (N + 2010) w) (st:St n T c Q E L w) (hc:Mb n c) (hQ:Q'<=1900) (h1:Q<=Q') (h2:pM (w.R c)->Q + 4<=Q'):Good n (N + 2000) (tks n.toNat w)/\Sw n T c Q' E L w (tks n.toNat w):=by
 have n1:=g.n1
 have nc:=st.G8 g hc
 have pt:=st.s.b.pt
 obtain ⟨t,g',p'⟩:=mJ (N:=N + 2000) n.toNat (by omega) (g.mono (by omega)) (by omega)
 have b':=zi (N:=N + 2000) n2 (g.mono (by omega)) st.s.b (by omega) (Int.le_refl _) fun j hj q=>absurd q (nc j hj)
 have l':=wG (N:=N + 2000) n2 (g.mono (by omega)) st.s.l (by omega)
 have at':∀ j,Mb n j->(tks n.toNat w).R j = { w.R j with ticks:=(w.R j).ticks + 1 }:=fun j hj=>(pU n2 g t hj).2 (nc j hj)
 -- how many letters
 have len:((tks n.toNat w).q.length:Int)<=Q':=by
  have ql:=t.ql
  have q0:=st.q
  have none:∀ j,Mb n j->j≠c->((w.R j).tick.2.length:Int)=0:=fun j hj e=>by
   have nb:¬ pM (w.R j):=fun q=>e (st.ER g hc hj q)
   rw [mX (nc j hj) nb]; rfl
  have u:=xx (f:=fun _=>0) (g:=fun j=>if j=c then ((w.R c).tick.2.length:Int) else 0) (i:=c) (fun j hj=>if_neg hj) n.toNat
  rw [mI,if_pos (by unfold Mb at hc; omega),if_pos rfl] at u
  have e:=He (f:=fun j=>((w.R j).tick.2.length:Int)) (g:=fun j=>if j=c then ((w.R c).tick.2.length:Int) else 0) n.toNat fun j j0 j1=>by
   by_cases h:j=c
   ·rw [if_pos h,h]
   ·rw [if_neg h]; exact none j ⟨j0,by omega⟩ h
  have ql':((tks n.toNat w).q.length:Int)=w.q.length + ((w.R c).tick.2.length:Int):=by rw [ql,e,u]; omega
  by_cases bt:pM (w.R c)
  ·have:=h2 bt
   rw [pV bt] at ql'
   have ql2:((tks n.toNat w).q.length:Int)=w.q.length + ((w.R c).nodes.length:Int):=by
    rw [ql']
    show _ + ((RS.others _ _).length:Int)=_
    rw [ym]
    rfl
   have nl:=vO (r:=w.R c) (by rw [(g.rn hc).1,(g.rn hc).2]; exact hc)
   rw [(g.rn hc).1] at nl
   omega
  ·rw [mX (nc c hc) bt] at ql'
   simp at ql'
   omega
 have ps:=uW g'
 refine ⟨g',⟨⟨⟨b'.tr,b'.tq,b'.nw,b'.vl,by omega⟩,fun j hj=>by rw [at' j hj]; exact st.s.all j hj,by rw [at' c hc]; exact st.s.c2,by rw [at' c hc]; exact st.s.lg,l'⟩,len,at',fun y hy=>?_,fun bt f hf ne=>Ef n2 g t hc bt hf ne⟩⟩
 rcases uU n2 g t hy with q | ⟨a,q,_⟩ | ⟨a,q1,q2,q3⟩
 ·exact .inl q
 ·exact absurd q (nc _ a)
 ·right
  have ec:=st.ER g hc a q1
  exact ⟨ec,q2,by rw [← ec]; exact q3.2⟩
/-- what stays as all tick -/
theorem Sw.nx (z:Sw n T c Q E L w W) (hc:Mb n c) (f:Int):nxt W c f=nxt w c f/\hst W c f=hst w c f:=by
 unfold nxt hst
 rw [z.at' c hc]
 exact ⟨rfl,rfl⟩
theorem Sw.mt (z:Sw n T c Q E L w W) (hc:Mb n c):Mt c f W ↔ Mt c f w:=by
 unfold Mt
 rw [(z.nx hc f).1,(z.nx hc f).2]
theorem Sw.com (z:Sw n T c Q E L w W) {j:Int} (hj:Mb n j):(W.R j).commit=(w.R j).commit:=by rw [z.at' j hj]
theorem Sw.full (z:Sw n T c Q E L w W) (hc:Mb n c) (F:Full n c L w):Full n c L W:=fun j hj=>by rw [(z.nx hc j).2]; exact F j hj
theorem EQ (st:St n T c Q E L w) (g:Good n N w) (hc:Mb n c) (hf:Mb n f):(RS.due { w.R c with ticks:=(w.R c).ticks + 1 } f).term=T/\(RS.due { w.R c with ticks:=(w.R c).ticks + 1 } f).commit=(w.R c).commit/\((nxt w c f<=L.ix/\(RS.due { w.R c with ticks:=(w.R c).ticks + 1 } f).kind=5/\(RS.due { w.R c with ticks:=(w.R c).ticks + 1 } f).index=L.ix)∨(L.ix < nxt w c f/\(RS.due { w.R c with ticks:=(w.R c).ticks + 1 } f).kind=3/\(RS.due { w.R c with ticks:=(w.R c).ticks + 1 } f).index=nxt w c f - 1/\((RS.due { w.R c with ticks:=(w.R c).ticks + 1 } f).aM.length:Int)=min 4 (L.last + 1 - nxt w c f))) :=
 Cg st.s g hc hf (r:={ w.R c with ticks:=(w.R c).ticks + 1 }) rfl st.s.lg (st.s.all c hc) rfl
theorem Sw.cl (z:Sw n T c Q' E L w W) (st:St n T c Q E L w) (g:Good n N w) (hc:Mb n c) (hf:Mb n f) (C:Cl T c f w):Cl T c f W:=by
 refine ⟨(z.mt hc).2 C.m,fun y hy=>?_,fun y hy=>?_⟩
 ·rcases z.new y hy with q | ⟨q1,q2,q3⟩
  ·exact (C.a y q).mono (by rw [(z.nx hc f).2]; exact Int.le_refl _)
  ·intro y1 y2 y3
   obtain ⟨d1,_,d3⟩:=EQ st g hc hf
   rw [q3,y2]
   refine ⟨d1,fun k3=>?_⟩
   rcases d3 with ⟨_,q,_⟩ | ⟨_,_,q,_⟩
   ·rw [q] at k3; omega
   ·rw [q,(z.nx hc f).2]; exact C.m
 ·rcases z.new y hy with q | ⟨q1,q2,q3⟩
  ·exact C.b y q
  ·intro _ _ k4; omega
/-- what becomes of their ticks in a delivery -/
theorem Iu {Λ:Int} (h:Λ<=2000) (g:Good n (N + 2000) W) (s:Sb n T c Λ E L W) (hc:Mb n c):((dl 2000 W).R c).ticks=(W.R c).ticks/\∀ j,Mb n j->j≠c->((dl 2000 W).R j).ticks<=(W.R j).ticks/\∀ m,(c,j,m)∈W.q->(m.kind=3∨m.kind=5)->m.term=T->((dl 2000 W).R j).ticks=0:=by
 have l0:=MH s g
 have key:=dlI (N:=N) (n:=n) (I:=fun w'=>Sb n T c Λ E L w'/\(w'.R c).ticks=(W.R c).ticks) (fun w' x l g i e=>⟨i.1.take (by omega) g hc e,(EX i.1.b g (by omega) e hc i.1.c2 (i.1.all c hc)).trans i.2⟩) 2000 W g ⟨s,rfl⟩
 have stay:∀ (t:Int),0<=t->∀ j (k:Nat) (w:PW) (M:Nat),Good n (M + k) w->Sb n T c Λ E L w->(w.R j).ticks<=t->((dl k w).R j).ticks<=t:=fun t t0 j k w M g s h'=>by
  have:=dlI (N:=M) (n:=n) (I:=fun w'=>Sb n T c Λ E L w'/\(w'.R j).ticks<=t) (fun w' x l g i e=>by
   obtain ⟨out,k,_⟩:=eZ (by omega) i.1 g hc e
   refine ⟨i.1.take (by omega) g hc e,?_⟩
   by_cases ej:j=x.2.1
   ·subst ej
    rcases k.tk with q | q
    ·rw [q]; exact i.2
    ·rw [q]; exact t0
   ·rw [k.oth j ej]; exact i.2) k w g ⟨s,h'⟩
  exact this.2.2
 refine ⟨key.2.2,fun j hj ne=>⟨stay _ (g.tk j hj) j 2000 W N g s (Int.le_refl _),fun m hm mk mt=>?_⟩⟩
 obtain ⟨g1,s1,_,d1,_⟩:=rC (N:=N + (2000 - W.q.length)) (I:=fun w'=>Sb n T c Λ E L w') (P0:=fun _=>True) (P:=fun _ _=>True) (D:=fun y w'=>Mb n y.2.1->y.1=c->y.2.1≠c->(y.2.2.kind=3∨y.2.2.kind=5)->y.2.2.term=T->(w'.R y.2.1).ticks=0)
  (fun w' x l g i e _=>by
   have hx:x∈w'.q:=by rw [e]; exact List.mem_cons_self
   obtain ⟨hf,hi⟩:=g.lt hx
   obtain ⟨out,k,_⟩:=eZ (by omega) i g hc e
   refine ⟨i.take (by omega) g hc e,⟨_,k.q,fun _ _=>trivial⟩,fun _ _=>trivial,fun hj e1 ne k1 kt=>?_,fun y hy hj e1 ne k1 kt=>?_⟩
   ·rcases dD g e (i.b.fit g (by omega)) with ⟨out',e2,o1,o2,o3,_⟩ | ⟨o,ht,r',out',e1',e2,t2,ot⟩
    ·have:=o3 ⟨hf.1,by rw [(g.rn hi).1]; exact hf.2,by rw [(g.rn hi).2,e1]; exact fun q=>ne q.symm,by omega,by omega⟩
     have:=i.all _ hi
     omega
    ·rw [e2]
     show (upd w'.R x.2.1 (cl r') x.2.1).ticks=0
     rw [upd_same]
     exact (t2.r5 k1).2
   ·have z2:=hy hj e1 ne k1 kt
    by_cases ej:y.2.1=x.2.1
    ·rw [ej] at z2 ⊢
     rcases k.tk with q | q
     ·rw [q]; exact z2
     ·exact q
    ·rw [k.oth _ ej]; exact z2) (by rw [show N + (2000 - W.q.length) + W.q.length=N + 2000 from by omega]; exact g) s (fun _ _=>trivial)
 have z:=d1 _ hm hj rfl ne mk mt
 have:=stay 0 (Int.le_refl _) j (2000 - W.q.length) (dl W.q.length W) N g1 s1 (by rw [z]; exact Int.le_refl _)
 rw [← nG,show W.q.length + (2000 - W.q.length)=2000 from by omega] at this
 have g2:=Good.dl (n:=n) (N:=N) 2000 g
 have:=g2.tk j hj
 omega
/-- a delivery -/
theorem Km {E':Int} {L':Lg} (g:Good n (N + 2000) W) (s:Sb n T c (Q' + 60) E' L' W) (hc:Mb n c) (hQ:Q'<=1900) (hq:(W.q.length:Int)<=Q') (tk:(W.R c).ticks=(w.R c).ticks + 1) (tj:∀ j,Mb n j->j≠c->(w.R j).ticks<=(w.R c).ticks % 3/\(W.R j).ticks=(w.R j).ticks + 1) (t0:∀ j,Mb n j->0<=(w.R j).ticks) (c2:(w.R c).role=2)
  (due:pM (w.R c)->∀ f,Mb n f->f≠c->∃ m,(c,f,m)∈W.q/\(m.kind=3∨m.kind=5)/\m.term=T):Good n N (dl 2000 W)/\St n T c Q' E' L' (dl 2000 W)/\((dl 2000 W).R c).ticks=(w.R c).ticks + 1:=by
 obtain ⟨g',s',q',c'⟩:=yJ (N:=N) (by omega) g s hc
 obtain ⟨a,b⟩:=Iu (N:=N) (by omega) g s hc
 refine ⟨g',⟨s',by omega,fun j hj ne=>?_⟩,a.trans tk⟩
 rw [a,tk]
 have tc:=t0 c hc
 by_cases bt:pM (w.R c)
 ·obtain ⟨m,m1,m2,m3⟩:=due bt j hj ne
  rw [(b j hj ne).2 m m1 m2 m3]
  omega
 ·have nb:¬ ((w.R c).ticks + 1) % 3=0:=fun q=>bt ⟨c2,q⟩
  have h1:=(b j hj ne).1
  have h2:=tj j hj ne
  omega
/-- a round -/
theorem mq (n2:2<=n) (g:Good n (N + 2010) w) (st:St n T c Q E L w) (hc:Mb n c) (hQ:Q'<=1900) (h1:Q<=Q') (h2:pM (w.R c)->Q + 4<=Q'):Good n N (rnd n w)/\St n T c Q' E L (rnd n w)/\((rnd n w).R c).ticks=(w.R c).ticks + 1/\∀ j,Mb n j->(w.R j).commit<=((rnd n w).R j).commit:=by
 obtain ⟨gW,z⟩:=yD n2 g st hc hQ h1 h2
 have q:=Km (N:=N) (w:=w) gW z.s hc hQ z.q (by rw [z.at' c hc]) (fun j hj ne=>⟨st.tk j hj ne,by rw [z.at' j hj]⟩) g.tk st.s.c2 fun bt f hf ne=>⟨_,z.due bt f hf ne,RS.mK _,by rw [RS.lU]; exact st.s.all c hc⟩
 obtain ⟨_,_,_,c'⟩:=yJ (N:=N) (by omega) gW z.s hc
 exact ⟨q.1,q.2.1,q.2.2,fun j hj=>by rw [← z.com hj]; exact c' j⟩
/-- what one round does -/
theorem LD (n2:2<=n) (g:Good n (N + 2010) w) (st:St n T c Q E L w) (hc:Mb n c) (hQ:Q<=900) (hf:Mb n f) (ne:f≠c) {v:Int} (v1:1<=v) (q:Mt c f w∨nxt w c f<=v):Mt c f (rnd n w)∨nxt (rnd n w) c f<=v:=by
 obtain ⟨gW,z⟩:=yD (Q':=Q + 4) n2 g st hc (by omega) (by omega) (fun _=>Int.le_refl _)
 exact JD (N:=N) (by omega) gW z.s hc hf ne v1 (by rw [z.mt hc,(z.nx hc f).1]; exact q)
theorem IP (n2:2<=n) (g:Good n (N + 2010) w) (st:St n T c Q E L w) (hc:Mb n c) (hQ:Q<=900) (hE:E<=64) (hf:Mb n f) (ne:f≠c) (bt:pM (w.R c)) {v:Int} (v2:2<=v) (q:Mt c f w∨nxt w c f<=v):Mt c f (rnd n w)∨nxt (rnd n w) c f<=v - 1:=by
 obtain ⟨gW,z⟩:=yD (Q':=Q + 4) n2 g st hc (by omega) (by omega) (fun _=>Int.le_refl _)
 obtain ⟨d1,_,d3⟩:=EQ st g hc hf
 have nx1:=(st.s.kn g hc hf).nx
 by_cases m:Mt c f w
 ·exact .inl (NK (N:=N) (by omega) gW z.s hc hf ne ((z.mt hc).2 m))
 ·have q:=q.resolve_left m
  have b2:2<=nxt w c f:=by
   unfold Mt at m
   have:=(st.s.kn g hc hf).hs
   omega
  have:=Jw (N:=N) (by omega) z.s gW hc hf ne hE (v:=nxt w c f) b2 (by rw [(z.nx hc f).1]; exact .inr (Int.le_refl _)) (z.due bt f hf ne) (RS.mK _) d1 (by
   rcases d3 with ⟨q,_,p⟩ | ⟨_,_,p,_⟩
   ·rw [p]; omega
   ·rw [p]; omega)
  exact this.imp id fun q=>by
   have q':nxt (rnd n w) c f<=nxt w c f - 1:=q
   omega
theorem Gi (n2:2<=n) (g:Good n (N + 2010) w) (st:St n T c Q E L w) (hc:Mb n c) (hQ:Q<=900) (hE:E<=64) (hf:Mb n f) (ne:f≠c) (m:Mt c f w):Cl T c f (rnd n w):=by
 obtain ⟨gW,z⟩:=yD (Q':=Q + 4) n2 g st hc (by omega) (by omega) (fun _=>Int.le_refl _)
 exact H6 (N:=N) (by omega) z.s gW hc hf ne hE ((z.mt hc).2 m)
theorem zZ (n2:2<=n) (g:Good n (N + 2010) w) (st:St n T c Q E L w) (hc:Mb n c) (hQ:Q<=900) (hE:E<=64) (hf:Mb n f) (ne:f≠c) (C:Cl T c f w):Cl T c f (rnd n w)/\nxt w c f<=nxt (rnd n w) c f:=by
 obtain ⟨gW,z⟩:=yD (Q':=Q + 4) n2 g st hc (by omega) (by omega) (fun _=>Int.le_refl _)
 have:=Fb (N:=N) (by omega) gW z.s hc hf ne hE (z.cl st g hc hf C)
 exact ⟨this.1,by rw [← (z.nx hc f).1]; exact this.2⟩
theorem J7 (n2:2<=n) (g:Good n (N + 2010) w) (st:St n T c Q E L w) (hc:Mb n c) (hQ:Q<=900) (hE:E<=64) (hf:Mb n f) (ne:f≠c) (C:Cl T c f w) (bt:pM (w.R c)):L.ix + 1<=nxt (rnd n w) c f/\(L.ix < nxt w c f->min (L.last + 1) (nxt w c f + 4)<=nxt (rnd n w) c f):=by
 obtain ⟨gW,z⟩:=yD (Q':=Q + 4) n2 g st hc (by omega) (by omega) (fun _=>Int.le_refl _)
 obtain ⟨d1,_,d3⟩:=EQ st g hc hf
 have key:∀ v:Int,_->_->v<=nxt (rnd n w) c f:=fun v m3 m5=>LZ (N:=N) (v:=v) (by omega) z.s gW hc hf ne hE (z.cl st g hc hf C) (z.due bt f hf ne) (RS.mK _) m3 m5
 have k:=(st.s.kn g hc hf).nx
 refine ⟨key _ (fun k3=>?_) fun k5=>?_,fun lt=>key _ (fun k3=>?_) fun k5=>?_⟩
 ·rcases d3 with ⟨_,q,_⟩ | ⟨q0,_,q,q2⟩
  ·rw [q] at k3; omega
  ·rw [q]; omega
 ·rcases d3 with ⟨_,_,q⟩ | ⟨q0,q,_,q2⟩
  ·rw [q]; exact Int.le_refl _
  ·rw [q] at k5; omega
 ·rcases d3 with ⟨q,_⟩ | ⟨q0,_,q,q2⟩
  ·omega
  ·rw [q,q2]; omega
 ·rcases d3 with ⟨q,_⟩ | ⟨q0,q,_,q2⟩
  ·omega
  ·rw [q] at k5; omega
theorem JR (n2:2<=n) (g:Good n (N + 2010) w) (st:St n T c Q E L w) (hc:Mb n c) (hQ:Q<=900) (F:Full n c L w):Full n c L (rnd n w):=by
 obtain ⟨gW,z⟩:=yD (Q':=Q + 4) n2 g st hc (by omega) (by omega) (fun _=>Int.le_refl _)
 exact JJ (N:=N) (by omega) gW z.s hc (z.full hc F)
/-- what it knows of itself stays -/
theorem rX (n2:2<=n) (g:Good n (N + 2010) w) (st:St n T c Q E L w) (hc:Mb n c) (hQ:Q<=900) (h:hst w c c=L.last):hst (rnd n w) c c=L.last:=by
 obtain ⟨gW,z⟩:=yD (Q':=Q + 4) n2 g st hc (by omega) (by omega) (fun _=>Int.le_refl _)
 have:=dlI (N:=N) (n:=n) (I:=fun w'=>Sb n T c (Q + 4 + 60) E L w'/\hst w' c c=L.last) (fun w' x l g i e=>by
  obtain ⟨out,k,lg,ls⟩:=eZ (by omega) i.1 g hc e
  refine ⟨i.1.take (by omega) g hc e,?_⟩
  have i2:=i.2
  cases ls with
  | same q d z=>unfold hst at *; rw [q.2.1]; exact i2
  | no a y m q d=>unfold hst at *; rw [q.2.1]; exact i2
  | yes a y ix q cm d =>
   unfold hst at *
   rw [q.2,getD_set_ne (rH a.2.2.2.1 hc a.2.2.2.2)]; exact i2) 2000 _ gW ⟨z.s,by rw [(z.nx hc c).2]; exact h⟩
 exact this.2.2
theorem Fz (n2:2<=n) (g:Good n (N + 2010) w) (st:St n T c Q E L w) (hc:Mb n c) (hQ:Q<=900) (hE:E<=64) (hf:Mb n f) (ne:f≠c) (C:Cl T c f w) (F:Full n c L w) (tl:L.aF L.last=(T,0)) (bt:pM (w.R c)):L.last<=((rnd n w).R c).commit:=by
 obtain ⟨gW,z⟩:=yD (Q':=Q + 4) n2 g st hc (by omega) (by omega) (fun _=>Int.le_refl _)
 exact FB (N:=N) (by omega) z.s gW hc hf ne hE (z.cl st g hc hf C) (z.full hc F) tl (z.due bt f hf ne) (RS.mK _)
theorem JE (n2:2<=n) (g:Good n (N + 2010) w) (st:St n T c Q E L w) (hc:Mb n c) (hQ:Q<=900) (hE:E<=64) (hf:Mb n f) (ne:f≠c) (C:Cl T c f w) (nx:nxt w c f=L.last + 1) (cm:L.last<=(w.R c).commit) (bt:pM (w.R c)):L.last<=((rnd n w).R f).commit:=by
 obtain ⟨gW,z⟩:=yD (Q':=Q + 4) n2 g st hc (by omega) (by omega) (fun _=>Int.le_refl _)
 obtain ⟨d1,d2,d3⟩:=EQ st g hc hf
 have k:=(st.s.kn g hc hf).lx
 rcases d3 with ⟨q,_⟩ | ⟨q0,q1,q,q2⟩
 ·omega
 ·exact JP (N:=N) (by omega) z.s gW hc hf ne hE (z.cl st g hc hf C) (z.due bt f hf ne) q1 (by rw [d2]; exact cm) (by rw [q,q2]; omega)
/-- three rounds hold one beat -/
theorem three (n2:2<=n) (hc:Mb n c) {A B:PW->Prop}
  (stay:∀ (w:PW) (Q:Int),Good n 2010 w->St n T c Q E L w->Q<=900->A w->A (rnd n w))
  (hit:∀ (w:PW) (Q:Int),Good n 2010 w->St n T c Q E L w->Q<=900->pM (w.R c)->A w->B (rnd n w))
  (keep:∀ (w:PW) (Q:Int),Good n 2010 w->St n T c Q E L w->Q<=900->B w->B (rnd n w))
  {w:PW} (g:Good n (N + 2010 * 3) w) (st:St n T c Q E L w) (hQ:Q<=890) (a:A w):Good n N (rds n 3 w)/\St n T c (Q + 4) E L (rds n 3 w)/\B (rds n 3 w):=by
 have tc:=g.tk c hc
 have c2:=st.s.c2
 obtain ⟨r,hr⟩:∃ r:Int,r=(w.R c).ticks % 3:=⟨_,rfl⟩
 have G1:Good n (N + 2010 * 2 + 2010) w:=g.mono (by omega)
 have bt:pM (w.R c) ↔ r=2:=⟨fun q=>by have:=q.2; omega,fun q=>⟨c2,by omega⟩⟩
 obtain ⟨g1,s1,t1,_⟩:=mq (Q':=if r=2 then Q + 4 else Q) n2 G1 st hc (by split <;> omega) (by split <;> omega) (fun q=>by rw [if_pos (bt.1 q)]; exact Int.le_refl _)
 have bt1:pM ((rnd n w).R c) ↔ r=1:=⟨fun q=>by have:=q.2; omega,fun q=>⟨s1.s.c2,by omega⟩⟩
 obtain ⟨g2,s2,t2,_⟩:=mq (N:=N + 2010) (Q':=if r=2∨r=1 then Q + 4 else Q) n2 (g1.mono (by omega)) s1 hc (by split <;> omega) (by split <;> split <;> omega) (fun q=>by rw [if_neg (by have:=bt1.1 q; omega),if_pos (Or.inr (bt1.1 q))]; exact Int.le_refl _)
 have bt2:pM ((rnd n (rnd n w)).R c) ↔ r=0:=⟨fun q=>by have:=q.2; omega,fun q=>⟨s2.s.c2,by omega⟩⟩
 obtain ⟨g3,s3,t3,_⟩:=mq (N:=N) (Q':=Q + 4) n2 g2 s2 hc (by omega) (by split <;> omega) (fun q=>by rw [if_neg (by have:=bt2.1 q; omega)]; exact Int.le_refl _)
 refine ⟨g3,s3,?_⟩
 show B (rnd n (rnd n (rnd n w)))
 have q1:(if r=2 then Q + 4 else Q)<=900:=by split <;> omega
 have q2:(if r=2∨r=1 then Q + 4 else Q)<=900:=by split <;> omega
 have r3:r=2∨r=1∨r=0:=by omega
 have M0:=G1.mono (show 2010<=N + 2010 * 2 + 2010 from by omega)
 have M1:=g1.mono (show 2010<=N + 2010 * 2 from by omega)
 have M2:=g2.mono (show 2010<=N + 2010 from by omega)
 rcases r3 with h | h | h
 ·exact keep _ _ M2 s2 q2 (keep _ _ M1 s1 q1 (hit _ _ M0 st (by omega) (bt.2 h) a))
 ·exact keep _ _ M2 s2 q2 (hit _ _ M1 s1 q1 (bt1.2 h) (stay _ _ M0 st (by omega) a))
 ·exact hit _ _ M2 s2 q2 (bt2.2 h) (stay _ _ M1 s1 q1 (stay _ _ M0 st (by omega) a))
end
end Go.Q.Rf
end

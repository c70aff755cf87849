/- A part of the proof of statements of this seat: lemmas, no statement of their own. -/
import Derived.Test.YtmilimlmimckbaaGreatDoorYoZab
import Derived.Orders
set_option linter.unusedVariables false
set_option linter.unusedSimpArgs false
section
namespace Go.Q
def YE (D:Bool) (P:Program) (e:Env) (h:zaa) (o:Oper) (Φ:Value->zaa->Prop):Prop :=
 ∀(a:Act) (w:World),Agr e a.eval->w.heap=h->∀(next:Act->World->Prop) (Q:Exit->Act->World->Prop),(∀ v w',WW D w w'.heap w'->Φ v w'.heap->next (a.put o.dst v) w')->o.wp P a w next Q
theorem YE.of_h {D:Bool} {P:Program} {e:Env} {h h':zaa} {o:Oper} {v:Value} (y:Yh P e h o v h'):YE D P e h o fun v' h''=>v'=v/\h''=h':=by
 intro a w hA hw next Q k;obtain⟨w',hw',h1 | ⟨h1,rfl⟩⟩:=y _ _ hA hw
 ·simp only [Oper.wp,h1,Oper.upon]
  exact k _ _ (by rw [hw'.heap];exact hw'.weak) ⟨rfl,hw'.heap⟩
 ·simp only [Oper.wp,h1,Oper.upon]
  exact k _ _ (by rw [hw'.heap];exact hw'.weak) ⟨rfl,hw'.heap⟩
theorem YE.of_a {D:Bool} {P:Program} {e:Env} {h:zaa} {o:Oper} {Φ:Value->zaa->Prop} (y:Ya P e h o Φ):YE D P e h o Φ:=by
 intro a w hA hw next Q k;obtain⟨v,w',hw',hΦ,h1⟩:=y _ _ hA hw;simp only [Oper.wp,h1,Oper.upon];exact k _ _ hw'.weak hΦ
theorem YE.of_c {D:Bool} {P:Program} {e:Env} {h:zaa} {o:Oper} {f:FuncId} {args:Array Value} {Φ:Value->zaa->Prop} (hc:CallsHD D P f args h Φ) (y:Yc P e o f args):YE D P e h o Φ:=by
 intro a w hA hw next Q k;simp only [Oper.wp,y _ _ hA,Oper.upon];refine(hc w hw).mono ?_;rintro r w' ⟨v,rfl,hw',hΦ⟩;exact k _ _ hw' hΦ
structure Pn where
 j:Nat
 v:Value
 e:Env
def za9 (lops:List Oper) (j:Nat):Option Tmp:=match lops[j]? with | some o=>o.dst | none=>none
def zao (lops:List Oper) (p j:Nat):Bool:=match lops[j]? with | some o=>o.after.toList.any fun e=>Region.binds .any e&&Nat.beq e.on p | none=>false
def PF (c:Cx) (lops:List Oper) (h:zaa) (x:Pn):Prop :=
 ∃ o,lops[x.j]? = some o/\dOk c.N o.dst=true/\((wnt lops x.e o=some true/\Yl c.P x.e h o x.v)∨(wnt lops x.e o=some false/\x.v=undef))
def mem (l:List Nat) (j:Nat):Bool:=l.any fun x=>Nat.beq x j
theorem zcd {l:List Nat} {j:Nat}:mem l j=true ↔ j∈l:=by
 simp only [mem,List.any_eq_true];constructor
 ·rintro⟨x,hx,h⟩;rw [← Nat.eq_of_beq_eq_true h];exact hx
 ·exact fun h=>⟨j,h,by simp⟩
def PFs (c:Cx) (lops:List Oper) (h:zaa) (dead:List Nat):List Pn->Prop
 | []=>True
 | x :: r=>(bif mem dead x.j then True else PF c lops h x)/\PFs c lops h dead r
theorem PFs.mem {c:Cx} {lops:List Oper} {h:zaa} {dead:List Nat}:∀ {l:List Pn},PFs c lops h dead l->∀ x∈l,x.j ∉ dead->PF c lops h x
 | [],_,x,hx,_=>by simp at hx
 | y :: r,k,x,hx,hd=>by
  rcases List.mem_cons.1 hx with rfl | hx
  ·have h1:=k.1
   cases hm:Go.Q.mem dead x.j with
   | true=>exact absurd (zcd.1 hm) hd
   | false=>rw [hm] at h1;exact h1
  ·exact k.2.mem x hx hd
def un (listed:Array Bool) (j:Nat):Prop:=listed.getD j true=false
def zdo (lops:List Oper) (s:Nat):Bool:=lops.any fun o=>match o.dst with | some d=>Nat.beq d s | none=>false
theorem zjc {lops:List Oper} {j s:Nat} (h:za9 lops j=some s):zdo lops s=true:=by
 unfold za9 at h
 cases hj:lops[j]? with
 | none=>simp [hj] at h
 | some o =>
  simp only [hj] at h;simp only [zdo,List.any_eq_true];exact⟨o,List.mem_of_getElem? hj,by simp [h]⟩
def distinct:List Oper->Bool
 | []=>true
 | o :: r=>(match o.dst with | some d=>!zdo r d | none=>true)&&distinct r
theorem za3:∀ {lops:List Oper},distinct lops=true->∀ i j s,za9 lops i=some s->za9 lops j=some s->i=j
 | [],_,i,j,s,h,_=>by simp [za9] at h
 | o :: r,hd,i,j,s,hi,hj=>by
  simp only [distinct,Bool.and_eq_true] at hd;have st:∀ k,za9 (o :: r) (k+1)=za9 r k:=fun k=>by simp [za9]
  have sz:za9 (o :: r) 0=o.dst:=by simp [za9]
  cases i with
  | zero=>cases j with
   | zero=>rfl
   | succ j =>
    rw [sz] at hi;rw [st] at hj;have h1:=hd.1;rw [hi] at h1
    simp [zjc hj] at h1
  | succ i=>cases j with
   | zero =>
    rw [sz] at hj;rw [st] at hi;have h1:=hd.1;rw [hj] at h1
    simp [zjc hi] at h1
   | succ j =>
    rw [st] at hi hj;rw [za3 hd.2 i j s hi hj]
structure Inv (c:Cx) (lops:List Oper) (done dead:List Nat) (pend:List Pn) (e:Env) (D:List Pn) (listed:Array Bool) (a:Act):Prop where
 sz:listed.size=lops.length
 d:a.defers=[]
 n:a.tmps.size=c.N
 jd:∀ x∈D,x.j∈done
 dj:∀ j∈done,∃ x∈D,x.j=j
 uq:∀ x∈D,∀ y∈D,x.j=y.j->x=y
 dn:∀ j,j<lops.length->¬ un listed j->j∈done
 dc:∀ j,j<lops.length->¬ un listed j->∀ p,zao lops p j=true->¬ un listed p
 pd:∀ x∈D,un listed x.j->x∈pend/\x.j ∉ dead
 pin:∀ x∈pend,x∈D
 val:∀ x∈D,¬ un listed x.j->∀ d,za9 lops x.j=some d->a.tmps[d]? = some x.v
 env:∀ s u,lkO e s=some u->(∃ x∈D,za9 lops x.j=some s/\x.v=u)∨(zdo lops s=false/\a.tmps[s]? = some u)∨(∃ q,za9 lops q=some s/\q ∉ done/\a.tmps[s]? = some u)
 ops:∀ x∈D,∀ s u,lkO x.e s=some u->(∃ y∈D,za9 lops y.j=some s/\y.v=u/\zao lops y.j x.j=true)∨(zdo lops s=false/\a.tmps[s]? = some u)∨(∃ q,za9 lops q=some s/\zao lops x.j q=true/\(un listed q->a.tmps[s]? = some u))
def cnt (l:Array Bool):Nat:=l.toList.count false
def Sim (c:Cx) (lops:List Oper) (Q:Exit->Act->World->Prop) (done dead:List Nat) (pend:List Pn) (e:Env) (h:zaa):Prop :=
 ∀ fuel D listed a w,cnt listed<=fuel->Inv c lops done dead pend e D listed a->WW c.D c.W0 h w->wpAny c.P .any lops.toArray Q fuel listed a w
theorem zra:∀(l:List Bool) (j:Nat),l[j]? = some false->(l.set j true).count false+1=l.count false
 | [],j,h=>by simp at h
 | b :: l,0,h=>by simp at h;subst h;simp
 | b :: l,j+1,h=>by
  simp only [List.getElem?_cons_succ] at h;have:=zra l j h;simp only [List.set_cons_succ,List.count_cons];omega
theorem zic {l:Array Bool} {j:Nat} (hj:un l j):cnt (l.setIfInBounds j true)+1=cnt l:=by
 unfold cnt;rw [Array.toList_setIfInBounds];refine zra _ _ ?_;unfold un at hj;rw [Array.getD_eq_getD_getElem?] at hj
 cases hh:l[j]? with
 | none=>rw [hh] at hj;simp at hj
 | some b=>rw [hh] at hj;simp at hj;subst hj;simpa using hh
theorem zvm {l:Array Bool} {j:Nat} (hj:un l j):j<l.size:=by
 rcases Nat.lt_or_ge j l.size with h | h
 ·exact h
 ·simp [un,Array.getElem?_eq_none h] at hj
theorem ztt {l:Array Bool} {i j:Nat} (hi:i<l.size):un (l.setIfInBounds i true) j ↔ un l j/\j≠i:=by
 unfold un;simp only [Array.getD_eq_getD_getElem?,Array.getElem?_setIfInBounds];by_cases hij:i=j
 ·subst hij;simp [hi]
 ·rw [if_neg hij];simp [Ne.symm hij]
def zgn (lops:List Oper):Bool:=(lops.zipIdx.all fun(o,i)=>o.after.toList.all fun e=>!Region.binds .any e||Nat.blt e.on i)
section
variable {c:Cx} {lops:List Oper} {Q:Exit->Act->World->Prop} {done dead:List Nat} {pend D:List Pn} {e:Env} {h:zaa} {listed:Array Bool} {a:Act}
theorem zg6 (hd:zgn lops=true) {p j:Nat} (h:zao lops p j=true):p<j/\j<lops.length:=by
 unfold zao at h
 cases hj:lops[j]? with
 | none=>simp [hj] at h
 | some o =>
  have hl:j<lops.length:=(List.getElem?_eq_some_iff.1 hj).1;simp only [hj,List.any_eq_true,Bool.and_eq_true] at h;obtain⟨ed,he,hbi,ho⟩:=h;simp only [zgn,List.all_eq_true] at hd;have h1:=hd (o,j) (by rw [List.mem_zipIdx_iff_getElem?];exact hj);simp only [List.all_eq_true] at h1;have h2:=h1 ed he;have ho':=Nat.eq_of_beq_eq_true ho;rw [hbi,Bool.not_true,Bool.false_or,Nat.blt_eq] at h2;omega
theorem zo8 {l:Array Bool} {p:Nat} (hp:p<l.size):l.getD p false=true ↔ ¬ un l p:=by
 unfold un;simp only [Array.getD_eq_getD_getElem?,Array.getElem?_eq_getElem hp,Option.getD_some]
 cases l[p] <;> simp
theorem zli (hd:zgn lops=true) (hsz:listed.size=lops.length) {j:Nat}:j∈Region.ready .any lops.toArray listed ↔ (j<lops.length/\un listed j/\∀ p,zao lops p j=true->¬ un listed p):=by
 simp only [Region.ready,List.mem_filter,List.mem_range,List.size_toArray];constructor
 ·rintro⟨h1,h2⟩
  simp only [Bool.and_eq_true,Bool.not_eq_true'] at h2;refine⟨h1,h2.1,fun p hp=>?_⟩;have hlt:=zg6 hd hp;have hj:lops[j]? = some lops[j]:=by simp [h1]
  have h3:=h2.2;simp only [List.getElem?_toArray,hj,Option.map_some,Option.getD_some] at h3;rw [← Array.all_toList] at h3;simp only [List.all_eq_true,Bool.or_eq_true,Bool.not_eq_true'] at h3;simp only [zao,hj,List.any_eq_true,Bool.and_eq_true] at hp;obtain⟨ed,he,hb,ho⟩:=hp;have ho':=Nat.eq_of_beq_eq_true ho;rcases h3 ed he with h4 | h4
  ·rw [hb] at h4;cases h4
  ·rw [ho'] at h4;exact(zo8 (by omega)).1 h4
 ·rintro⟨h1,h2,h3⟩
  refine⟨h1,?_⟩;simp only [Bool.and_eq_true,Bool.not_eq_true'];refine⟨h2,?_⟩;have hj:lops[j]? = some lops[j]:=by simp [h1]
  simp only [List.getElem?_toArray,hj,Option.map_some,Option.getD_some];rw [← Array.all_toList];simp only [List.all_eq_true,Bool.or_eq_true,Bool.not_eq_true'];intro ed he;by_cases hb:Region.binds .any ed=true
  ·right
   have hp:zao lops ed.on j=true:=by
    simp only [zao,hj,List.any_eq_true,Bool.and_eq_true];exact⟨ed,he,hb,by simp⟩
   have hlt:=zg6 hd hp;exact(zo8 (by omega)).2 (h3 _ hp)
  ·left;simpa using hb
theorem ztr (hd:zgn lops=true) (hsz:listed.size=lops.length) {j:Nat} (hj:un listed j):Region.ready .any lops.toArray listed≠[]:=by
 have key:∀ n j,j<=n->un listed j->∃ i,i∈Region.ready .any lops.toArray listed:=by
  intro n
  induction n with
  | zero =>
   intro j hjn hj;refine⟨j,(zli hd hsz).2 ⟨by have:=zvm hj;omega,hj,fun p hp=>?_⟩⟩;have:=zg6 hd hp
   omega
  | succ n ih =>
   intro j hjn hj;by_cases hr:j∈Region.ready .any lops.toArray listed
   ·exact⟨j,hr⟩
   ·have hl:j<lops.length:=by have:=zvm hj;omega
    have:∃ p,zao lops p j=true/\un listed p:=by
     rw [zli hd hsz] at hr;by_cases hx:∀ p,zao lops p j=true->¬ un listed p
     ·exact absurd ⟨hl,hj,hx⟩ hr
     ·simp only [Classical.not_forall] at hx
      obtain⟨p,hp,hu⟩:=hx;exact⟨p,hp,Classical.not_not.1 hu⟩
    obtain⟨p,hp,hu⟩:=this;have:=zg6 hd hp;exact ih p (by omega) hu
 obtain⟨i,hi⟩:=key j j (Nat.le_refl _) hj;intro h0;rw [h0] at hi;simp at hi
theorem Inv.fr (I:Inv c lops done dead pend e D listed a) {x:Pn} (hu:un listed x.j) (hx:∀ s u,lkO x.e s=some u->(∃ y∈D,za9 lops y.j=some s/\y.v=u/\zao lops y.j x.j=true)∨(zdo lops s=false/\a.tmps[s]? = some u)∨(∃ q,za9 lops q=some s/\zao lops x.j q=true/\(un listed q->a.tmps[s]? = some u)))
  (hpre:∀ p,zao lops p x.j=true->¬ un listed p):Fr c.N x.e a :=
 ⟨I.d,I.n,fun s u hs=>by
  rcases hx s u hs with⟨y,hy,yd,rfl,yp⟩ | ⟨_,h1⟩ | ⟨q,hq,hp,h1⟩
  ·exact I.val y hy (hpre _ yp) _ yd
  ·exact h1
  ·refine h1 (Classical.byContradiction fun hh=>I.dc q ?_ hh _ hp hu)
   unfold zao at hp
   cases hqj:lops[q]? with
   | none=>simp [hqj] at hp
   | some o=>exact(List.getElem?_eq_some_iff.1 hqj).1⟩
theorem zor {a:Act} {d:Option Tmp} {v:Value} {s:Nat} (h:d≠some s):(a.put d v).tmps[s]? = a.tmps[s]?:=by
 cases d with
 | none=>rfl
 | some d=>simp only [Act.put];rw [Array.getElem?_setIfInBounds_ne (fun hh=>h (by rw [hh]))]
theorem qei {a:Act} {v:Value} {d N:Nat} (hn:a.tmps.size=N) (h:dOk N (some d)=true):(a.put (some d) v).tmps[d]? = some v:=by
 have hd':d<N:=by simpa [dOk,Nat.blt_eq] using h
 simp [Act.put,hn,hd']
theorem Inv.come (hdd:distinct lops=true) (I:Inv c lops done dead pend e D listed a) {x:Pn} (hx:x∈D) (hu:un listed x.j) (hpre:∀ p,zao lops p x.j=true->¬ un listed p) (hdk:dOk c.N (za9 lops x.j)=true) :
  Inv c lops done dead pend e D (listed.setIfInBounds x.j true) (a.put (za9 lops x.j) x.v):=by
 have hlt:=zvm hu;have un_set':∀ {j},un (listed.setIfInBounds x.j true) j ↔ un listed j/\j≠x.j:=ztt hlt;have nd:∀ s,zdo lops s=false->(a.put (za9 lops x.j) x.v).tmps[s]? = a.tmps[s]?:=fun s hs=>zor fun hh=>by rw [zjc hh] at hs;cases hs
 refine⟨by simp [I.sz],?_,?_,I.jd,I.dj,I.uq,fun j hj hl=>?_,fun j hj hl p hpj=>?_,fun y hy hl=>I.pd y hy (un_set'.1 hl).1,I.pin,fun y hy hl d hd=>?_,fun s u hs=>?_,fun y hy s u hs=>?_⟩
 ·cases hd:za9 lops x.j <;> simp [Act.put,I.d]
 ·cases hd:za9 lops x.j <;> simp [Act.put,I.n]
 ·by_cases hjx:j=x.j
  ·subst hjx;exact I.jd x hx
  ·exact I.dn j hj fun q=>hl (un_set'.2 ⟨q,hjx⟩)
 ·intro hq
  have hq':=(un_set'.1 hq)
  by_cases hjx:j=x.j
  ·subst hjx;exact hpre p hpj hq'.1
  ·exact I.dc j hj (fun q=>hl (un_set'.2 ⟨q,hjx⟩)) p hpj hq'.1
 ·by_cases hjx:y.j=x.j
  ·have:=I.uq y hy x hx hjx
   subst this;rw [hd];exact qei I.n (by rw [← hd];exact hdk)
  ·rw [zor (fun hh=>hjx (za3 hdd _ _ _ hd hh))]
   exact I.val y hy (fun q=>hl (un_set'.2 ⟨q,hjx⟩)) d hd
 ·rcases I.env s u hs with h1 | ⟨h1,h2⟩ | ⟨q,hq,hqd,h2⟩
  ·exact .inl h1
  ·exact .inr (.inl ⟨h1,by rw [nd s h1];exact h2⟩)
  ·refine .inr (.inr ⟨q,hq,hqd,?_⟩)
   rw [zor (fun hh=>hqd (by rw [za3 hdd _ _ _ hq hh];exact I.jd x hx))];exact h2
 ·rcases I.ops y hy s u hs with h1 | ⟨h1,h2⟩ | ⟨q,hq,hqp,h2⟩
  ·exact .inl h1
  ·exact .inr (.inl ⟨h1,by rw [nd s h1];exact h2⟩)
  ·refine .inr (.inr ⟨q,hq,hqp,fun hun=>?_⟩)
   have hun':=un_set'.1 hun;rw [zor (fun hh=>hun'.2 (za3 hdd _ _ _ hq hh))];exact h2 hun'.1
theorem zpb (hd:zgn lops=true) (hdd:distinct lops=true) (hp:PFs c lops h dead pend)
  (G0:∀ D listed a w,Inv c lops done dead pend e D listed a->WW c.D c.W0 h w->(∀ j,¬ un listed j)->Q .normal a w)
  (G:∀ fuel D listed a w i,cnt listed<=fuel+1->Inv c lops done dead pend e D listed a->WW c.D c.W0 h w->i ∉ done->i<lops.length->un listed i->(∀ p,zao lops p i=true->¬ un listed p) ->
   wpOp c.P lops.toArray Q i (wpAny c.P .any lops.toArray Q fuel (listed.setIfInBounds i true)) a w):Sim c lops Q done dead pend e h:=by
 intro fuel
 induction fuel with
 | zero =>
  intro D listed a w hf I hw;have hn:∀ j,¬ un listed j:=fun j hj=>by have:=zic hj;omega
  refine⟨?_,G0 D listed a w I hw hn⟩
  cases hr:Region.ready .any lops.toArray listed with
  | nil=>rfl
  | cons i r=>exact absurd ((zli hd I.sz).1 (by rw [hr];simp:i∈_)).2.1 (hn i)
 | succ fuel ih =>
  intro D listed a w hf I hw;refine⟨fun h0=>G0 D listed a w I hw fun j hj=>ztr hd I.sz hj h0,fun i hi=>?_⟩;obtain⟨hlt,hu,hpre⟩:=(zli hd I.sz).1 hi;by_cases hin:i∈done
  ·obtain⟨x,hx,rfl⟩:=I.dj i hin
   obtain⟨o,ho,hdk,hv⟩:=hp.mem x (I.pd x hx hu).1 (I.pd x hx hu).2;have hds:za9 lops x.j=o.dst:=by simp [za9,ho]
   have av:Fr c.N x.e a:=I.fr hu (I.ops x hx) hpre;have I':=I.come hdd hx hu hpre (by rw [hds];exact hdk);rw [hds] at I';have hc:=zic hu;have go:=ih D _ _ w (by omega) I' hw;unfold wpOp;simp only [List.getElem?_toArray,ho];rcases hv with⟨hw1,hy⟩ | ⟨hw1,hun⟩
   ·simp only [zda hw1 av,if_true]
    left
    simp only [Oper.wp,hy _ _ av.agr hw.heap,Oper.upon];exact go
   ·simp only [zda hw1 av,if_false,Bool.false_eq_true]
    rw [← hun];exact go
  ·exact G fuel D listed a w i hf I hw hin hlt hu hpre
def zxs (lops:List Oper) (done:List Nat) (i s:Nat):Bool :=
 !zdo lops s||(List.range lops.length).any fun p=>(match za9 lops p with | some d=>Nat.beq d s | none=>false)&&((zao lops p i&&mem done p)||(zao lops i p && !mem done p))
def zdq (lops:List Oper) (done:List Nat) (i:Nat):Env->Bool
 | []=>true
 | (s,_) :: r=>zxs lops done i s&&zdq lops done i r
theorem zia:∀ {ei:Env} {i:Nat},zdq lops done i ei=true->∀ s u,lkO ei s=some u->zdo lops s=false∨(∃ p,zao lops p i=true/\za9 lops p=some s/\p∈done)∨(∃ p,zao lops i p=true/\za9 lops p=some s/\p ∉ done)
 | [],_,_,s,u,h=>by simp [lkO] at h
 | (t,v) :: r,i,h,s,u,hs=>by
  simp only [zdq,Bool.and_eq_true] at h;rw [ze3] at hs;by_cases hts:t=s
  ·subst hts
   have h0:=h.1;simp only [zxs,Bool.or_eq_true,Bool.not_eq_true',List.any_eq_true,Bool.and_eq_true] at h0;rcases h0 with h1 | ⟨p,_,hq,h1⟩
   ·exact .inl h1
   ·right
    have hd:za9 lops p=some t:=by
     cases hd:za9 lops p with
     | none=>simp [hd] at hq
     | some d=>simp only [hd] at hq;rw [Nat.eq_of_beq_eq_true hq]
    rcases h1 with⟨h1,h2⟩ | ⟨h1,h2⟩
    ·exact .inl ⟨p,h1,hd,zcd.1 h2⟩
    ·exact .inr ⟨p,h1,hd,fun hh=>by rw [zcd.2 hh] at h2;cases h2⟩
  ·rw [if_neg hts] at hs
   exact zia h.2 s u hs
theorem sub_lk:∀ {ei e:Env},Sub ei e->∀ s u,lkO ei s=some u->lkO e s=some u
 | [],_,_,s,u,h=>by simp [lkO] at h
 | (t,v) :: r,e,hs,s,u,h=>by
  rw [ze3] at h;by_cases hts:t=s
  ·subst hts;rw [if_pos rfl] at h;exact hs.1.trans h
  ·rw [if_neg hts] at h;exact sub_lk hs.2 s u h
theorem Inv.look (hdd:distinct lops=true) (I:Inv c lops done dead pend e D listed a) {ei:Env} {i:Nat} (hs:Sub ei e) (hk:zdq lops done i ei=true) :
  ∀ s u,lkO ei s=some u->(∃ y∈D,za9 lops y.j=some s/\y.v=u/\zao lops y.j i=true)∨(zdo lops s=false/\a.tmps[s]? = some u)∨(∃ q,za9 lops q=some s/\zao lops i q=true/\(un listed q->a.tmps[s]? = some u)):=by
 intro s u h;rcases I.env s u (sub_lk hs s u h) with⟨x,hx,hxd,hxv⟩ | h1 | ⟨q,hq,hqd,h1⟩
 ·rcases zia hk s u h with h2 | ⟨p,hp,hpd,_⟩ | ⟨p,hp,hpd,hpn⟩
  ·rw [zjc hxd] at h2;cases h2
  ·have:=za3 hdd _ _ _ hxd hpd
   subst this;exact .inl ⟨x,hx,hxd,hxv,hp⟩
  ·have:=za3 hdd _ _ _ hxd hpd
   subst this;exact absurd (I.jd x hx) hpn
 ·exact .inr (.inl h1)
 ·rcases zia hk s u h with h2 | ⟨p,hp,hpd,hpn⟩ | ⟨p,hp,hpd,hpn⟩
  ·rw [zjc hq] at h2;cases h2
  ·have:=za3 hdd _ _ _ hq hpd
   subst this;exact absurd hpn hqd
  ·exact .inr (.inr ⟨p,hpd,hp,fun _=>h1⟩)
theorem qiw {x:Pn} {i:Nat} (hi:x.j=i) (he:∀ s u,lkO e s=some u->(∃ x∈D,za9 lops x.j=some s/\x.v=u)∨(zdo lops s=false/\a.tmps[s]? = some u)∨(∃ q,za9 lops q=some s/\q ∉ done/\a.tmps[s]? = some u)) :
  ∀ s u,lkO (pu e (za9 lops i) x.v) s=some u->(∃ y∈x :: D,za9 lops y.j=some s/\y.v=u)∨(zdo lops s=false/\a.tmps[s]? = some u)∨(∃ q,za9 lops q=some s/\q ∉ i :: done/\a.tmps[s]? = some u):=by
 intro s u hs
 have old:za9 lops i≠some s->lkO e s=some u->(∃ y∈x :: D,za9 lops y.j=some s/\y.v=u)∨(zdo lops s=false/\a.tmps[s]? = some u)∨(∃ q,za9 lops q=some s/\q ∉ i :: done/\a.tmps[s]? = some u):=fun hn h=>by
  rcases he s u h with⟨y,hy,h1⟩ | h1 | ⟨q,hq,hqd,h1⟩
  ·exact .inl ⟨y,List.mem_cons_of_mem _ hy,h1⟩
  ·exact .inr (.inl h1)
  ·refine .inr (.inr ⟨q,hq,fun hh=>?_,h1⟩)
   rcases List.mem_cons.1 hh with rfl | hh
   ·exact hn hq
   ·exact hqd hh
 cases hd:za9 lops i with
 | none=>rw [hd] at hs;exact old (by rw [hd];simp) hs
 | some d =>
  rw [hd] at hs;simp only [pu,ze3] at hs;by_cases hds:d=s
  ·subst hds
   rw [if_pos rfl] at hs;refine .inl ⟨x,by simp,by rw [hi];exact hd,by simpa using hs⟩
  ·rw [if_neg hds] at hs
   exact old (by rw [hd];simpa using hds) hs
theorem Inv.fix (hdd:distinct lops=true) (I:Inv c lops done dead pend e D listed a) {i:Nat} {v:Value} {ei:Env} (hi:i ∉ done) (hid:i ∉ dead) (hil:i<lops.length) (hs:Sub ei e) (hk:zdq lops done i ei=true) :
  Inv c lops (i :: done) dead (⟨i,v,ei⟩ :: pend) (pu e (za9 lops i) v) (⟨i,v,ei⟩ :: D) listed a:=by
 have hu:un listed i:=Classical.byContradiction fun hh=>hi (I.dn i hil hh);refine⟨I.sz,I.d,I.n,fun x hx=>?_,fun j hj=>?_,fun x hx y hy hxy=>?_,fun j hj hl=>List.mem_cons_of_mem _ (I.dn j hj hl),I.dc,fun x hx hl=>?_,fun x hx=>?_,fun x hx hl d hd=>?_,qiw (x:=⟨i,v,ei⟩) rfl I.env,fun x hx s u hxs=>?_⟩
 ·rcases List.mem_cons.1 hx with rfl | hx
  ·simp
  ·exact List.mem_cons_of_mem _ (I.jd x hx)
 ·rcases List.mem_cons.1 hj with rfl | hj
  ·exact⟨⟨j,v,ei⟩,by simp,rfl⟩
  ·obtain⟨x,hx,h1⟩:=I.dj j hj
   exact⟨x,List.mem_cons_of_mem _ hx,h1⟩
 ·rcases List.mem_cons.1 hx with rfl | hx <;> rcases List.mem_cons.1 hy with rfl | hy
  ·rfl
  ·exact absurd (by have:=I.jd y hy;rw [← hxy] at this;exact this) hi
  ·exact absurd (by have:=I.jd x hx;rw [hxy] at this;exact this) hi
  ·exact I.uq x hx y hy hxy
 ·rcases List.mem_cons.1 hx with rfl | hx
  ·exact⟨by simp,hid⟩
  ·exact⟨List.mem_cons_of_mem _ (I.pd x hx hl).1,(I.pd x hx hl).2⟩
 ·rcases List.mem_cons.1 hx with rfl | hx
  ·simp
  ·exact List.mem_cons_of_mem _ (I.pin x hx)
 ·rcases List.mem_cons.1 hx with rfl | hx
  ·exact absurd hu hl
  ·exact I.val x hx hl d hd
 ·rcases List.mem_cons.1 hx with rfl | hx
  ·rcases I.look hdd hs hk s u hxs with⟨y,hy,h1⟩ | h1
   ·exact .inl ⟨y,List.mem_cons_of_mem _ hy,h1⟩
   ·exact .inr h1
  ·rcases I.ops x hx s u hxs with⟨y,hy,h1⟩ | h1
   ·exact .inl ⟨y,List.mem_cons_of_mem _ hy,h1⟩
   ·exact .inr h1
def wfR (lops:List Oper):Bool:=zgn lops&&distinct lops
theorem not_mem {l:List Nat} {j:Nat} (h:mem l j=false):j ∉ l:=fun hh=>by rw [zcd.2 hh] at h;cases h
def zvd (lops:List Oper) (done dead:List Nat) (i:Nat):Bool:=!mem done i && !mem dead i&&Nat.blt i lops.length
theorem zye {i:Nat} {v:Value} {ei:Env} {d:Option Tmp} (hwf:wfR lops=true) (hi:zvd lops done dead i=true) (hs:Sub ei e) (hk:zdq lops done i ei=true) (hdst:za9 lops i=d)
  (H:Sim c lops Q (i :: done) dead (⟨i,v,ei⟩ :: pend) (pu e d v) h):Sim c lops Q done dead pend e h:=by
 simp only [wfR,Bool.and_eq_true] at hwf;simp only [zvd,Bool.and_eq_true,Bool.not_eq_true',Nat.blt_eq] at hi;subst hdst;intro fuel D listed a w hf I hw;exact H fuel _ listed a w hf (I.fix hwf.2 (not_mem hi.1.1) (not_mem hi.1.2) hi.2 hs hk) hw
theorem qo9 (i:Nat) {v:Value} {ei:Env} {d:Option Tmp} (hwf:wfR lops=true) (hi:zvd lops done dead i=true) (hs:Sub ei e) (hk:zdq lops done i ei=true) (hdst:za9 lops i=d)
  (hp:∀ h,PF c lops h ⟨i,v,ei⟩) (H:(∀ h,PF c lops h ⟨i,v,ei⟩)->Sim c lops Q (i :: done) dead (⟨i,v,ei⟩ :: pend) (pu e d v) h):Sim c lops Q done dead pend e h :=
 zye hwf hi hs hk hdst (H hp)
theorem qai (i:Nat) {v:Value} {ei:Env} {d:Option Tmp} (hwf:wfR lops=true) (hi:zvd lops done dead i=true) (hs:Sub ei e) (hk:zdq lops done i ei=true) (hdst:za9 lops i=d)
  (hp:PF c lops h ⟨i,v,ei⟩) (H:PF c lops h ⟨i,v,ei⟩->Sim c lops Q (i :: done) dead (⟨i,v,ei⟩ :: pend) (pu e d v) h):Sim c lops Q done dead pend e h :=
 zye hwf hi hs hk hdst (H hp)
theorem zvy {o:Oper} {i:Nat} {v:Value} {ei:Env} (ho:lops[i]? = some o) (hdk:dOk c.N o.dst=true) (hw:wnt lops ei o=some true) (hy:Yl c.P ei h o v):PF c lops h ⟨i,v,ei⟩:=⟨o,ho,hdk,.inl ⟨hw,hy⟩⟩
theorem qsm {T:Tab} {o:Oper} {i:Nat} {v:Value} {ei:Env} (hT:TOk c.P T) (ho:lops[i]? = some o) (hdk:dOk c.N o.dst=true) (hw:wnt lops ei o=some true) (hp:pev T ei o.op=some v):PF c lops h ⟨i,v,ei⟩:=zvy ho hdk hw (zdh hT hp)
theorem qoq {o:Oper} {i:Nat} {v v':Value} {ei:Env} (ho:lops[i]? = some o) (hdk:dOk c.N o.dst=true) (hw:wnt lops ei o=some true) (hy:Yl c.P ei h o v) (hv:v'=v):PF c lops h ⟨i,v',ei⟩:=hv ▸ zvy ho hdk hw hy
theorem zwg {x:Pn} (hp:PF c lops h x) (H:PF c lops h x->Sim c lops Q done dead pend e h):Sim c lops Q done dead pend e h:=H hp
theorem qr0 {o:Oper} {i:Nat} {ei:Env} (ho:lops[i]? = some o) (hdk:dOk c.N o.dst=true) (hw:wnt lops ei o=some false):PF c lops h ⟨i,undef,ei⟩:=⟨o,ho,hdk,.inr ⟨hw,rfl⟩⟩
theorem qgj {b:Bool} {A B:Prop} (d:Nat) (H:if b then A else B) (hd:lkO e d=some (.bool b)) (h1:b=true->A->Sim c lops Q done dead pend ((d,.bool true) :: e) h) (h2:b=false->B->Sim c lops Q done dead pend ((d,.bool false) :: e) h) :
  Sim c lops Q done dead pend e h:=by
 have key:Sim c lops Q done dead pend ((d,.bool b) :: e) h->Sim c lops Q done dead pend e h:=fun H fuel D listed a w hf I hw =>
  H fuel D listed a w hf ⟨I.sz,I.d,I.n,I.jd,I.dj,I.uq,I.dn,I.dc,I.pd,I.pin,I.val,fun s u hs=>by
   rw [ze3] at hs;by_cases hds:d=s
   ·subst hds;rw [if_pos rfl] at hs;cases hs;exact I.env d _ hd
   ·rw [if_neg hds] at hs;exact I.env s u hs,I.ops⟩ hw
 cases b with
 | true=>exact key (h1 rfl (by simpa using H))
 | false=>exact key (h2 rfl (by simpa using H))
theorem zsh (hwf:wfR lops=true) (hp:PFs c lops h dead pend) (hall:(List.range lops.length).all (mem done)=true) (H:gex c Q .normal e h):Sim c lops Q done dead pend e h:=by
 simp only [wfR,Bool.and_eq_true] at hwf;simp only [List.all_eq_true,List.mem_range] at hall;refine zpb hwf.1 hwf.2 hp (fun D listed a w I hw hn=>H a w ⟨I.d,I.n,fun s u hs=>?_⟩ hw) fun fuel D listed a w i _ _ _ hi hil _ _=>absurd (zcd.1 (hall i hil)) hi;rcases I.env s u hs with⟨x,hx,h1,rfl⟩ | ⟨_,h1⟩ | ⟨q,hq,hqd,_⟩
 ·exact I.val x hx (hn _) _ h1
 ·exact h1
 ·refine absurd (zcd.1 (hall q ?_)) hqd
  unfold za9 at hq
  cases hqj:lops[q]? with
  | none=>simp [hqj] at hq
  | some o=>exact(List.getElem?_eq_some_iff.1 hqj).1
def qiv (lops:List Oper) (done:List Nat) (i:Nat):Bool :=
 (List.range lops.length).all fun j=>mem (i :: done) j||(List.range j).any fun p=>zao lops p j && !mem done p
def ancOk (lops:List Oper) (i:Nat) (A:List Nat):Bool:=A.all fun x=>(i :: A).any fun b=>zao lops x b
def zwu (lops:List Oper) (done dead dead' A:List Nat) (i:Nat):Bool:=!mem done i && !mem dead i&&qiv lops done i&&ancOk lops i A&&dead'.all fun x=>mem A x||mem dead x
theorem qej (i:Nat) (A dead':List Nat) {o:Oper} {Φ:Value->zaa->Prop} {ei:Env} (hwf:wfR lops=true) (hp:PFs c lops h dead pend) (hside:zwu lops done dead dead' A i=true) (hs:Sub ei e) (hk:zdq lops done i ei=true)
  (ho:lops[i]? = some o) (hdk:dOk c.N o.dst=true) (hw:wnt lops ei o=some true) (hy:YE c.D c.P ei h o Φ)
  (H:∀ v h',Φ v h'->Sim c lops Q (i :: done) dead' pend (pu e o.dst v) h'):Sim c lops Q done dead pend e h:=by
 simp only [wfR,Bool.and_eq_true] at hwf;simp only [zwu,Bool.and_eq_true,Bool.not_eq_true',List.all_eq_true,Bool.or_eq_true] at hside;obtain⟨⟨⟨⟨hi,hid⟩,honly⟩,hA⟩,hdd⟩:=hside;have hlt:i<lops.length:=(List.getElem?_eq_some_iff.1 ho).1;have hi':=not_mem hi;refine zpb hwf.1 hwf.2 hp (fun D listed a w I hw hn=>absurd (I.dn i hlt (hn i)) hi') fun fuel D listed a w j hf I hww hj hjl hu hpre=>?_;simp only [qiv,List.all_eq_true,List.mem_range,Bool.or_eq_true,List.any_eq_true,Bool.and_eq_true,Bool.not_eq_true'] at honly
 have hji:j=i:=by
  rcases honly j hjl with h1 | ⟨p,hpj,hp1,hp2⟩
  ·rcases List.mem_cons.1 (zcd.1 h1) with h1 | h1
   ·exact h1
   ·exact absurd h1 hj
  ·exact absurd (I.dn p (by omega) (hpre p hp1)) (not_mem hp2)
 subst hji;have av:Fr c.N ei a:=I.fr (x:=⟨j,undef,ei⟩) hu (I.look hwf.2 hs hk) hpre;have hds:za9 lops j=o.dst:=by simp [za9,ho]
 unfold wpOp;simp only [List.getElem?_toArray,ho,zda hw av,if_true]
 left
 refine hy a w av.agr hww.heap _ _ fun v w' hw' hΦ=>?_;have I1:=I.fix (v:=v) hwf.2 hi' (not_mem hid) hlt hs hk;have I2:=I1.come hwf.2 (x:=⟨j,v,ei⟩) (by simp) hu hpre (by rw [hds];exact hdk);rw [hds] at I2
 -- those that 'i' waited for have come up
 have anc:∀ n x,lops.length-x<=n->x∈A->¬ un listed x:=by
  intro n
  induction n with
  | zero =>
   intro x hx hxA;simp only [ancOk,List.all_eq_true,List.any_eq_true] at hA;obtain⟨b,_,hb⟩:=hA x hxA;have:=zg6 hwf.1 hb
   omega
  | succ n ih =>
   intro x hx hxA;have hA':=hA;simp only [ancOk,List.all_eq_true,List.any_eq_true] at hA';obtain⟨b,hbm,hb⟩:=hA' x hxA;have hbl:=zg6 hwf.1 hb;rcases List.mem_cons.1 hbm with rfl | hbm
   ·exact hpre x hb
   ·exact I.dc b hbl.2 (ih b (by omega) hbm) x hb
 refine H v w'.heap hΦ fuel (⟨j,v,ei⟩ :: D) _ _ _ (by have:=zic hu;omega) ?_ (hww.trans hw')
 have pl:∀ x∈(⟨j,v,ei⟩:Pn) :: D,un (listed.setIfInBounds j true) x.j->x∈pend/\x.j ∉ dead':=fun x hx hl=>by
  obtain⟨h1,h3⟩:=I2.pd x hx hl;have h2:=(ztt (zvm hu)).1 hl;rcases List.mem_cons.1 h1 with rfl | h1
  ·exact absurd rfl h2.2
  ·refine⟨h1,fun hh=>?_⟩
   rcases hdd x.j hh with hA1 | hA1
   ·exact anc _ _ (Nat.le_refl _) (zcd.1 hA1) h2.1
   ·exact h3 (zcd.1 hA1)
 exact⟨I2.sz,I2.d,I2.n,I2.jd,I2.dj,I2.uq,I2.dn,I2.dc,pl,fun x hx=>I2.pin x (List.mem_cons_of_mem _ hx),I2.val,I2.env,I2.ops⟩
theorem zvi (i:Nat) (A dead':List Nat) {o:Oper} {f:FuncId} {as':List Operand} {ts:Array TypeId} {vs:List Value} {Φ:Value->zaa->Prop} {ei:Env} (hf:zad c.P f) (hc:CallsHD c.D c.P f vs.toArray h Φ) (hwf:wfR lops=true) (hp:PFs c lops h dead pend) (hside:zwu lops done dead dead' A i=true) (hs:Sub ei e) (hk:zdq lops done i ei=true)
  (hoi:lops[i]? = some o) (hdk:dOk c.N o.dst=true) (hw:wnt lops ei o=some true) (ho:o.op = .call { callee:=.value (.func f),args:=as'.toArray,argTypes:=ts }) (hv:evs ei as'=some vs)
  (H:∀ v h',Φ v h'->Sim c lops Q (i :: done) dead' pend (pu e o.dst v) h'):Sim c lops Q done dead pend e h:=by
 have:=zt1 (P:=c.P) (e:=ei) (o:=o) hf ho rfl hv;simp only [List.append_toArray,List.nil_append,Array.append_empty,Array.empty_append] at this;exact qej i A dead' hwf hp hside hs hk hoi hdk hw (YE.of_c hc this) H
theorem qlu (i:Nat) (A dead':List Nat) {o:Oper} {v:Value} {h':zaa} {ei:Env} (hwf:wfR lops=true) (hp:PFs c lops h dead pend) (hside:zwu lops done dead dead' A i=true) (hs:Sub ei e) (hk:zdq lops done i ei=true)
  (ho:lops[i]? = some o) (hdk:dOk c.N o.dst=true) (hw:wnt lops ei o=some true) (hy:Yh c.P ei h o v h')
  (H:Sim c lops Q (i :: done) dead' pend (pu e o.dst v) h'):Sim c lops Q done dead pend e h :=
 qej i A dead' hwf hp hside hs hk ho hdk hw (YE.of_h hy) (by rintro _ _ ⟨rfl,rfl⟩;exact H)
theorem qdp {s:Nat} (h:zdo lops s=true):∃ q,za9 lops q=some s:=by
 simp only [zdo,List.any_eq_true] at h;obtain⟨o,ho,h1⟩:=h;obtain⟨q,hq⟩:=List.getElem?_of_mem ho;refine⟨q,?_⟩;simp only [za9,hq]
 cases hd:o.dst with
 | none=>simp [hd] at h1
 | some d=>simp only [hd] at h1;rw [Nat.eq_of_beq_eq_true h1]
theorem zsf (n:Nat):cnt (Array.replicate n false)=n:=by
 simp [cnt,List.count_replicate_self]
theorem qo8 {id:Nat} (e':Env) (hm:c.P.follows .mixedOrders=true) (hwf:wfR lops=true) (hs:Sub e' e)
  (H:wfR lops=true->Sim c lops Q [] [] [] e' h):gco c (Code.region id lops.toArray true) Q e h:=by
 intro a w fa fw;refine wp_region_any hm ?_;refine H hwf _ [] _ a _ ?_ ?_ ⟨fw.os,fw.tape,fw.output,fw.heap,fun k=>Nat.le_succ_of_le (fw.dr k)⟩
 ·rw [zsf];exact Nat.le_refl _
 ·have all:∀ j,j<lops.length->un (Array.replicate lops.toArray.size false) j:=fun j hj=>by
   simp [un,Array.getD_eq_getD_getElem?,hj]
  exact⟨by simp,fa.d,fa.n,by simp,by simp,by simp,fun j hj hl=>absurd (all j hj) hl,fun j hj hl=>absurd (all j hj) hl,by simp,by simp,by simp,
   fun s u hsu=>by
    have h1:=fa.l s u (sub_lk hs s u hsu)
    cases hd:zdo lops s with
    | false=>exact .inr (.inl ⟨rfl,h1⟩)
    | true=>obtain⟨q,hq⟩:=qdp hd;exact .inr (.inr ⟨q,hq,by simp,h1⟩),by simp⟩
end
end Go.Q
end
section
namespace Go.Q
section
variable {P:Program} {T:Tab} {e:Env} {h:zaa} {o:Oper}
theorem qdd (hT:TOk P T) {t el b n m k n1 b1 n2 b2:Nat} {z1 z2:List Value} {x:Operand} {cs:List Value} {h0 h1:zaa} (ho:o.op = .convert t t x) (hx:evO e x=some (.slice (some ⟨b,0,none⟩) n m))
  (ht:tlk T t=some ⟨.slice el,n1,b1,z1⟩) (hel:tlk T el=some ⟨.int .u8,n2,b2,z2⟩) (hb:b=h0.size) (he:h=h0.push (.cells cs.toArray el)) (hl:k=cs.length) (he':h1=h0.push (.cells cs.toArray el (k,k+1))) :
  Yh P e h o (.slice (some ⟨b,0,none⟩) n m) h1:=by
 intro ρ w hA hw;subst hb;subst he;subst hl;subst he';obtain⟨td,k1,k3⟩:=zai hT ht;rw [zce k3] at k1;obtain⟨td2,l1,l3⟩:=zai hT hel;rw [zjx l3] at l1
 have hs:w.shape? h0.size=some (el,cs.length):=by
  unfold World.shape?;rw [hw];simp
 refine⟨w.freeze ⟨h0.size,cs.length,none⟩ 1,⟨rfl,rfl,rfl,?_,fun _=>by first | exact Nat.le_refl _ | exact Nat.le_succ _⟩,.inl ?_⟩
 ·unfold World.freeze
  rw [if_neg (by decide)];simp only [hw];apply Array.ext
  ·simp
  ·intro i h1 h2
   simp only [Array.getElem_modify,Array.getElem_push];by_cases hi:h0.size=i
   ·subst hi;simp
   ·have:i<h0.size:=by simp at h1;omega
    simp [hi,this]
 ·simp [execOp,ho,hA _ _ hx,convert,run_underlying k1,run_underlying l1,markStringish,hs]
theorem qj5 (hT:TOk P T) {t el n:Nat} {x y:Operand} {cs:List Value} {k:IntKind} {ix:Int} {n1 b1:Nat} {z1:List Value} {i:TI} (ho:o.op = .index t x y) (hx:evO e x=some (.agg cs.toArray)) (hy:evO e y=some (.int k ix))
  (ht:tlk T t=some ⟨.array n el,n1,b1,z1⟩) (hi:tlk T el=some i) (hd:isA i.d=true) (h0:0<=ix) (h1:ix<n):Yl P e h o (.agg ((cs.drop (ix.toNat*i.n)).take i.n).toArray):=by
 intro ρ w hA hw;obtain⟨td,k1,k3⟩:=zai hT ht;rw [zf4 k3] at k1;simp [execOp,ho,hA _ _ hx,hA _ _ hy,Instr.index,asIntOf,run_underlying k1,h0,h1,part,zdw (hT _ _ hi),hd,zah (hT _ _ hi)]
theorem qi8 {t ty:Nat} {x y:Operand} {k:IntKind} {a b:Int} (ho:o.op = .binOp .quo t x y ty) (hx:evO e x=some (.int k a)) (hy:evO e y=some (.int k b)) (hb:b≠0):Yl P e h o (.int k (k.wrap (a.tdiv b))):=by
 intro ρ w hA hw;simp [execOp,ho,hA _ _ hx,hA _ _ hy,binOp,Op.intDiv,hb,za5]
theorem zvq {t ty:Nat} {x y:Operand} {k k':IntKind} {a b:Int} (ho:o.op = .binOp .shl t x y ty) (hx:evO e x=some (.int k a)) (hy:evO e y=some (.int k' b)) (hb:0<=b):Yl P e h o (.int k (shl k a b.toNat)):=by
 intro ρ w hA hw;simp [execOp,ho,hA _ _ hx,hA _ _ hy,binOp_shl,Op.shift,shl,za5,show ¬ b<0 from by omega]
theorem zzy {t ty:Nat} {x y:Operand} {k k':IntKind} {a b:Int} (ho:o.op = .binOp .shr t x y ty) (hx:evO e x=some (.int k a)) (hy:evO e y=some (.int k' b)) (hb:0<=b):Yl P e h o (.int k (shr k a b.toNat)):=by
 intro ρ w hA hw;simp [execOp,ho,hA _ _ hx,hA _ _ hy,binOp_shr,Op.shift,shr,za5,show ¬ b<0 from by omega]
end
theorem zt3 (k:IntKind) (xs:List Int):∀ v∈xs.map (Value.int k),v.oneCell'=true:=by
 intro v hv;obtain⟨i,_,rfl⟩:=List.mem_map.1 hv;rfl
def zbe (k:IntKind) (a b:Int):Int:=k.wrap (BitVec.ofInt k.bits a &&& BitVec.ofInt k.bits b).toNat
def zlj (k:IntKind) (a b:Int):Int:=k.wrap (BitVec.ofInt k.bits a ||| BitVec.ofInt k.bits b).toNat
def zaq (k:IntKind) (a b:Int):Int:=k.wrap (BitVec.ofInt k.bits a ^^^ BitVec.ofInt k.bits b).toNat
end Go.Q
end

/- A part of the proof of statements of this seat: lemmas, no statement of their own. -/
import Derived.Test.YtgbbpanapnkdbaaGreatYqZab
import Derived.Orders
set_option linter.unusedVariables false
set_option linter.unusedSimpArgs false
section
/- A region that draws its order, with effects: one walk, in which whatever has no effect is taken as early as may be, serves every order. -/
namespace Go.Q
/-- an operation with an effect: what may come of it -/
def YE (D:Bool) (P:Program) (e:Env) (h:Heap) (o:Oper) (Φ:Value->Heap->Prop):Prop :=
 ∀ (a:Act) (w:World),Agr e a.eval->w.heap=h->∀ (next:Act->World->Prop) (Q:Exit->Act->World->Prop),(∀ v w',WW D w w'.heap w'->Φ v w'.heap->next (a.put o.dst v) w')->o.wp P a w next Q
theorem YE.QC {D:Bool} {P:Program} {e:Env} {h h':Heap} {o:Oper} {v:Value} (y:Yh P e h o v h'):YE D P e h o fun v' h''=>v'=v/\h''=h':=by
 intro a w hA hw next Q k
 obtain ⟨w',hw',h1 | ⟨h1,rfl⟩⟩:=y _ _ hA hw
 ·simp only [Oper.wp,h1,Oper.upon]
  exact k _ _ (by rw [hw'.heap]; exact hw'.weak) ⟨rfl,hw'.heap⟩
 ·simp only [Oper.wp,h1,Oper.upon]
  exact k _ _ (by rw [hw'.heap]; exact hw'.weak) ⟨rfl,hw'.heap⟩
theorem YE.SF {D:Bool} {P:Program} {e:Env} {h:Heap} {o:Oper} {Φ:Value->Heap->Prop} (y:Ya P e h o Φ):YE D P e h o Φ:=by
 intro a w hA hw next Q k
 obtain ⟨v,w',hw',hΦ,h1⟩:=y _ _ hA hw
 simp only [Oper.wp,h1,Oper.upon]
 exact k _ _ hw'.weak hΦ
theorem YE.PW {D:Bool} {P:Program} {e:Env} {h:Heap} {o:Oper} {f:FuncId} {args:Array Value} {Φ:Value->Heap->Prop} (hc:CallsHD D P f args h Φ) (y:Yc P e o f args):YE D P e h o Φ:=by
 intro a w hA hw next Q k
 simp only [Oper.wp,y _ _ hA,Oper.upon]
 refine (hc w hw).mono ?_
 rintro r w' ⟨v,rfl,hw',hΦ⟩
 exact k _ _ hw' hΦ
structure Pn where
 j:Nat
 v:Value
 e:Env
def dst? (lops:List Oper) (j:Nat):Option Tmp:=match lops[j]? with | some o=>o.dst | none=>none
def iq (lops:List Oper) (p j:Nat):Bool:=match lops[j]? with | some o=>o.after.toList.any fun e=>Region.binds .any e && Nat.beq e.on p | none=>false
/-- an operation without an effect: it yields its value in this heap, or is passed over -/
def PF (c:Cx) (lops:List Oper) (h:Heap) (x:Pn):Prop :=
 ∃ o,lops[x.j]? = some o/\dOk c.N o.dst=true/\((wnt lops x.e o=some true/\Yl c.P x.e h o x.v)∨(wnt lops x.e o=some false/\x.v=undef))
def mem (l:List Nat) (j:Nat):Bool:=l.any fun x=>Nat.beq x j
theorem mem_iff {l:List Nat} {j:Nat}:mem l j=true ↔ j∈l:=by
 simp only [mem,List.any_eq_true]
 constructor
 ·rintro ⟨x,hx,h⟩; rw [← Nat.eq_of_beq_eq_true h]; exact hx
 ·exact fun h=>⟨j,h,by simp⟩
def PFs (c:Cx) (lops:List Oper) (h:Heap) (dead:List Nat):List Pn->Prop
 | []=>True
 | x :: r=>(bif mem dead x.j then True else PF c lops h x)/\PFs c lops h dead r
theorem PFs.mem {c:Cx} {lops:List Oper} {h:Heap} {dead:List Nat}:∀ {l:List Pn},PFs c lops h dead l->∀ x∈l,x.j ∉ dead->PF c lops h x
 | [],_,x,hx,_=>by simp at hx
 | y :: r,k,x,hx,hd=>by
  rcases List.mem_cons.1 hx with rfl | hx
  ·have h1:=k.1
   cases hm:Go.Q.mem dead x.j with
   | true=>exact absurd (mem_iff.1 hm) hd
   | false=>rw [hm] at h1; exact h1
  ·exact k.2.mem x hx hd
def un (listed:Array Bool) (j:Nat):Prop:=listed.getD j true=false
def uO (lops:List Oper) (s:Nat):Bool:=lops.any fun o=>match o.dst with | some d=>Nat.beq d s | none=>false
theorem Bd {lops:List Oper} {j s:Nat} (h:dst? lops j=some s):uO lops s=true:=by
 unfold dst? at h
 cases hj:lops[j]? with
 | none=>simp [hj] at h
 | some o =>
  simp only [hj] at h
  simp only [uO,List.any_eq_true]
  exact ⟨o,List.mem_of_getElem? hj,by simp [h]⟩
def distinct:List Oper->Bool
 | []=>true
 | o :: r=>(match o.dst with | some d=>!uO r d | none=>true) && distinct r
theorem mF:∀ {lops:List Oper},distinct lops=true->∀ i j s,dst? lops i=some s->dst? lops j=some s->i=j
 | [],_,i,j,s,h,_=>by simp [dst?] at h
 | o :: r,hd,i,j,s,hi,hj=>by
  simp only [distinct,Bool.and_eq_true] at hd
  have st:∀ k,dst? (o :: r) (k + 1)=dst? r k:=fun k=>by simp [dst?]
  have sz:dst? (o :: r) 0=o.dst:=by simp [dst?]
  cases i with
  | zero=>cases j with
   | zero=>rfl
   | succ j =>
    rw [sz] at hi; rw [st] at hj
    have h1:=hd.1
    rw [hi] at h1
    simp [Bd hj] at h1
  | succ i=>cases j with
   | zero =>
    rw [sz] at hj; rw [st] at hi
    have h1:=hd.1
    rw [hj] at h1
    simp [Bd hi] at h1
   | succ j =>
    rw [st] at hi hj
    rw [mF hd.2 i j s hi hj]
/-- how the real frame stands to the walk's: 'D' holds what has been fixed, come up or not -/
structure Inv (c:Cx) (lops:List Oper) (done dead:List Nat) (pend:List Pn) (e:Env) (D:List Pn) (listed:Array Bool) (a:Act):Prop where
 sz:listed.size=lops.length
 d:a.defers=[]
 n:a.tmps.size=c.N
 jd:∀ x∈D,x.j∈done
 dj:∀ j∈done,∃ x∈D,x.j=j
 uq:∀ x∈D,∀ y∈D,x.j=y.j->x=y
 dn:∀ j,j < lops.length->¬ un listed j->j∈done
 dc:∀ j,j < lops.length->¬ un listed j->∀ p,iq lops p j=true->¬ un listed p
 pd:∀ x∈D,un listed x.j->x∈pend/\x.j ∉ dead
 pin:∀ x∈pend,x∈D
 val:∀ x∈D,¬ un listed x.j->∀ d,dst? lops x.j=some d->a.tmps[d]? = some x.v
 env:∀ s u,lkO e s=some u->(∃ x∈D,dst? lops x.j=some s/\x.v=u)∨(uO lops s=false/\a.tmps[s]? = some u)∨(∃ q,dst? lops q=some s/\q ∉ done/\a.tmps[s]? = some u)
 ops:∀ x∈D,∀ s u,lkO x.e s=some u->(∃ y∈D,dst? lops y.j=some s/\y.v=u/\iq lops y.j x.j=true)∨(uO lops s=false/\a.tmps[s]? = some u)∨(∃ q,dst? lops q=some s/\iq lops x.j q=true/\(un listed q->a.tmps[s]? = some u))
def cnt (l:Array Bool):Nat:=l.toList.count false
def Sim (c:Cx) (lops:List Oper) (Q:Exit->Act->World->Prop) (done dead:List Nat) (pend:List Pn) (e:Env) (h:Heap):Prop :=
 ∀ fuel D listed a w,cnt listed<=fuel->Inv c lops done dead pend e D listed a->WW c.D c.W0 h w->wpAny c.P .any lops.toArray Q fuel listed a w
theorem FO:∀ (l:List Bool) (j:Nat),l[j]? = some false->(l.set j true).count false + 1=l.count false
 | [],j,h=>by simp at h
 | b :: l,0,h=>by simp at h; subst h; simp
 | b :: l,j + 1,h=>by
  simp only [List.getElem?_cons_succ] at h
  have:=FO l j h
  simp only [List.set_cons_succ,List.count_cons]
  omega
theorem Er {l:Array Bool} {j:Nat} (hj:un l j):cnt (l.setIfInBounds j true) + 1=cnt l:=by
 unfold cnt
 rw [Array.toList_setIfInBounds]
 refine FO _ _ ?_
 unfold un at hj
 rw [Array.getD_eq_getD_getElem?] at hj
 cases hh:l[j]? with
 | none=>rw [hh] at hj; simp at hj
 | some b=>rw [hh] at hj; simp at hj; subst hj; simpa using hh
theorem HZ {l:Array Bool} {j:Nat} (hj:un l j):j < l.size:=by
 rcases Nat.lt_or_ge j l.size with h | h
 ·exact h
 ·simp [un,Array.getElem?_eq_none h] at hj
theorem IG {l:Array Bool} {i j:Nat} (hi:i < l.size):un (l.setIfInBounds i true) j ↔ un l j/\j≠i:=by
 unfold un
 simp only [Array.getD_eq_getD_getElem?,Array.getElem?_setIfInBounds]
 by_cases hij:i=j
 ·subst hij; simp [hi]
 ·rw [if_neg hij]; simp [Ne.symm hij]
def vN (lops:List Oper):Bool:=(lops.zipIdx.all fun (o,i)=>o.after.toList.all fun e=>!Region.binds .any e || Nat.blt e.on i)
section
variable {c:Cx} {lops:List Oper} {Q:Exit->Act->World->Prop} {done dead:List Nat} {pend D:List Pn} {e:Env} {h:Heap} {listed:Array Bool} {a:Act}
theorem xV (hd:vN lops=true) {p j:Nat} (h:iq lops p j=true):p < j/\j < lops.length:=by
 unfold iq at h
 cases hj:lops[j]? with
 | none=>simp [hj] at h
 | some o =>
  have hl:j < lops.length:=(List.getElem?_eq_some_iff.1 hj).1
  simp only [hj,List.any_eq_true,Bool.and_eq_true] at h
  obtain ⟨ed,he,hbi,ho⟩:=h
  simp only [vN,List.all_eq_true] at hd
  have h1:=hd (o,j) (by rw [List.mem_zipIdx_iff_getElem?]; exact hj)
  simp only [List.all_eq_true] at h1
  have h2:=h1 ed he
  have ho':=Nat.eq_of_beq_eq_true ho
  rw [hbi,Bool.not_true,Bool.false_or,Nat.blt_eq] at h2
  omega
theorem Fh {l:Array Bool} {p:Nat} (hp:p < l.size):l.getD p false=true ↔ ¬ un l p:=by
 unfold un
 simp only [Array.getD_eq_getD_getElem?,Array.getElem?_eq_getElem hp,Option.getD_some]
 cases l[p] <;> simp
theorem EA (hd:vN lops=true) (hsz:listed.size=lops.length) {j:Nat}:j∈Region.ready .any lops.toArray listed ↔ (j < lops.length/\un listed j/\∀ p,iq lops p j=true->¬ un listed p):=by
 simp only [Region.ready,List.mem_filter,List.mem_range,List.size_toArray]
 constructor
 ·rintro ⟨h1,h2⟩
  simp only [Bool.and_eq_true,Bool.not_eq_true'] at h2
  refine ⟨h1,h2.1,fun p hp=>?_⟩
  have hlt:=xV hd hp
  have hj:lops[j]? = some lops[j]:=by simp [h1]
  have h3:=h2.2
  simp only [List.getElem?_toArray,hj,Option.map_some,Option.getD_some] at h3
  rw [← Array.all_toList] at h3
  simp only [List.all_eq_true,Bool.or_eq_true,Bool.not_eq_true'] at h3
  simp only [iq,hj,List.any_eq_true,Bool.and_eq_true] at hp
  obtain ⟨ed,he,hb,ho⟩:=hp
  have ho':=Nat.eq_of_beq_eq_true ho
  rcases h3 ed he with h4 | h4
  ·rw [hb] at h4; cases h4
  ·rw [ho'] at h4; exact (Fh (by omega)).1 h4
 ·rintro ⟨h1,h2,h3⟩
  refine ⟨h1,?_⟩
  simp only [Bool.and_eq_true,Bool.not_eq_true']
  refine ⟨h2,?_⟩
  have hj:lops[j]? = some lops[j]:=by simp [h1]
  simp only [List.getElem?_toArray,hj,Option.map_some,Option.getD_some]
  rw [← Array.all_toList]
  simp only [List.all_eq_true,Bool.or_eq_true,Bool.not_eq_true']
  intro ed he
  by_cases hb:Region.binds .any ed=true
  ·right
   have hp:iq lops ed.on j=true:=by
    simp only [iq,hj,List.any_eq_true,Bool.and_eq_true]
    exact ⟨ed,he,hb,by simp⟩
   have hlt:=xV hd hp
   exact (Fh (by omega)).2 (h3 _ hp)
  ·left; simpa using hb
/-- where something has not come up yet, something may come up now -/
theorem Le (hd:vN lops=true) (hsz:listed.size=lops.length) {j:Nat} (hj:un listed j):Region.ready .any lops.toArray listed≠[]:=by
 have key:∀ n j,j<=n->un listed j->∃ i,i∈Region.ready .any lops.toArray listed:=by
  intro n
  induction n with
  | zero =>
   intro j hjn hj
   refine ⟨j,(EA hd hsz).2 ⟨by have:=HZ hj; omega,hj,fun p hp=>?_⟩⟩
   have:=xV hd hp
   omega
  | succ n ih =>
   intro j hjn hj
   by_cases hr:j∈Region.ready .any lops.toArray listed
   ·exact ⟨j,hr⟩
   ·have hl:j < lops.length:=by have:=HZ hj; omega
    have:∃ p,iq lops p j=true/\un listed p:=by
     rw [EA hd hsz] at hr
     by_cases hx:∀ p,iq lops p j=true->¬ un listed p
     ·exact absurd ⟨hl,hj,hx⟩ hr
     ·simp only [Classical.not_forall] at hx
      obtain ⟨p,hp,hu⟩:=hx
      exact ⟨p,hp,Classical.not_not.1 hu⟩
    obtain ⟨p,hp,hu⟩:=this
    have:=xV hd hp
    exact ih p (by omega) hu
 obtain ⟨i,hi⟩:=key j j (Nat.le_refl _) hj
 intro h0
 rw [h0] at hi
 simp at hi
/-- the frame that an operation sees when it comes up -/
theorem Inv.fr (I:Inv c lops done dead pend e D listed a) {x:Pn} (hu:un listed x.j) (hx:∀ s u,lkO x.e s=some u->(∃ y∈D,dst? lops y.j=some s/\y.v=u/\iq lops y.j x.j=true)∨(uO lops s=false/\a.tmps[s]? = some u)∨(∃ q,dst? lops q=some s/\iq lops x.j q=true/\(un listed q->a.tmps[s]? = some u)))
  (hpre:∀ p,iq lops p x.j=true->¬ un listed p):Fr c.N x.e a :=
 ⟨I.d,I.n,fun s u hs=>by
  rcases hx s u hs with ⟨y,hy,yd,rfl,yp⟩ | ⟨_,h1⟩ | ⟨q,hq,hp,h1⟩
  ·exact I.val y hy (hpre _ yp) _ yd
  ·exact h1
  ·refine h1 (Classical.byContradiction fun hh=>I.dc q ?_ hh _ hp hu)
   unfold iq at hp
   cases hqj:lops[q]? with
   | none=>simp [hqj] at hp
   | some o=>exact (List.getElem?_eq_some_iff.1 hqj).1⟩
theorem Gn {a:Act} {d:Option Tmp} {v:Value} {s:Nat} (h:d≠some s):(a.put d v).tmps[s]? = a.tmps[s]?:=by
 cases d with
 | none=>rfl
 | some d=>simp only [Act.put]; rw [Array.getElem?_setIfInBounds_ne (fun hh=>h (by rw [hh]))]
theorem put_eq {a:Act} {v:Value} {d N:Nat} (hn:a.tmps.size=N) (h:dOk N (some d)=true):(a.put (some d) v).tmps[d]? = some v:=by
 have hd':d < N:=by simpa [dOk,Nat.blt_eq] using h
 simp [Act.put,hn,hd']
/-- an operation has come up with its value -/
theorem Inv.come (hdd:distinct lops=true) (I:Inv c lops done dead pend e D listed a) {x:Pn} (hx:x∈D) (hu:un listed x.j) (hpre:∀ p,iq lops p x.j=true->¬ un listed p) (hdk:dOk c.N (dst? lops x.j)=true) :
  Inv c lops done dead pend e D (listed.setIfInBounds x.j true) (a.put (dst? lops x.j) x.v):=by
 have hlt:=HZ hu
 have un_set':∀ {j},un (listed.setIfInBounds x.j true) j ↔ un listed j/\j≠x.j:=IG hlt
 have nd:∀ s,uO lops s=false->(a.put (dst? lops x.j) x.v).tmps[s]? = a.tmps[s]?:=fun s hs=>Gn fun hh=>by rw [Bd hh] at hs; cases hs
 refine ⟨by simp [I.sz],?_,?_,I.jd,I.dj,I.uq,fun j hj hl=>?_,fun j hj hl p hpj=>?_,fun y hy hl=>I.pd y hy (un_set'.1 hl).1,I.pin,fun y hy hl d hd=>?_,fun s u hs=>?_,fun y hy s u hs=>?_⟩
 ·cases hd:dst? lops x.j <;> simp [Act.put,I.d]
 ·cases hd:dst? lops x.j <;> simp [Act.put,I.n]
 ·by_cases hjx:j=x.j
  ·subst hjx; exact I.jd x hx
  ·exact I.dn j hj fun q=>hl (un_set'.2 ⟨q,hjx⟩)
 ·intro hq
  have hq':=(un_set'.1 hq)
  by_cases hjx:j=x.j
  ·subst hjx; exact hpre p hpj hq'.1
  ·exact I.dc j hj (fun q=>hl (un_set'.2 ⟨q,hjx⟩)) p hpj hq'.1
 ·by_cases hjx:y.j=x.j
  ·have:=I.uq y hy x hx hjx
   subst this
   rw [hd]
   exact put_eq I.n (by rw [← hd]; exact hdk)
  ·rw [Gn (fun hh=>hjx (mF hdd _ _ _ hd hh))]
   exact I.val y hy (fun q=>hl (un_set'.2 ⟨q,hjx⟩)) d hd
 ·rcases I.env s u hs with h1 | ⟨h1,h2⟩ | ⟨q,hq,hqd,h2⟩
  ·exact .inl h1
  ·exact .inr (.inl ⟨h1,by rw [nd s h1]; exact h2⟩)
  ·refine .inr (.inr ⟨q,hq,hqd,?_⟩)
   rw [Gn (fun hh=>hqd (by rw [mF hdd _ _ _ hq hh]; exact I.jd x hx))]
   exact h2
 ·rcases I.ops y hy s u hs with h1 | ⟨h1,h2⟩ | ⟨q,hq,hqp,h2⟩
  ·exact .inl h1
  ·exact .inr (.inl ⟨h1,by rw [nd s h1]; exact h2⟩)
  ·refine .inr (.inr ⟨q,hq,hqp,fun hun=>?_⟩)
   have hun':=un_set'.1 hun
   rw [Gn (fun hh=>hun'.2 (mF hdd _ _ _ hq hh))]
   exact h2 hun'.1
/-- what holds whatever comes up: the pending ones are seen to -/
theorem EH (hd:vN lops=true) (hdd:distinct lops=true) (hp:PFs c lops h dead pend)
  (G0:∀ D listed a w,Inv c lops done dead pend e D listed a->WW c.D c.W0 h w->(∀ j,¬ un listed j)->Q .normal a w)
  (G:∀ fuel D listed a w i,cnt listed<=fuel + 1->Inv c lops done dead pend e D listed a->WW c.D c.W0 h w->i ∉ done->i < lops.length->un listed i->(∀ p,iq lops p i=true->¬ un listed p) ->
   wpOp c.P lops.toArray Q i (wpAny c.P .any lops.toArray Q fuel (listed.setIfInBounds i true)) a w):Sim c lops Q done dead pend e h:=by
 intro fuel
 induction fuel with
 | zero =>
  intro D listed a w hf I hw
  have hn:∀ j,¬ un listed j:=fun j hj=>by have:=Er hj; omega
  refine ⟨?_,G0 D listed a w I hw hn⟩
  cases hr:Region.ready .any lops.toArray listed with
  | nil=>rfl
  | cons i r=>exact absurd ((EA hd I.sz).1 (by rw [hr]; simp:i∈_)).2.1 (hn i)
 | succ fuel ih =>
  intro D listed a w hf I hw
  refine ⟨fun h0=>G0 D listed a w I hw fun j hj=>Le hd I.sz hj h0,fun i hi=>?_⟩
  obtain ⟨hlt,hu,hpre⟩:=(EA hd I.sz).1 hi
  by_cases hin:i∈done
  ·obtain ⟨x,hx,rfl⟩:=I.dj i hin
   obtain ⟨o,ho,hdk,hv⟩:=hp.mem x (I.pd x hx hu).1 (I.pd x hx hu).2
   have hds:dst? lops x.j=o.dst:=by simp [dst?,ho]
   have av:Fr c.N x.e a:=I.fr hu (I.ops x hx) hpre
   have I':=I.come hdd hx hu hpre (by rw [hds]; exact hdk)
   rw [hds] at I'
   have hc:=Er hu
   have go:=ih D _ _ w (by omega) I' hw
   unfold wpOp
   simp only [List.getElem?_toArray,ho]
   rcases hv with ⟨hw1,hy⟩ | ⟨hw1,hun⟩
   ·simp only [oJ hw1 av,if_true]
    left
    simp only [Oper.wp,hy _ _ av.agr hw.heap,Oper.upon]
    exact go
   ·simp only [oJ hw1 av,if_false,Bool.false_eq_true]
    rw [← hun]
    exact go
  ·exact G fuel D listed a w i hf I hw hin hlt hu hpre
/-- the slots that an operation may look at -/
def IX (lops:List Oper) (done:List Nat) (i s:Nat):Bool :=
 !uO lops s || (List.range lops.length).any fun p=>(match dst? lops p with | some d=>Nat.beq d s | none=>false) && ((iq lops p i && mem done p) || (iq lops i p && !mem done p))
def sV (lops:List Oper) (done:List Nat) (i:Nat):Env->Bool
 | []=>true
 | (s,_) :: r=>IX lops done i s && sV lops done i r
theorem zH:∀ {ei:Env} {i:Nat},sV lops done i ei=true->∀ s u,lkO ei s=some u->uO lops s=false∨(∃ p,iq lops p i=true/\dst? lops p=some s/\p∈done)∨(∃ p,iq lops i p=true/\dst? lops p=some s/\p ∉ done)
 | [],_,_,s,u,h=>by simp [lkO] at h
 | (t,v) :: r,i,h,s,u,hs=>by
  simp only [sV,Bool.and_eq_true] at h
  rw [qU] at hs
  by_cases hts:t=s
  ·subst hts
   have h0:=h.1
   simp only [IX,Bool.or_eq_true,Bool.not_eq_true',List.any_eq_true,Bool.and_eq_true] at h0
   rcases h0 with h1 | ⟨p,_,hq,h1⟩
   ·exact .inl h1
   ·right
    have hd:dst? lops p=some t:=by
     cases hd:dst? lops p with
     | none=>simp [hd] at hq
     | some d=>simp only [hd] at hq; rw [Nat.eq_of_beq_eq_true hq]
    rcases h1 with ⟨h1,h2⟩ | ⟨h1,h2⟩
    ·exact .inl ⟨p,h1,hd,mem_iff.1 h2⟩
    ·exact .inr ⟨p,h1,hd,fun hh=>by rw [mem_iff.2 hh] at h2; cases h2⟩
  ·rw [if_neg hts] at hs
   exact zH h.2 s u hs
theorem IA:∀ {ei e:Env},Sub ei e->∀ s u,lkO ei s=some u->lkO e s=some u
 | [],_,_,s,u,h=>by simp [lkO] at h
 | (t,v) :: r,e,hs,s,u,h=>by
  rw [qU] at h
  by_cases hts:t=s
  ·subst hts; rw [if_pos rfl] at h; exact hs.1.trans h
  ·rw [if_neg hts] at h; exact IA hs.2 s u h
theorem Inv.look (hdd:distinct lops=true) (I:Inv c lops done dead pend e D listed a) {ei:Env} {i:Nat} (hs:Sub ei e) (hk:sV lops done i ei=true) :
  ∀ s u,lkO ei s=some u->(∃ y∈D,dst? lops y.j=some s/\y.v=u/\iq lops y.j i=true)∨(uO lops s=false/\a.tmps[s]? = some u)∨(∃ q,dst? lops q=some s/\iq lops i q=true/\(un listed q->a.tmps[s]? = some u)):=by
 intro s u h
 rcases I.env s u (IA hs s u h) with ⟨x,hx,hxd,hxv⟩ | h1 | ⟨q,hq,hqd,h1⟩
 ·rcases zH hk s u h with h2 | ⟨p,hp,hpd,_⟩ | ⟨p,hp,hpd,hpn⟩
  ·rw [Bd hxd] at h2; cases h2
  ·have:=mF hdd _ _ _ hxd hpd
   subst this
   exact .inl ⟨x,hx,hxd,hxv,hp⟩
  ·have:=mF hdd _ _ _ hxd hpd
   subst this
   exact absurd (I.jd x hx) hpn
 ·exact .inr (.inl h1)
 ·rcases zH hk s u h with h2 | ⟨p,hp,hpd,hpn⟩ | ⟨p,hp,hpd,hpn⟩
  ·rw [Bd hq] at h2; cases h2
  ·have:=mF hdd _ _ _ hq hpd
   subst this
   exact absurd hpn hqd
  ·exact .inr (.inr ⟨p,hpd,hp,fun _=>h1⟩)
theorem OH {x:Pn} {i:Nat} (hi:x.j=i) (he:∀ s u,lkO e s=some u->(∃ x∈D,dst? lops x.j=some s/\x.v=u)∨(uO lops s=false/\a.tmps[s]? = some u)∨(∃ q,dst? lops q=some s/\q ∉ done/\a.tmps[s]? = some u)) :
  ∀ s u,lkO (pu e (dst? lops i) x.v) s=some u->(∃ y∈x :: D,dst? lops y.j=some s/\y.v=u)∨(uO lops s=false/\a.tmps[s]? = some u)∨(∃ q,dst? lops q=some s/\q ∉ i :: done/\a.tmps[s]? = some u):=by
 intro s u hs
 have old:dst? lops i≠some s->lkO e s=some u->(∃ y∈x :: D,dst? lops y.j=some s/\y.v=u)∨(uO lops s=false/\a.tmps[s]? = some u)∨(∃ q,dst? lops q=some s/\q ∉ i :: done/\a.tmps[s]? = some u):=fun hn h=>by
  rcases he s u h with ⟨y,hy,h1⟩ | h1 | ⟨q,hq,hqd,h1⟩
  ·exact .inl ⟨y,List.mem_cons_of_mem _ hy,h1⟩
  ·exact .inr (.inl h1)
  ·refine .inr (.inr ⟨q,hq,fun hh=>?_,h1⟩)
   rcases List.mem_cons.1 hh with rfl | hh
   ·exact hn hq
   ·exact hqd hh
 cases hd:dst? lops i with
 | none=>rw [hd] at hs; exact old (by rw [hd]; simp) hs
 | some d =>
  rw [hd] at hs
  simp only [pu,qU] at hs
  by_cases hds:d=s
  ·subst hds
   rw [if_pos rfl] at hs
   refine .inl ⟨x,by simp,by rw [hi]; exact hd,by simpa using hs⟩
  ·rw [if_neg hds] at hs
   exact old (by rw [hd]; simpa using hds) hs
/-- an operation without an effect is fixed -/
theorem Inv.fix (hdd:distinct lops=true) (I:Inv c lops done dead pend e D listed a) {i:Nat} {v:Value} {ei:Env} (hi:i ∉ done) (hid:i ∉ dead) (hil:i < lops.length) (hs:Sub ei e) (hk:sV lops done i ei=true) :
  Inv c lops (i :: done) dead (⟨i,v,ei⟩ :: pend) (pu e (dst? lops i) v) (⟨i,v,ei⟩ :: D) listed a:=by
 have hu:un listed i:=Classical.byContradiction fun hh=>hi (I.dn i hil hh)
 refine ⟨I.sz,I.d,I.n,fun x hx=>?_,fun j hj=>?_,fun x hx y hy hxy=>?_,fun j hj hl=>List.mem_cons_of_mem _ (I.dn j hj hl),I.dc,fun x hx hl=>?_,fun x hx=>?_,fun x hx hl d hd=>?_,OH (x:=⟨i,v,ei⟩) rfl I.env,fun x hx s u hxs=>?_⟩
 ·rcases List.mem_cons.1 hx with rfl | hx
  ·simp
  ·exact List.mem_cons_of_mem _ (I.jd x hx)
 ·rcases List.mem_cons.1 hj with rfl | hj
  ·exact ⟨⟨j,v,ei⟩,by simp,rfl⟩
  ·obtain ⟨x,hx,h1⟩:=I.dj j hj
   exact ⟨x,List.mem_cons_of_mem _ hx,h1⟩
 ·rcases List.mem_cons.1 hx with rfl | hx <;> rcases List.mem_cons.1 hy with rfl | hy
  ·rfl
  ·exact absurd (by have:=I.jd y hy; rw [← hxy] at this; exact this) hi
  ·exact absurd (by have:=I.jd x hx; rw [hxy] at this; exact this) hi
  ·exact I.uq x hx y hy hxy
 ·rcases List.mem_cons.1 hx with rfl | hx
  ·exact ⟨by simp,hid⟩
  ·exact ⟨List.mem_cons_of_mem _ (I.pd x hx hl).1,(I.pd x hx hl).2⟩
 ·rcases List.mem_cons.1 hx with rfl | hx
  ·simp
  ·exact List.mem_cons_of_mem _ (I.pin x hx)
 ·rcases List.mem_cons.1 hx with rfl | hx
  ·exact absurd hu hl
  ·exact I.val x hx hl d hd
 ·rcases List.mem_cons.1 hx with rfl | hx
  ·rcases I.look hdd hs hk s u hxs with ⟨y,hy,h1⟩ | h1
   ·exact .inl ⟨y,List.mem_cons_of_mem _ hy,h1⟩
   ·exact .inr h1
  ·rcases I.ops x hx s u hxs with ⟨y,hy,h1⟩ | h1
   ·exact .inl ⟨y,List.mem_cons_of_mem _ hy,h1⟩
   ·exact .inr h1
def wfR (lops:List Oper):Bool:=vN lops && distinct lops
theorem ve {l:List Nat} {j:Nat} (h:mem l j=false):j ∉ l:=fun hh=>by rw [mem_iff.2 hh] at h; cases h
def JE (lops:List Oper) (done dead:List Nat) (i:Nat):Bool:=!mem done i && !mem dead i && Nat.blt i lops.length
theorem Ot {i:Nat} {v:Value} {ei:Env} {d:Option Tmp} (hwf:wfR lops=true) (hi:JE lops done dead i=true) (hs:Sub ei e) (hk:sV lops done i ei=true) (hdst:dst? lops i=d)
  (H:Sim c lops Q (i :: done) dead (⟨i,v,ei⟩ :: pend) (pu e d v) h):Sim c lops Q done dead pend e h:=by
 simp only [wfR,Bool.and_eq_true] at hwf
 simp only [JE,Bool.and_eq_true,Bool.not_eq_true',Nat.blt_eq] at hi
 subst hdst
 intro fuel D listed a w hf I hw
 exact H fuel _ listed a w hf (I.fix hwf.2 (ve hi.1.1) (ve hi.1.2) hi.2 hs hk) hw
theorem Nb {o:Oper} {i:Nat} {v:Value} {ei:Env} (ho:lops[i]? = some o) (hdk:dOk c.N o.dst=true) (hw:wnt lops ei o=some true) (hy:Yl c.P ei h o v):PF c lops h ⟨i,v,ei⟩:=⟨o,ho,hdk,.inl ⟨hw,hy⟩⟩
theorem Sc {T:Tab} {o:Oper} {i:Nat} {v:Value} {ei:Env} (hT:TOk c.P T) (ho:lops[i]? = some o) (hdk:dOk c.N o.dst=true) (hw:wnt lops ei o=some true) (hp:pev T ei o.op=some v):PF c lops h ⟨i,v,ei⟩:=Nb ho hdk hw (Ex hT hp)
theorem Ti {o:Oper} {i:Nat} {ei:Env} (ho:lops[i]? = some o) (hdk:dOk c.N o.dst=true) (hw:wnt lops ei o=some false):PF c lops h ⟨i,undef,ei⟩:=⟨o,ho,hdk,.inr ⟨hw,rfl⟩⟩
/-- a truth value that was found -/
theorem Nq {b:Bool} {A B:Prop} (d:Nat) (H:if b then A else B) (hd:lkO e d=some (.bool b)) (h1:b=true->A->Sim c lops Q done dead pend ((d,.bool true) :: e) h) (h2:b=false->B->Sim c lops Q done dead pend ((d,.bool false) :: e) h) :
  Sim c lops Q done dead pend e h:=by
 have key:Sim c lops Q done dead pend ((d,.bool b) :: e) h->Sim c lops Q done dead pend e h:=fun H fuel D listed a w hf I hw =>
  H fuel D listed a w hf ⟨I.sz,I.d,I.n,I.jd,I.dj,I.uq,I.dn,I.dc,I.pd,I.pin,I.val,fun s u hs=>by
   rw [qU] at hs
   by_cases hds:d=s
   ·subst hds; rw [if_pos rfl] at hs; cases hs; exact I.env d _ hd
   ·rw [if_neg hds] at hs; exact I.env s u hs,I.ops⟩ hw
 cases b with
 | true=>exact key (h1 rfl (by simpa using H))
 | false=>exact key (h2 rfl (by simpa using H))
/-- every operation is fixed -/
theorem NC (hwf:wfR lops=true) (hp:PFs c lops h dead pend) (hall:(List.range lops.length).all (mem done)=true) (H:gex c Q .normal e h):Sim c lops Q done dead pend e h:=by
 simp only [wfR,Bool.and_eq_true] at hwf
 simp only [List.all_eq_true,List.mem_range] at hall
 refine EH hwf.1 hwf.2 hp (fun D listed a w I hw hn=>H a w ⟨I.d,I.n,fun s u hs=>?_⟩ hw) fun fuel D listed a w i _ _ _ hi hil _ _=>absurd (mem_iff.1 (hall i hil)) hi
 rcases I.env s u hs with ⟨x,hx,h1,rfl⟩ | ⟨_,h1⟩ | ⟨q,hq,hqd,_⟩
 ·exact I.val x hx (hn _) _ h1
 ·exact h1
 ·refine absurd (mem_iff.1 (hall q ?_)) hqd
  unfold dst? at hq
  cases hqj:lops[q]? with
  | none=>simp [hqj] at hq
  | some o=>exact (List.getElem?_eq_some_iff.1 hqj).1
/-- whatever else has not been fixed waits for something that has not -/
def NY (lops:List Oper) (done:List Nat) (i:Nat):Bool :=
 (List.range lops.length).all fun j=>mem (i :: done) j || (List.range j).any fun p=>iq lops p j && !mem done p
/-- those that have come up when 'i' does -/
def FV (lops:List Oper) (i:Nat) (A:List Nat):Bool:=A.all fun x=>(i :: A).any fun b=>iq lops x b
def Ms (lops:List Oper) (done dead dead' A:List Nat) (i:Nat):Bool:=!mem done i && !mem dead i && NY lops done i && FV lops i A && dead'.all fun x=>mem A x || mem dead x
theorem PV (i:Nat) (A dead':List Nat) {o:Oper} {Φ:Value->Heap->Prop} {ei:Env} (hwf:wfR lops=true) (hp:PFs c lops h dead pend) (hside:Ms lops done dead dead' A i=true) (hs:Sub ei e) (hk:sV lops done i ei=true)
  (ho:lops[i]? = some o) (hdk:dOk c.N o.dst=true) (hw:wnt lops ei o=some true) (hy:YE c.D c.P ei h o Φ)
  (H:∀ v h',Φ v h'->Sim c lops Q (i :: done) dead' pend (pu e o.dst v) h'):Sim c lops Q done dead pend e h:=by
 simp only [wfR,Bool.and_eq_true] at hwf
 simp only [Ms,Bool.and_eq_true,Bool.not_eq_true',List.all_eq_true,Bool.or_eq_true] at hside
 obtain ⟨⟨⟨⟨hi,hid⟩,honly⟩,hA⟩,hdd⟩:=hside
 have hlt:i < lops.length:=(List.getElem?_eq_some_iff.1 ho).1
 have hi':=ve hi
 refine EH hwf.1 hwf.2 hp (fun D listed a w I hw hn=>absurd (I.dn i hlt (hn i)) hi') fun fuel D listed a w j hf I hww hj hjl hu hpre=>?_
 simp only [NY,List.all_eq_true,List.mem_range,Bool.or_eq_true,List.any_eq_true,Bool.and_eq_true,Bool.not_eq_true'] at honly
 have hji:j=i:=by
  rcases honly j hjl with h1 | ⟨p,hpj,hp1,hp2⟩
  ·rcases List.mem_cons.1 (mem_iff.1 h1) with h1 | h1
   ·exact h1
   ·exact absurd h1 hj
  ·exact absurd (I.dn p (by omega) (hpre p hp1)) (ve hp2)
 subst hji
 have av:Fr c.N ei a:=I.fr (x:=⟨j,undef,ei⟩) hu (I.look hwf.2 hs hk) hpre
 have hds:dst? lops j=o.dst:=by simp [dst?,ho]
 unfold wpOp
 simp only [List.getElem?_toArray,ho,oJ hw av,if_true]
 left
 refine hy a w av.agr hww.heap _ _ fun v w' hw' hΦ=>?_
 have I1:=I.fix (v:=v) hwf.2 hi' (ve hid) hlt hs hk
 have I2:=I1.come hwf.2 (x:=⟨j,v,ei⟩) (by simp) hu hpre (by rw [hds]; exact hdk)
 rw [hds] at I2
 -- those that 'i' waited for have come up
 have anc:∀ n x,lops.length - x<=n->x∈A->¬ un listed x:=by
  intro n
  induction n with
  | zero =>
   intro x hx hxA
   simp only [FV,List.all_eq_true,List.any_eq_true] at hA
   obtain ⟨b,_,hb⟩:=hA x hxA
   have:=xV hwf.1 hb
   omega
  | succ n ih =>
   intro x hx hxA
   have hA':=hA
   simp only [FV,List.all_eq_true,List.any_eq_true] at hA'
   obtain ⟨b,hbm,hb⟩:=hA' x hxA
   have hbl:=xV hwf.1 hb
   rcases List.mem_cons.1 hbm with rfl | hbm
   ·exact hpre x hb
   ·exact I.dc b hbl.2 (ih b (by omega) hbm) x hb
 refine H v w'.heap hΦ fuel (⟨j,v,ei⟩ :: D) _ _ _ (by have:=Er hu; omega) ?_ (hww.trans hw')
 have pl:∀ x∈(⟨j,v,ei⟩:Pn) :: D,un (listed.setIfInBounds j true) x.j->x∈pend/\x.j ∉ dead':=fun x hx hl=>by
  obtain ⟨h1,h3⟩:=I2.pd x hx hl
  have h2:=(IG (HZ hu)).1 hl
  rcases List.mem_cons.1 h1 with rfl | h1
  ·exact absurd rfl h2.2
  ·refine ⟨h1,fun hh=>?_⟩
   rcases hdd x.j hh with hA1 | hA1
   ·exact anc _ _ (Nat.le_refl _) (mem_iff.1 hA1) h2.1
   ·exact h3 (mem_iff.1 hA1)
 exact ⟨I2.sz,I2.d,I2.n,I2.jd,I2.dj,I2.uq,I2.dn,I2.dc,pl,fun x hx=>I2.pin x (List.mem_cons_of_mem _ hx),I2.val,I2.env,I2.ops⟩
theorem Oq {s:Nat} (h:uO lops s=true):∃ q,dst? lops q=some s:=by
 simp only [uO,List.any_eq_true] at h
 obtain ⟨o,ho,h1⟩:=h
 obtain ⟨q,hq⟩:=List.getElem?_of_mem ho
 refine ⟨q,?_⟩
 simp only [dst?,hq]
 cases hd:o.dst with
 | none=>simp [hd] at h1
 | some d=>simp only [hd] at h1; rw [Nat.eq_of_beq_eq_true h1]
theorem NB (n:Nat):cnt (Array.replicate n false)=n:=by
 simp [cnt,List.count_replicate_self]
/-- the region's start -/
theorem Qm {id:Nat} (e':Env) (hm:c.P.follows .mixedOrders=true) (hwf:wfR lops=true) (hs:Sub e' e)
  (H:wfR lops=true->Sim c lops Q [] [] [] e' h):gco c (Code.region id lops.toArray true) Q e h:=by
 intro a w fa fw
 refine wp_region_any hm ?_
 refine H hwf _ [] _ a _ ?_ ?_ ⟨fw.os,fw.tape,fw.output,fw.heap,fun k=>Nat.le_succ_of_le (fw.dr k)⟩
 ·rw [NB]; exact Nat.le_refl _
 ·have all:∀ j,j < lops.length->un (Array.replicate lops.toArray.size false) j:=fun j hj=>by
   simp [un,Array.getD_eq_getD_getElem?,hj]
  exact ⟨by simp,fa.d,fa.n,by simp,by simp,by simp,fun j hj hl=>absurd (all j hj) hl,fun j hj hl=>absurd (all j hj) hl,by simp,by simp,by simp,
   fun s u hsu=>by
    have h1:=fa.l s u (IA hs s u hsu)
    cases hd:uO lops s with
    | false=>exact .inr (.inl ⟨rfl,h1⟩)
    | true=>obtain ⟨q,hq⟩:=Oq hd; exact .inr (.inr ⟨q,hq,by simp,h1⟩),by simp⟩
end
end Go.Q
end
section
/- Conversions between strings and slices of bytes. -/
namespace Go.Q
section
variable {P:Program} {T:Tab} {e:Env} {h:Heap} {o:Oper}
theorem Oj {t ty:Nat} {x y:Operand} {k:IntKind} {a b:Int} (ho:o.op = .binOp .rem t x y ty) (hx:evO e x=some (.int k a)) (hy:evO e y=some (.int k b)) (hb:b≠0):Yl P e h o (.int k (a.tmod b)):=by
 intro ρ w hA hw
 simp [execOp,ho,hA _ _ hx,hA _ _ hy,binOp,Op.intDiv,hb,iX]
theorem Og {t ty:Nat} {x y:Operand} {k:IntKind} {a b:Int} (ho:o.op = .binOp .quo t x y ty) (hx:evO e x=some (.int k a)) (hy:evO e y=some (.int k b)) (hb:b≠0):Yl P e h o (.int k (k.wrap (a.tdiv b))):=by
 intro ρ w hA hw
 simp [execOp,ho,hA _ _ hx,hA _ _ hy,binOp,Op.intDiv,hb,iX]
theorem QQ {t ty:Nat} {x y:Operand} {k k':IntKind} {a b:Int} (ho:o.op = .binOp .shl t x y ty) (hx:evO e x=some (.int k a)) (hy:evO e y=some (.int k' b)) (hb:0<=b):Yl P e h o (.int k (shl k a b.toNat)):=by
 intro ρ w hA hw
 simp [execOp,ho,hA _ _ hx,hA _ _ hy,binOp_shl,Op.shift,shl,iX,show ¬ b < 0 from by omega]
end
def MF (k:IntKind) (a b:Int):Int:=k.wrap (BitVec.ofInt k.bits a &&& BitVec.ofInt k.bits b).toNat
def CK (k:IntKind) (a b:Int):Int:=k.wrap (BitVec.ofInt k.bits a ^^^ BitVec.ofInt k.bits b).toNat
end Go.Q
end
section
/- Reasoning on heaps, for the plain laws. -/
namespace Go.Q
/-- below block number B nothing has turned -/
structure Ext (B:Nat) (h h':Heap):Prop where
 size:h.size<=h'.size
 block:∀ i,i < B->h'[i]? = h[i]?
theorem Ext.refl (B:Nat) (h:Heap):Ext B h h:=⟨Nat.le_refl _,fun _ _=>rfl⟩
theorem Ext.trans {B:Nat} {a b c:Heap} (p:Ext B a b) (q:Ext B b c):Ext B a c:=⟨Nat.le_trans p.size q.size,fun i hi=>(q.block i hi).trans (p.block i hi)⟩
theorem Ext.mono {B B':Nat} {a b:Heap} (p:Ext B a b) (h:B'<=B):Ext B' a b:=⟨p.size,fun i hi=>p.block i (Nat.lt_of_lt_of_le hi h)⟩
theorem Ext.push (h:Heap) (o:Obj) {B:Nat} (hB:B<=h.size):Ext B h (h.push o) :=
 ⟨by simp,fun i hi=>by rw [Array.getElem?_push,if_neg (by omega)]⟩
theorem jL {h:Heap} {a:Addr} {v:Value} {i:Nat} (hi:i≠a.block):(setH h a v)[i]? = h[i]?:=by
 unfold setH
 rw [Array.getElem?_modify,if_neg (fun e=>hi e.symm)]
theorem lv {h:Heap} {a:Addr} {v:Value}:(setH h a v).size=h.size:=by simp [setH]
theorem uw {h h':Heap} {a:Addr} (e:h'[a.block]? = h[a.block]?):ah h' a=ah h a:=by simp [ah,e]
theorem Ext.cell {B:Nat} {h h':Heap} (p:Ext B h h') {a:Addr} (ha:a.block < B):ah h' a=ah h a:=uw (p.block _ ha)
theorem om {h:Heap} {a:Addr} {v:Value} (hc:ah h a=some v):a.block < h.size:=by
 unfold ah at hc
 rcases Nat.lt_or_ge a.block h.size with h1 | h1
 ·exact h1
 ·rw [Array.getElem?_eq_none h1] at hc; cases hc
theorem Ext.cellAt {h h':Heap} (p:Ext h.size h h') {a:Addr} {v:Value} (hc:ah h a=some v):ah h' a=some v:=by rw [p.cell (om hc)]; exact hc
@[simp] theorem add_mk (b o i:Nat):(⟨b,o,none⟩:Addr).add i=⟨b,o + i,none⟩:=by unfold Addr.add; split <;> simp_all
@[simp] theorem add_block (a:Addr) (i:Nat):(a.add i).block=a.block:=by unfold Addr.add; split <;> rfl
/-- a block of cells, none of them frozen -/
def Blk (h:Heap) (b:Nat) (cs:List Value) (E:Nat):Prop:=∃ lo hi,h[b]? = some (.cells cs.toArray E (lo,hi))/\(hi<=lo∨cs.length<=lo)
theorem Blk.lt {h:Heap} {b E:Nat} {cs:List Value} (k:Blk h b cs E):b < h.size:=by obtain ⟨_,_,k,_⟩:=k; exact (Array.getElem?_eq_some_iff.1 k).1
theorem Blk.cell {h:Heap} {b E i:Nat} {cs:List Value} (k:Blk h b cs E):ah h ⟨b,i,none⟩=cs[i]?:=by obtain ⟨_,_,k,_⟩:=k; simp [ah,show h[b]? = _ from k]
theorem Blk.QV {h:Heap} {b E i:Nat} {cs:List Value} (k:Blk h b cs E) (hi:i < cs.length):Fq h ⟨b,i,none⟩=false:=by obtain ⟨lo,hh,k,d⟩:=k; simp [Fq,show h[b]? = _ from k]; omega
theorem Blk.wr {h:Heap} {b E i:Nat} {cs:List Value} (k:Blk h b cs E) (hi:i < cs.length):WrH h ⟨b,i,none⟩:=⟨⟨cs[i],by rw [k.cell]; simp [hi]⟩,k.QV hi⟩
theorem Blk.push (h:Heap) (cs:List Value) (E:Nat):Blk (h.push (.cells cs.toArray E)) h.size cs E:=⟨0,0,by simp,.inl (Nat.le_refl _)⟩
theorem Blk.old {h h':Heap} {b E:Nat} {cs:List Value} (k:Blk h b cs E) (e:h'[b]? = h[b]?):Blk h' b cs E:=by rw [Blk,e]; exact k
theorem Blk.ext {h h':Heap} {b B E:Nat} {cs:List Value} (k:Blk h b cs E) (p:Ext B h h') (hb:b < B):Blk h' b cs E:=k.old (p.block b hb)
theorem Blk.pushed {h:Heap} {b E:Nat} {cs:List Value} (k:Blk h b cs E) (o:Obj):Blk (h.push o) b cs E:=k.old ((Ext.push h o (Nat.le_refl _)).block b k.lt)
theorem Blk.set {h:Heap} {b E i:Nat} {cs:List Value} {v:Value} (k:Blk h b cs E):Blk (setH h ⟨b,i,none⟩ v) b (cs.set i v) E:=by
 obtain ⟨lo,hi,k,d⟩:=k
 refine ⟨lo,hi,?_,by simpa using d⟩
 unfold setH at *
 rw [Array.getElem?_modify,if_pos rfl,k]
 simp
theorem Blk.inj {h:Heap} {b E E':Nat} {cs cs':List Value} (k:Blk h b cs E) (k':Blk h b cs' E'):cs=cs'/\E=E':=by
 obtain ⟨_,_,k,_⟩:=k
 obtain ⟨_,_,k',_⟩:=k'
 have e:=k.symm.trans k'
 simp at e
 exact ⟨e.1,e.2.1⟩
theorem Blk.sets {E b:Nat}:∀ (vs:List Value) {h:Heap} (o i:Nat) {cs:List Value} (k:Blk h b cs E),o + i + vs.length<=cs.length ->
  Blk (aM h ⟨b,o,none⟩ i vs) b (cs.take (o + i) ++ vs ++ cs.drop (o + i + vs.length)) E
 | [],h,o,i,cs,k,_=>by simpa [aM] using k
 | v :: r,h,o,i,cs,k,hl=>by
  simp only [aM,add_mk]
  simp only [List.length_cons] at hl
  have:=Blk.sets r o (i + 1) (k.set (i:=o + i) (v:=v)) (by simp; omega)
  have e1:(cs.set (o + i) v).take (o + (i + 1))=cs.take (o + i) ++ [v]:=by
   rw [show o + (i + 1)=(o + i) + 1 from by omega,List.take_succ_eq_append_getElem (by simp; omega)]
   simp [List.take_set]
   rw [List.set_eq_of_length_le (by simp; omega)]
  have e2:(cs.set (o + i) v).drop (o + (i + 1) + r.length)=cs.drop (o + i + (r.length + 1)):=by
   rw [List.drop_set_of_lt (by omega)]
   congr 1
   omega
  rw [e1,e2] at this
  simpa using this
theorem sI:∀ (vs:List Value) {h:Heap} {a:Addr} (i:Nat),(aM h a i vs).size=h.size
 | [],h,a,i=>rfl
 | v :: r,h,a,i=>by simp only [aM]; rw [sI r,lv]
theorem lV:∀ (vs:List Value) {h:Heap} {a:Addr} (i:Nat) {j:Nat},j≠a.block->(aM h a i vs)[j]? = h[j]?
 | [],h,a,i,j,_=>rfl
 | v :: r,h,a,i,j,hj=>by simp only [aM]; rw [lV r _ hj,jL (by simpa using hj)]
theorem Ext.sets (h:Heap) {a:Addr} (i:Nat) (vs:List Value) {B:Nat} (hB:B<=a.block):Ext B h (aM h a i vs) :=
 ⟨by rw [sI]; exact Nat.le_refl _,fun j hj=>lV _ _ (by omega)⟩
/-! ### a row that is one's own -/
/-- the slice s, its elements of type E with w cells each, holds the cells xs, in a block of its own from B on (or is nil) -/
def Row (B:Nat) (h:Heap) (E w:Nat) (s:Slc) (xs:List Value):Prop :=
 xs.length=s.len * w/\s.cap<=maxLen/\((s.a=none/\s.len=0/\s.cap=0)∨∃ g cur,s.a=some ⟨g,0,none⟩/\B<=g/\Blk h g cur E/\s.len<=s.cap/\s.cap * w<=cur.length/\cur.take (s.len * w)=xs)
def Slc.blk (s:Slc):Option Nat:=match s.a with | some a=>some a.block | none=>none
theorem Row.nil (B:Nat) (h:Heap) (E w:Nat):Row B h E w ⟨none,0,0⟩ []:=⟨by simp,by simp [maxLen],.inl ⟨rfl,rfl,rfl⟩⟩
theorem Row.mono {B B':Nat} {h:Heap} {E w:Nat} {s:Slc} {xs:List Value} (r:Row B h E w s xs) (hB:B'<=B):Row B' h E w s xs:=by
 refine ⟨r.1,r.2.1,?_⟩
 rcases r.2.2 with k | ⟨g,cur,h1,h2,k⟩
 ·exact .inl k
 ·exact .inr ⟨g,cur,h1,by omega,k⟩
theorem Row.keep {B:Nat} {h h':Heap} {E w:Nat} {s:Slc} {xs:List Value} (r:Row B h E w s xs) (e:∀ g,s.blk=some g->h'[g]? = h[g]?):Row B h' E w s xs:=by
 refine ⟨r.1,r.2.1,?_⟩
 rcases r.2.2 with k | ⟨g,cur,h1,h2,h3,k⟩
 ·exact .inl k
 ·exact .inr ⟨g,cur,h1,h2,h3.old (e g (by simp [Slc.blk,h1])),k⟩
theorem Row.bd {B:Nat} {h:Heap} {E w:Nat} {s:Slc} {xs:List Value} (r:Row B h E w s xs) {g:Nat} (hg:s.blk=some g):B<=g/\g < h.size:=by
 rcases r.2.2 with ⟨k,_⟩ | ⟨g',cur,h1,h2,h3,_⟩
 ·simp [Slc.blk,k] at hg
 ·simp [Slc.blk,h1] at hg; subst hg; exact ⟨h2,h3.lt⟩
theorem Row.pushed {B:Nat} {h:Heap} {E w:Nat} {s:Slc} {xs:List Value} (r:Row B h E w s xs) (o:Obj):Row B (h.push o) E w s xs :=
 r.keep fun g hg=>(Ext.push h o (Nat.le_refl _)).block g (r.bd hg).2
theorem Row.ext {B C:Nat} {h h':Heap} {E w:Nat} {s:Slc} {xs:List Value} (r:Row B h E w s xs) (p:Ext C h h') (hC:∀ g,s.blk=some g->g < C):Row B h' E w s xs :=
 r.keep fun g hg=>p.block g (hC g hg)
/-- a cell of the row -/
theorem Row.at {B:Nat} {h:Heap} {E:Nat} {s:Slc} {xs:List Value} {w:Nat} (r:Row B h E w s xs) {j:Nat} (hj:j < s.len * w):∃ a,s.a=some a/\ah h (a.add j)=xs[j]?:=by
 rcases r.2.2 with ⟨_,k,_⟩ | ⟨g,cur,h1,h2,h3,h4,h5,h6⟩
 ·rw [k] at hj; simp at hj
 ·refine ⟨_,h1,?_⟩
  rw [add_mk,Nat.zero_add,h3.cell,← h6,List.getElem?_take,if_pos hj]
theorem Row.slc {B:Nat} {h:Heap} {E w:Nat} {s:Slc} {xs:List Value} (r:Row B h E w s xs):SlcAt h s xs:=by
 rcases r.2.2 with ⟨k,k2,_⟩ | ⟨g,cur,h1,h2,h3,h4,h5,h6⟩
 ·refine ⟨fun _=>?_,fun a ha=>(by rw [k] at ha; cases ha)⟩
  have:=r.1; rw [k2] at this; simpa using this
 ·refine ⟨fun hn=>(by rw [h1] at hn; cases hn),fun a ha j v hj=>?_⟩
  rw [h1] at ha; cases ha
  rw [add_mk,Nat.zero_add,h3.cell]
  rw [← h6,List.getElem?_take] at hj
  split at hj
  ·exact hj
  ·cases hj
/-- an append to a row of one's own -/
theorem App.Si {B E w bytes:Nat} {z:List Value} {h:Heap} {s:Slc} {m:Nat} {news xs:List Value} {k:Slc->Heap->Prop} (r:Row B h E w s xs) (hB:B<=h.size) (hz:z.length=w) (hl:news.length=m * w) (h1:∀ v∈news,v.oneCell'=true)
  (hb:(s.len + m) * bytes<=140737488355328) (hm:s.len + m<=maxLen)
  (H:∀ s' h',Row B h' E w s' (xs ++ news)->s'.len=s.len + m->h.size<=h'.size->(∀ i,i < h.size->s.blk≠some i->h'[i]? = h[i]?)->((s'.blk=s.blk/\s.len + m<=s.cap)∨s'.blk=some h.size)->(∀ C t ys,Row C h E w t ys->(t.len<=s.len∨t.blk≠s.blk∨s.cap < s.len + m)->Row C h' E w t ys)->k s' h'):App E w bytes z h s m news k:=by
 refine ⟨hl,h1,hb,hm,fun hroom=>?_,fun hgrow=>?_⟩
 ·rcases r.2.2 with ⟨a0,a1,a2⟩ | ⟨g,cur,a1,a2,a3,a4,a5,a6⟩
  ·have hm0:m=0:=by omega
   subst hm0
   have hn:news=[]:=List.eq_nil_of_length_eq_zero (by simpa using hl)
   subst hn
   refine ⟨fun _=>rfl,fun a ha=>(by rw [a0] at ha; cases ha),?_⟩
   rw [a0]
   refine H _ _ ?_ rfl (Nat.le_refl _) (fun _ _ _=>rfl) (.inl ⟨by simp [Slc.blk,a0],hroom⟩) (fun _ _ _ R _=>R)
   simp only [List.append_nil]
   exact ⟨by simpa using r.1,r.2.1,.inl ⟨rfl,by simpa using a1,a2⟩⟩
  ·have hfit:s.len * w + news.length<=cur.length:=by rw [hl,← Nat.add_mul]; exact Nat.le_trans (Nat.mul_le_mul_right _ hroom) a5
   refine ⟨fun hn=>(by rw [a1] at hn; cases hn),fun a ha j hj=>?_,?_⟩
   ·rw [a1] at ha; cases ha
    rw [add_mk,add_mk]
    exact a3.wr (by omega)
   ·rw [a1]
    simp only [add_mk,Nat.zero_add]
    refine H _ _ ?_ rfl (by rw [sI]; exact Nat.le_refl _) (fun i hi hne=>lV _ _ (fun e=>hne (by simp [Slc.blk,a1,e]))) (.inl ⟨by simp [Slc.blk,a1],hroom⟩) (fun C t ys R hc=>?_)
    rotate_left
    ·have k3:=Blk.sets news (s.len * w) 0 a3 (by omega)
     refine ⟨R.1,R.2.1,?_⟩
     rcases R.2.2 with k | ⟨g',cur',b1,b2,b3,b4,b5,b6⟩
     ·exact .inl k
     ·refine .inr ?_
      by_cases hg:g'=g
      ·subst hg
       obtain ⟨rfl,_⟩:=b3.inj a3
       have hlen:t.len<=s.len:=by
        rcases hc with hc | hc | hc
        ·exact hc
        ·exact absurd (by simp [Slc.blk,a1,b1]) hc
        ·omega
       refine ⟨g',_,b1,b2,k3,b4,?_,?_⟩
       ·simp only [List.length_append,List.length_take,List.length_drop,Nat.add_zero]; omega
       ·have hm:=Nat.mul_le_mul_right w hlen
        rw [Nat.add_zero,List.append_assoc,List.take_append_of_le_length (by rw [List.length_take]; omega),List.take_take,Nat.min_eq_left hm]
        exact b6
      ·exact ⟨g',cur',b1,b2,b3.old (lV _ _ (by simpa using hg)),b4,b5,b6⟩
    have k3:=Blk.sets news (s.len * w) 0 a3 (by omega)
    refine ⟨by rw [List.length_append,r.1,hl,Nat.add_mul],r.2.1,.inr ⟨g,_,rfl,a2,k3,hroom,?_,?_⟩⟩
    ·simp only [List.length_append,List.length_take,List.length_drop,Nat.add_zero]; omega
    ·simp only [Nat.add_zero]
     rw [a6,Nat.add_mul,← r.1,← hl,← List.length_append]
     exact List.take_left
 ·refine ⟨xs,r.1,r.slc,fun c hc hcm=>?_⟩
  have hzz:(Builtin.zeroCells z.toArray (c - (s.len + m))).size=(c - (s.len + m)) * w:=by simp [size_zeroCells,hz]
  have hcells:xs.toArray ++ news.toArray ++ Builtin.zeroCells z.toArray (c - (s.len + m))=(xs ++ news ++ (Builtin.zeroCells z.toArray (c - (s.len + m))).toList).toArray:=by
   apply Array.toList_inj.1; simp
  rw [hcells]
  refine H _ _ ⟨by rw [List.length_append,r.1,hl,Nat.add_mul],hcm,.inr ⟨h.size,_,rfl,hB,Blk.push _ _ _,hc,?_,?_⟩⟩ rfl (by simp) (fun i hi _=>(Ext.push h _ (Nat.le_refl _)).block i hi) (.inr (by simp [Slc.blk])) (fun C t ys R _=>R.pushed _)
  ·simp only [List.length_append,Array.length_toList,hzz,r.1,hl,← Nat.add_mul]
   exact Nat.le_of_eq (by congr 1; omega)
  ·have:(s.len + m) * w=(xs ++ news).length:=by rw [List.length_append,r.1,hl,Nat.add_mul]
   simp only [this]
   exact List.take_left
theorem App.row {B E w bytes:Nat} {z:List Value} {h:Heap} {s:Slc} {m:Nat} {news xs:List Value} {k:Slc->Heap->Prop} (r:Row B h E w s xs) (hB:B<=h.size) (hz:z.length=w) (hl:news.length=m * w) (h1:∀ v∈news,v.oneCell'=true)
  (hb:(s.len + m) * bytes<=140737488355328) (hm:s.len + m<=maxLen)
  (H:∀ s' h',Row B h' E w s' (xs ++ news)->s'.len=s.len + m->h.size<=h'.size->(∀ i,i < h.size->s.blk≠some i->h'[i]? = h[i]?)->(s'.blk=s.blk∨s'.blk=some h.size)->k s' h'):App E w bytes z h s m news k :=
 App.Si r hB hz hl h1 hb hm fun s' h' a b c d e _=>H s' h' a b c d (e.elim (fun x=>.inl x.1) .inr)
/-! whole blocks -/
theorem ai.aL {h:Heap} {b E:Nat} {cs:List Value} (k:Blk h b cs E):ai h ⟨b,0,none⟩ cs:=fun j v hj=>by rw [add_mk,Nat.zero_add,k.cell]; exact hj
theorem aN.aL {h:Heap} {b E n:Nat} {cs:List Value} (k:Blk h b cs E) (hn:n<=cs.length):aN h ⟨b,0,none⟩ n:=fun j hj=>by rw [add_mk,Nat.zero_add]; exact k.wr (by omega)
theorem Blk.jW {h:Heap} {b E:Nat} {cs vs:List Value} (k:Blk h b cs E) (hl:vs.length=cs.length):Blk (aM h ⟨b,0,none⟩ 0 vs) b vs E:=by
 have:=Blk.sets vs 0 0 k (by omega)
 simpa [hl] using this
theorem Row.len {B E:Nat} {h:Heap} {s:Slc} {xs:List Value} (r:Row B h E 1 s xs):s.len=xs.length:=by have:=r.1; omega
theorem Row.Jc {B b E E' w:Nat} {h:Heap} {s:Slc} {xs cs:List Value} (R:Row B h E w s xs) (L:Blk h b cs E') (hE:E≠E'):s.blk≠some b:=by
 intro hb
 rcases R.2.2 with ⟨k,_⟩ | ⟨g,cur,h1,h2,h3,_⟩
 ·simp [Slc.blk,k] at hb
 ·simp [Slc.blk,h1] at hb
  subst hb
  exact hE (h3.inj L).2
/-- all blocks but b stay -/
structure Upd (b:Nat) (h h':Heap):Prop where
 size:h.size<=h'.size
 block:∀ i,i < h.size->i≠b->h'[i]? = h[i]?
theorem Upd.trans {b:Nat} {x y z:Heap} (p:Upd b x y) (q:Upd b y z):Upd b x z :=
 ⟨Nat.le_trans p.size q.size,fun i hi hb=>(q.block i (Nat.lt_of_lt_of_le hi p.size) hb).trans (p.block i hi hb)⟩
theorem Upd.refl (b:Nat) (h:Heap):Upd b h h:=⟨Nat.le_refl _,fun _ _ _=>rfl⟩
theorem Upd.ext {b B:Nat} {h h':Heap} (p:Upd b h h') (hB:B<=b) (hs:B<=h.size):Ext B h h':=⟨p.size,fun i hi=>p.block i (by omega) (by omega)⟩
theorem Upd.blk {b c E:Nat} {h h':Heap} {cs:List Value} (p:Upd b h h') (k:Blk h c cs E) (hc:c≠b):Blk h' c cs E:=k.old (p.block c k.lt hc)
theorem Row.Pf {B B' E E' w w':Nat} {h:Heap} {s t:Slc} {xs ys:List Value} (R:Row B h E w s xs) (L:Row B' h E' w' t ys) (hE:E≠E') {g:Nat} (hs:s.blk=some g):t.blk≠some g:=by
 intro ht
 rcases L.2.2 with ⟨k,_⟩ | ⟨g',cur,h1,h2,h3,_⟩
 ·simp [Slc.blk,k] at ht
 ·simp [Slc.blk,h1] at ht
  subst ht
  exact R.Jc h3 hE hs
theorem Row.cap {B E w:Nat} {h:Heap} {s:Slc} {xs:List Value} (R:Row B h E w s xs):s.len<=s.cap:=by
 rcases R.2.2 with ⟨_,k,k2⟩ | ⟨g,cur,h1,h2,h3,h4,h5,h6⟩ <;> omega
/-! ### integers -/
theorem oF {x:Int} (h0:0<=x) (h1:x < 18446744073709551616):IntKind.u64.wrap x=x:=by
 unfold IntKind.wrap; simp [IntKind.signed,IntKind.bits]; omega
theorem aA {x:Int} (h0:-9223372036854775808<=x) (h1:x < 9223372036854775808):IntKind.i64.wrap x=x:=by
 unfold IntKind.wrap; simp [IntKind.signed,IntKind.bits]; omega
end Go.Q
end

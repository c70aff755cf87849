/- A part of the proof of statements of this seat: lemmas, no statement of their own. -/
import Derived.Test.YthjafnfadiijgaaYiZax
import Derived.Test.YthjafnfadiijgaaYiZar
set_option linter.unusedVariables false
set_option linter.unusedSimpArgs false
section
/- Steps of a member: it leads, puts, settles, takes answers. -/
namespace Go.Q.Rf
section
variable {n:Int} {B:Nat} {G:Gh} {R:Int->RS} {i:Int} {r r':RS}
/-! ### it leads -/
theorem Core.lead (C:Core n B G R) (i0:0<=i) (i1:i < n) (hB:(B:Int)<=100000000) (h1:(R i).role=1) (hw:(R i).won=true):∃ G',Core n B G' (upd R i (R i).lead)/\Gx G G' i (R i).term:=by
 have M:=C.mi i i0 i1
 have A:=M.c1 h1
 have t0:=M.t0
 obtain ⟨l,l1,l2,l3⟩:=A.bl
 obtain ⟨t,et⟩:∃ t,t=(R i).term:=⟨_,rfl⟩
 rw [← et] at l3
 have lw:n / 2 + 1<=(l.length:Int):=by
  unfold RS.won at hw
  rw [l1] at hw
  have:=of_decide_eq_true hw
  rw [M.rn] at this; omega
 have hn:G.ld t=none:=by
  cases hl:G.ld t with
  | none=>rfl
  | some j =>
   exfalso
   have e:=C.el t j hl
   obtain ⟨x,_,_,x1,x2⟩:=e.q.meet (by have:=e.r; omega) (⟨l,l2,l3,lw⟩:Maj n fun k=>G.vt t k=some i)
   rw [x1.1] at x2
   have:j=i:=Option.some.inj x2
   subst this
   exact A.ld (by rw [← et]; exact hl)
 have ak0:G.ak t i=0:=by
  by_cases c:G.ak t i=0
  ·exact c
  ·exact absurd hn ((M.a3 t).2 (by omega))
 obtain ⟨G',eG⟩:∃ G':Gh,G' = { G with ld:=fun T=>if T=t then some i else G.ld T,CL:=fun T=>if T=t then G.F i else G.CL T,LL:=fun T=>if T=t then G.F i else G.LL T,ak:=fun T k=>if T=t/\k=i then (G.F i).length else G.ak T k }:=⟨_,rfl⟩
 have ld1:G'.ld t=some i:=by rw [eG]; exact if_pos rfl
 have ld2:∀ T,T≠t->G'.ld T=G.ld T:=fun T q=>by rw [eG]; exact if_neg q
 have cl1:G'.CL t=G.F i:=by rw [eG]; exact if_pos rfl
 have cl2:∀ T,T≠t->G'.CL T=G.CL T:=fun T q=>by rw [eG]; exact if_neg q
 have ll1:G'.LL t=G.F i:=by rw [eG]; exact if_pos rfl
 have ll2:∀ T,T≠t->G'.LL T=G.LL T:=fun T q=>by rw [eG]; exact if_neg q
 have ak1:G'.ak t i=(G.F i).length:=by rw [eG]; exact if_pos ⟨rfl,rfl⟩
 have ak2:∀ T k,¬ (T=t/\k=i)->G'.ak T k=G.ak T k:=fun T k q=>by rw [eG]; exact if_neg q
 have eF:G'.F=G.F:=by rw [eG]
 have ev:G'.vt=G.vt:=by rw [eG]
 have ec:G'.cp=G.cp:=by rw [eG]
 have net:∀ {T},G.ld T≠none->T≠t:=fun h q=>h (by rw [q]; exact hn)
 have X:Gx G G' i t:=by
  refine ⟨fun T j h=>?_,fun T j h=>?_,fun T h=>cl2 T (net h),fun T h=>⟨[],by rw [ll2 T (net h)]; simp,by simp⟩,fun T h _=>ll2 T (net h),fun _ _ _ h=>by rw [ev]; exact h,fun _ _ _=>by rw [ev],fun T hT=>by rw [ev]; exact M.v2 T (by rw [← et]; exact hT),fun _ _ _=>by rw [ec],fun T k=>?_,fun T k q=>ak2 T k fun e=>q.elim (fun q=>q e.1) fun q=>q e.2,fun _ _=>by rw [eF]⟩
  ·rw [ld2 T (fun q=>by rw [q,hn] at h; cases h)]; exact h
  ·by_cases c:T=t
   ·subst c; rw [ld1] at h; cases h; exact .inr ⟨rfl,rfl⟩
   ·rw [ld2 T c] at h; exact .inl h
  ·by_cases c:T=t/\k=i
   ·obtain ⟨rfl,rfl⟩:=c; rw [ak0]; exact Nat.zero_le _
   ·rw [ak2 T k c]; exact Nat.le_refl _
 -- no entry of what it has is of the term
 have noT:∀ {x},¬ own G' t x:=fun {x} o=>by
  have ob:=o.b
  have ot:=o.t
  rw [ll1] at ob ot
  obtain ⟨a,ha,q⟩:=BH o.a ob
  have:=A.lt a ha
  rw [← et] at this
  omega
 have ow:∀ {T x},own G' T x->T≠t/\own G T x:=fun {T x} o=>by
  have c:T≠t:=fun q=>by subst q; exact noT o
  have hl:=o.l
  rw [ld2 T c] at hl
  exact ⟨c,hl,o.a,by have:=o.b; rw [ll2 T c] at this; exact this,by have:=o.t; rw [ll2 T c] at this; exact this⟩
 have last:(R i).log.last=(G.F i).length:=M.rep.last
 have bf:=M.bf
 have wl:W ((R i).log.last + 1)=(G.F i).length + 1:=by rw [last]; exact tN (by omega) (by omega)
 have tl:(R i).lead.term=t:=et.symm
 have MI':MI n B G' i (R i).lead:=by
  refine { me:=M.me,rn:=M.rn,t0:=M.t0,rep:=by rw [eF]; exact M.rep,lg:=by rw [eF]; exact X.lg M.lg,ft:=by rw [eF]; exact M.ft,v0:=M.v0,v1:=by rw [ev]; exact M.v1,v2:=by rw [ev]; exact M.v2,v3:=fun T h=>?_,v4:=by rw [ev]; exact M.v4,c1:=fun q=>(by cases q),l1:=fun _=>?_,rl:=.inr (.inr rfl),c0:=M.c0,c2:=by rw [eF]; exact M.c2,cm:=by rw [eF]; exact X.com M.cm,a1:=fun T h=>?_,a2:=fun T x hx o=>?_,a3:=fun T=>?_,a4:=fun x hx=>by rw [tl,eF,ll1],vi:=fun T' T j x hv hT hx o=>?_,bt:=M.bt,bf:=by rw [eF]; exact M.bf }
  ·by_cases c:T=t
   ·rw [c,tl]; exact Int.le_refl _
   ·rw [ld2 T c] at h; exact M.v3 T h
  ·refine ⟨by rw [tl]; exact ld1,by rw [tl,eF,ll1],?_,?_,fun x hx=>?_,fun k hk=>?_⟩
   ·show (List.replicate (R i).n.toNat _).length=_
    rw [List.length_replicate,M.rn]
   ·show ((List.replicate (R i).n.toNat (0:Int)).set _ _).length=_
    rw [List.length_set,List.length_replicate,M.rn]
   ·have:=(List.mem_replicate.1 (show x∈List.replicate (R i).n.toNat (W ((R i).log.last + 1)) from hx)).2
    rw [eF,this,wl]; omega
   ·rw [tl]
    show 0<=((List.replicate (R i).n.toNat (0:Int)).set (R i).me.toNat (R i).log.last).getD k 0/\((List.replicate (R i).n.toNat (0:Int)).set (R i).me.toNat (R i).log.last).getD k 0<=_
    rw [M.me,M.rn,last,List.getD_eq_getElem?_getD]
    by_cases c:i.toNat=k
    ·subst c
     rw [List.getElem?_set_self (by rw [List.length_replicate]; omega)]
     show 0<=((G.F i).length:Int)/\((G.F i).length:Int)<=_
     rw [show ((i.toNat:Nat):Int)=i from by omega,ak1]
     omega
    ·rw [List.getElem?_set_ne c]
     have:((List.replicate n.toNat (0:Int))[k]?).getD 0=0:=by
      rw [List.getElem?_replicate]; split <;> rfl
     rw [this]; omega
  ·have hT:t < T:=by rw [tl] at h; exact h
   rw [ak2 T i fun q=>by omega]; exact M.a1 T (by rw [← et]; exact hT)
  ·obtain ⟨c,o'⟩:=ow o
   rw [ak2 T i fun q=>c q.1] at hx
   rw [eF,ll2 T c]
   exact (M.a2 T x hx o').imp id (X.lacks o')
  ·by_cases c:T=t
   ·subst c; rw [ak1,ll1,ld1]; exact ⟨Nat.le_refl _,fun _=>by simp⟩
   ·rw [ak2 T i fun q=>c q.1,ll2 T c,ld2 T c]; exact M.a3 T
  ·obtain ⟨c,o'⟩:=ow o
   rw [ak2 T i fun q=>c q.1] at hx
   rw [ev] at hv
   rw [ec]
   exact (M.vi T' T j x hv hT hx o').imp id (X.lacks o')
 rw [← et]
 refine ⟨G',C.step i0 i1 (by rw [tl]; exact X) (Nat.le_refl _) MI' fun T j hj=>⟨fun hj=>?_,fun hj'=>?_⟩,X⟩
 ·rw [ll2 T (net (by rw [hj]; simp))]; exact (C.el T j hj).bd
 ·by_cases c:T=t
  ·subst c
   rw [ld1] at hj; cases hj
   refine ⟨by have:=A.t1; omega,⟨i0,i1⟩,⟨l,l2,fun k hk=>⟨(l3 k hk).1,by rw [ev]; exact (l3 k hk).2,fun T0 x hT hx o=>?_⟩,lw⟩,by rw [cl1]; exact X.lg M.lg,fun e he=>by rw [cl1] at he; have:=A.lt e he; omega,⟨[],by rw [cl1,ll1]; simp,by simp⟩,by rw [ll1]; exact M.bf⟩
   obtain ⟨c,o'⟩:=ow o
   rw [ak2 T0 k fun q=>c q.1] at hx
   rw [cl1]
   rcases (C.mi k (l3 k hk).1.1 (l3 k hk).1.2).vi T T0 i x (l3 k hk).2 hT hx o' with q | ⟨T2,a,b,c2,d⟩
   ·left
    have:=A.cp
    rw [← et] at this
    rw [this] at q; exact q
   ·right
    have:T2≠T:=net c2
    exact X.lacks o' ⟨T2,a,by omega,c2,d⟩
  ·rw [ld2 T c] at hj; exact absurd hj hj'
/-! ### it puts an entry behind its own -/
theorem DN {F:List Ent} {l:Lg} (Rp:Rep F l) (e:Ent) (bd:F.length<=50000000) (ok:(l.append l.last l.lastT [e]).2.2=0):Rep (F ++ [e]) (l.append l.last l.lastT [e]).1/\(l.append l.last l.lastT [e]).1.ix=l.ix/\(l.append l.last l.lastT [e]).2.1=F.length + 1:=by
 rw [Rp.last] at ok ⊢
 have i1:=Rp.i1
 obtain ⟨F',h1,h2,h3,h4,_⟩:=Rp.append (X:=F ++ [e]) (p:=F.length) (t:=l.lastT) (more:=[e]) (fun k x hx=>by
  cases k with
  | zero=>simp at hx; subst hx; simp
  | succ k=>simp at hx) (by simp) (by simp; omega) (fun k _ h2 _ _=>(List.take_append_of_le_length h2).symm) (List.take_append_of_le_length i1).symm (by rw [xg (Nat.le_refl _),Rp.lastT]) ok
 have:F'=F ++ [e]:=by
  rw [h4]
  simp only [List.length_singleton]
  rw [if_neg (by omega)]
  unfold mrg
  rw [if_neg (by omega),List.take_of_length_le (by simp)]
 rw [this] at h1
 exact ⟨h1,h2,by rw [h3]; simp⟩
theorem Core.put (C:Core n B G R) (i0:0<=i) (i1:i < n) (hB:(B:Int)<=50000000) (h2:(R i).role=2) {cmd:List Int} (ok:((R i).log.append (R i).log.last (R i).log.lastT [((R i).term,cmd)]).2.2=0)
  (h:Eqv { R i with log:=((R i).log.append (R i).log.last (R i).log.lastT [((R i).term,cmd)]).1,has:=(R i).has.set (R i).me.toNat ((R i).log.append (R i).log.last (R i).log.lastT [((R i).term,cmd)]).2.1 } r) :
  ∃ G',Core n (B + 1) G' (upd R i r)/\Gx G G' i (R i).term:=by
 have M:=C.mi i i0 i1
 have A:=M.l1 h2
 have bf:=M.bf
 obtain ⟨t,et⟩:∃ t,t=(R i).term:=⟨_,rfl⟩
 have ALd:=A.ld
 have AF:=A.F
 rw [← et] at ALd AF
 obtain ⟨r1,r2,r3⟩:=DN M.rep ((R i).term,cmd) (by omega) ok
 obtain ⟨e,ee⟩:∃ e:Ent,e=((R i).term,cmd):=⟨_,rfl⟩
 have e1:e.1=t:=by rw [ee,et]
 rw [← ee] at r1 r2 r3 h
 obtain ⟨G',eG⟩:∃ G':Gh,G' = { G with F:=fun k=>if k=i then G.F i ++ [e] else G.F k,LL:=fun T=>if T=t then G.F i ++ [e] else G.LL T,ak:=fun T k=>if T=t/\k=i then (G.F i).length + 1 else G.ak T k }:=⟨_,rfl⟩
 have F1:G'.F i=G.F i ++ [e]:=by rw [eG]; exact if_pos rfl
 have F2:∀ k,k≠i->G'.F k=G.F k:=fun k q=>by rw [eG]; exact if_neg q
 have ll1:G'.LL t=G.F i ++ [e]:=by rw [eG]; exact if_pos rfl
 have ll2:∀ T,T≠t->G'.LL T=G.LL T:=fun T q=>by rw [eG]; exact if_neg q
 have ak1:G'.ak t i=(G.F i).length + 1:=by rw [eG]; exact if_pos ⟨rfl,rfl⟩
 have ak2:∀ T k,¬ (T=t/\k=i)->G'.ak T k=G.ak T k:=fun T k q=>by rw [eG]; exact if_neg q
 have ev:G'.vt=G.vt:=by rw [eG]
 have ec:G'.cp=G.cp:=by rw [eG]
 have ed:G'.ld=G.ld:=by rw [eG]
 have eC:G'.CL=G.CL:=by rw [eG]
 have ldn:G.ld t≠none:=by rw [ALd]; simp
 have akt:=(M.a3 t).1
 rw [← AF] at akt
 have X:Gx G G' i t:=by
  refine ⟨fun _ _ h=>by rw [ed]; exact h,fun _ _ h=>.inl (by rw [ed] at h; exact h),fun _ _=>by rw [eC],fun T h=>?_,fun T h q=>ll2 T fun c=>q (by rw [c]; exact ALd),fun _ _ _ h=>by rw [ev]; exact h,fun _ _ _=>by rw [ev],fun T hT=>by rw [ev]; exact M.v2 T (by rw [← et]; exact hT),fun _ _ _=>by rw [ec],fun T k=>?_,fun T k q=>ak2 T k fun e=>q.elim (fun q=>q e.1) fun q=>q e.2,F2⟩
  ·by_cases c:T=t
   ·subst c; exact ⟨[e],by rw [ll1,AF],fun x hx=>by simp at hx; subst hx; exact e1⟩
   ·exact ⟨[],by rw [ll2 T c]; simp,by simp⟩
  ·by_cases c:T=t/\k=i
   ·obtain ⟨rfl,rfl⟩:=c; rw [ak1]; omega
   ·rw [ak2 T k c]; exact Nat.le_refl _
 have tr:r.term=t:=h.term.trans et.symm
 have ow:∀ {T x},own G' T x->T≠t->own G T x:=fun {T x} o c=>by
  exact ⟨by rw [← ed]; exact o.l,o.a,by rw [← ll2 T c]; exact o.b,by rw [← ll2 T c]; exact o.t⟩
 have MI':MI n (B + 1) G' i r:=by
  refine MI.eqv ?_ h
  refine { me:=M.me,rn:=M.rn,t0:=M.t0,rep:=by rw [F1]; exact r1,lg:=?_,ft:=?_,v0:=M.v0,v1:=by rw [ev]; exact M.v1,v2:=by rw [ev]; exact M.v2,v3:=by rw [ed]; exact M.v3,v4:=by rw [ev]; exact M.v4,c1:=fun q=>?_,l1:=fun _=>?_,rl:=M.rl,c0:=?_,c2:=?_,cm:=?_,a1:=fun T hT=>?_,a2:=fun T x hx o=>?_,a3:=fun T=>?_,a4:=fun x hx=>(by show (G'.F i).take x=(G'.LL (R i).term).take x; rw [F1,← et,ll1]),vi:=fun T' T j x hv hT hx o=>?_,bt:=by have:=M.bt; show (R i).term<=_; omega,bf:=by rw [F1]; simp; exact bf }
  ·rw [F1]
   intro k k1 k2
   by_cases c:k<=(G.F i).length
   ·have:=X.lg M.lg k k1 c
    rw [xg c,List.take_append_of_le_length c]; exact this
   ·have ek:k=(G.F i).length + 1:=by simp at k2; omega
    have:tA (G.F i ++ [e]) k=t:=by rw [ek,sO (e:=e) (by simp)]; exact e1
    rw [this,ed,ll1]
    exact ⟨by have:=(C.el t i ALd).t1; omega,ldn,k2,rfl⟩
  ·rw [F1]
   intro x hx
   rcases List.mem_append.1 hx with hx | hx
   ·exact M.ft x hx
   ·rw [List.mem_singleton.1 hx]; show e.1<=(R i).term; omega
  ·have:(R i).role=1:=q
   omega
  ·refine ⟨by rw [ed]; exact A.ld,?_,A.nl,by show ((R i).has.set _ _).length=_; rw [List.length_set]; exact A.hl,fun x hx=>?_,fun k hk=>?_⟩
   ·show G'.F i=G'.LL (R i).term
    rw [F1,← et,ll1]
   ·have:=A.nx x hx
    rw [F1]; simp; omega
   ·show 0<=((R i).has.set (R i).me.toNat _).getD k 0/\((R i).has.set (R i).me.toNat _).getD k 0<=(G'.ak (R i).term k:Int)
    rw [r3,M.me,← et,List.getD_eq_getElem?_getD]
    by_cases c:i.toNat=k
    ·subst c
     rw [List.getElem?_set_self (by rw [A.hl]; omega),show ((i.toNat:Nat):Int)=i from by omega,ak1]
     show 0<=((G.F i).length:Int) + 1/\((G.F i).length:Int) + 1<=_
     omega
    ·rw [List.getElem?_set_ne c,← List.getD_eq_getElem?_getD,ak2 t k fun q=>c (by omega),et]
     exact A.hs k hk
  ·show (Lg.append _ _ _ [e]).1.ix<=(R i).commit
   rw [r2]; exact M.c0
  ·rw [F1]; have:=M.c2; simp; show (R i).commit<=_; omega
  ·rw [F1]
   show Com n G' (R i).term ((G.F i ++ [e]).take (R i).commit.toNat)
   have:=M.c2
   rw [List.take_append_of_le_length (by omega)]; exact X.com M.cm
  ·have hT':(R i).term < T:=hT
   rw [ak2 T i fun q=>by omega]; exact M.a1 T hT'
  ·rw [F1]
   by_cases c:T=t
   ·subst c; rw [ll1]; exact .inl rfl
   ·rw [ak2 T i fun q=>c q.1] at hx
    have o':=ow o c
    rw [ll2 T c]
    refine (M.a2 T x hx o').imp (fun q=>?_) (X.lacks o')
    have xl:x<=(G.F i).length:=by
     have:=congrArg List.length q
     rw [List.length_take,List.length_take] at this
     have:=o'.b; omega
    rw [List.take_append_of_le_length xl]; exact q
  ·by_cases c:T=t
   ·subst c; rw [ak1,ll1,ed]; exact ⟨by simp,fun _=>ldn⟩
   ·rw [ak2 T i fun q=>c q.1,ll2 T c,ed]; exact M.a3 T
  ·rw [ev] at hv
   rw [ec]
   by_cases c:T=t
   ·subst c
    rw [M.v2 T' (by omega)] at hv; cases hv
   ·rw [ak2 T i fun q=>c q.1] at hx
    have o':=ow o c
    exact (M.vi T' T j x hv hT hx o').imp id (X.lacks o')
 rw [← et]
 refine ⟨G',C.step i0 i1 (by rw [tr]; exact X) (by omega) MI' fun T j hj=>⟨fun hj=>?_,fun hj'=>absurd (by rw [ed] at hj; exact hj) hj'⟩,X⟩
 by_cases c:T=t
 ·subst c; rw [ll1]; simp; exact bf
 ·rw [ll2 T c]; have:=(C.el T j hj).bd; omega
/-! ### what more than half have is known as committed -/
theorem u7:∀ (l:List Int) (a:Int),a<=l.foldl max a/\(l.foldl max a=a∨l.foldl max a∈l)
 | [],a=>⟨Int.le_refl _,.inl rfl⟩
 | y :: l,a=>by
  obtain ⟨h1,h3⟩:=u7 l (max a y)
  refine ⟨by simp only [List.foldl_cons]; omega,?_⟩
  simp only [List.foldl_cons]
  rcases h3 with h3 | h3
  ·rcases Int.le_total a y with h | h
   ·right; rw [h3,Int.max_eq_right h]; exact List.mem_cons_self
   ·left; rw [h3,Int.max_eq_left h]
  ·exact .inr (List.mem_cons_of_mem _ h3)
theorem Jc {n:Int} {l:List Int} (hl:l.length=n.toNat) (n0:0<=n) (h:0 < cmt l) {P:Int->Prop} (hP:∀ k:Nat,k < n.toNat->cmt l<=l.getD k 0->P k):Maj n P:=by
 have hc:cmt l∈l.filter fun v=>decide (l.length / 2 + 1<=cnt l v):=by
  rcases (u7 (l.filter fun v=>decide (l.length / 2 + 1<=cnt l v)) 0).2 with q | q
  ·have:cmt l=0:=q
   omega
  ·exact q
 have h2:=of_decide_eq_true (List.mem_filter.1 hc).2
 refine ⟨((List.range n.toNat).filter fun k=>decide (cmt l<=l.getD k 0)).map fun (k:Nat)=>(k:Int),?_,fun x hx=>?_,?_⟩
 ·refine List.Pairwise.map _ (fun a b h=>?_) (List.Pairwise.filter _ List.nodup_range)
  omega
 ·obtain ⟨k,hk,rfl⟩:=List.mem_map.1 hx
  obtain ⟨k1,k2⟩:=List.mem_filter.1 hk
  have:=List.mem_range.1 k1
  exact ⟨by omega,hP k this (of_decide_eq_true k2)⟩
 ·rw [List.length_map,← List.countP_eq_length_filter]
  have e:(List.range n.toNat).countP (fun k=>decide (cmt l<=l.getD k 0))=cnt l (cmt l):=by
   unfold cnt
   have:l=(List.range n.toNat).map fun k=>l.getD k 0:=by
    apply List.ext_getElem?
    intro k
    rw [List.getElem?_map]
    by_cases c:k < n.toNat
    ·rw [List.getElem?_range c,Option.map_some,List.getD_eq_getElem?_getD,List.getElem?_eq_getElem (by omega)]; rfl
    ·rw [List.getElem?_eq_none (by omega),List.getElem?_eq_none (by simp; omega)]; rfl
   obtain ⟨v,hv⟩:∃ v,v=cmt l:=⟨_,rfl⟩
   rw [← hv]
   have k2:∀ q:List Int,q=(List.range n.toNat).map (fun k=>l.getD k 0)->(List.range n.toNat).countP (fun k=>decide (v<=l.getD k 0))=q.countP fun x=>decide (v<=x):=fun q hq=>by
    rw [hq,List.countP_map]; rfl
   exact k2 l this
  rw [e]
  omega
theorem Core.settle (C:Core n B G R) (i0:0<=i) (i1:i < n) (h2:(R i).role=2):Core n B G (upd R i (R i).settle)/\Gx G G i (R i).term/\(R i).settle.term=(R i).term/\(R i).settle.role=2:=by
 have M:=C.mi i i0 i1
 have A:=M.l1 h2
 unfold RS.settle
 by_cases c:cmt (R i).has > (R i).commit/\((R i).log.aF (cmt (R i).has)).2=0/\((R i).log.aF (cmt (R i).has)).1=(R i).term
 ·rw [if_pos c]
  obtain ⟨c1,c2,c3⟩:=c
  have x0:=M.rep.i0
  have m0:=M.c0
  obtain ⟨v,ev⟩:∃ v,v=cmt (R i).has:=⟨_,rfl⟩
  rw [← ev] at c1 c2 c3 ⊢
  have to:=M.rep.aF (p:=v) (by omega)
  have vl:v.toNat<=(G.F i).length/\tA (G.F i) v.toNat=(R i).term:=by
   rw [to] at c2 c3
   split at c2
   ·exact absurd c2 (by simp)
   ·split at c2
    ·exact absurd c2 (by simp)
    ·rename_i q1 q2
     rw [if_neg q1,if_neg q2] at c3
     exact ⟨by omega,c3⟩
  have o:own G (R i).term v.toNat:=⟨by rw [A.ld]; simp,by omega,by rw [← A.F]; exact vl.1,by rw [← A.F]; exact vl.2⟩
  refine ⟨(C.same i0 i1 (Nat.le_refl _) (r:={ R i with commit:=v }) ?_).1,Gx.refl M.v2,rfl,h2⟩
  have cm:Com n G (R i).term ((G.F i).take v.toNat):=by
   refine .inr ⟨(R i).term,v.toNat,Int.le_refl _,o,by rw [List.length_take]; exact Nat.min_le_left _ _,?_,?_⟩
   ·rw [List.length_take,Nat.min_eq_left vl.1,A.F]
   ·refine Jc A.hl (by omega) (by rw [← ev]; omega) fun k hk hv=>?_
    have:=(A.hs k hk).2
    rw [← ev] at hv
    omega
  exact { me:=M.me,rn:=M.rn,t0:=M.t0,rep:=M.rep,lg:=M.lg,ft:=M.ft,v0:=M.v0,v1:=M.v1,v2:=M.v2,v3:=M.v3,v4:=M.v4,c1:=fun q=>(M.c1 q).eqv rfl rfl,l1:=fun q=>A.eqv rfl rfl rfl,rl:=M.rl,c0:=by show (R i).log.ix<=v; omega,c2:=by show v<=_; omega,cm:=cm,a1:=M.a1,a2:=M.a2,a3:=M.a3,a4:=M.a4,vi:=M.vi,bt:=M.bt,bf:=M.bf }
 ·rw [if_neg c]
  exact ⟨(C.same i0 i1 (Nat.le_refl _) M).1,Gx.refl M.v2,rfl,h2⟩
end
end Go.Q.Rf
end
section
/- Steps of a member: it takes entries, a snapshot; it cuts; it begins anew; answers to entries. -/
namespace Go.Q.Rf
section
variable {n:Int} {B:Nat} {G:Gh} {R:Int->RS} {i:Int} {r r':RS}
/-- its log is merged with the one of its term, and it has so much of it -/
theorem Core.merge (C:Core n B G R) (i0:0<=i) (i1:i < n) (h0:(R i).role=0) (hl:G.ld (R i).term≠none) {q a:Nat} (hq:q<=(G.LL (R i).term).length) (ha:a<=(G.LL (R i).term).length) (hat:(mrg (G.F i) (G.LL (R i).term) q).take a=(G.LL (R i).term).take a)
  {log:Lg} {c:Int} (rp:Rep (mrg (G.F i) (G.LL (R i).term) q) log) (c0:log.ix<=c) (c2:c<=(mrg (G.F i) (G.LL (R i).term) q).length) (cm:Com n G (R i).term ((mrg (G.F i) (G.LL (R i).term) q).take c.toNat)) (h:Eqv { R i with log:=log,commit:=c } r) :
  ∃ G',Core n B G' (upd R i r)/\Gx G G' i (R i).term/\a<=G'.ak (R i).term i/\G'.F i=mrg (G.F i) (G.LL (R i).term) q/\G'.LL=G.LL/\G'.ld=G.ld:=by
 have M:=C.mi i i0 i1
 obtain ⟨t,et⟩:∃ t,t=(R i).term:=⟨_,rfl⟩
 obtain ⟨Y,eX⟩:∃ Y,Y=G.LL (R i).term:=⟨_,rfl⟩
 obtain ⟨F',eF'⟩:∃ F',F'=mrg (G.F i) Y q:=⟨_,rfl⟩
 rw [← eX,← eF'] at hat rp c2 cm
 rw [← eX] at hq ha
 rw [← eX,← eF',← et]
 rw [← et] at hl cm
 rw [← et] at eX
 have lgX:LG G Y:=by rw [eX]; exact C.el.ll hl
 obtain ⟨jt,hjt⟩:=qf hl
 have ejt:=C.el t jt hjt
 have mF:F'=G.F i/\q<=(G.F i).length/\(G.F i).take q=Y.take q∨F'=Y.take q/\¬ (q<=(G.F i).length/\(G.F i).take q=Y.take q):=by
  rw [eF']; unfold mrg
  split
  ·rename_i k; exact .inl ⟨rfl,k⟩
  ·rename_i k; exact .inr ⟨rfl,k⟩
 -- what stood in agreement with the term's log stays
 have stay:∀ x,x<=(G.F i).length->(G.F i).take x=Y.take x->F'.take x=Y.take x:=fun x h1 h2=>by
  rcases mF with ⟨e,_,_⟩ | ⟨e,k⟩
  ·rw [e]; exact h2
  ·have:x<=q:=Nat.le_of_not_lt fun lt=>k ⟨by omega,oU h2 (by omega)⟩
   rw [e,List.take_take,Nat.min_eq_left this]
 obtain ⟨G',eG⟩:∃ G':Gh,G' = { G with F:=fun k=>if k=i then F' else G.F k,ak:=fun T k=>if T=t/\k=i then max (G.ak t i) a else G.ak T k }:=⟨_,rfl⟩
 have F1:G'.F i=F':=by rw [eG]; exact if_pos rfl
 have F2:∀ k,k≠i->G'.F k=G.F k:=fun k q=>by rw [eG]; exact if_neg q
 have ak1:G'.ak t i=max (G.ak t i) a:=by rw [eG]; exact if_pos ⟨rfl,rfl⟩
 have ak2:∀ T k,¬ (T=t/\k=i)->G'.ak T k=G.ak T k:=fun T k q=>by rw [eG]; exact if_neg q
 have ev:G'.vt=G.vt:=by rw [eG]
 have ec:G'.cp=G.cp:=by rw [eG]
 have ed:G'.ld=G.ld:=by rw [eG]
 have eC:G'.CL=G.CL:=by rw [eG]
 have eL:G'.LL=G.LL:=by rw [eG]
 have X:Gx G G' i t:=by
  refine ⟨fun _ _ h=>by rw [ed]; exact h,fun _ _ h=>.inl (by rw [ed] at h; exact h),fun _ _=>by rw [eC],fun T h=>⟨[],by rw [eL]; simp,by simp⟩,fun T h q=>by rw [eL],fun _ _ _ h=>by rw [ev]; exact h,fun _ _ _=>by rw [ev],fun T hT=>by rw [ev]; exact M.v2 T (by rw [← et]; exact hT),fun _ _ _=>by rw [ec],fun T k=>?_,fun T k q=>ak2 T k fun e=>q.elim (fun q=>q e.1) fun q=>q e.2,F2⟩
  by_cases c:T=t/\k=i
  ·obtain ⟨rfl,rfl⟩:=c; rw [ak1]; omega
  ·rw [ak2 T k c]; exact Nat.le_refl _
 have ow:∀ {T x},own G' T x->own G T x:=fun o=>⟨by rw [← ed]; exact o.l,o.a,by rw [← eL]; exact o.b,by rw [← eL]; exact o.t⟩
 have tr:r.term=t:=h.term.trans et.symm
 have MI':MI n B G' i r:=by
  refine MI.eqv ?_ h
  refine { me:=M.me,rn:=M.rn,t0:=M.t0,rep:=by rw [F1]; exact rp,lg:=?_,ft:=?_,v0:=M.v0,v1:=by rw [ev]; exact M.v1,v2:=by rw [ev]; exact M.v2,v3:=by rw [ed]; exact M.v3,v4:=by rw [ev]; exact M.v4,c1:=fun q=>?_,l1:=fun q=>?_,rl:=.inl h0,c0:=c0,c2:=by rw [F1]; exact c2,cm:=by rw [F1,← et]; exact X.com cm,a1:=fun T hT=>?_,a2:=fun T x hx o=>?_,a3:=fun T=>?_,a4:=fun x hx=>?_,vi:=fun T' T j x hv hT hx o=>?_,bt:=M.bt,bf:=?_ }
  ·rw [F1]
   refine X.lg ?_
   rcases mF with ⟨e,_⟩ | ⟨e,_⟩
   ·rw [e]; exact M.lg
   ·rw [e]; exact lgX.take q
  ·rw [F1]
   rcases mF with ⟨e,_⟩ | ⟨e,_⟩
   ·rw [e]; exact M.ft
   ·rw [e]
    intro x hx
    obtain ⟨k,hk⟩:=List.getElem?_of_mem (List.mem_of_mem_take hx)
    have kl:=(List.getElem?_eq_some_iff.1 hk).1
    have:=C.el.le hl (x:=k + 1) (by omega) (by rw [← eX]; omega)
    rw [← eX,sO hk] at this
    show x.1<=(R i).term; omega
  ·have:(R i).role=1:=q
   omega
  ·have:(R i).role=2:=q
   omega
  ·have hT':(R i).term < T:=hT
   rw [ak2 T i fun q=>by omega]; exact M.a1 T hT'
  ·have o':=ow o
   rw [F1,eL]
   show F'.take x=(G.LL T).take x∨wZ G' T x (R i).term
   by_cases c:T=t
   ·subst c
    rw [← eX]
    rw [ak1] at hx
    by_cases xa:x<=a
    ·exact .inl (oU hat xa)
    ·rcases M.a2 T x (by omega) o' with q | ⟨T2,k1,k2,_⟩
     ·left
      rw [← eX] at q
      have xl:x<=(G.F i).length:=by
       have:=congrArg List.length q
       rw [List.length_take,List.length_take] at this
       have:=o'.b; rw [← eX] at this; omega
      exact stay x xl q
     ·omega
   ·rw [ak2 T i fun q=>c q.1] at hx
    have Tt:T < t:=by
     apply Classical.byContradiction
     intro hc
     have:=M.a1 T (by omega)
     have:=o'.a; omega
    rcases M.a2 T x hx o' with k | k
    ·have xl:x<=(G.F i).length:=by
      have:=congrArg List.length k
      rw [List.length_take,List.length_take] at this
      have:=o'.b; omega
     by_cases e:Y.take x=(G.LL T).take x
     ·left; rw [← e]; exact stay x xl (k.trans e.symm)
     ·rcases mF with ⟨f,_⟩ | ⟨f,g⟩
      ·left; rw [f]; exact k
      ·right
       refine X.lacks o' ⟨t,Tt,by omega,hl,fun z=>e ?_⟩
       have cl:=C.el.cl hl
       have xc:x<=(G.CL t).length:=by
        have:=congrArg List.length z
        rw [List.length_take,List.length_take] at this
        have:=o'.b; omega
       rw [← z,eX]
       conv=>rhs; rw [cl.1]
       rw [List.take_take,Nat.min_eq_left xc]
    ·exact .inr (X.lacks o' k)
  ·by_cases c:T=t
   ·subst c
    rw [ak1,eL,ed,← eX]
    have:=(M.a3 T).1
    rw [← eX] at this
    exact ⟨by omega,fun _=>hl⟩
   ·rw [ak2 T i fun q=>c q.1,eL,ed]; exact M.a3 T
  ·have hx':x<=G'.ak t i:=by rw [et]; exact hx
   show (G'.F i).take x=(G'.LL (R i).term).take x
   rw [F1,eL,← et,← eX]
   rw [ak1] at hx'
   by_cases xa:x<=a
   ·exact oU hat xa
   ·have q:=M.a4 x (by rw [← et]; omega)
    have z:=(M.a3 t).1
    rw [← et,← eX] at q
    rw [← eX] at z
    have xl:x<=(G.F i).length:=by
     have:=congrArg List.length q
     rw [List.length_take,List.length_take] at this
     omega
    exact stay x xl q
  ·rw [ev] at hv
   rw [ec]
   have o':=ow o
   by_cases c:T=t
   ·subst c
    rw [M.v2 T' (by omega)] at hv; cases hv
   ·rw [ak2 T i fun q=>c q.1] at hx
    exact (M.vi T' T j x hv hT hx o').imp id (X.lacks o')
  ·rw [F1]
   rcases mF with ⟨e,_⟩ | ⟨e,_⟩
   ·rw [e]; exact M.bf
   ·rw [e,List.length_take]
    have:=ejt.bd
    rw [← eX] at this; omega
 refine ⟨G',C.step i0 i1 (by rw [tr]; exact X) (Nat.le_refl _) MI' fun T j hj=>⟨fun hj=>by rw [eL]; exact (C.el T j hj).bd,fun hj'=>absurd (by rw [ed] at hj; exact hj) hj'⟩,X,by rw [ak1]; omega,F1,eL,ed⟩
theorem wh (F X:List Ent):mrg F X 0=F:=by unfold mrg; rw [if_pos ⟨Nat.zero_le _,by simp⟩]
/-- what it knows as committed stands in the log of its term -/
theorem MI.Fy (M:MI n B G i r) (E:ELs n B G) (hl:G.ld r.term≠none):(G.F i).take r.commit.toNat=(G.LL r.term).take r.commit.toNat/\r.commit.toNat<=(G.LL r.term).length:=by
 have c0:=M.c0
 have c2:=M.c2
 have i0:=M.rep.i0
 have:=M.cm.Fy E hl (Int.le_refl _)
 rw [List.length_take,Nat.min_eq_left (by omega)] at this
 exact ⟨this.1.symm,this.2⟩
/-! ### it takes entries -/
theorem Core.app (C:Core n B G R) (i0:0<=i) (i1:i < n) (hB:B<=50000000) (h0:(R i).role=0) {f:Int} {m:Msg} (L:LI n G f i m) (mk:m.kind=3) (mt:m.term=(R i).term) (ok:((R i).log.append m.index m.logTerm m.aM).2.2=0)
  (h:Eqv { R i with log:=((R i).log.append m.index m.logTerm m.aM).1,commit:=max (R i).commit (min m.commit ((R i).log.append m.index m.logTerm m.aM).2.1) } r) :
  ∃ G',Core n B G' (upd R i r)/\Gx G G' i (R i).term/\0<=((R i).log.append m.index m.logTerm m.aM).2.1/\((R i).log.append m.index m.logTerm m.aM).2.1.toNat<=G'.ak (R i).term i:=by
 have M:=C.mi i i0 i1
 obtain ⟨hl,p0,k1,k2,k3,m0,k4,k5⟩:=L.k3 mk
 rw [mt] at hl k1 k2 k3 k4 k5
 replace hl:G.ld (R i).term≠none:=by rw [hl]; simp
 obtain ⟨jt,hjt⟩:=qf hl
 have lb:=(C.el _ jt hjt).bd
 have x0:=M.rep.i0
 have c0:=M.c0
 have c2:=M.c2
 obtain ⟨in1,in2⟩:=M.Fy C.el hl
 have ep:m.index=((m.index.toNat:Nat):Int):=by omega
 obtain ⟨p,epp⟩:∃ p,p=m.index.toNat:=⟨_,rfl⟩
 rw [← epp] at ep k1 k2 k3
 rw [ep] at ok h ⊢
 obtain ⟨F',r1,r2,r3,r4,_⟩:=M.rep.append (X:=G.LL (R i).term) (p:=p) k3 k1 (by omega) (M.lg.eqT (C.el.ll hl)) (oU in1 (by omega)) k2 ok
 have eF:F'=mrg (G.F i) (G.LL (R i).term) (p + m.aM.length):=by
  rw [r4]
  by_cases c:p + m.aM.length<=(R i).log.ix.toNat
  ·rw [if_pos c]; unfold mrg
   rw [if_pos ⟨by omega,oU in1 (by omega)⟩]
  ·rw [if_neg c]
 rw [eF] at r1
 have ml:=Fh (F:=G.F i) k1
 have mt':=CS (F:=G.F i) k1
 rw [r3] at h ⊢
 -- how far the merged log agrees with what was committed
 have cl:(R i).commit.toNat<=(mrg (G.F i) (G.LL (R i).term) (p + m.aM.length)).length/\(mrg (G.F i) (G.LL (R i).term) (p + m.aM.length)).take (R i).commit.toNat=(G.F i).take (R i).commit.toNat:=by
  unfold mrg
  split
  ·exact ⟨by omega,rfl⟩
  ·rename_i k
   have:(R i).commit.toNat<=p + m.aM.length:=Nat.le_of_not_lt fun lt=>k ⟨by omega,oU in1 (by omega)⟩
   exact ⟨by rw [List.length_take]; omega,by rw [List.take_take,Nat.min_eq_left this,in1]⟩
 obtain ⟨G',g1,g2,g3,g4,g5,g6⟩:=C.merge i0 i1 h0 hl k1 k1 mt' r1 (by rw [r2]; omega) (by omega) (by
  rcases Int.le_total (min m.commit ((p + m.aM.length:Nat):Int)) (R i).commit with c | c
  ·rw [Int.max_eq_left c,cl.2]; exact M.cm
  ·rw [Int.max_eq_right c]
   have e1:(min m.commit ((p + m.aM.length:Nat):Int)).toNat=min m.commit.toNat (p + m.aM.length):=by omega
   rw [e1,oU mt' (Nat.min_le_right _ _),Nat.min_comm,← List.take_take]
   exact k5.take _) h
 exact ⟨G',g1,g2,by omega,by rw [Int.toNat_natCast]; exact g3⟩
/-! ### it takes a snapshot -/
theorem Core.aQ (C:Core n B G R) (i0:0<=i) (i1:i < n) (h0:(R i).role=0) {f:Int} {m:Msg} (L:LI n G f i m) (mk:m.kind=5) (mt:m.term=(R i).term) (h:Eqv ((R i).lV m) r) :
  ∃ G',Core n B G' (upd R i r)/\Gx G G' i (R i).term/\0<=r.commit/\r.commit.toNat<=G'.ak (R i).term i:=by
 have M:=C.mi i i0 i1
 obtain ⟨hl,p0,k1,k2,k3⟩:=L.k5 mk
 rw [mt] at hl k1 k2 k3
 replace hl:G.ld (R i).term≠none:=by rw [hl]; simp
 have x0:=M.rep.i0
 have c0:=M.c0
 have c2:=M.c2
 obtain ⟨in1,in2⟩:=M.Fy C.el hl
 unfold RS.lV at h
 by_cases c:m.index > (R i).commit
 ·rw [if_pos c] at h
  have ml:=Fh (F:=G.F i) k1
  have mt':=CS (F:=G.F i) k1
  have key:Rep (mrg (G.F i) (G.LL (R i).term) m.index.toNat) ((R i).base m.index m.logTerm m.aQ).log/\((R i).base m.index m.logTerm m.aQ).log.ix=m.index:=by
   unfold RS.base
   dsimp only
   by_cases q:(R i).log.mat m.index m.logTerm=true
   ·rw [if_pos q]
    obtain ⟨q1,q2,q3⟩:=(M.rep.mat p0).1 q
    have e:=M.lg.eqT (C.el.ll hl) m.index.toNat (by omega) q2 k1 (by rw [q3,k2])
    obtain ⟨_,r2,r3⟩:=M.rep.cut (p:=m.index) (by omega) (by omega)
    unfold mrg
    rw [if_pos ⟨q2,e⟩]
    exact ⟨r2,r3⟩
   ·rw [if_neg q]
    have:¬ (m.index.toNat<=(G.F i).length/\(G.F i).take m.index.toNat=(G.LL (R i).term).take m.index.toNat):=fun z=>q ((M.rep.mat p0).2 ⟨by omega,z.1,by rw [E8 z.2 (Nat.le_refl _),k2]⟩)
    unfold mrg
    rw [if_neg this]
    refine ⟨⟨p0,by show m.index.toNat<=_; rw [List.length_take]; omega,?_,?_⟩,rfl⟩
    ·show []=List.drop m.index.toNat _
     rw [List.drop_of_length_le (by rw [List.length_take]; omega)]
    ·show m.logTerm=tA _ m.index.toNat
     rw [tK (Nat.le_refl _),k2]
  obtain ⟨G',g1,g2,g3,_⟩:=C.merge i0 i1 h0 hl k1 k1 mt' key.1 (by rw [key.2]; exact Int.le_refl _) (by omega) (by rw [mt']; exact k3) (r:=r) (by
   refine ⟨h.me,h.n,h.term,h.aN,h.log,h.commit,h.role,h.ballot,h.next,h.has⟩)
  have ec:r.commit=m.index:=h.commit
  exact ⟨G',g1,g2,by omega,by rw [ec]; exact g3⟩
 ·rw [if_neg c] at h
  obtain ⟨G',g1,g2,g3,_⟩:=C.merge (q:=0) (a:=(R i).commit.toNat) (log:=(R i).log) (c:=(R i).commit) (r:=r) i0 i1 h0 hl (Nat.zero_le _) in2 (by rw [wh]; exact in1) (by rw [wh]; exact M.rep) c0 (by rw [wh]; exact c2) (by rw [wh]; exact M.cm) ⟨h.me,h.n,h.term,h.aN,h.log,h.commit,h.role,h.ballot,h.next,h.has⟩
  have ec:r.commit=(R i).commit:=h.commit
  exact ⟨G',g1,g2,by omega,by rw [ec]; exact g3⟩
/-! ### it cuts its log; it begins anew -/
theorem Core.cut (C:Core n B G R) (i0:0<=i) (i1:i < n) {x:Int} {s:List Int} (x0:0<=x):Core n B G (upd R i ((R i).mU x s).1)/\Gx G G i (R i).term/\((R i).mU x s).1.term=(R i).term:=by
 have M:=C.mi i i0 i1
 unfold RS.mU
 by_cases c1:x > (R i).commit
 ·rw [if_pos c1]; exact ⟨(C.same i0 i1 (Nat.le_refl _) M).1,Gx.refl M.v2,rfl⟩
 rw [if_neg c1]
 by_cases c2:((R i).log.aF x).2≠0
 ·rw [if_pos c2]; exact ⟨(C.same i0 i1 (Nat.le_refl _) M).1,Gx.refl M.v2,rfl⟩
 rw [if_neg c2]
 have c2':=Decidable.not_not.1 c2
 have xb:(R i).log.ix<=x/\x<=(G.F i).length:=by
  rw [M.rep.aF x0] at c2'
  have i0:=M.rep.i0
  split at c2'
  ·exact absurd c2' (by simp)
  ·split at c2'
   ·exact absurd c2' (by simp)
   ·omega
 have mt:(R i).log.mat x ((R i).log.aF x).1=true:=by unfold Lg.mat; simp [c2']
 obtain ⟨_,r2,r3⟩:=M.rep.cut xb.1 xb.2
 refine ⟨(C.same i0 i1 (Nat.le_refl _) (r:=(R i).base x ((R i).log.aF x).1 s) ?_).1,Gx.refl M.v2,rfl⟩
 have el:((R i).base x ((R i).log.aF x).1 s).log=((R i).log.cut x).1:=by unfold RS.base; dsimp only; rw [if_pos mt]
 exact { me:=M.me,rn:=M.rn,t0:=M.t0,rep:=by rw [el]; exact r2,lg:=M.lg,ft:=M.ft,v0:=M.v0,v1:=M.v1,v2:=M.v2,v3:=M.v3,v4:=M.v4,c1:=fun q=>(M.c1 q).eqv rfl rfl,l1:=fun q=>(M.l1 q).eqv rfl rfl rfl,rl:=M.rl,c0:=by rw [el,r3]; show x<=(R i).commit; omega,c2:=M.c2,cm:=M.cm,a1:=M.a1,a2:=M.a2,a3:=M.a3,a4:=M.a4,vi:=M.vi,bt:=M.bt,bf:=M.bf }
theorem Core.again (C:Core n B G R) (i0:0<=i) (i1:i < n) (s:List Int):Core n B G (upd R i (RS.start i n (R i).term (R i).aN (R i).log s))/\Gx G G i (R i).term:=by
 have M:=C.mi i i0 i1
 have c0:=M.c0
 have x0:=M.rep.i0
 refine ⟨(C.same i0 i1 (Nat.le_refl _) (r:=RS.start i n (R i).term (R i).aN (R i).log s) ?_).1,Gx.refl M.v2⟩
 have cm:Com n G (R i).term ((G.F i).take (R i).log.ix.toNat):=by
  have:=M.cm.take (R i).log.ix.toNat
  rw [List.take_take,Nat.min_eq_left (by omega)] at this
  exact this
 exact { me:=rfl,rn:=rfl,t0:=M.t0,rep:=M.rep,lg:=M.lg,ft:=M.ft,v0:=M.v0,v1:=M.v1,v2:=M.v2,v3:=M.v3,v4:=M.v4,c1:=fun q=>(by cases q),l1:=fun q=>(by cases q),rl:=.inl rfl,c0:=Int.le_refl _,c2:=by have:=M.c2; show (R i).log.ix<=_; omega,cm:=cm,a1:=M.a1,a2:=M.a2,a3:=M.a3,a4:=M.a4,vi:=M.vi,bt:=M.bt,bf:=M.bf }
/-! ### answers to entries -/
theorem Ga (x:Int):0<=W x:=by
 unfold W IntKind.wrap
 exact Int.emod_nonneg _ (by decide)
theorem Core.back (C:Core n B G R) (i0:0<=i) (i1:i < n) (hB:B<=50000000) (h2:(R i).role=2) {f:Int} {m:Msg} (f0:0<=f/\f < n):Core n B G (upd R i ((R i).back f m))/\Gx G G i (R i).term:=by
 have M:=C.mi i i0 i1
 have A:=M.l1 h2
 have bf:=M.bf
 refine ⟨(C.same i0 i1 (Nat.le_refl _) (r:=(R i).back f m) ?_).1,Gx.refl M.v2⟩
 refine { me:=M.me,rn:=M.rn,t0:=M.t0,rep:=M.rep,lg:=M.lg,ft:=M.ft,v0:=M.v0,v1:=M.v1,v2:=M.v2,v3:=M.v3,v4:=M.v4,c1:=fun q=>(M.c1 q).eqv rfl rfl,l1:=fun q=>?_,rl:=M.rl,c0:=M.c0,c2:=M.c2,cm:=M.cm,a1:=M.a1,a2:=M.a2,a3:=M.a3,a4:=M.a4,vi:=M.vi,bt:=M.bt,bf:=M.bf }
 refine ⟨A.ld,A.F,by show ((R i).next.set _ _).length=_; rw [List.length_set]; exact A.nl,A.hl,fun x hx=>?_,A.hs⟩
 rcases List.mem_or_eq_of_mem_set (show x∈(R i).next.set _ _ from hx) with hx | rfl
 ·exact A.nx x hx
 ·have hf:f.toNat < (R i).next.length:=by rw [A.nl]; omega
  have:=A.nx _ (List.getElem_mem hf)
  have e:(R i).next.getD f.toNat 0=(R i).next[f.toNat]:=by rw [List.getD_eq_getElem?_getD,List.getElem?_eq_getElem hf]; rfl
  rw [e,tN (x:=(R i).next[f.toNat] - 1) (by omega) (by omega)]
  have:=Ga (m.index + 1)
  omega
theorem Core.gD (C:Core n B G R) (i0:0<=i) (i1:i < n) (hB:B<=50000000) (h2:(R i).role=2) {f:Int} {m:Msg} (L:LI n G f i m) (mk:m.kind=4) (mt:m.term=(R i).term) (my:m.yes=true) (ml:m.index<=(R i).log.last):Core n B G (upd R i ((R i).gD f m))/\Gx G G i (R i).term/\((R i).gD f m).term=(R i).term/\((R i).gD f m).role=2:=by
 have M:=C.mi i i0 i1
 have A:=M.l1 h2
 have bf:=M.bf
 have f0:=L.fr
 obtain ⟨m0,m1⟩:=L.k4 mk my
 rw [mt] at m1
 rw [M.rep.last] at ml
 obtain ⟨r1,er⟩:∃ r1:RS,r1 = { R i with has:=(R i).has.set f.toNat (max ((R i).has.getD f.toNat 0) m.index),next:=(R i).next.set f.toNat (max ((R i).next.getD f.toNat 0) (W (m.index + 1))) }:=⟨_,rfl⟩
 have tr:r1.term=(R i).term:=by rw [er]
 have rr:r1.role=2:=by rw [er]; exact h2
 have M1:MI n B G i r1:=by
  rw [er]
  refine { me:=M.me,rn:=M.rn,t0:=M.t0,rep:=M.rep,lg:=M.lg,ft:=M.ft,v0:=M.v0,v1:=M.v1,v2:=M.v2,v3:=M.v3,v4:=M.v4,c1:=fun q=>(M.c1 q).eqv rfl rfl,l1:=fun q=>?_,rl:=M.rl,c0:=M.c0,c2:=M.c2,cm:=M.cm,a1:=M.a1,a2:=M.a2,a3:=M.a3,a4:=M.a4,vi:=M.vi,bt:=M.bt,bf:=M.bf }
  refine ⟨A.ld,A.F,by show ((R i).next.set _ _).length=_; rw [List.length_set]; exact A.nl,by show ((R i).has.set _ _).length=_; rw [List.length_set]; exact A.hl,fun x hx=>?_,fun k hk=>?_⟩
  ·rcases List.mem_or_eq_of_mem_set (show x∈(R i).next.set _ _ from hx) with hx | rfl
   ·exact A.nx x hx
   ·have hf:f.toNat < (R i).next.length:=by rw [A.nl]; omega
    have:=A.nx _ (List.getElem_mem hf)
    have e:(R i).next.getD f.toNat 0=(R i).next[f.toNat]:=by rw [List.getD_eq_getElem?_getD,List.getElem?_eq_getElem hf]; rfl
    rw [e,tN (x:=m.index + 1) (by omega) (by omega)]
    omega
  ·show 0<=((R i).has.set _ _).getD k 0/\((R i).has.set _ _).getD k 0<=(G.ak (R i).term k:Int)
   have hk':=A.hs k hk
   rw [List.getD_eq_getElem?_getD]
   by_cases c:f.toNat=k
   ·subst c
    rw [List.getElem?_set_self (by rw [A.hl]; omega)]
    show 0<=max _ m.index/\max _ m.index<=_
    rw [show ((f.toNat:Nat):Int)=f from by omega] at hk' ⊢
    omega
   ·rw [List.getElem?_set_ne c,← List.getD_eq_getElem?_getD]; exact hk'
 have C1:=(C.same i0 i1 (Nat.le_refl _) M1).1
 have S:=C1.settle i0 i1 (by rw [upd_same]; exact rr)
 rw [upd_same,tr] at S
 have e2:upd (upd R i r1) i r1.settle=upd R i r1.settle:=by
  funext k
  by_cases c:k=i
  ·subst c; rw [upd_same,upd_same]
  ·rw [aL c,aL c,aL c]
 rw [e2] at S
 have ef:(R i).gD f m=r1.settle:=by rw [er]; rfl
 rw [ef]
 exact S
end
end Go.Q.Rf
end
section
/- What a member's steps leave, plainly. -/
namespace Go.Q.Rf
namespace RS
/-- what a step leaves: who it is; its term and what is committed don't sink; little more is to be kept -/
structure Up (r r':RS) (d:Nat):Prop where
 n:r'.n=r.n
 me:r'.me=r.me
 t:r.term<=r'.term
 c:r.commit<=r'.commit
 k:r'.keeps.length<=r.keeps.length + d
 tk:r'.ticks<=max r.ticks 0
 ak:(r.role=1->∃ l,r.ballot=some l)->(r'.role=1->∃ l,r'.ballot=some l)
theorem Up.refl (r:RS) (c:Nat):Up r r c:=⟨rfl,rfl,Int.le_refl _,Int.le_refl _,Nat.le_add_right _ _,Int.le_max_left _ _,fun h=>h⟩
theorem Up.trans {a b d:RS} {x y:Nat} (p:Up a b x) (q:Up b d y):Up a d (x + y) :=
 ⟨q.n.trans p.n,q.me.trans p.me,Int.le_trans p.t q.t,Int.le_trans p.c q.c,by have:=p.k; have:=q.k; omega,by have:=p.tk; have:=q.tk; omega,fun h=>q.ak (p.ak h)⟩
theorem Up.mono {a b:RS} {x y:Nat} (p:Up a b x) (h:x<=y):Up a b y:=⟨p.n,p.me,p.t,p.c,by have:=p.k; omega,p.tk,p.ak⟩
variable {r:RS} {f:Int} {m:Msg}
theorem DL (t:Int):Up r (r.aK t) 1/\(r.aK t).role=r.role:=by
 unfold aK fq
 split
 ·exact ⟨⟨rfl,rfl,by dsimp only; omega,Int.le_refl _,by simp,Int.le_max_left _ _,fun h=>h⟩,rfl⟩
 ·exact ⟨Up.refl _ _,rfl⟩
theorem vw (t l:Int):Up r (r.follow t l) 1:=by
 have p:=(DL (r:=r) t).1
 exact ⟨p.n,p.me,p.t,p.c,p.k,p.tk,fun _ h=>by cases h⟩
theorem Fa:Up r (r.dZ f m) 1:=by
 have p:=vw (r:=r) m.term f
 exact ⟨p.n,p.me,p.t,p.c,p.k,by show (0:Int)<=_; omega,fun _ h=>by cases h⟩
theorem xq:Up r r.settle 0/\r.settle.term=r.term:=by
 unfold settle
 split
 ·rename_i h
  exact ⟨⟨rfl,rfl,Int.le_refl _,by dsimp only; omega,Nat.le_refl _,Int.le_max_left _ _,fun h=>h⟩,rfl⟩
 ·exact ⟨Up.refl _ _,rfl⟩
theorem Bn (cmd:List Int):Up r (r.put cmd).1 1/\(r.put cmd).1.term=r.term/\(r.put cmd).1.role=r.role:=by
 have hr:∀ x:RS,x.settle.role=x.role:=fun x=>by unfold settle; split <;> rfl
 unfold put
 split
 ·exact ⟨Up.refl _ _,rfl,rfl⟩
 ·refine ⟨?_,(xq).2,hr _⟩
  have p:=(xq (r:={ r with log:=(r.log.append r.log.last r.log.lastT [(r.term,cmd)]).1,keeps:=r.keeps ++ [⟨2,r.log.lastT,0,r.log.last,[(r.term,cmd)],[]⟩],has:=r.has.set r.me.toNat (r.log.append r.log.last r.log.lastT [(r.term,cmd)]).2.1 })).1
  have k:=p.k
  simp at k
  exact ⟨p.n,p.me,p.t,p.c,k,p.tk,p.ak⟩
theorem HY:Up r r.win.1 1/\r.win.1.term=r.term:=by
 unfold win
 split
 ·exact ⟨Up.refl _ _,rfl⟩
 ·obtain ⟨p,t,ro⟩:=Bn (r:=r.lead) []
  refine ⟨⟨p.n,p.me,p.t,p.c,p.k,by have:=p.tk; have e:r.lead.ticks=0:=rfl; rw [e] at this; show (r.lead.put []).1.ticks<=_; omega,fun _ h=>?_⟩,t⟩
  dsimp only at h
  rw [ro] at h
  cases h
theorem uH {i:Int} (h:i∈r.nodes):0<=i/\i < r.n/\i≠r.me:=by
 unfold nodes at h
 obtain ⟨h1,h2⟩:=List.mem_filter.1 h
 obtain ⟨j,hj,rfl⟩:=List.mem_map.1 h1
 simp at hj h2
 omega
/-- letters of a member: to others, in its term -/
def Lt (n me t:Int) (l:List gQ):Prop:=∀ x∈l,(0<=x.1/\x.1 < n/\x.1≠me)/\x.2.term=t
theorem Lt.nil (n me t:Int):Lt n me t []:=fun x h=>by cases h
theorem Lt.one {n me t:Int} {i:Int} {m:Msg} (h:0<=i/\i < n/\i≠me) (ht:m.term=t):Lt n me t [(i,m)]:=fun x hx=>by
 simp at hx; subst hx; exact ⟨h,ht⟩
theorem sD (g:Int->Msg) (hg:∀ i,(g i).term=r.term):Lt r.n r.me r.term (r.others g):=fun x hx=>by
 unfold others at hx
 obtain ⟨i,hi,rfl⟩:=List.mem_map.1 hx
 exact ⟨uH hi,hg i⟩
theorem lU (i:Int):(r.due i).term=r.term:=by
 unfold due; split <;> rfl
theorem BV:Lt r.n r.me r.win.1.term r.win.2:=by
 unfold win
 split
 ·exact Lt.nil _ _ _
 ·have h:=sD (r:=(r.lead.put []).1) (due (r.lead.put []).1) fun i=>lU i
  obtain ⟨p,_,_⟩:=Bn (r:=r.lead) []
  have e1:(r.lead.put []).1.n=r.n:=p.n
  have e2:(r.lead.put []).1.me=r.me:=p.me
  rw [e1,e2] at h
  exact h
theorem wM (f0:0<=f/\f < r.n/\f≠r.me):Up r (r.take2 f m).1 2/\Lt r.n r.me (r.take2 f m).1.term (r.take2 f m).2:=by
 unfold take2
 split
 ·-- a wish for a vote
  unfold lv
  split
  ·dsimp only
   split
   ·exact ⟨⟨rfl,rfl,Int.le_refl _,Int.le_refl _,by simp [fq],by show (0:Int)<=_; omega,fun h=>h⟩,Lt.one f0 rfl⟩
   ·exact ⟨⟨rfl,rfl,Int.le_refl _,Int.le_refl _,by simp,by show (0:Int)<=_; omega,fun h=>h⟩,Lt.one f0 rfl⟩
  ·exact ⟨Up.refl _ _,Lt.one f0 rfl⟩
 split
 ·-- a vote
  have c:Up r (r.counted f m) 0:=by
   unfold counted
   split
   ·rename_i h
    exact ⟨rfl,rfl,Int.le_refl _,Int.le_refl _,Nat.le_refl _,Int.le_max_left _ _,fun h hr=>by obtain ⟨l,el⟩:=h hr; exact ⟨_,by dsimp only; rw [el]; rfl⟩⟩
   ·exact Up.refl _ _
  have w:=BV (r:=r.counted f m)
  rw [c.n,c.me] at w
  exact ⟨(c.trans HY.1).mono (by omega),w⟩
 split
 ·-- entries
  unfold appends
  have p:=Fa (r:=r) (f:=f) (m:=m)
  have f1:0<=f/\f < r.n/\f≠r.me:=f0
  unfold mQ
  split
  ·exact ⟨p.mono (by omega),Lt.one f0 rfl⟩
  ·refine ⟨⟨p.n,p.me,p.t,?_,?_,p.tk,p.ak⟩,Lt.one f0 rfl⟩
   ·show r.commit<=max (r.dZ f m).commit _
    have:=p.c; omega
   ·have:=p.k
    show (if _ then _ else _:List rZ).length<=_
    split
    ·simp; omega
    ·omega
 split
 ·-- an answer to entries
  unfold appended
  split
  ·exact ⟨Up.refl _ _,Lt.nil _ _ _⟩
  split
  ·exact ⟨⟨rfl,rfl,Int.le_refl _,Int.le_refl _,by show r.keeps.length<=_; omega,Int.le_max_left _ _,fun h=>h⟩,Lt.one f0 (lU _)⟩
  split
  ·exact ⟨Up.refl _ _,Lt.nil _ _ _⟩
  ·have p:=(xq (r:={ r with has:=r.has.set f.toNat (max (r.has.getD f.toNat 0) m.index),next:=r.next.set f.toNat (max (r.next.getD f.toNat 0) (W (m.index + 1))) })).1
   have q:Up r (r.gD f m) 2:=⟨p.n,p.me,p.t,p.c,by have:=p.k; show _<=r.keeps.length + 2; exact Nat.le_trans this (by show r.keeps.length + 0<=_; omega),p.tk,p.ak⟩
   split
   ·exact ⟨q,Lt.one f0 (lU _)⟩
   ·exact ⟨q,Lt.nil _ _ _⟩
 ·-- a snapshot
  unfold dK
  have p:=Fa (r:=r) (f:=f) (m:=m)
  refine ⟨?_,Lt.one f0 rfl⟩
  unfold lV
  split
  ·rename_i h
   refine ⟨p.n,p.me,p.t,?_,?_,p.tk,p.ak⟩
   ·show r.commit<=m.index
    have:=p.c; omega
   ·have:=p.k
    show ((r.dZ f m).keeps ++ _).length<=_
    simp; omega
  ·exact p.mono (by omega)
theorem yj:Up r (r.take f m).1 3/\Lt r.n r.me (r.take f m).1.term (r.take f m).2/\((f < 0∨f>=r.n∨f=r.me∨m.kind < 1∨m.kind > 5)->r.take f m=(r,[])):=by
 unfold take
 split
 ·rename_i h
  exact ⟨Up.refl _ _,Lt.nil _ _ _,fun _=>rfl⟩
 ·rename_i h
  refine ⟨?_,?_,fun h2=>absurd h2 h⟩
  ·split
   ·exact Up.refl _ _
   ·split
    ·have p:=vw (r:=r) m.term (-1)
     exact (p.trans (wM (by rw [p.n,p.me]; omega)).1).mono (by omega)
    ·exact (wM (by omega)).1.mono (by omega)
  ·split
   ·unfold late answer
    split
    ·exact Lt.one (by omega) rfl
    ·split
     ·exact Lt.one (by omega) rfl
     ·exact Lt.nil _ _ _
   ·split
    ·have p:=vw (r:=r) m.term (-1)
     have q:=(wM (r:=r.follow m.term (-1)) (f:=f) (m:=m) (by rw [p.n,p.me]; omega)).2
     rw [p.n,p.me] at q
     exact q
    ·exact (wM (by omega)).2
theorem FW:r.nodes.length<=r.n.toNat:=by
 unfold nodes
 exact Nat.le_trans (List.length_filter_le _ _) (by simp)
theorem GI:r.win.2.length<=r.n.toNat:=by
 unfold win
 split
 ·simp
 ·obtain ⟨p,_,_⟩:=Bn (r:=r.lead) []
  have e1:(r.lead.put []).1.n=r.n:=p.n
  show (others _ _).length<=_
  unfold others
  rw [List.length_map,← e1]
  exact FW
theorem Au:(r.take2 f m).2.length<=r.n.toNat + 1:=by
 unfold take2
 split
 ·unfold lv answer
  split <;> simp
 split
 ·have:=GI (r:=r.counted f m)
  have e:(r.counted f m).n=r.n:=by unfold counted; split <;> rfl
  rw [e] at this
  omega
 split
 ·unfold appends mQ answer
  split <;> simp
 split
 ·unfold appended
  split
  ·simp
  split
  ·simp
  split
  ·simp
  split <;> simp
 ·simp [dK,answer]
theorem take_len:(r.take f m).2.length<=r.n.toNat + 1:=by
 unfold take
 split
 ·simp
 split
 ·unfold late answer
  split
  ·simp
  ·split <;> simp
 split
 ·have:=Au (r:=r.follow m.term (-1)) (f:=f) (m:=m)
  have p:=vw (r:=r) m.term (-1)
  rw [p.n] at this
  exact this
 ·exact Au
/-- a tick -/
theorem Ei:r.tick.1.n=r.n/\r.tick.1.me=r.me/\r.tick.1.keeps.length<=r.keeps.length + 3/\r.tick.1.ticks<=max r.ticks 0 + 1/\((r.role=1->∃ l,r.ballot=some l)->(r.tick.1.role=1->∃ l,r.tick.1.ballot=some l)):=by
 unfold tick
 split
 ·exact ⟨rfl,rfl,by simp,by dsimp only; omega,fun h=>h⟩
 split
 ·unfold dJ
  split
  ·exact ⟨rfl,rfl,by simp,by dsimp only; omega,fun h=>h⟩
  ·obtain ⟨p,_⟩:=HY (r:=asks { r with ticks:=r.ticks + 1 })
   have k:=p.k
   have e:(asks { r with ticks:=r.ticks + 1 }).keeps.length=r.keeps.length + 1:=by simp [asks,fq]
   have e2:(asks { r with ticks:=r.ticks + 1 }).ticks=0:=rfl
   have t:=p.tk
   rw [e] at k
   rw [e2] at t
   exact ⟨p.n,p.me,by dsimp only; omega,by dsimp only; omega,fun _=>p.ak fun _=>⟨_,rfl⟩⟩
 ·exact ⟨rfl,rfl,by simp,by dsimp only; omega,fun h=>h⟩
end RS
end Go.Q.Rf
end

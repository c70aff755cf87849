/- A part of the proof of statements of this seat: lemmas, no statement of their own. -/
import Derived.Test.YthjafnfadiijgaaYiZaw
set_option linter.unusedVariables false
set_option linter.unusedSimpArgs false
section
/- Steps of a member: a later term, a vote, a campaign, a ballot. -/
namespace Go.Q.Rf
section
variable {n:Int} {B:Nat} {G:Gh} {R:Int->RS} {i:Int} {r r':RS}
/-- what of a member counts here -/
structure Eqv (r r':RS):Prop where
 me:r'.me=r.me
 n:r'.n=r.n
 term:r'.term=r.term
 bR:r'.bR=r.bR
 log:r'.log=r.log
 commit:r'.commit=r.commit
 role:r'.role=r.role
 ballot:r'.ballot=r.ballot
 next:r'.next=r.next
 has:r'.has=r.has
theorem DC.eqv (c:DC n G i r) (h2:r'.term=r.term) (h3:r'.ballot=r.ballot):DC n G i r' :=
 ⟨by rw [h2]; exact c.ld,by rw [h2]; exact c.vt,by rw [h2,h3]; exact c.bl,by rw [h2]; exact c.cp,by rw [h2]; exact c.lt,by rw [h2]; exact c.t1⟩
theorem AQ.eqv (c:AQ n G i r) (h2:r'.term=r.term) (h3:r'.next=r.next) (h4:r'.has=r.has):AQ n G i r' :=
 ⟨by rw [h2]; exact c.ld,by rw [h2]; exact c.F,by rw [h3]; exact c.nl,by rw [h4]; exact c.hl,by rw [h3]; exact c.nx,by rw [h2,h4]; exact c.hs⟩
theorem MI.eqv (M:MI n B G i r) (e:Eqv r r'):MI n B G i r' :=
 { me:=e.me.trans M.me,rn:=e.n.trans M.rn,t0:=by rw [e.term]; exact M.t0,rep:=by rw [e.log]; exact M.rep,lg:=M.lg,ft:=by rw [e.term]; exact M.ft,v0:=by rw [e.bR]; exact M.v0,v1:=by rw [e.term,e.bR]; exact M.v1,v2:=by rw [e.term]; exact M.v2,v3:=by rw [e.term]; exact M.v3,v4:=M.v4,c1:=fun h=>(M.c1 (by rw [← e.role]; exact h)).eqv e.term e.ballot,l1:=fun h=>(M.l1 (by rw [← e.role]; exact h)).eqv e.term e.next e.has,rl:=by rw [e.role]; exact M.rl,c0:=by rw [e.log,e.commit]; exact M.c0,c2:=by rw [e.commit]; exact M.c2,cm:=by rw [e.term,e.commit]; exact M.cm,a1:=by rw [e.term]; exact M.a1,a2:=by rw [e.term]; exact M.a2,a3:=M.a3,vi:=M.vi,bt:=by rw [e.term]; exact M.bt,bf:=M.bf }
theorem MI.mono {B':Nat} (M:MI n B G i r) (h:B<=B'):MI n B' G i r:={ M with bt:=Int.le_trans M.bt (by omega),bf:=Nat.le_trans M.bf h }
theorem EL.mono {B':Nat} {T j:Int} (e:EL n B G T j) (h:B<=B'):EL n B' G T j:={ e with bd:=Nat.le_trans e.bd h }
/-- a step that turns nothing of what is not said -/
theorem Core.same (C:Core n B G R) (i0:0<=i) (i1:i < n) {B':Nat} (hB:B<=B') (M:MI n B' G i r):Core n B' G (upd R i r)/\Gx G G i r.term :=
 have X:Gx G G i r.term:=Gx.refl M.v2
 ⟨C.step i0 i1 X hB M fun T j h=>⟨fun h=>Nat.le_trans (C.el T j h).bd hB,fun q=>absurd h q⟩,X⟩
theorem ELs.le (E:ELs n B G) {c:Int} (h:G.ld c≠none) {x:Nat} (h1:1<=x) (h2:x<=(G.LL c).length):tA (G.LL c) x<=c:=by
 obtain ⟨j,hj⟩:=mh h
 have e:=E c j hj
 obtain ⟨es,ee,et⟩:=e.ex
 obtain ⟨a,ha,q⟩:=xz h1 h2
 rw [q]
 rw [ee] at ha
 rcases List.mem_append.1 ha with ha | ha
 ·have:=e.lt a ha; omega
 ·have:=et a ha; omega
/-- a log that has it ends with something as late -/
theorem EP (E:ELs n B G) {F:List Ent} (L:LG G F) {T:Int} {x:Nat} (o:own G T x) (h:F.take x=(G.LL T).take x):leC T x (tA F F.length,F.length):=by
 have ob:=o.b
 have oa:=o.a
 have xl:x<=F.length:=by
  have:=congrArg List.length h
  rw [List.length_take,List.length_take] at this; omega
 have tx:tA F x=T:=by rw [CX h (Nat.le_refl _)]; exact o.t
 obtain ⟨c,ec⟩:∃ c,c=tA F F.length:=⟨_,rfl⟩
 have lg:=L F.length (by omega) (Nat.le_refl _)
 rw [← ec] at lg ⊢
 rw [List.take_length] at lg
 have:T<=c:=by
  have h1:=E.le lg.2.1 oa (by omega)
  rw [← qC xl,← lg.2.2.2,tx] at h1
  exact h1
 unfold leC
 dsimp only
 omega
theorem leC.trans {T:Int} {x:Nat} {a b:Int × Nat} (h:leC T x a) (k:b.1 > a.1∨b.1=a.1/\b.2>=a.2):leC T x b:=by unfold leC at *; omega
/-! ### a later term -/
theorem Core.follow (C:Core n B G R) (i0:0<=i) (i1:i < n) {T l:Int} (h:(R i).term<=T) (hT:T<=B):Core n B G (upd R i ((R i).follow T l))/\Gx G G i T:=by
 have M:=C.mi i i0 i1
 have et:((R i).follow T l).term=T:=by
  unfold RS.follow RS.aR
  split
  ·rfl
  ·show (R i).term=T; omega
 have key:MI n B G i ((R i).follow T l):=by
  by_cases c:T > (R i).term
  ·have e:(R i).follow T l = { RS.fI { R i with term:=T,bR:=0 } with role:=0,leader:=l,ballot:=none }:=by unfold RS.follow RS.aR; rw [if_pos c]
   rw [e]
   exact { me:=M.me,rn:=M.rn,t0:=by show 0<=T; have:=M.t0; omega,rep:=M.rep,lg:=M.lg,ft:=fun x hx=>by have:=M.ft x hx; show x.1<=T; omega,v0:=.inl rfl,v1:=by show G.vt T i=if (0:Int)=0 then none else _; rw [if_pos rfl]; exact M.v2 T c,v2:=fun T2 h2=>M.v2 T2 (by have:T < T2:=h2; omega),v3:=fun T2 h2=>by have:=M.v3 T2 h2; show T2<=T; omega,v4:=M.v4,c1:=fun q=>(by cases q),l1:=fun q=>(by cases q),rl:=.inl rfl,c0:=M.c0,c2:=M.c2,cm:=M.cm.up (by show (R i).term<=T; omega),a1:=fun T2 h2=>M.a1 T2 (by have:T < T2:=h2; omega),a2:=fun T2 x hx o=>(M.a2 T2 x hx o).imp id fun q=>q.mono (by show (R i).term<=T; omega),a3:=M.a3,vi:=M.vi,bt:=hT,bf:=M.bf }
  ·have e:(R i).follow T l = { R i with role:=0,leader:=l,ballot:=none }:=by unfold RS.follow RS.aR; rw [if_neg c]
   rw [e]
   exact { me:=M.me,rn:=M.rn,t0:=M.t0,rep:=M.rep,lg:=M.lg,ft:=M.ft,v0:=M.v0,v1:=M.v1,v2:=M.v2,v3:=M.v3,v4:=M.v4,c1:=fun q=>(by cases q),l1:=fun q=>(by cases q),rl:=.inl rfl,c0:=M.c0,c2:=M.c2,cm:=M.cm,a1:=M.a1,a2:=M.a2,a3:=M.a3,vi:=M.vi,bt:=M.bt,bf:=M.bf }
 have:=C.same i0 i1 (Nat.le_refl _) key
 rw [et] at this
 exact this
/-! ### a vote -/
theorem Core.bR (C:Core n B G R) (i0:0<=i) (i1:i < n) {f:Int} {m:Msg} (L:LI n G f i m) (mk:m.kind=1) (mt:m.term=(R i).term) (ne:f≠i) (v:(R i).bR=0) (nw:(R i).log.newer m.index m.logTerm=true) (h:Eqv { R i with bR:=f + 1 } r) :
  ∃ G',Core n B G' (upd R i r)/\Gx G G' i (R i).term/\G'.vt (R i).term i=some f:=by
 have M:=C.mi i i0 i1
 have hn:G.vt (R i).term i=none:=by rw [M.v1,if_pos v]
 obtain ⟨G',eG⟩:∃ G':Gh,G' = { G with vt:=fun T k=>if T=(R i).term/\k=i then some f else G.vt T k }:=⟨_,rfl⟩
 have vt1:G'.vt (R i).term i=some f:=by rw [eG]; exact if_pos ⟨rfl,rfl⟩
 have vt2:∀ T k,¬ (T=(R i).term/\k=i)->G'.vt T k=G.vt T k:=fun T k q=>by rw [eG]; exact if_neg q
 have vx:∀ T k j,G.vt T k=some j->G'.vt T k=some j:=fun T k j q=>by
  by_cases c:T=(R i).term/\k=i
  ·obtain ⟨rfl,rfl⟩:=c; rw [hn] at q; cases q
  ·rw [vt2 T k c]; exact q
 have X:Gx G G' i (R i).term:=by
  refine ⟨fun _ _ h=>by rw [eG]; exact h,fun _ _ h=>.inl (by rw [eG] at h; exact h),fun _ _=>by rw [eG],fun _ _=>⟨[],by rw [eG]; simp,by simp⟩,fun _ _ _=>by rw [eG],vx,fun T k hk=>vt2 T k fun q=>hk q.2,fun T hT=>?_,fun _ _ _=>by rw [eG],fun _ _=>by rw [eG]; exact Nat.le_refl _,fun _ _ _=>by rw [eG],fun _ _=>by rw [eG]⟩
  rw [vt2 T i fun q=>by omega]; exact M.v2 T hT
 obtain ⟨k1,k2,k3⟩:=L.k1 mk
 rw [mt] at k1 k2
 have eF:G'.F=G.F:=by rw [eG]
 have eL:G'.LL=G.LL:=by rw [eG]
 have ed:G'.ld=G.ld:=by rw [eG]
 have ea:G'.ak=G.ak:=by rw [eG]
 have ec:G'.cp=G.cp:=by rw [eG]
 have ow:∀ {T x},own G' T x->own G T x:=fun o=>⟨by rw [← ed]; exact o.l,o.a,by rw [← eL]; exact o.b,by rw [← eL]; exact o.t⟩
 have MI':MI n B G' i r:=by
  refine MI.eqv ?_ h
  refine { me:=M.me,rn:=M.rn,t0:=M.t0,rep:=by rw [eF]; exact M.rep,lg:=by rw [eF]; exact X.lg M.lg,ft:=by rw [eF]; exact M.ft,v0:=.inr (by have:=L.fr; show 1<=f + 1/\f + 1<=n; omega),v1:=?_,v2:=fun T hT=>?_,v3:=by rw [ed]; exact M.v3,v4:=fun T j hj=>?_,c1:=fun q=>?_,l1:=fun q=>?_,rl:=M.rl,c0:=M.c0,c2:=by rw [eF]; exact M.c2,cm:=by rw [eF]; exact X.com M.cm,a1:=by rw [ea]; exact M.a1,a2:=fun T x hx o=>?_,a3:=by rw [ea,eL,ed]; exact M.a3,vi:=fun T' T j x hv hT hx o=>?_,bt:=M.bt,bf:=by rw [eF]; exact M.bf }
  ·show G'.vt (R i).term i=if f + 1=0 then none else some (f + 1 - 1)
   rw [vt1,if_neg (by have:=L.fr; omega)]; congr 1; omega
  ·exact X.v2 T hT
  ·by_cases c:T=(R i).term
   ·subst c
    rw [vt1] at hj; cases hj
    exact vx _ _ _ k1
   ·rw [vt2 T i fun q=>c q.1] at hj
    exact vx _ _ _ (M.v4 T j hj)
  ·have:=(M.c1 q).vt
   rw [hn] at this; cases this
  ·have c:=M.l1 q
   exact ⟨by rw [ed]; exact c.ld,by rw [eF,eL]; exact c.F,c.nl,c.hl,by rw [eF]; exact c.nx,by rw [ea]; exact c.hs⟩
  ·rw [ea] at hx
   rw [eF,eL]
   exact (M.a2 T x hx (ow o)).imp id (X.lacks (ow o))
  ·rw [ea] at hx
   rw [ec]
   have o':=ow o
   by_cases c:T'=(R i).term
   ·subst c
    rw [vt1] at hv; cases hv
    rcases M.a2 T x hx o' with q | q
    ·left
     rw [k2]
     refine (EP C.el M.lg o' q).trans ?_
     unfold Lg.newer at nw
     rw [M.rep.last,M.rep.lastT] at nw
     simp only [Bool.or_eq_true,decide_eq_true_eq,Bool.and_eq_true,beq_iff_eq] at nw
     dsimp only
     omega
    ·exact .inr (X.lacks o' q)
   ·rw [vt2 T' i fun q=>c q.1] at hv
    exact (M.vi T' T j x hv hT hx o').imp id (X.lacks o')
 have tr:r.term=(R i).term:=h.term
 refine ⟨G',?_,X,vt1⟩
 refine C.step i0 i1 (by rw [tr]; exact X) (Nat.le_refl _) MI' fun T j hj=>⟨fun hj=>by rw [eL]; exact (C.el T j hj).bd,fun q=>absurd (by rw [ed] at hj; exact hj) q⟩
/-! ### a campaign -/
theorem Core.asks (C:Core n B G R) (i0:0<=i) (i1:i < n) (hB:(B:Int)<=100000000):∃ G',Core n (B + 1) G' (upd R i (R i).asks)/\Gx G G' i ((R i).term + 1)/\(R i).asks.term=(R i).term + 1/\G'.vt ((R i).term + 1) i=some i/\G'.cp ((R i).term + 1) i=(tA (G.F i) (G.F i).length,(G.F i).length)/\G'.F i=G.F i:=by
 have M:=C.mi i i0 i1
 have t0:=M.t0
 have bt:=M.bt
 obtain ⟨t,et⟩:∃ t,t=(R i).term + 1:=⟨_,rfl⟩
 have wt:W ((R i).term + 1)=t:=by rw [et]; exact wo (by omega) (by omega)
 have hn:G.vt t i=none:=M.v2 t (by omega)
 obtain ⟨G',eG⟩:∃ G':Gh,G' = { G with vt:=fun T k=>if T=t/\k=i then some i else G.vt T k,cp:=fun T k=>if T=t/\k=i then (tA (G.F i) (G.F i).length,(G.F i).length) else G.cp T k }:=⟨_,rfl⟩
 have vt1:G'.vt t i=some i:=by rw [eG]; exact if_pos ⟨rfl,rfl⟩
 have cp1:G'.cp t i=(tA (G.F i) (G.F i).length,(G.F i).length):=by rw [eG]; exact if_pos ⟨rfl,rfl⟩
 have vt2:∀ T k,¬ (T=t/\k=i)->G'.vt T k=G.vt T k:=fun T k q=>by rw [eG]; exact if_neg q
 have cp2:∀ T k,¬ (T=t/\k=i)->G'.cp T k=G.cp T k:=fun T k q=>by rw [eG]; exact if_neg q
 have vx:∀ T k j,G.vt T k=some j->G'.vt T k=some j:=fun T k j q=>by
  by_cases c:T=t/\k=i
  ·obtain ⟨rfl,rfl⟩:=c; rw [hn] at q; cases q
  ·rw [vt2 T k c]; exact q
 have X:Gx G G' i t:=by
  refine ⟨fun _ _ h=>by rw [eG]; exact h,fun _ _ h=>.inl (by rw [eG] at h; exact h),fun _ _=>by rw [eG],fun _ _=>⟨[],by rw [eG]; simp,by simp⟩,fun _ _ _=>by rw [eG],vx,fun T k hk=>vt2 T k fun q=>hk q.2,fun T hT=>?_,fun T j hj=>cp2 T j fun q=>?_,fun _ _=>by rw [eG]; exact Nat.le_refl _,fun _ _ _=>by rw [eG],fun _ _=>by rw [eG]⟩
  ·rw [vt2 T i fun q=>by omega]; exact M.v2 T (by omega)
  ·obtain ⟨rfl,rfl⟩:=q; rw [hn] at hj; cases hj
 have eF:G'.F=G.F:=by rw [eG]
 have eL:G'.LL=G.LL:=by rw [eG]
 have ed:G'.ld=G.ld:=by rw [eG]
 have ea:G'.ak=G.ak:=by rw [eG]
 have ow:∀ {T x},own G' T x->own G T x:=fun o=>⟨by rw [← ed]; exact o.l,o.a,by rw [← eL]; exact o.b,by rw [← eL]; exact o.t⟩
 have ta:(R i).asks.term=t:=wt
 have MI':MI n (B + 1) G' i (R i).asks:=by
  refine { me:=M.me,rn:=M.rn,t0:=by rw [ta]; omega,rep:=by rw [eF]; exact M.rep,lg:=by rw [eF]; exact X.lg M.lg,ft:=fun e he=>by rw [eF] at he; have:=M.ft e he; rw [ta]; omega,v0:=.inr ?_,v1:=?_,v2:=fun T hT=>X.v2 T (by rw [ta] at hT; exact hT),v3:=fun T hT=>by rw [ed] at hT; have:=M.v3 T hT; rw [ta]; omega,v4:=fun T j hj=>?_,c1:=fun q=>?_,l1:=fun q=>(by cases q),rl:=.inr (.inl rfl),c0:=M.c0,c2:=by rw [eF]; exact M.c2,cm:=by rw [eF]; exact (X.com M.cm).up (by rw [ta]; omega),a1:=fun T hT=>by rw [ea]; exact M.a1 T (by rw [ta] at hT; omega),a2:=fun T x hx o=>?_,a3:=by rw [ea,eL,ed]; exact M.a3,vi:=fun T' T j x hv hT hx o=>?_,bt:=by rw [ta]; omega,bf:=by rw [eF]; have:=M.bf; omega }
  ·show 1<=(R i).me + 1/\(R i).me + 1<=n
   rw [M.me]; omega
  ·rw [ta]
   show G'.vt t i=if (R i).me + 1=0 then none else some ((R i).me + 1 - 1)
   rw [vt1,M.me,if_neg (by omega)]; congr 1; omega
  ·by_cases c:T=t
   ·subst c
    rw [vt1] at hj; cases hj; exact vt1
   ·rw [vt2 T i fun q=>c q.1] at hj
    exact vx _ _ _ (M.v4 T j hj)
  ·refine ⟨?_,by rw [ta]; exact vt1,⟨[i],?_,by simp,fun k hk=>?_⟩,by rw [ta,eF]; exact cp1,fun e he=>?_,by rw [ta]; omega⟩
   ·rw [ta,ed]
    intro h
    have:=M.v3 t h; omega
   ·show some [(R i).me]=some [i]
    rw [M.me]
   ·simp at hk; subst hk
    exact ⟨⟨i0,i1⟩,by rw [ta]; exact vt1⟩
   ·rw [eF] at he
    have:=M.ft e he
    rw [ta]; omega
  ·rw [ea] at hx
   rw [eF,eL,ta]
   exact (M.a2 T x hx (ow o)).imp id fun q=>(X.lacks (ow o) q).mono (by omega)
  ·rw [ea] at hx
   have o':=ow o
   by_cases c:T'=t
   ·subst c
    rw [vt1] at hv; cases hv
    rw [cp1]
    rcases M.a2 T x hx o' with q | q
    ·exact .inl (EP C.el M.lg o' q)
    ·exact .inr ((X.lacks o' q).mono (by omega))
   ·rw [vt2 T' i fun q=>c q.1] at hv
    rw [cp2 T' j fun q=>c q.1]
    exact (M.vi T' T j x hv hT hx o').imp id (X.lacks o')
 rw [← et]
 refine ⟨G',C.step i0 i1 (by rw [ta]; exact X) (by omega) MI' fun T j hj=>⟨fun hj=>by rw [eL]; have:=(C.el T j hj).bd; omega,fun q=>absurd (by rw [ed] at hj; exact hj) q⟩,X,ta,vt1,cp1,by rw [eF]⟩
/-! ### one more says yes -/
theorem Core.counted (C:Core n B G R) (i0:0<=i) (i1:i < n) {f:Int} {m:Msg} (L:LI n G f i m) (mk:m.kind=2) (mt:m.term=(R i).term):Core n B G (upd R i ((R i).counted f m))/\Gx G G i (R i).term/\((R i).counted f m).term=(R i).term:=by
 have M:=C.mi i i0 i1
 unfold RS.counted
 by_cases c:(R i).role=1/\m.yes=true
 ·rw [if_pos c]
  have hv:=L.k2 mk c.2
  rw [mt] at hv
  refine ⟨(C.same i0 i1 (Nat.le_refl _) (r:={ R i with ballot:=(R i).ballot.map fun l=>RS.say l f (R i).n }) ?_).1,Gx.refl M.v2,rfl⟩
  refine { me:=M.me,rn:=M.rn,t0:=M.t0,rep:=M.rep,lg:=M.lg,ft:=M.ft,v0:=M.v0,v1:=M.v1,v2:=M.v2,v3:=M.v3,v4:=M.v4,c1:=fun q=>?_,l1:=fun q=>?_,rl:=M.rl,c0:=M.c0,c2:=M.c2,cm:=M.cm,a1:=M.a1,a2:=M.a2,a3:=M.a3,vi:=M.vi,bt:=M.bt,bf:=M.bf }
  ·have a:=M.c1 c.1
   obtain ⟨l,l1,l2,l3⟩:=a.bl
   refine ⟨a.ld,a.vt,⟨RS.say l f (R i).n,by show (R i).ballot.map _=_; rw [l1]; rfl,?_,?_⟩,a.cp,a.lt,a.t1⟩
   ·unfold RS.say
    split
    ·exact l2
    ·rename_i h
     rw [List.nodup_append]
     exact ⟨l2,by simp,fun x hx y hy=>by rw [List.mem_singleton] at hy; subst hy; intro e; subst e; exact h (.inr (.inr hx))⟩
   ·intro k hk
    unfold RS.say at hk
    split at hk
    ·exact l3 k hk
    ·rcases List.mem_append.1 hk with hk | hk
     ·exact l3 k hk
     ·simp at hk; subst hk
      exact ⟨L.fr,hv⟩
  ·have:(R i).role=2:=q
   omega
 ·rw [if_neg c]
  refine ⟨?_,Gx.refl M.v2,rfl⟩
  exact (C.same i0 i1 (Nat.le_refl _) M).1
end
end Go.Q.Rf
end
section
/- Steps of a member: it leads, puts, settles, takes answers. -/
namespace Go.Q.Rf
section
variable {n:Int} {B:Nat} {G:Gh} {R:Int->RS} {i:Int} {r r':RS}
/-! ### it leads -/
theorem Core.lead (C:Core n B G R) (i0:0<=i) (i1:i < n) (hB:(B:Int)<=100000000) (h1:(R i).role=1) (hw:(R i).won=true):∃ G',Core n B G' (upd R i (R i).lead)/\Gx G G' i (R i).term:=by
 have M:=C.mi i i0 i1
 have A:=M.c1 h1
 have t0:=M.t0
 obtain ⟨l,l1,l2,l3⟩:=A.bl
 obtain ⟨t,et⟩:∃ t,t=(R i).term:=⟨_,rfl⟩
 rw [← et] at l3
 have lw:n / 2 + 1<=(l.length:Int):=by
  unfold RS.won at hw
  rw [l1] at hw
  have:=of_decide_eq_true hw
  rw [M.rn] at this; omega
 have hn:G.ld t=none:=by
  cases hl:G.ld t with
  | none=>rfl
  | some j =>
   exfalso
   have e:=C.el t j hl
   obtain ⟨x,_,_,x1,x2⟩:=e.q.meet (by have:=e.r; omega) (⟨l,l2,l3,lw⟩:Maj n fun k=>G.vt t k=some i)
   rw [x1.1] at x2
   have:j=i:=Option.some.inj x2
   subst this
   exact A.ld (by rw [← et]; exact hl)
 have ak0:G.ak t i=0:=by
  by_cases c:G.ak t i=0
  ·exact c
  ·exact absurd hn ((M.a3 t).2 (by omega))
 obtain ⟨G',eG⟩:∃ G':Gh,G' = { G with ld:=fun T=>if T=t then some i else G.ld T,CL:=fun T=>if T=t then G.F i else G.CL T,LL:=fun T=>if T=t then G.F i else G.LL T,ak:=fun T k=>if T=t/\k=i then (G.F i).length else G.ak T k }:=⟨_,rfl⟩
 have ld1:G'.ld t=some i:=by rw [eG]; exact if_pos rfl
 have ld2:∀ T,T≠t->G'.ld T=G.ld T:=fun T q=>by rw [eG]; exact if_neg q
 have cl1:G'.CL t=G.F i:=by rw [eG]; exact if_pos rfl
 have cl2:∀ T,T≠t->G'.CL T=G.CL T:=fun T q=>by rw [eG]; exact if_neg q
 have ll1:G'.LL t=G.F i:=by rw [eG]; exact if_pos rfl
 have ll2:∀ T,T≠t->G'.LL T=G.LL T:=fun T q=>by rw [eG]; exact if_neg q
 have ak1:G'.ak t i=(G.F i).length:=by rw [eG]; exact if_pos ⟨rfl,rfl⟩
 have ak2:∀ T k,¬ (T=t/\k=i)->G'.ak T k=G.ak T k:=fun T k q=>by rw [eG]; exact if_neg q
 have eF:G'.F=G.F:=by rw [eG]
 have ev:G'.vt=G.vt:=by rw [eG]
 have ec:G'.cp=G.cp:=by rw [eG]
 have net:∀ {T},G.ld T≠none->T≠t:=fun h q=>h (by rw [q]; exact hn)
 have X:Gx G G' i t:=by
  refine ⟨fun T j h=>?_,fun T j h=>?_,fun T h=>cl2 T (net h),fun T h=>⟨[],by rw [ll2 T (net h)]; simp,by simp⟩,fun T h _=>ll2 T (net h),fun _ _ _ h=>by rw [ev]; exact h,fun _ _ _=>by rw [ev],fun T hT=>by rw [ev]; exact M.v2 T (by rw [← et]; exact hT),fun _ _ _=>by rw [ec],fun T k=>?_,fun T k q=>ak2 T k fun e=>q.elim (fun q=>q e.1) fun q=>q e.2,fun _ _=>by rw [eF]⟩
  ·rw [ld2 T (fun q=>by rw [q,hn] at h; cases h)]; exact h
  ·by_cases c:T=t
   ·subst c; rw [ld1] at h; cases h; exact .inr ⟨rfl,rfl⟩
   ·rw [ld2 T c] at h; exact .inl h
  ·by_cases c:T=t/\k=i
   ·obtain ⟨rfl,rfl⟩:=c; rw [ak0]; exact Nat.zero_le _
   ·rw [ak2 T k c]; exact Nat.le_refl _
 -- no entry of what it has is of the term
 have noT:∀ {x},¬ own G' t x:=fun {x} o=>by
  have ob:=o.b
  have ot:=o.t
  rw [ll1] at ob ot
  obtain ⟨a,ha,q⟩:=xz o.a ob
  have:=A.lt a ha
  rw [← et] at this
  omega
 have ow:∀ {T x},own G' T x->T≠t/\own G T x:=fun {T x} o=>by
  have c:T≠t:=fun q=>by subst q; exact noT o
  have hl:=o.l
  rw [ld2 T c] at hl
  exact ⟨c,hl,o.a,by have:=o.b; rw [ll2 T c] at this; exact this,by have:=o.t; rw [ll2 T c] at this; exact this⟩
 have last:(R i).log.last=(G.F i).length:=M.rep.last
 have bf:=M.bf
 have wl:W ((R i).log.last + 1)=(G.F i).length + 1:=by rw [last]; exact wo (by omega) (by omega)
 have tl:(R i).lead.term=t:=et.symm
 have MI':MI n B G' i (R i).lead:=by
  refine { me:=M.me,rn:=M.rn,t0:=M.t0,rep:=by rw [eF]; exact M.rep,lg:=by rw [eF]; exact X.lg M.lg,ft:=by rw [eF]; exact M.ft,v0:=M.v0,v1:=by rw [ev]; exact M.v1,v2:=by rw [ev]; exact M.v2,v3:=fun T h=>?_,v4:=by rw [ev]; exact M.v4,c1:=fun q=>(by cases q),l1:=fun _=>?_,rl:=.inr (.inr rfl),c0:=M.c0,c2:=by rw [eF]; exact M.c2,cm:=by rw [eF]; exact X.com M.cm,a1:=fun T h=>?_,a2:=fun T x hx o=>?_,a3:=fun T=>?_,vi:=fun T' T j x hv hT hx o=>?_,bt:=M.bt,bf:=by rw [eF]; exact M.bf }
  ·by_cases c:T=t
   ·rw [c,tl]; exact Int.le_refl _
   ·rw [ld2 T c] at h; exact M.v3 T h
  ·refine ⟨by rw [tl]; exact ld1,by rw [tl,eF,ll1],?_,?_,fun x hx=>?_,fun k hk=>?_⟩
   ·show (List.replicate (R i).n.toNat _).length=_
    rw [List.length_replicate,M.rn]
   ·show ((List.replicate (R i).n.toNat (0:Int)).set _ _).length=_
    rw [List.length_set,List.length_replicate,M.rn]
   ·have:=(List.mem_replicate.1 (show x∈List.replicate (R i).n.toNat (W ((R i).log.last + 1)) from hx)).2
    rw [eF,this,wl]; omega
   ·rw [tl]
    show 0<=((List.replicate (R i).n.toNat (0:Int)).set (R i).me.toNat (R i).log.last).getD k 0/\((List.replicate (R i).n.toNat (0:Int)).set (R i).me.toNat (R i).log.last).getD k 0<=_
    rw [M.me,M.rn,last,List.getD_eq_getElem?_getD]
    by_cases c:i.toNat=k
    ·subst c
     rw [List.getElem?_set_self (by rw [List.length_replicate]; omega)]
     show 0<=((G.F i).length:Int)/\((G.F i).length:Int)<=_
     rw [show ((i.toNat:Nat):Int)=i from by omega,ak1]
     omega
    ·rw [List.getElem?_set_ne c]
     have:((List.replicate n.toNat (0:Int))[k]?).getD 0=0:=by
      rw [List.getElem?_replicate]; split <;> rfl
     rw [this]; omega
  ·have hT:t < T:=by rw [tl] at h; exact h
   rw [ak2 T i fun q=>by omega]; exact M.a1 T (by rw [← et]; exact hT)
  ·obtain ⟨c,o'⟩:=ow o
   rw [ak2 T i fun q=>c q.1] at hx
   rw [eF,ll2 T c]
   exact (M.a2 T x hx o').imp id (X.lacks o')
  ·by_cases c:T=t
   ·subst c; rw [ak1,ll1,ld1]; exact ⟨Nat.le_refl _,fun _=>by simp⟩
   ·rw [ak2 T i fun q=>c q.1,ll2 T c,ld2 T c]; exact M.a3 T
  ·obtain ⟨c,o'⟩:=ow o
   rw [ak2 T i fun q=>c q.1] at hx
   rw [ev] at hv
   rw [ec]
   exact (M.vi T' T j x hv hT hx o').imp id (X.lacks o')
 rw [← et]
 refine ⟨G',C.step i0 i1 (by rw [tl]; exact X) (Nat.le_refl _) MI' fun T j hj=>⟨fun hj=>?_,fun hj'=>?_⟩,X⟩
 ·rw [ll2 T (net (by rw [hj]; simp))]; exact (C.el T j hj).bd
 ·by_cases c:T=t
  ·subst c
   rw [ld1] at hj; cases hj
   refine ⟨by have:=A.t1; omega,⟨i0,i1⟩,⟨l,l2,fun k hk=>⟨(l3 k hk).1,by rw [ev]; exact (l3 k hk).2,fun T0 x hT hx o=>?_⟩,lw⟩,by rw [cl1]; exact X.lg M.lg,fun e he=>by rw [cl1] at he; have:=A.lt e he; omega,⟨[],by rw [cl1,ll1]; simp,by simp⟩,by rw [ll1]; exact M.bf⟩
   obtain ⟨c,o'⟩:=ow o
   rw [ak2 T0 k fun q=>c q.1] at hx
   rw [cl1]
   rcases (C.mi k (l3 k hk).1.1 (l3 k hk).1.2).vi T T0 i x (l3 k hk).2 hT hx o' with q | ⟨T2,a,b,c2,d⟩
   ·left
    have:=A.cp
    rw [← et] at this
    rw [this] at q; exact q
   ·right
    have:T2≠T:=net c2
    exact X.lacks o' ⟨T2,a,by omega,c2,d⟩
  ·rw [ld2 T c] at hj; exact absurd hj hj'
/-! ### it puts an entry behind its own -/
theorem zU {F:List Ent} {l:Lg} (Rp:Rep F l) (e:Ent) (bd:F.length<=1000000) (ok:(l.append l.last l.lastT [e]).2.2=0):Rep (F ++ [e]) (l.append l.last l.lastT [e]).1/\(l.append l.last l.lastT [e]).1.ix=l.ix/\(l.append l.last l.lastT [e]).2.1=F.length + 1:=by
 rw [Rp.last] at ok ⊢
 have i1:=Rp.i1
 obtain ⟨F',h1,h2,h3,h4,_⟩:=Rp.append (X:=F ++ [e]) (p:=F.length) (t:=l.lastT) (more:=[e]) (fun k x hx=>by
  cases k with
  | zero=>simp at hx; subst hx; simp
  | succ k=>simp at hx) (by simp) (by simp; omega) (fun k _ h2 _ _=>(List.take_append_of_le_length h2).symm) (List.take_append_of_le_length i1).symm (by rw [ut (Nat.le_refl _),Rp.lastT]) ok
 have:F'=F ++ [e]:=by
  rw [h4]
  simp only [List.length_singleton]
  rw [if_neg (by omega)]
  unfold mrg
  rw [if_neg (by omega),List.take_of_length_le (by simp)]
 rw [this] at h1
 exact ⟨h1,h2,by rw [h3]; simp⟩
theorem Core.put (C:Core n B G R) (i0:0<=i) (i1:i < n) (hB:(B:Int)<=1000000) (h2:(R i).role=2) {cmd:List Int} (ok:((R i).log.append (R i).log.last (R i).log.lastT [((R i).term,cmd)]).2.2=0)
  (h:Eqv { R i with log:=((R i).log.append (R i).log.last (R i).log.lastT [((R i).term,cmd)]).1,has:=(R i).has.set (R i).me.toNat ((R i).log.append (R i).log.last (R i).log.lastT [((R i).term,cmd)]).2.1 } r) :
  ∃ G',Core n (B + 1) G' (upd R i r)/\Gx G G' i (R i).term:=by
 have M:=C.mi i i0 i1
 have A:=M.l1 h2
 have bf:=M.bf
 obtain ⟨t,et⟩:∃ t,t=(R i).term:=⟨_,rfl⟩
 have ALd:=A.ld
 have AF:=A.F
 rw [← et] at ALd AF
 obtain ⟨r1,r2,r3⟩:=zU M.rep ((R i).term,cmd) (by omega) ok
 obtain ⟨e,ee⟩:∃ e:Ent,e=((R i).term,cmd):=⟨_,rfl⟩
 have e1:e.1=t:=by rw [ee,et]
 rw [← ee] at r1 r2 r3 h
 obtain ⟨G',eG⟩:∃ G':Gh,G' = { G with F:=fun k=>if k=i then G.F i ++ [e] else G.F k,LL:=fun T=>if T=t then G.F i ++ [e] else G.LL T,ak:=fun T k=>if T=t/\k=i then (G.F i).length + 1 else G.ak T k }:=⟨_,rfl⟩
 have F1:G'.F i=G.F i ++ [e]:=by rw [eG]; exact if_pos rfl
 have F2:∀ k,k≠i->G'.F k=G.F k:=fun k q=>by rw [eG]; exact if_neg q
 have ll1:G'.LL t=G.F i ++ [e]:=by rw [eG]; exact if_pos rfl
 have ll2:∀ T,T≠t->G'.LL T=G.LL T:=fun T q=>by rw [eG]; exact if_neg q
 have ak1:G'.ak t i=(G.F i).length + 1:=by rw [eG]; exact if_pos ⟨rfl,rfl⟩
 have ak2:∀ T k,¬ (T=t/\k=i)->G'.ak T k=G.ak T k:=fun T k q=>by rw [eG]; exact if_neg q
 have ev:G'.vt=G.vt:=by rw [eG]
 have ec:G'.cp=G.cp:=by rw [eG]
 have ed:G'.ld=G.ld:=by rw [eG]
 have eC:G'.CL=G.CL:=by rw [eG]
 have ldn:G.ld t≠none:=by rw [ALd]; simp
 have akt:=(M.a3 t).1
 rw [← AF] at akt
 have X:Gx G G' i t:=by
  refine ⟨fun _ _ h=>by rw [ed]; exact h,fun _ _ h=>.inl (by rw [ed] at h; exact h),fun _ _=>by rw [eC],fun T h=>?_,fun T h q=>ll2 T fun c=>q (by rw [c]; exact ALd),fun _ _ _ h=>by rw [ev]; exact h,fun _ _ _=>by rw [ev],fun T hT=>by rw [ev]; exact M.v2 T (by rw [← et]; exact hT),fun _ _ _=>by rw [ec],fun T k=>?_,fun T k q=>ak2 T k fun e=>q.elim (fun q=>q e.1) fun q=>q e.2,F2⟩
  ·by_cases c:T=t
   ·subst c; exact ⟨[e],by rw [ll1,AF],fun x hx=>by simp at hx; subst hx; exact e1⟩
   ·exact ⟨[],by rw [ll2 T c]; simp,by simp⟩
  ·by_cases c:T=t/\k=i
   ·obtain ⟨rfl,rfl⟩:=c; rw [ak1]; omega
   ·rw [ak2 T k c]; exact Nat.le_refl _
 have tr:r.term=t:=h.term.trans et.symm
 have ow:∀ {T x},own G' T x->T≠t->own G T x:=fun {T x} o c=>by
  exact ⟨by rw [← ed]; exact o.l,o.a,by rw [← ll2 T c]; exact o.b,by rw [← ll2 T c]; exact o.t⟩
 have MI':MI n (B + 1) G' i r:=by
  refine MI.eqv ?_ h
  refine { me:=M.me,rn:=M.rn,t0:=M.t0,rep:=by rw [F1]; exact r1,lg:=?_,ft:=?_,v0:=M.v0,v1:=by rw [ev]; exact M.v1,v2:=by rw [ev]; exact M.v2,v3:=by rw [ed]; exact M.v3,v4:=by rw [ev]; exact M.v4,c1:=fun q=>?_,l1:=fun _=>?_,rl:=M.rl,c0:=?_,c2:=?_,cm:=?_,a1:=fun T hT=>?_,a2:=fun T x hx o=>?_,a3:=fun T=>?_,vi:=fun T' T j x hv hT hx o=>?_,bt:=by have:=M.bt; show (R i).term<=_; omega,bf:=by rw [F1]; simp; exact bf }
  ·rw [F1]
   intro k k1 k2
   by_cases c:k<=(G.F i).length
   ·have:=X.lg M.lg k k1 c
    rw [ut c,List.take_append_of_le_length c]; exact this
   ·have ek:k=(G.F i).length + 1:=by simp at k2; omega
    have:tA (G.F i ++ [e]) k=t:=by rw [ek,qy (e:=e) (by simp)]; exact e1
    rw [this,ed,ll1]
    exact ⟨by have:=(C.el t i ALd).t1; omega,ldn,k2,rfl⟩
  ·rw [F1]
   intro x hx
   rcases List.mem_append.1 hx with hx | hx
   ·exact M.ft x hx
   ·rw [List.mem_singleton.1 hx]; show e.1<=(R i).term; omega
  ·have:(R i).role=1:=q
   omega
  ·refine ⟨by rw [ed]; exact A.ld,?_,A.nl,by show ((R i).has.set _ _).length=_; rw [List.length_set]; exact A.hl,fun x hx=>?_,fun k hk=>?_⟩
   ·show G'.F i=G'.LL (R i).term
    rw [F1,← et,ll1]
   ·have:=A.nx x hx
    rw [F1]; simp; omega
   ·show 0<=((R i).has.set (R i).me.toNat _).getD k 0/\((R i).has.set (R i).me.toNat _).getD k 0<=(G'.ak (R i).term k:Int)
    rw [r3,M.me,← et,List.getD_eq_getElem?_getD]
    by_cases c:i.toNat=k
    ·subst c
     rw [List.getElem?_set_self (by rw [A.hl]; omega),show ((i.toNat:Nat):Int)=i from by omega,ak1]
     show 0<=((G.F i).length:Int) + 1/\((G.F i).length:Int) + 1<=_
     omega
    ·rw [List.getElem?_set_ne c,← List.getD_eq_getElem?_getD,ak2 t k fun q=>c (by omega),et]
     exact A.hs k hk
  ·show (Lg.append _ _ _ [e]).1.ix<=(R i).commit
   rw [r2]; exact M.c0
  ·rw [F1]; have:=M.c2; simp; show (R i).commit<=_; omega
  ·rw [F1]
   show Com n G' (R i).term ((G.F i ++ [e]).take (R i).commit.toNat)
   have:=M.c2
   rw [List.take_append_of_le_length (by omega)]; exact X.com M.cm
  ·have hT':(R i).term < T:=hT
   rw [ak2 T i fun q=>by omega]; exact M.a1 T hT'
  ·rw [F1]
   by_cases c:T=t
   ·subst c; rw [ll1]; exact .inl rfl
   ·rw [ak2 T i fun q=>c q.1] at hx
    have o':=ow o c
    rw [ll2 T c]
    refine (M.a2 T x hx o').imp (fun q=>?_) (X.lacks o')
    have xl:x<=(G.F i).length:=by
     have:=congrArg List.length q
     rw [List.length_take,List.length_take] at this
     have:=o'.b; omega
    rw [List.take_append_of_le_length xl]; exact q
  ·by_cases c:T=t
   ·subst c; rw [ak1,ll1,ed]; exact ⟨by simp,fun _=>ldn⟩
   ·rw [ak2 T i fun q=>c q.1,ll2 T c,ed]; exact M.a3 T
  ·rw [ev] at hv
   rw [ec]
   by_cases c:T=t
   ·subst c
    rw [M.v2 T' (by omega)] at hv; cases hv
   ·rw [ak2 T i fun q=>c q.1] at hx
    have o':=ow o c
    exact (M.vi T' T j x hv hT hx o').imp id (X.lacks o')
 rw [← et]
 refine ⟨G',C.step i0 i1 (by rw [tr]; exact X) (by omega) MI' fun T j hj=>⟨fun hj=>?_,fun hj'=>absurd (by rw [ed] at hj; exact hj) hj'⟩,X⟩
 by_cases c:T=t
 ·subst c; rw [ll1]; simp; exact bf
 ·rw [ll2 T c]; have:=(C.el T j hj).bd; omega
/-! ### what more than half have is known as committed -/
theorem wR:∀ (l:List Int) (a:Int),a<=l.foldl max a/\(l.foldl max a=a∨l.foldl max a∈l)
 | [],a=>⟨Int.le_refl _,.inl rfl⟩
 | y :: l,a=>by
  obtain ⟨h1,h3⟩:=wR l (max a y)
  refine ⟨by simp only [List.foldl_cons]; omega,?_⟩
  simp only [List.foldl_cons]
  rcases h3 with h3 | h3
  ·rcases Int.le_total a y with h | h
   ·right; rw [h3,Int.max_eq_right h]; exact List.mem_cons_self
   ·left; rw [h3,Int.max_eq_left h]
  ·exact .inr (List.mem_cons_of_mem _ h3)
theorem Es {n:Int} {l:List Int} (hl:l.length=n.toNat) (n0:0<=n) (h:0 < cmt l) {P:Int->Prop} (hP:∀ k:Nat,k < n.toNat->cmt l<=l.getD k 0->P k):Maj n P:=by
 have hc:cmt l∈l.filter fun v=>decide (l.length / 2 + 1<=cnt l v):=by
  rcases (wR (l.filter fun v=>decide (l.length / 2 + 1<=cnt l v)) 0).2 with q | q
  ·have:cmt l=0:=q
   omega
  ·exact q
 have h2:=of_decide_eq_true (List.mem_filter.1 hc).2
 refine ⟨((List.range n.toNat).filter fun k=>decide (cmt l<=l.getD k 0)).map fun (k:Nat)=>(k:Int),?_,fun x hx=>?_,?_⟩
 ·refine List.Pairwise.map _ (fun a b h=>?_) (List.Pairwise.filter _ List.nodup_range)
  omega
 ·obtain ⟨k,hk,rfl⟩:=List.mem_map.1 hx
  obtain ⟨k1,k2⟩:=List.mem_filter.1 hk
  have:=List.mem_range.1 k1
  exact ⟨by omega,hP k this (of_decide_eq_true k2)⟩
 ·rw [List.length_map,← List.countP_eq_length_filter]
  have e:(List.range n.toNat).countP (fun k=>decide (cmt l<=l.getD k 0))=cnt l (cmt l):=by
   unfold cnt
   have:l=(List.range n.toNat).map fun k=>l.getD k 0:=by
    apply List.ext_getElem?
    intro k
    rw [List.getElem?_map]
    by_cases c:k < n.toNat
    ·rw [List.getElem?_range c,Option.map_some,List.getD_eq_getElem?_getD,List.getElem?_eq_getElem (by omega)]; rfl
    ·rw [List.getElem?_eq_none (by omega),List.getElem?_eq_none (by simp; omega)]; rfl
   obtain ⟨v,hv⟩:∃ v,v=cmt l:=⟨_,rfl⟩
   rw [← hv]
   have k2:∀ q:List Int,q=(List.range n.toNat).map (fun k=>l.getD k 0)->(List.range n.toNat).countP (fun k=>decide (v<=l.getD k 0))=q.countP fun x=>decide (v<=x):=fun q hq=>by
    rw [hq,List.countP_map]; rfl
   exact k2 l this
  rw [e]
  omega
theorem Core.settle (C:Core n B G R) (i0:0<=i) (i1:i < n) (h2:(R i).role=2):Core n B G (upd R i (R i).settle)/\Gx G G i (R i).term/\(R i).settle.term=(R i).term/\(R i).settle.role=2:=by
 have M:=C.mi i i0 i1
 have A:=M.l1 h2
 unfold RS.settle
 by_cases c:cmt (R i).has > (R i).commit/\((R i).log.aH (cmt (R i).has)).2=0/\((R i).log.aH (cmt (R i).has)).1=(R i).term
 ·rw [if_pos c]
  obtain ⟨c1,c2,c3⟩:=c
  have x0:=M.rep.i0
  have m0:=M.c0
  obtain ⟨v,ev⟩:∃ v,v=cmt (R i).has:=⟨_,rfl⟩
  rw [← ev] at c1 c2 c3 ⊢
  have to:=M.rep.aH (p:=v) (by omega)
  have vl:v.toNat<=(G.F i).length/\tA (G.F i) v.toNat=(R i).term:=by
   rw [to] at c2 c3
   split at c2
   ·exact absurd c2 (by simp)
   ·split at c2
    ·exact absurd c2 (by simp)
    ·rename_i q1 q2
     rw [if_neg q1,if_neg q2] at c3
     exact ⟨by omega,c3⟩
  have o:own G (R i).term v.toNat:=⟨by rw [A.ld]; simp,by omega,by rw [← A.F]; exact vl.1,by rw [← A.F]; exact vl.2⟩
  refine ⟨(C.same i0 i1 (Nat.le_refl _) (r:={ R i with commit:=v }) ?_).1,Gx.refl M.v2,rfl,h2⟩
  have cm:Com n G (R i).term ((G.F i).take v.toNat):=by
   refine .inr ⟨(R i).term,v.toNat,Int.le_refl _,o,by rw [List.length_take]; exact Nat.min_le_left _ _,?_,?_⟩
   ·rw [List.length_take,Nat.min_eq_left vl.1,A.F]
   ·refine Es A.hl (by omega) (by rw [← ev]; omega) fun k hk hv=>?_
    have:=(A.hs k hk).2
    rw [← ev] at hv
    omega
  exact { me:=M.me,rn:=M.rn,t0:=M.t0,rep:=M.rep,lg:=M.lg,ft:=M.ft,v0:=M.v0,v1:=M.v1,v2:=M.v2,v3:=M.v3,v4:=M.v4,c1:=fun q=>(M.c1 q).eqv rfl rfl,l1:=fun q=>A.eqv rfl rfl rfl,rl:=M.rl,c0:=by show (R i).log.ix<=v; omega,c2:=by show v<=_; omega,cm:=cm,a1:=M.a1,a2:=M.a2,a3:=M.a3,vi:=M.vi,bt:=M.bt,bf:=M.bf }
 ·rw [if_neg c]
  exact ⟨(C.same i0 i1 (Nat.le_refl _) M).1,Gx.refl M.v2,rfl,h2⟩
end
end Go.Q.Rf
end

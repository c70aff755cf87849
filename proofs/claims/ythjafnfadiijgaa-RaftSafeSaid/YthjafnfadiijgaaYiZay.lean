/- A part of the proof of statements of this seat: lemmas, no statement of their own. -/
import Derived.Test.YthjafnfadiijgaaYiZax
import Derived.Test.YthjafnfadiijgaaYiZaq
set_option linter.unusedVariables false
set_option linter.unusedSimpArgs false
section
/- Steps of a member: it takes entries, a snapshot; it cuts; it begins anew; answers to entries. -/
namespace Go.Q.Rf
section
variable {n:Int} {B:Nat} {G:Gh} {R:Int->RS} {i:Int} {r r':RS}
/-- its log is merged with the one of its term, and it has so much of it -/
theorem Core.merge (C:Core n B G R) (i0:0<=i) (i1:i < n) (h0:(R i).role=0) (hl:G.ld (R i).term≠none) {q a:Nat} (hq:q<=(G.LL (R i).term).length) (ha:a<=(G.LL (R i).term).length) (hat:(mrg (G.F i) (G.LL (R i).term) q).take a=(G.LL (R i).term).take a)
  {log:Lg} {c:Int} (rp:Rep (mrg (G.F i) (G.LL (R i).term) q) log) (c0:log.ix<=c) (c2:c<=(mrg (G.F i) (G.LL (R i).term) q).length) (cm:Com n G (R i).term ((mrg (G.F i) (G.LL (R i).term) q).take c.toNat)) (h:Eqv { R i with log:=log,commit:=c } r) :
  ∃ G',Core n B G' (upd R i r)/\Gx G G' i (R i).term/\a<=G'.ak (R i).term i/\G'.F i=mrg (G.F i) (G.LL (R i).term) q/\G'.LL=G.LL/\G'.ld=G.ld:=by
 have M:=C.mi i i0 i1
 obtain ⟨t,et⟩:∃ t,t=(R i).term:=⟨_,rfl⟩
 obtain ⟨Y,eX⟩:∃ Y,Y=G.LL (R i).term:=⟨_,rfl⟩
 obtain ⟨F',eF'⟩:∃ F',F'=mrg (G.F i) Y q:=⟨_,rfl⟩
 rw [← eX,← eF'] at hat rp c2 cm
 rw [← eX] at hq ha
 rw [← eX,← eF',← et]
 rw [← et] at hl cm
 rw [← et] at eX
 have lgX:LG G Y:=by rw [eX]; exact C.el.ll hl
 obtain ⟨jt,hjt⟩:=mh hl
 have ejt:=C.el t jt hjt
 have mF:F'=G.F i/\q<=(G.F i).length/\(G.F i).take q=Y.take q∨F'=Y.take q/\¬ (q<=(G.F i).length/\(G.F i).take q=Y.take q):=by
  rw [eF']; unfold mrg
  split
  ·rename_i k; exact .inl ⟨rfl,k⟩
  ·rename_i k; exact .inr ⟨rfl,k⟩
 -- what stood in agreement with the term's log stays
 have stay:∀ x,x<=(G.F i).length->(G.F i).take x=Y.take x->F'.take x=Y.take x:=fun x h1 h2=>by
  rcases mF with ⟨e,_,_⟩ | ⟨e,k⟩
  ·rw [e]; exact h2
  ·have:x<=q:=Nat.le_of_not_lt fun lt=>k ⟨by omega,nN h2 (by omega)⟩
   rw [e,List.take_take,Nat.min_eq_left this]
 obtain ⟨G',eG⟩:∃ G':Gh,G' = { G with F:=fun k=>if k=i then F' else G.F k,ak:=fun T k=>if T=t/\k=i then max (G.ak t i) a else G.ak T k }:=⟨_,rfl⟩
 have F1:G'.F i=F':=by rw [eG]; exact if_pos rfl
 have F2:∀ k,k≠i->G'.F k=G.F k:=fun k q=>by rw [eG]; exact if_neg q
 have ak1:G'.ak t i=max (G.ak t i) a:=by rw [eG]; exact if_pos ⟨rfl,rfl⟩
 have ak2:∀ T k,¬ (T=t/\k=i)->G'.ak T k=G.ak T k:=fun T k q=>by rw [eG]; exact if_neg q
 have ev:G'.vt=G.vt:=by rw [eG]
 have ec:G'.cp=G.cp:=by rw [eG]
 have ed:G'.ld=G.ld:=by rw [eG]
 have eC:G'.CL=G.CL:=by rw [eG]
 have eL:G'.LL=G.LL:=by rw [eG]
 have X:Gx G G' i t:=by
  refine ⟨fun _ _ h=>by rw [ed]; exact h,fun _ _ h=>.inl (by rw [ed] at h; exact h),fun _ _=>by rw [eC],fun T h=>⟨[],by rw [eL]; simp,by simp⟩,fun T h q=>by rw [eL],fun _ _ _ h=>by rw [ev]; exact h,fun _ _ _=>by rw [ev],fun T hT=>by rw [ev]; exact M.v2 T (by rw [← et]; exact hT),fun _ _ _=>by rw [ec],fun T k=>?_,fun T k q=>ak2 T k fun e=>q.elim (fun q=>q e.1) fun q=>q e.2,F2⟩
  by_cases c:T=t/\k=i
  ·obtain ⟨rfl,rfl⟩:=c; rw [ak1]; omega
  ·rw [ak2 T k c]; exact Nat.le_refl _
 have ow:∀ {T x},own G' T x->own G T x:=fun o=>⟨by rw [← ed]; exact o.l,o.a,by rw [← eL]; exact o.b,by rw [← eL]; exact o.t⟩
 have tr:r.term=t:=h.term.trans et.symm
 have MI':MI n B G' i r:=by
  refine MI.eqv ?_ h
  refine { me:=M.me,rn:=M.rn,t0:=M.t0,rep:=by rw [F1]; exact rp,lg:=?_,ft:=?_,v0:=M.v0,v1:=by rw [ev]; exact M.v1,v2:=by rw [ev]; exact M.v2,v3:=by rw [ed]; exact M.v3,v4:=by rw [ev]; exact M.v4,c1:=fun q=>?_,l1:=fun q=>?_,rl:=.inl h0,c0:=c0,c2:=by rw [F1]; exact c2,cm:=by rw [F1,← et]; exact X.com cm,a1:=fun T hT=>?_,a2:=fun T x hx o=>?_,a3:=fun T=>?_,vi:=fun T' T j x hv hT hx o=>?_,bt:=M.bt,bf:=?_ }
  ·rw [F1]
   refine X.lg ?_
   rcases mF with ⟨e,_⟩ | ⟨e,_⟩
   ·rw [e]; exact M.lg
   ·rw [e]; exact lgX.take q
  ·rw [F1]
   rcases mF with ⟨e,_⟩ | ⟨e,_⟩
   ·rw [e]; exact M.ft
   ·rw [e]
    intro x hx
    obtain ⟨k,hk⟩:=List.getElem?_of_mem (List.mem_of_mem_take hx)
    have kl:=(List.getElem?_eq_some_iff.1 hk).1
    have:=C.el.le hl (x:=k + 1) (by omega) (by rw [← eX]; omega)
    rw [← eX,qy hk] at this
    show x.1<=(R i).term; omega
  ·have:(R i).role=1:=q
   omega
  ·have:(R i).role=2:=q
   omega
  ·have hT':(R i).term < T:=hT
   rw [ak2 T i fun q=>by omega]; exact M.a1 T hT'
  ·have o':=ow o
   rw [F1,eL]
   show F'.take x=(G.LL T).take x∨sI G' T x (R i).term
   by_cases c:T=t
   ·subst c
    rw [← eX]
    rw [ak1] at hx
    by_cases xa:x<=a
    ·exact .inl (nN hat xa)
    ·rcases M.a2 T x (by omega) o' with q | ⟨T2,k1,k2,_⟩
     ·left
      rw [← eX] at q
      have xl:x<=(G.F i).length:=by
       have:=congrArg List.length q
       rw [List.length_take,List.length_take] at this
       have:=o'.b; rw [← eX] at this; omega
      exact stay x xl q
     ·omega
   ·rw [ak2 T i fun q=>c q.1] at hx
    have Tt:T < t:=by
     apply Classical.byContradiction
     intro hc
     have:=M.a1 T (by omega)
     have:=o'.a; omega
    rcases M.a2 T x hx o' with k | k
    ·have xl:x<=(G.F i).length:=by
      have:=congrArg List.length k
      rw [List.length_take,List.length_take] at this
      have:=o'.b; omega
     by_cases e:Y.take x=(G.LL T).take x
     ·left; rw [← e]; exact stay x xl (k.trans e.symm)
     ·rcases mF with ⟨f,_⟩ | ⟨f,g⟩
      ·left; rw [f]; exact k
      ·right
       refine X.lacks o' ⟨t,Tt,by omega,hl,fun z=>e ?_⟩
       have cl:=C.el.cl hl
       have xc:x<=(G.CL t).length:=by
        have:=congrArg List.length z
        rw [List.length_take,List.length_take] at this
        have:=o'.b; omega
       rw [← z,eX]
       conv=>rhs; rw [cl.1]
       rw [List.take_take,Nat.min_eq_left xc]
    ·exact .inr (X.lacks o' k)
  ·by_cases c:T=t
   ·subst c
    rw [ak1,eL,ed,← eX]
    have:=(M.a3 T).1
    rw [← eX] at this
    exact ⟨by omega,fun _=>hl⟩
   ·rw [ak2 T i fun q=>c q.1,eL,ed]; exact M.a3 T
  ·rw [ev] at hv
   rw [ec]
   have o':=ow o
   by_cases c:T=t
   ·subst c
    rw [M.v2 T' (by omega)] at hv; cases hv
   ·rw [ak2 T i fun q=>c q.1] at hx
    exact (M.vi T' T j x hv hT hx o').imp id (X.lacks o')
  ·rw [F1]
   rcases mF with ⟨e,_⟩ | ⟨e,_⟩
   ·rw [e]; exact M.bf
   ·rw [e,List.length_take]
    have:=ejt.bd
    rw [← eX] at this; omega
 refine ⟨G',C.step i0 i1 (by rw [tr]; exact X) (Nat.le_refl _) MI' fun T j hj=>⟨fun hj=>by rw [eL]; exact (C.el T j hj).bd,fun hj'=>absurd (by rw [ed] at hj; exact hj) hj'⟩,X,by rw [ak1]; omega,F1,eL,ed⟩
theorem sH (F X:List Ent):mrg F X 0=F:=by unfold mrg; rw [if_pos ⟨Nat.zero_le _,by simp⟩]
/-- what it knows as committed stands in the log of its term -/
theorem MI.CV (M:MI n B G i r) (E:ELs n B G) (hl:G.ld r.term≠none):(G.F i).take r.commit.toNat=(G.LL r.term).take r.commit.toNat/\r.commit.toNat<=(G.LL r.term).length:=by
 have c0:=M.c0
 have c2:=M.c2
 have i0:=M.rep.i0
 have:=M.cm.CV E hl (Int.le_refl _)
 rw [List.length_take,Nat.min_eq_left (by omega)] at this
 exact ⟨this.1.symm,this.2⟩
/-! ### it takes entries -/
theorem Core.app (C:Core n B G R) (i0:0<=i) (i1:i < n) (hB:B<=1000000) (h0:(R i).role=0) {f:Int} {m:Msg} (L:LI n G f i m) (mk:m.kind=3) (mt:m.term=(R i).term) (ok:((R i).log.append m.index m.logTerm m.aK).2.2=0)
  (h:Eqv { R i with log:=((R i).log.append m.index m.logTerm m.aK).1,commit:=max (R i).commit (min m.commit ((R i).log.append m.index m.logTerm m.aK).2.1) } r) :
  ∃ G',Core n B G' (upd R i r)/\Gx G G' i (R i).term/\0<=((R i).log.append m.index m.logTerm m.aK).2.1/\((R i).log.append m.index m.logTerm m.aK).2.1.toNat<=G'.ak (R i).term i:=by
 have M:=C.mi i i0 i1
 obtain ⟨hl,p0,k1,k2,k3,m0,k4,k5⟩:=L.k3 mk
 rw [mt] at hl k1 k2 k3 k4 k5
 obtain ⟨jt,hjt⟩:=mh hl
 have lb:=(C.el _ jt hjt).bd
 have x0:=M.rep.i0
 have c0:=M.c0
 have c2:=M.c2
 obtain ⟨in1,in2⟩:=M.CV C.el hl
 have ep:m.index=((m.index.toNat:Nat):Int):=by omega
 obtain ⟨p,epp⟩:∃ p,p=m.index.toNat:=⟨_,rfl⟩
 rw [← epp] at ep k1 k2 k3
 rw [ep] at ok h ⊢
 obtain ⟨F',r1,r2,r3,r4,_⟩:=M.rep.append (X:=G.LL (R i).term) (p:=p) k3 k1 (by omega) (M.lg.eqT (C.el.ll hl)) (nN in1 (by omega)) k2 ok
 have eF:F'=mrg (G.F i) (G.LL (R i).term) (p + m.aK.length):=by
  rw [r4]
  by_cases c:p + m.aK.length<=(R i).log.ix.toNat
  ·rw [if_pos c]; unfold mrg
   rw [if_pos ⟨by omega,nN in1 (by omega)⟩]
  ·rw [if_neg c]
 rw [eF] at r1
 have ml:=Ai (F:=G.F i) k1
 have mt':=y8 (F:=G.F i) k1
 rw [r3] at h ⊢
 -- how far the merged log agrees with what was committed
 have cl:(R i).commit.toNat<=(mrg (G.F i) (G.LL (R i).term) (p + m.aK.length)).length/\(mrg (G.F i) (G.LL (R i).term) (p + m.aK.length)).take (R i).commit.toNat=(G.F i).take (R i).commit.toNat:=by
  unfold mrg
  split
  ·exact ⟨by omega,rfl⟩
  ·rename_i k
   have:(R i).commit.toNat<=p + m.aK.length:=Nat.le_of_not_lt fun lt=>k ⟨by omega,nN in1 (by omega)⟩
   exact ⟨by rw [List.length_take]; omega,by rw [List.take_take,Nat.min_eq_left this,in1]⟩
 obtain ⟨G',g1,g2,g3,g4,g5,g6⟩:=C.merge i0 i1 h0 hl k1 k1 mt' r1 (by rw [r2]; omega) (by omega) (by
  rcases Int.le_total (min m.commit ((p + m.aK.length:Nat):Int)) (R i).commit with c | c
  ·rw [Int.max_eq_left c,cl.2]; exact M.cm
  ·rw [Int.max_eq_right c]
   have e1:(min m.commit ((p + m.aK.length:Nat):Int)).toNat=min m.commit.toNat (p + m.aK.length):=by omega
   rw [e1,nN mt' (Nat.min_le_right _ _),Nat.min_comm,← List.take_take]
   exact k5.take _) h
 exact ⟨G',g1,g2,by omega,by rw [Int.toNat_natCast]; exact g3⟩
/-! ### it takes a snapshot -/
theorem Core.aQ (C:Core n B G R) (i0:0<=i) (i1:i < n) (h0:(R i).role=0) {f:Int} {m:Msg} (L:LI n G f i m) (mk:m.kind=5) (mt:m.term=(R i).term) (h:Eqv ((R i).oC m) r) :
  ∃ G',Core n B G' (upd R i r)/\Gx G G' i (R i).term/\0<=r.commit/\r.commit.toNat<=G'.ak (R i).term i:=by
 have M:=C.mi i i0 i1
 obtain ⟨hl,p0,k1,k2,k3⟩:=L.k5 mk
 rw [mt] at hl k1 k2 k3
 have x0:=M.rep.i0
 have c0:=M.c0
 have c2:=M.c2
 obtain ⟨in1,in2⟩:=M.CV C.el hl
 unfold RS.oC at h
 by_cases c:m.index > (R i).commit
 ·rw [if_pos c] at h
  have ml:=Ai (F:=G.F i) k1
  have mt':=y8 (F:=G.F i) k1
  have key:Rep (mrg (G.F i) (G.LL (R i).term) m.index.toNat) ((R i).base m.index m.logTerm m.aQ).log/\((R i).base m.index m.logTerm m.aQ).log.ix=m.index:=by
   unfold RS.base
   dsimp only
   by_cases q:(R i).log.mat m.index m.logTerm=true
   ·rw [if_pos q]
    obtain ⟨q1,q2,q3⟩:=(M.rep.mat p0).1 q
    have e:=M.lg.eqT (C.el.ll hl) m.index.toNat (by omega) q2 k1 (by rw [q3,k2])
    obtain ⟨_,r2,r3⟩:=M.rep.cut (p:=m.index) (by omega) (by omega)
    unfold mrg
    rw [if_pos ⟨q2,e⟩]
    exact ⟨r2,r3⟩
   ·rw [if_neg q]
    have:¬ (m.index.toNat<=(G.F i).length/\(G.F i).take m.index.toNat=(G.LL (R i).term).take m.index.toNat):=fun z=>q ((M.rep.mat p0).2 ⟨by omega,z.1,by rw [CX z.2 (Nat.le_refl _),k2]⟩)
    unfold mrg
    rw [if_neg this]
    refine ⟨⟨p0,by show m.index.toNat<=_; rw [List.length_take]; omega,?_,?_⟩,rfl⟩
    ·show []=List.drop m.index.toNat _
     rw [List.drop_of_length_le (by rw [List.length_take]; omega)]
    ·show m.logTerm=tA _ m.index.toNat
     rw [qC (Nat.le_refl _),k2]
  obtain ⟨G',g1,g2,g3,_⟩:=C.merge i0 i1 h0 hl k1 k1 mt' key.1 (by rw [key.2]; exact Int.le_refl _) (by omega) (by rw [mt']; exact k3) (r:=r) (by
   refine ⟨h.me,h.n,h.term,h.bR,h.log,h.commit,h.role,h.ballot,h.next,h.has⟩)
  have ec:r.commit=m.index:=h.commit
  exact ⟨G',g1,g2,by omega,by rw [ec]; exact g3⟩
 ·rw [if_neg c] at h
  obtain ⟨G',g1,g2,g3,_⟩:=C.merge (q:=0) (a:=(R i).commit.toNat) (log:=(R i).log) (c:=(R i).commit) (r:=r) i0 i1 h0 hl (Nat.zero_le _) in2 (by rw [sH]; exact in1) (by rw [sH]; exact M.rep) c0 (by rw [sH]; exact c2) (by rw [sH]; exact M.cm) ⟨h.me,h.n,h.term,h.bR,h.log,h.commit,h.role,h.ballot,h.next,h.has⟩
  have ec:r.commit=(R i).commit:=h.commit
  exact ⟨G',g1,g2,by omega,by rw [ec]; exact g3⟩
/-! ### it cuts its log; it begins anew -/
theorem Core.cut (C:Core n B G R) (i0:0<=i) (i1:i < n) {x:Int} {s:List Int} (x0:0<=x):Core n B G (upd R i ((R i).nG x s).1)/\Gx G G i (R i).term/\((R i).nG x s).1.term=(R i).term:=by
 have M:=C.mi i i0 i1
 unfold RS.nG
 by_cases c1:x > (R i).commit
 ·rw [if_pos c1]; exact ⟨(C.same i0 i1 (Nat.le_refl _) M).1,Gx.refl M.v2,rfl⟩
 rw [if_neg c1]
 by_cases c2:((R i).log.aH x).2≠0
 ·rw [if_pos c2]; exact ⟨(C.same i0 i1 (Nat.le_refl _) M).1,Gx.refl M.v2,rfl⟩
 rw [if_neg c2]
 have c2':=Decidable.not_not.1 c2
 have xb:(R i).log.ix<=x/\x<=(G.F i).length:=by
  rw [M.rep.aH x0] at c2'
  have i0:=M.rep.i0
  split at c2'
  ·exact absurd c2' (by simp)
  ·split at c2'
   ·exact absurd c2' (by simp)
   ·omega
 have mt:(R i).log.mat x ((R i).log.aH x).1=true:=by unfold Lg.mat; simp [c2']
 obtain ⟨_,r2,r3⟩:=M.rep.cut xb.1 xb.2
 refine ⟨(C.same i0 i1 (Nat.le_refl _) (r:=(R i).base x ((R i).log.aH x).1 s) ?_).1,Gx.refl M.v2,rfl⟩
 have el:((R i).base x ((R i).log.aH x).1 s).log=((R i).log.cut x).1:=by unfold RS.base; dsimp only; rw [if_pos mt]
 exact { me:=M.me,rn:=M.rn,t0:=M.t0,rep:=by rw [el]; exact r2,lg:=M.lg,ft:=M.ft,v0:=M.v0,v1:=M.v1,v2:=M.v2,v3:=M.v3,v4:=M.v4,c1:=fun q=>(M.c1 q).eqv rfl rfl,l1:=fun q=>(M.l1 q).eqv rfl rfl rfl,rl:=M.rl,c0:=by rw [el,r3]; show x<=(R i).commit; omega,c2:=M.c2,cm:=M.cm,a1:=M.a1,a2:=M.a2,a3:=M.a3,vi:=M.vi,bt:=M.bt,bf:=M.bf }
theorem Core.again (C:Core n B G R) (i0:0<=i) (i1:i < n) (s:List Int):Core n B G (upd R i (RS.start i n (R i).term (R i).bR (R i).log s))/\Gx G G i (R i).term:=by
 have M:=C.mi i i0 i1
 have c0:=M.c0
 have x0:=M.rep.i0
 refine ⟨(C.same i0 i1 (Nat.le_refl _) (r:=RS.start i n (R i).term (R i).bR (R i).log s) ?_).1,Gx.refl M.v2⟩
 have cm:Com n G (R i).term ((G.F i).take (R i).log.ix.toNat):=by
  have:=M.cm.take (R i).log.ix.toNat
  rw [List.take_take,Nat.min_eq_left (by omega)] at this
  exact this
 exact { me:=rfl,rn:=rfl,t0:=M.t0,rep:=M.rep,lg:=M.lg,ft:=M.ft,v0:=M.v0,v1:=M.v1,v2:=M.v2,v3:=M.v3,v4:=M.v4,c1:=fun q=>(by cases q),l1:=fun q=>(by cases q),rl:=.inl rfl,c0:=Int.le_refl _,c2:=by have:=M.c2; show (R i).log.ix<=_; omega,cm:=cm,a1:=M.a1,a2:=M.a2,a3:=M.a3,vi:=M.vi,bt:=M.bt,bf:=M.bf }
/-! ### answers to entries -/
theorem Cq (x:Int):0<=W x:=by
 unfold W IntKind.wrap
 exact Int.emod_nonneg _ (by decide)
theorem Core.back (C:Core n B G R) (i0:0<=i) (i1:i < n) (hB:B<=1000000) (h2:(R i).role=2) {f:Int} {m:Msg} (f0:0<=f/\f < n):Core n B G (upd R i ((R i).back f m))/\Gx G G i (R i).term:=by
 have M:=C.mi i i0 i1
 have A:=M.l1 h2
 have bf:=M.bf
 refine ⟨(C.same i0 i1 (Nat.le_refl _) (r:=(R i).back f m) ?_).1,Gx.refl M.v2⟩
 refine { me:=M.me,rn:=M.rn,t0:=M.t0,rep:=M.rep,lg:=M.lg,ft:=M.ft,v0:=M.v0,v1:=M.v1,v2:=M.v2,v3:=M.v3,v4:=M.v4,c1:=fun q=>(M.c1 q).eqv rfl rfl,l1:=fun q=>?_,rl:=M.rl,c0:=M.c0,c2:=M.c2,cm:=M.cm,a1:=M.a1,a2:=M.a2,a3:=M.a3,vi:=M.vi,bt:=M.bt,bf:=M.bf }
 refine ⟨A.ld,A.F,by show ((R i).next.set _ _).length=_; rw [List.length_set]; exact A.nl,A.hl,fun x hx=>?_,A.hs⟩
 rcases List.mem_or_eq_of_mem_set (show x∈(R i).next.set _ _ from hx) with hx | rfl
 ·exact A.nx x hx
 ·have hf:f.toNat < (R i).next.length:=by rw [A.nl]; omega
  have:=A.nx _ (List.getElem_mem hf)
  have e:(R i).next.getD f.toNat 0=(R i).next[f.toNat]:=by rw [List.getD_eq_getElem?_getD,List.getElem?_eq_getElem hf]; rfl
  rw [e,wo (x:=(R i).next[f.toNat] - 1) (by omega) (by omega)]
  have:=Cq (m.index + 1)
  omega
theorem Core.nZ (C:Core n B G R) (i0:0<=i) (i1:i < n) (hB:B<=1000000) (h2:(R i).role=2) {f:Int} {m:Msg} (L:LI n G f i m) (mk:m.kind=4) (mt:m.term=(R i).term) (my:m.yes=true) (ml:m.index<=(R i).log.last):Core n B G (upd R i ((R i).nZ f m))/\Gx G G i (R i).term/\((R i).nZ f m).term=(R i).term/\((R i).nZ f m).role=2:=by
 have M:=C.mi i i0 i1
 have A:=M.l1 h2
 have bf:=M.bf
 have f0:=L.fr
 obtain ⟨m0,m1⟩:=L.k4 mk my
 rw [mt] at m1
 rw [M.rep.last] at ml
 obtain ⟨r1,er⟩:∃ r1:RS,r1 = { R i with has:=(R i).has.set f.toNat (max ((R i).has.getD f.toNat 0) m.index),next:=(R i).next.set f.toNat (max ((R i).next.getD f.toNat 0) (W (m.index + 1))) }:=⟨_,rfl⟩
 have tr:r1.term=(R i).term:=by rw [er]
 have rr:r1.role=2:=by rw [er]; exact h2
 have M1:MI n B G i r1:=by
  rw [er]
  refine { me:=M.me,rn:=M.rn,t0:=M.t0,rep:=M.rep,lg:=M.lg,ft:=M.ft,v0:=M.v0,v1:=M.v1,v2:=M.v2,v3:=M.v3,v4:=M.v4,c1:=fun q=>(M.c1 q).eqv rfl rfl,l1:=fun q=>?_,rl:=M.rl,c0:=M.c0,c2:=M.c2,cm:=M.cm,a1:=M.a1,a2:=M.a2,a3:=M.a3,vi:=M.vi,bt:=M.bt,bf:=M.bf }
  refine ⟨A.ld,A.F,by show ((R i).next.set _ _).length=_; rw [List.length_set]; exact A.nl,by show ((R i).has.set _ _).length=_; rw [List.length_set]; exact A.hl,fun x hx=>?_,fun k hk=>?_⟩
  ·rcases List.mem_or_eq_of_mem_set (show x∈(R i).next.set _ _ from hx) with hx | rfl
   ·exact A.nx x hx
   ·have hf:f.toNat < (R i).next.length:=by rw [A.nl]; omega
    have:=A.nx _ (List.getElem_mem hf)
    have e:(R i).next.getD f.toNat 0=(R i).next[f.toNat]:=by rw [List.getD_eq_getElem?_getD,List.getElem?_eq_getElem hf]; rfl
    rw [e,wo (x:=m.index + 1) (by omega) (by omega)]
    omega
  ·show 0<=((R i).has.set _ _).getD k 0/\((R i).has.set _ _).getD k 0<=(G.ak (R i).term k:Int)
   have hk':=A.hs k hk
   rw [List.getD_eq_getElem?_getD]
   by_cases c:f.toNat=k
   ·subst c
    rw [List.getElem?_set_self (by rw [A.hl]; omega)]
    show 0<=max _ m.index/\max _ m.index<=_
    rw [show ((f.toNat:Nat):Int)=f from by omega] at hk' ⊢
    omega
   ·rw [List.getElem?_set_ne c,← List.getD_eq_getElem?_getD]; exact hk'
 have C1:=(C.same i0 i1 (Nat.le_refl _) M1).1
 have S:=C1.settle i0 i1 (by rw [upd_same]; exact rr)
 rw [upd_same,tr] at S
 have e2:upd (upd R i r1) i r1.settle=upd R i r1.settle:=by
  funext k
  by_cases c:k=i
  ·subst c; rw [upd_same,upd_same]
  ·rw [dw c,dw c,dw c]
 rw [e2] at S
 have ef:(R i).nZ f m=r1.settle:=by rw [er]; rfl
 rw [ef]
 exact S
end
end Go.Q.Rf
end
section
/- What a member's steps leave, plainly. -/
namespace Go.Q.Rf
namespace RS
/-- what a step leaves: who it is; its term and what is committed don't sink; little more is to be kept -/
structure Up (r r':RS) (d:Nat):Prop where
 n:r'.n=r.n
 me:r'.me=r.me
 t:r.term<=r'.term
 c:r.commit<=r'.commit
 k:r'.keeps.length<=r.keeps.length + d
 tk:r'.ticks<=max r.ticks 0
 ak:(r.role=1->∃ l,r.ballot=some l)->(r'.role=1->∃ l,r'.ballot=some l)
theorem Up.refl (r:RS) (c:Nat):Up r r c:=⟨rfl,rfl,Int.le_refl _,Int.le_refl _,Nat.le_add_right _ _,Int.le_max_left _ _,fun h=>h⟩
theorem Up.trans {a b d:RS} {x y:Nat} (p:Up a b x) (q:Up b d y):Up a d (x + y) :=
 ⟨q.n.trans p.n,q.me.trans p.me,Int.le_trans p.t q.t,Int.le_trans p.c q.c,by have:=p.k; have:=q.k; omega,by have:=p.tk; have:=q.tk; omega,fun h=>q.ak (p.ak h)⟩
theorem Up.mono {a b:RS} {x y:Nat} (p:Up a b x) (h:x<=y):Up a b y:=⟨p.n,p.me,p.t,p.c,by have:=p.k; omega,p.tk,p.ak⟩
variable {r:RS} {f:Int} {m:Msg}
theorem zf (t:Int):Up r (r.aR t) 1/\(r.aR t).role=r.role:=by
 unfold aR fI
 split
 ·exact ⟨⟨rfl,rfl,by dsimp only; omega,Int.le_refl _,by simp,Int.le_max_left _ _,fun h=>h⟩,rfl⟩
 ·exact ⟨Up.refl _ _,rfl⟩
theorem rT (t l:Int):Up r (r.follow t l) 1:=by
 have p:=(zf (r:=r) t).1
 exact ⟨p.n,p.me,p.t,p.c,p.k,p.tk,fun _ h=>by cases h⟩
theorem Ah:Up r (r.lu f m) 1:=by
 have p:=rT (r:=r) m.term f
 exact ⟨p.n,p.me,p.t,p.c,p.k,by show (0:Int)<=_; omega,fun _ h=>by cases h⟩
theorem uh:Up r r.settle 0/\r.settle.term=r.term:=by
 unfold settle
 split
 ·rename_i h
  exact ⟨⟨rfl,rfl,Int.le_refl _,by dsimp only; omega,Nat.le_refl _,Int.le_max_left _ _,fun h=>h⟩,rfl⟩
 ·exact ⟨Up.refl _ _,rfl⟩
theorem zV (cmd:List Int):Up r (r.put cmd).1 1/\(r.put cmd).1.term=r.term/\(r.put cmd).1.role=r.role:=by
 have hr:∀ x:RS,x.settle.role=x.role:=fun x=>by unfold settle; split <;> rfl
 unfold put
 split
 ·exact ⟨Up.refl _ _,rfl,rfl⟩
 ·refine ⟨?_,(uh).2,hr _⟩
  have p:=(uh (r:={ r with log:=(r.log.append r.log.last r.log.lastT [(r.term,cmd)]).1,keeps:=r.keeps ++ [⟨2,r.log.lastT,0,r.log.last,[(r.term,cmd)],[]⟩],has:=r.has.set r.me.toNat (r.log.append r.log.last r.log.lastT [(r.term,cmd)]).2.1 })).1
  have k:=p.k
  simp at k
  exact ⟨p.n,p.me,p.t,p.c,k,p.tk,p.ak⟩
theorem Cz:Up r r.win.1 1/\r.win.1.term=r.term:=by
 unfold win
 split
 ·exact ⟨Up.refl _ _,rfl⟩
 ·obtain ⟨p,t,ro⟩:=zV (r:=r.lead) []
  refine ⟨⟨p.n,p.me,p.t,p.c,p.k,by have:=p.tk; have e:r.lead.ticks=0:=rfl; rw [e] at this; show (r.lead.put []).1.ticks<=_; omega,fun _ h=>?_⟩,t⟩
  dsimp only at h
  rw [ro] at h
  cases h
theorem yQ {i:Int} (h:i∈r.nodes):0<=i/\i < r.n/\i≠r.me:=by
 unfold nodes at h
 obtain ⟨h1,h2⟩:=List.mem_filter.1 h
 obtain ⟨j,hj,rfl⟩:=List.mem_map.1 h1
 simp at hj h2
 omega
/-- letters of a member: to others, in its term -/
def Lt (n me t:Int) (l:List lY):Prop:=∀ x∈l,(0<=x.1/\x.1 < n/\x.1≠me)/\x.2.term=t
theorem Lt.nil (n me t:Int):Lt n me t []:=fun x h=>by cases h
theorem Lt.one {n me t:Int} {i:Int} {m:Msg} (h:0<=i/\i < n/\i≠me) (ht:m.term=t):Lt n me t [(i,m)]:=fun x hx=>by
 simp at hx; subst hx; exact ⟨h,ht⟩
theorem tY (g:Int->Msg) (hg:∀ i,(g i).term=r.term):Lt r.n r.me r.term (r.others g):=fun x hx=>by
 unfold others at hx
 obtain ⟨i,hi,rfl⟩:=List.mem_map.1 hx
 exact ⟨yQ hi,hg i⟩
theorem tJ (i:Int):(r.due i).term=r.term:=by
 unfold due; split <;> rfl
theorem BG:Lt r.n r.me r.win.1.term r.win.2:=by
 unfold win
 split
 ·exact Lt.nil _ _ _
 ·have h:=tY (r:=(r.lead.put []).1) (due (r.lead.put []).1) fun i=>tJ i
  obtain ⟨p,_,_⟩:=zV (r:=r.lead) []
  have e1:(r.lead.put []).1.n=r.n:=p.n
  have e2:(r.lead.put []).1.me=r.me:=p.me
  rw [e1,e2] at h
  exact h
theorem tQ (f0:0<=f/\f < r.n/\f≠r.me):Up r (r.take2 f m).1 2/\Lt r.n r.me (r.take2 f m).1.term (r.take2 f m).2:=by
 unfold take2
 split
 ·-- a wish for a vote
  unfold nE
  split
  ·dsimp only
   split
   ·exact ⟨⟨rfl,rfl,Int.le_refl _,Int.le_refl _,by simp [fI],by show (0:Int)<=_; omega,fun h=>h⟩,Lt.one f0 rfl⟩
   ·exact ⟨⟨rfl,rfl,Int.le_refl _,Int.le_refl _,by simp,by show (0:Int)<=_; omega,fun h=>h⟩,Lt.one f0 rfl⟩
  ·exact ⟨Up.refl _ _,Lt.one f0 rfl⟩
 split
 ·-- a vote
  have c:Up r (r.counted f m) 0:=by
   unfold counted
   split
   ·rename_i h
    exact ⟨rfl,rfl,Int.le_refl _,Int.le_refl _,Nat.le_refl _,Int.le_max_left _ _,fun h hr=>by obtain ⟨l,el⟩:=h hr; exact ⟨_,by dsimp only; rw [el]; rfl⟩⟩
   ·exact Up.refl _ _
  have w:=BG (r:=r.counted f m)
  rw [c.n,c.me] at w
  exact ⟨(c.trans Cz.1).mono (by omega),w⟩
 split
 ·-- entries
  unfold appends
  have p:=Ah (r:=r) (f:=f) (m:=m)
  have f1:0<=f/\f < r.n/\f≠r.me:=f0
  unfold ou
  split
  ·exact ⟨p.mono (by omega),Lt.one f0 rfl⟩
  ·refine ⟨⟨p.n,p.me,p.t,?_,?_,p.tk,p.ak⟩,Lt.one f0 rfl⟩
   ·show r.commit<=max (r.lu f m).commit _
    have:=p.c; omega
   ·have:=p.k
    show (if _ then _ else _:List qj).length<=_
    split
    ·simp; omega
    ·omega
 split
 ·-- an answer to entries
  unfold appended
  split
  ·exact ⟨Up.refl _ _,Lt.nil _ _ _⟩
  split
  ·exact ⟨⟨rfl,rfl,Int.le_refl _,Int.le_refl _,by show r.keeps.length<=_; omega,Int.le_max_left _ _,fun h=>h⟩,Lt.one f0 (tJ _)⟩
  split
  ·exact ⟨Up.refl _ _,Lt.nil _ _ _⟩
  ·have p:=(uh (r:={ r with has:=r.has.set f.toNat (max (r.has.getD f.toNat 0) m.index),next:=r.next.set f.toNat (max (r.next.getD f.toNat 0) (W (m.index + 1))) })).1
   have q:Up r (r.nZ f m) 2:=⟨p.n,p.me,p.t,p.c,by have:=p.k; show _<=r.keeps.length + 2; exact Nat.le_trans this (by show r.keeps.length + 0<=_; omega),p.tk,p.ak⟩
   split
   ·exact ⟨q,Lt.one f0 (tJ _)⟩
   ·exact ⟨q,Lt.nil _ _ _⟩
 ·-- a snapshot
  unfold kP
  have p:=Ah (r:=r) (f:=f) (m:=m)
  refine ⟨?_,Lt.one f0 rfl⟩
  unfold oC
  split
  ·rename_i h
   refine ⟨p.n,p.me,p.t,?_,?_,p.tk,p.ak⟩
   ·show r.commit<=m.index
    have:=p.c; omega
   ·have:=p.k
    show ((r.lu f m).keeps ++ _).length<=_
    simp; omega
  ·exact p.mono (by omega)
theorem Er:Up r (r.take f m).1 3/\Lt r.n r.me (r.take f m).1.term (r.take f m).2/\((f < 0∨f>=r.n∨f=r.me∨m.kind < 1∨m.kind > 5)->r.take f m=(r,[])):=by
 unfold take
 split
 ·rename_i h
  exact ⟨Up.refl _ _,Lt.nil _ _ _,fun _=>rfl⟩
 ·rename_i h
  refine ⟨?_,?_,fun h2=>absurd h2 h⟩
  ·split
   ·exact Up.refl _ _
   ·split
    ·have p:=rT (r:=r) m.term (-1)
     exact (p.trans (tQ (by rw [p.n,p.me]; omega)).1).mono (by omega)
    ·exact (tQ (by omega)).1.mono (by omega)
  ·split
   ·unfold late answer
    split
    ·exact Lt.one (by omega) rfl
    ·split
     ·exact Lt.one (by omega) rfl
     ·exact Lt.nil _ _ _
   ·split
    ·have p:=rT (r:=r) m.term (-1)
     have q:=(tQ (r:=r.follow m.term (-1)) (f:=f) (m:=m) (by rw [p.n,p.me]; omega)).2
     rw [p.n,p.me] at q
     exact q
    ·exact (tQ (by omega)).2
theorem Br:r.nodes.length<=r.n.toNat:=by
 unfold nodes
 exact Nat.le_trans (List.length_filter_le _ _) (by simp)
theorem Ce:r.win.2.length<=r.n.toNat:=by
 unfold win
 split
 ·simp
 ·obtain ⟨p,_,_⟩:=zV (r:=r.lead) []
  have e1:(r.lead.put []).1.n=r.n:=p.n
  show (others _ _).length<=_
  unfold others
  rw [List.length_map,← e1]
  exact Br
theorem wZ:(r.take2 f m).2.length<=r.n.toNat + 1:=by
 unfold take2
 split
 ·unfold nE answer
  split <;> simp
 split
 ·have:=Ce (r:=r.counted f m)
  have e:(r.counted f m).n=r.n:=by unfold counted; split <;> rfl
  rw [e] at this
  omega
 split
 ·unfold appends ou answer
  split <;> simp
 split
 ·unfold appended
  split
  ·simp
  split
  ·simp
  split
  ·simp
  split <;> simp
 ·simp [kP,answer]
theorem take_len:(r.take f m).2.length<=r.n.toNat + 1:=by
 unfold take
 split
 ·simp
 split
 ·unfold late answer
  split
  ·simp
  ·split <;> simp
 split
 ·have:=wZ (r:=r.follow m.term (-1)) (f:=f) (m:=m)
  have p:=rT (r:=r) m.term (-1)
  rw [p.n] at this
  exact this
 ·exact wZ
/-- a tick -/
theorem Ee:r.tick.1.n=r.n/\r.tick.1.me=r.me/\r.tick.1.keeps.length<=r.keeps.length + 3/\r.tick.1.ticks<=max r.ticks 0 + 1/\((r.role=1->∃ l,r.ballot=some l)->(r.tick.1.role=1->∃ l,r.tick.1.ballot=some l)):=by
 unfold tick
 split
 ·exact ⟨rfl,rfl,by simp,by dsimp only; omega,fun h=>h⟩
 split
 ·unfold iA
  split
  ·exact ⟨rfl,rfl,by simp,by dsimp only; omega,fun h=>h⟩
  ·obtain ⟨p,_⟩:=Cz (r:=asks { r with ticks:=r.ticks + 1 })
   have k:=p.k
   have e:(asks { r with ticks:=r.ticks + 1 }).keeps.length=r.keeps.length + 1:=by simp [asks,fI]
   have e2:(asks { r with ticks:=r.ticks + 1 }).ticks=0:=rfl
   have t:=p.tk
   rw [e] at k
   rw [e2] at t
   exact ⟨p.n,p.me,by dsimp only; omega,by dsimp only; omega,fun _=>p.ak fun _=>⟨_,rfl⟩⟩
 ·exact ⟨rfl,rfl,by simp,by dsimp only; omega,fun h=>h⟩
end RS
end Go.Q.Rf
end
section
/- What a member does: ticks, letters that come, proposals, cuts. -/
namespace Go.Q.Rf
/-- what is said of letters, of what is committed, of who led, goes on -/
structure Pst (n:Int) (G G':Gh):Prop where
 li:∀ f t m,LI n G f t m->LI n G' f t m
 com:∀ A P,Com n G A P->Com n G' A P
 ld:∀ T j,G.ld T=some j->G'.ld T=some j
theorem Gx.pst {n:Int} {G G':Gh} {i t:Int} (X:Gx G G' i t):Pst n G G':=⟨fun _ _ _ h=>X.li h,fun _ _ h=>X.com h,X.ld⟩
theorem Pst.refl (n:Int) (G:Gh):Pst n G G:=⟨fun _ _ _ h=>h,fun _ _ h=>h,fun _ _ h=>h⟩
theorem Pst.trans {n:Int} {G G' G2:Gh} (p:Pst n G G') (q:Pst n G' G2):Pst n G G2:=⟨fun f t m h=>q.li f t m (p.li f t m h),fun A P h=>q.com A P (p.com A P h),fun T j h=>q.ld T j (p.ld T j h)⟩
theorem mW (R:Int->RS) (i:Int) (a b:RS):upd (upd R i a) i b=upd R i b:=by
 funext k
 by_cases c:k=i
 ·subst c; rw [upd_same,upd_same]
 ·rw [dw c,dw c,dw c]
theorem mQ (R:Int->RS) (i:Int):upd R i (R i)=R:=by
 funext k
 by_cases c:k=i
 ·subst c; rw [upd_same]
 ·rw [dw c]
theorem Core.mono {n:Int} {B B':Nat} {G:Gh} {R:Int->RS} (C:Core n B G R) (h:B<=B'):Core n B' G R :=
 ⟨fun i i0 i1=>(C.mi i i0 i1).mono h,fun T j hj=>(C.el T j hj).mono h⟩
section
variable {n:Int} {B:Nat} {G:Gh} {R:Int->RS} {i:Int} {r r':RS}
theorem Core.eqv (C:Core n B G R) (i0:0<=i) (i1:i < n) (h:Eqv (R i) r):Core n B G (upd R i r):=(C.same i0 i1 (Nat.le_refl _) ((C.mi i i0 i1).eqv h)).1
/-- letters of member i -/
def Lts (n:Int) (B:Nat) (G:Gh) (i:Int) (l:List lY):Prop:=∀ x∈l,LI n G i x.1 x.2/\0<=x.2.term/\x.2.term<=B
theorem Lts.nil:Lts n B G i []:=fun x h=>by cases h
theorem Lts.pst {G':Gh} {B':Nat} {l:List lY} (L:Lts n B G i l) (P:Pst n G G') (hB:B<=B'):Lts n B' G' i l:=fun x h=>⟨P.li _ _ _ (L x h).1,(L x h).2.1,by have:=(L x h).2.2; omega⟩
theorem Lts.app {l l':List lY} (L:Lts n B G i l) (L':Lts n B G i l'):Lts n B G i (l ++ l'):=fun x h=>(List.mem_append.1 h).elim (L x) (L' x)
theorem rA (M:MI n B G i r) (i0:0<=i) (i1:i < n) {f k:Int} {y:Bool} {x:Int} (h2:k=2->y=true->G.vt r.term i=some f) (h4:k=4->y=true->0<=x/\x.toNat<=G.ak r.term i) (hk:k=2∨k=4):Lts n B G i (r.answer f k y x):=fun z hz=>by
 unfold RS.answer at hz
 rw [List.mem_singleton] at hz
 subst hz
 exact ⟨⟨⟨i0,i1⟩,fun q=>(by have:k=1:=q; omega),h2,fun q=>(by have:k=3:=q; omega),h4,fun q=>(by have:k=5:=q; omega)⟩,M.t0,M.bt⟩
theorem BO (C:Core n B G R) (i0:0<=i) (i1:i < n) (hB:B<=1000000) (h2:(R i).role=2) {k:Int} (k0:0<=k) (k1:k < n):LI n G i k ((R i).due k)/\0<=((R i).due k).term/\((R i).due k).term<=B:=by
 have M:=C.mi i i0 i1
 have A:=M.l1 h2
 have hl:G.ld (R i).term≠none:=by rw [A.ld]; simp
 have x0:=M.rep.i0
 have x1:=M.rep.i1
 have c0:=M.c0
 have c2:=M.c2
 have bf:=M.bf
 have hk:k.toNat < (R i).next.length:=by rw [A.nl]; omega
 have nx:=A.nx _ (List.getElem_mem hk)
 have e:(R i).next.getD k.toNat 0=(R i).next[k.toNat]:=by rw [List.getD_eq_getElem?_getD,List.getElem?_eq_getElem hk]; rfl
 unfold RS.due
 rw [e]
 obtain ⟨v,ev⟩:∃ v,v=(R i).next[k.toNat]:=⟨_,rfl⟩
 rw [← ev] at nx ⊢
 by_cases c:v<=(R i).log.ix
 ·rw [if_pos c]
  refine ⟨⟨⟨i0,i1⟩,fun q=>(by cases q),fun q=>(by cases q),fun q=>(by cases q),fun q=>(by cases q),fun _=>⟨hl,x0,by show (R i).log.ix.toNat<=_; rw [← A.F]; exact x1,?_,?_⟩⟩,M.t0,M.bt⟩
  ·show tA (G.LL (R i).term) (R i).log.ix.toNat=(R i).log.tm
   rw [← A.F,M.rep.tm]
  ·show Com n G (R i).term ((G.LL (R i).term).take (R i).log.ix.toNat)
   rw [← A.F]
   have:=M.cm.take (R i).log.ix.toNat
   rw [List.take_take,Nat.min_eq_left (by omega)] at this
   exact this
 ·rw [if_neg c]
  have wv:W (v - 1)=v - 1:=wo (by omega) (by omega)
  have to:=M.rep.aH (p:=v - 1) (by omega)
  rw [if_neg (by omega),if_neg (by omega)] at to
  have fr:=M.rep.frm (p:=v) (m:=4) (by omega) (by omega) nx.2
  rw [wv,to,fr]
  refine ⟨⟨⟨i0,i1⟩,fun q=>(by cases q),fun q=>(by cases q),fun _=>⟨hl,by show 0<=v - 1; omega,?_,?_,fun j x hx=>?_,by show 0<=(R i).commit; omega,by show (R i).commit.toNat<=_; rw [← A.F]; omega,by show Com n G (R i).term ((G.LL (R i).term).take (R i).commit.toNat); rw [← A.F]; exact M.cm⟩,fun q=>(by cases q),fun q=>(by cases q)⟩,M.t0,M.bt⟩
  ·show (v - 1).toNat + (((G.F i).drop (v.toNat - 1)).take (4:Int).toNat).length<=(G.LL (R i).term).length
   rw [← A.F,List.length_take,List.length_drop]; omega
  ·show tA (G.LL (R i).term) (v - 1).toNat=tA (G.F i) (v - 1).toNat
   rw [A.F]
  ·have hx':(((G.F i).drop (v.toNat - 1)).take (4:Int).toNat)[j]? = some x:=hx
   rw [List.getElem?_take] at hx'
   split at hx'
   ·rw [List.getElem?_drop] at hx'
    show (G.LL (R i).term)[(v - 1).toNat + j]? = some x
    rw [← A.F,show (v - 1).toNat + j=v.toNat - 1 + j from by omega]; exact hx'
   ·cases hx'
theorem Af (C:Core n B G R) (i0:0<=i) (i1:i < n) (hB:B<=1000000) (h2:(R i).role=2):Lts n B G i ((R i).others (R i).due):=fun x hx=>by
 unfold RS.others at hx
 obtain ⟨k,hk,rfl⟩:=List.mem_map.1 hx
 have:=RS.yQ hk
 rw [(C.mi i i0 i1).rn] at this
 exact BO C i0 i1 hB h2 this.1 this.2.1
theorem uX (C:Core n B G R) (i0:0<=i) (i1:i < n) (hB:B<=100000) (h2:(R i).role=2) (cmd:List Int):∃ G',Core n (B + 1) G' (upd R i ((R i).put cmd).1)/\Pst n G G'/\((R i).put cmd).1.role=2:=by
 unfold RS.put
 by_cases c:((R i).log.append (R i).log.last (R i).log.lastT [((R i).term,cmd)]).2.2≠0
 ·rw [if_pos c]
  exact ⟨G,by rw [mQ]; exact C.mono (by omega),Pst.refl n G,h2⟩
 ·rw [if_neg c]
  obtain ⟨r1,er⟩:∃ r1:RS,r1 = { R i with log:=((R i).log.append (R i).log.last (R i).log.lastT [((R i).term,cmd)]).1,keeps:=(R i).keeps ++ [⟨2,(R i).log.lastT,0,(R i).log.last,[((R i).term,cmd)],[]⟩],has:=(R i).has.set (R i).me.toNat ((R i).log.append (R i).log.last (R i).log.lastT [((R i).term,cmd)]).2.1 }:=⟨_,rfl⟩
  have rr:r1.role=2:=by rw [er]; exact h2
  obtain ⟨G',g1,g2⟩:=C.put i0 i1 (by omega) h2 (cmd:=cmd) (Decidable.not_not.1 c) (r:=r1) (by rw [er]; exact ⟨rfl,rfl,rfl,rfl,rfl,rfl,rfl,rfl,rfl,rfl⟩)
  have S:=g1.settle i0 i1 (by rw [upd_same]; exact rr)
  rw [upd_same,mW] at S
  rw [← er]
  exact ⟨G',S.1,g2.pst,S.2.2.2⟩
theorem uO (C:Core n B G R) (i0:0<=i) (i1:i < n) (hB:B<=100000):∃ G',Core n (B + 1) G' (upd R i (R i).win.1)/\Pst n G G'/\Lts n (B + 1) G' i (R i).win.2:=by
 unfold RS.win
 by_cases c:(R i).role≠1∨(R i).won=false
 ·rw [if_pos c]
  exact ⟨G,by rw [mQ]; exact C.mono (by omega),Pst.refl n G,Lts.nil⟩
 ·rw [if_neg c]
  have c1:(R i).role=1:=Decidable.not_not.1 fun q=>c (.inl q)
  have c2:(R i).won=true:=by cases h:(R i).won with | true=>rfl | false=>exact absurd (.inr h) c
  obtain ⟨G1,g1,g2⟩:=C.lead i0 i1 (by omega) c1 c2
  obtain ⟨G2,h1,h2,h3⟩:=uX g1 i0 i1 hB (by rw [upd_same]; rfl) []
  rw [upd_same,mW] at h1
  rw [upd_same] at h3
  refine ⟨G2,h1,g2.pst.trans h2,?_⟩
  have:=Af h1 i0 i1 (by omega) (by rw [upd_same]; exact h3)
  rw [upd_same] at this
  exact this
theorem Ej (C:Core n B G R) (i0:0<=i) (i1:i < n) (hB:B<=100000 - 2):∃ G',Core n (B + 2) G' (upd R i (R i).iA.1)/\Pst n G G'/\Lts n (B + 2) G' i (R i).iA.2:=by
 unfold RS.iA
 by_cases c:(R i).term>=4611686018427387904
 ·rw [if_pos c]
  exact ⟨G,by rw [mQ]; exact C.mono (by omega),Pst.refl n G,Lts.nil⟩
 ·rw [if_neg c]
  have M:=C.mi i i0 i1
  obtain ⟨G1,g1,g2,g3,g4,g5,g6⟩:=C.asks i0 i1 (by omega)
  obtain ⟨G2,h1,h2,h3⟩:=uO g1 i0 i1 (by omega)
  rw [upd_same] at h1 h3
  rw [mW] at h1
  refine ⟨G2,h1,g2.pst.trans h2,Lts.app ?_ h3⟩
  have L1:Lts n (B + 1) G1 i ((R i).asks.others fun _=>⟨1,(R i).asks.term,(R i).log.last,(R i).log.lastT,0,false,[],[]⟩):=fun x hx=>by
   unfold RS.others at hx
   obtain ⟨k,hk,rfl⟩:=List.mem_map.1 hx
   have t0:=M.t0
   have bt:=M.bt
   refine ⟨⟨⟨i0,i1⟩,fun _=>?_,fun q=>(by cases q),fun q=>(by cases q),fun q=>(by cases q),fun q=>(by cases q)⟩,by show 0<=(R i).asks.term; rw [g3]; omega,by show (R i).asks.term<=_; rw [g3]; omega⟩
   show G1.vt (R i).asks.term i=some i/\G1.cp (R i).asks.term i=((R i).log.lastT,(R i).log.last.toNat)/\0<=(R i).log.last
   rw [g3,M.rep.last,M.rep.lastT]
   exact ⟨g4,by rw [g5,Int.toNat_natCast],by omega⟩
  exact L1.pst h2 (by omega)
theorem Db (C:Core n B G R) (i0:0<=i) (i1:i < n) (hB:B<=100000 - 2):∃ G',Core n (B + 2) G' (upd R i (R i).tick.1)/\Pst n G G'/\Lts n (B + 2) G' i (R i).tick.2:=by
 obtain ⟨r1,er⟩:∃ r1:RS,r1 = { R i with ticks:=(R i).ticks + 1 }:=⟨_,rfl⟩
 have C1:Core n B G (upd R i r1):=C.eqv i0 i1 (by rw [er]; exact ⟨rfl,rfl,rfl,rfl,rfl,rfl,rfl,rfl,rfl,rfl⟩)
 unfold RS.tick
 rw [← er]
 by_cases c1:(R i).role=2/\((R i).ticks + 1) % 3=0
 ·rw [if_pos c1]
  have:=Af C1 i0 i1 (by omega) (by rw [upd_same,er]; exact c1.1)
  rw [upd_same] at this
  exact ⟨G,C1.mono (by omega),Pst.refl n G,this.pst (Pst.refl n G) (by omega)⟩
 rw [if_neg c1]
 by_cases c2:(R i).role≠2/\(R i).ticks + 1>=10 + 7 * (R i).me
 ·rw [if_pos c2]
  obtain ⟨G2,h1,h2,h3⟩:=Ej C1 i0 i1 hB
  rw [upd_same] at h1 h3
  rw [mW] at h1
  exact ⟨G2,h1,h2,h3⟩
 ·rw [if_neg c2]
  exact ⟨G,C1.mono (by omega),Pst.refl n G,Lts.nil⟩
theorem uR (C:Core n B G R) (i0:0<=i) (i1:i < n) {f:Int} {m:Msg} (L:LI n G f i m) (ne:f≠i) (mk:m.kind=1) (mt:m.term=(R i).term):∃ G',Core n B G' (upd R i ((R i).nE f m).1)/\Pst n G G'/\Lts n B G' i ((R i).nE f m).2:=by
 have M:=C.mi i i0 i1
 unfold RS.nE
 by_cases c:(R i).sO f m=true
 ·rw [if_pos c]
  unfold RS.sO at c
  rw [Bool.and_eq_true] at c
  by_cases v:(R i).bR=0
  ·rw [if_pos v]
   obtain ⟨G',g1,g2,g3⟩:=C.bR i0 i1 L mk mt ne v c.2 (r:={ RS.fI { R i with bR:=f + 1 } with ticks:=0 }) ⟨rfl,rfl,rfl,rfl,rfl,rfl,rfl,rfl,rfl,rfl⟩
   have M':=g1.mi i i0 i1
   rw [upd_same] at M'
   refine ⟨G',g1,g2.pst,?_⟩
   have:=rA M' i0 i1 (f:=f) (k:=2) (y:=true) (x:=0) (fun _ _=>g3) (fun q=>by cases q) (.inl rfl)
   exact this
  ·rw [if_neg v]
   have C1:Core n B G (upd R i { R i with ticks:=0 }):=C.eqv i0 i1 ⟨rfl,rfl,rfl,rfl,rfl,rfl,rfl,rfl,rfl,rfl⟩
   refine ⟨G,C1,Pst.refl n G,rA M i0 i1 (fun _ _=>?_) (fun q=>by cases q) (.inl rfl)⟩
   rw [M.v1,if_neg v]
   have:=c.1
   simp only [Bool.or_eq_true,beq_iff_eq] at this
   congr 1; omega
 ·rw [if_neg c]
  exact ⟨G,by rw [mQ]; exact C,Pst.refl n G,rA M i0 i1 (fun _ q=>by cases q) (fun q=>by cases q) (.inl rfl)⟩
theorem Aw (C:Core n B G R) (i0:0<=i) (i1:i < n) {f:Int} {m:Msg} (mt:m.term=(R i).term):Core n B G (upd R i ((R i).lu f m))/\((R i).lu f m).term=(R i).term/\((R i).lu f m).role=0:=by
 have M:=C.mi i i0 i1
 have h:=(C.follow i0 i1 (T:=m.term) (l:=f) (by omega) (by rw [mt]; exact M.bt)).1
 have h2:=h.eqv i0 i1 (r:=(R i).lu f m) (by rw [upd_same]; exact ⟨rfl,rfl,rfl,rfl,rfl,rfl,rfl,rfl,rfl,rfl⟩)
 rw [mW] at h2
 refine ⟨h2,?_,rfl⟩
 show ((R i).aR m.term).term=_
 unfold RS.aR
 rw [if_neg (by omega)]
theorem rZ (C:Core n B G R) (i0:0<=i) (i1:i < n) (hB:B<=100000) {f:Int} {m:Msg} (L:LI n G f i m) (mk:m.kind=3) (mt:m.term=(R i).term):∃ G',Core n B G' (upd R i ((R i).appends f m).1)/\Pst n G G'/\Lts n B G' i ((R i).appends f m).2:=by
 obtain ⟨C1,t1,r1⟩:=Aw C i0 i1 (f:=f) mt
 unfold RS.appends RS.ou
 obtain ⟨q,eq⟩:∃ q,q=(R i).lu f m:=⟨_,rfl⟩
 rw [← eq] at C1 t1 r1 ⊢
 have M1:=C1.mi i i0 i1
 rw [upd_same] at M1
 by_cases c:(q.log.append m.index m.logTerm m.aK).2.2≠0
 ·rw [if_pos c]
  exact ⟨G,C1,Pst.refl n G,rA M1 i0 i1 (fun q=>by cases q) (fun _ y=>by cases y) (.inr rfl)⟩
 ·rw [if_neg c]
  obtain ⟨G',g1,g2,g3,g4⟩:=C1.app i0 i1 (by omega) (by rw [upd_same]; exact r1) L mk (by rw [upd_same,t1]; exact mt) (by rw [upd_same]; exact Decidable.not_not.1 c) (r:=q.wh m) (by rw [upd_same]; exact ⟨rfl,rfl,rfl,rfl,rfl,rfl,rfl,rfl,rfl,rfl⟩)
  rw [mW] at g1
  rw [upd_same] at g3 g4
  have M':=g1.mi i i0 i1
  rw [upd_same] at M'
  exact ⟨G',g1,g2.pst,rA M' i0 i1 (fun q=>by cases q) (fun _ _=>⟨g3,g4⟩) (.inr rfl)⟩
theorem rG (C:Core n B G R) (i0:0<=i) (i1:i < n) {f:Int} {m:Msg} (L:LI n G f i m) (mk:m.kind=5) (mt:m.term=(R i).term):∃ G',Core n B G' (upd R i ((R i).kP f m).1)/\Pst n G G'/\Lts n B G' i ((R i).kP f m).2:=by
 obtain ⟨C1,t1,r1⟩:=Aw C i0 i1 (f:=f) mt
 unfold RS.kP
 obtain ⟨q,eq⟩:∃ q,q=(R i).lu f m:=⟨_,rfl⟩
 rw [← eq] at C1 t1 r1 ⊢
 obtain ⟨G',g1,g2,g3,g4⟩:=C1.aQ i0 i1 (by rw [upd_same]; exact r1) L mk (by rw [upd_same,t1]; exact mt) (r:=q.oC m) (by rw [upd_same]; exact ⟨rfl,rfl,rfl,rfl,rfl,rfl,rfl,rfl,rfl,rfl⟩)
 rw [mW] at g1
 rw [upd_same] at g4
 have M':=g1.mi i i0 i1
 rw [upd_same] at M'
 have et:(q.oC m).term=q.term:=by unfold RS.oC; split <;> rfl
 exact ⟨G',g1,g2.pst,rA M' i0 i1 (fun q=>by cases q) (fun _ _=>⟨g3,by rw [et]; exact g4⟩) (.inr rfl)⟩
theorem rq (C:Core n B G R) (i0:0<=i) (i1:i < n) (hB:B<=100000) {f:Int} {m:Msg} (L:LI n G f i m) (mk:m.kind=4) (mt:m.term=(R i).term):∃ G',Core n B G' (upd R i ((R i).appended f m).1)/\Pst n G G'/\Lts n B G' i ((R i).appended f m).2:=by
 have f0:=L.fr
 unfold RS.appended
 by_cases c1:(R i).role≠2
 ·rw [if_pos c1]; exact ⟨G,by rw [mQ]; exact C,Pst.refl n G,Lts.nil⟩
 rw [if_neg c1]
 have c1':=Decidable.not_not.1 c1
 have one:∀ {r1:RS},Core n B G (upd R i r1)->r1.role=2->Lts n B G i [(f,r1.due f)]:=fun {r1} h hr x hx=>by
  rw [List.mem_singleton] at hx
  subst hx
  have:=BO h i0 i1 (by omega) (by rw [upd_same]; exact hr) f0.1 f0.2
  rw [upd_same] at this
  exact this
 by_cases c2:m.yes=false
 ·rw [if_pos c2]
  obtain ⟨h,_⟩:=C.back i0 i1 (by omega) c1' (m:=m) f0
  exact ⟨G,h,Pst.refl n G,one h c1'⟩
 rw [if_neg c2]
 by_cases c3:m.index > (R i).log.last
 ·rw [if_pos c3]; exact ⟨G,by rw [mQ]; exact C,Pst.refl n G,Lts.nil⟩
 rw [if_neg c3]
 obtain ⟨h,_,_,hr⟩:=C.nZ i0 i1 (by omega) c1' L mk mt (by simpa using c2) (by omega)
 by_cases c4:((R i).nZ f m).next.getD f.toNat 0<=(R i).log.last
 ·rw [if_pos c4]; exact ⟨G,h,Pst.refl n G,one h hr⟩
 ·rw [if_neg c4]; exact ⟨G,h,Pst.refl n G,Lts.nil⟩
theorem wP (C:Core n B G R) (i0:0<=i) (i1:i < n) (hB:B<=100000) {f:Int} {m:Msg} (L:LI n G f i m) (ne:f≠i) (mk:1<=m.kind/\m.kind<=5) (mt:m.term=(R i).term):∃ G',Core n (B + 1) G' (upd R i ((R i).take2 f m).1)/\Pst n G G'/\Lts n (B + 1) G' i ((R i).take2 f m).2:=by
 have up:∀ {r1:RS} {l:List lY},(∃ G',Core n B G' (upd R i r1)/\Pst n G G'/\Lts n B G' i l)->∃ G',Core n (B + 1) G' (upd R i r1)/\Pst n G G'/\Lts n (B + 1) G' i l:=fun ⟨G',a,b,c⟩=>⟨G',a.mono (by omega),b,c.pst (Pst.refl n G') (by omega)⟩
 unfold RS.take2
 by_cases k1:m.kind=1
 ·rw [if_pos k1]; exact up (uR C i0 i1 L ne k1 mt)
 rw [if_neg k1]
 by_cases k2:m.kind=2
 ·rw [if_pos k2]
  obtain ⟨h,hx,_⟩:=C.counted i0 i1 L k2 mt
  obtain ⟨G2,h1,h2,h3⟩:=uO h i0 i1 hB
  rw [upd_same] at h1 h3
  rw [mW] at h1
  exact ⟨G2,h1,h2,h3⟩
 rw [if_neg k2]
 by_cases k3:m.kind=3
 ·rw [if_pos k3]; exact up (rZ C i0 i1 hB L k3 mt)
 rw [if_neg k3]
 by_cases k4:m.kind=4
 ·rw [if_pos k4]; exact up (rq C i0 i1 hB L k4 mt)
 rw [if_neg k4]
 exact up (rG C i0 i1 L (by omega) mt)
theorem CB (C:Core n B G R) (i0:0<=i) (i1:i < n) (hB:B<=100000) {f:Int} {m:Msg} (L:LI n G f i m) (mb:m.term<=B):∃ G',Core n (B + 1) G' (upd R i ((R i).take f m).1)/\Pst n G G'/\Lts n (B + 1) G' i ((R i).take f m).2:=by
 have M:=C.mi i i0 i1
 unfold RS.take
 by_cases c:f < 0∨f>=(R i).n∨f=(R i).me∨m.kind < 1∨m.kind > 5
 ·rw [if_pos c]; exact ⟨G,by rw [mQ]; exact C.mono (by omega),Pst.refl n G,Lts.nil⟩
 rw [if_neg c,M.me,M.rn] at *
 have ne:f≠i:=fun q=>c (.inr (.inr (.inl q)))
 have mk:1<=m.kind/\m.kind<=5:=⟨Int.not_lt.1 fun q=>c (.inr (.inr (.inr (.inl q)))),Int.not_lt.1 fun q=>c (.inr (.inr (.inr (.inr q))))⟩
 by_cases c1:m.term < (R i).term
 ·rw [if_pos c1]
  refine ⟨G,by rw [mQ]; exact C.mono (by omega),Pst.refl n G,?_⟩
  unfold RS.late
  have M1:MI n (B + 1) G i (R i):=M.mono (by omega)
  by_cases k1:m.kind=1
  ·rw [if_pos k1]; exact rA M1 i0 i1 (fun _ q=>by cases q) (fun q=>by cases q) (.inl rfl)
  rw [if_neg k1]
  by_cases k3:m.kind=3∨m.kind=5
  ·rw [if_pos k3]; exact rA M1 i0 i1 (fun q=>by cases q) (fun _ q=>by cases q) (.inr rfl)
  ·rw [if_neg k3]; exact Lts.nil
 rw [if_neg c1]
 by_cases c2:m.term > (R i).term
 ·rw [if_pos c2]
  obtain ⟨h,hx⟩:=C.follow i0 i1 (T:=m.term) (l:=-1) (by omega) mb
  obtain ⟨G2,h1,h2,h3⟩:=wP h i0 i1 hB L ne mk (by rw [upd_same]; show m.term=((R i).aR m.term).term; unfold RS.aR; rw [if_pos c2]; rfl)
  rw [upd_same] at h1 h3
  rw [mW] at h1
  exact ⟨G2,h1,h2,h3⟩
 ·rw [if_neg c2]
  exact wP C i0 i1 hB L ne mk (by omega)
theorem zu (C:Core n B G R) (i0:0<=i) (i1:i < n) (hB:B<=100000) (cmd:List Int):∃ G',Core n (B + 1) G' (upd R i ((R i).iC cmd).1)/\Pst n G G':=by
 unfold RS.iC
 by_cases c:(R i).role≠2
 ·rw [if_pos c]; exact ⟨G,by rw [mQ]; exact C.mono (by omega),Pst.refl n G⟩
 ·rw [if_neg c]
  obtain ⟨G',a,b,_⟩:=uX C i0 i1 hB (Decidable.not_not.1 c) cmd
  exact ⟨G',a,b⟩
end
end Go.Q.Rf
end

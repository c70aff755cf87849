/- A part of the proof of statements of this seat: lemmas, no statement of their own. -/
import Derived.Test.YthjafnfadiijgaaYiZaw
set_option linter.unusedVariables false
set_option linter.unusedSimpArgs false
section
/- What is never said of a cluster of members: who led, what they had, who voted, who has what. -/
namespace Go.Q.Rf
theorem sQ {α:Type} [DecidableEq α]:∀ {a l:List α},a.Nodup->(∀ z∈a,z∈l)->a.length<=l.length
 | [],l,_,_=>by simp
 | x :: a,l,hn,hs=>by
  obtain ⟨h1,h2⟩:=List.nodup_cons.1 hn
  have hx:=hs x List.mem_cons_self
  have:=sQ (l:=l.erase x) h2 fun z hz=>by
   have ne:z≠x:=fun e=>h1 (by rw [← e]; exact hz)
   exact (List.mem_erase_of_ne ne).2 (hs z (List.mem_cons_of_mem _ hz))
  rw [List.length_erase_of_mem hx] at this
  have:=List.length_pos_of_mem hx
  simp only [List.length_cons]; omega
/-- more than half -/
def Maj (n:Int) (P:Int->Prop):Prop:=∃ l:List Int,l.Nodup/\(∀ x∈l,(0<=x/\x < n)/\P x)/\n / 2 + 1<=(l.length:Int)
theorem Maj.mono {n:Int} {P Q:Int->Prop} (M:Maj n P) (h:∀ x,0<=x->x < n->P x->Q x):Maj n Q:=by
 obtain ⟨l,h1,h2,h3⟩:=M
 exact ⟨l,h1,fun x hx=>⟨(h2 x hx).1,h x (h2 x hx).1.1 (h2 x hx).1.2 (h2 x hx).2⟩,h3⟩
theorem Maj.meet {n:Int} {P Q:Int->Prop} (n0:1<=n) (A:Maj n P) (B:Maj n Q):∃ x,0<=x/\x < n/\P x/\Q x:=by
 obtain ⟨a,a1,a2,a3⟩:=A
 obtain ⟨b,b1,b2,b3⟩:=B
 apply Classical.byContradiction
 intro hc
 have dj:∀ x∈a,∀ y∈b,x≠y:=fun x hx y hy e=>by
  subst e
  exact hc ⟨x,(a2 x hx).1.1,(a2 x hx).1.2,(a2 x hx).2,(b2 x hy).2⟩
 have nd:(a ++ b).Nodup:=List.nodup_append.2 ⟨a1,b1,dj⟩
 have:=sQ (l:=(List.range n.toNat).map fun (i:Nat)=>(i:Int)) nd fun z hz=>by
  have hb:0<=z/\z < n:=(List.mem_append.1 hz).elim (fun h=>(a2 z h).1) fun h=>(b2 z h).1
  exact List.mem_map.2 ⟨z.toNat,List.mem_range.2 (by omega),by omega⟩
 rw [List.length_append,List.length_map,List.length_range] at this
 omega
structure Gh where
 F:Int->List Ent
 ld:Int->Option Int
 CL:Int->List Ent
 LL:Int->List Ent
 vt:Int->Int->Option Int
 cp:Int->Int->Int × Nat
 ak:Int->Int->Nat
def leC (T:Int) (x:Nat) (c:Int × Nat):Prop:=T < c.1∨T=c.1/\x<=c.2
/-- the entry x of the log of T's leader is one of T -/
structure own (G:Gh) (T:Int) (x:Nat):Prop where
 l:G.ld T≠none
 a:1<=x
 b:x<=(G.LL T).length
 t:tA (G.LL T) x=T
/-- one that led meanwhile began without it -/
def wZ (G:Gh) (T:Int) (x:Nat) (B:Int):Prop:=∃ T2,T < T2/\T2<=B/\G.ld T2≠none/\(G.CL T2).take x≠(G.LL T).take x
def LG (G:Gh) (F:List Ent):Prop:=∀ k,1<=k->k<=F.length->1<=tA F k/\G.ld (tA F k)≠none/\k<=(G.LL (tA F k)).length/\F.take k=(G.LL (tA F k)).take k
theorem LG.eqT {G:Gh} {F X:List Ent} (A:LG G F) (B:LG G X) (k:Nat) (h1:1<=k) (h2:k<=F.length) (h3:k<=X.length) (e:tA F k=tA X k):F.take k=X.take k:=by
 rw [(A k h1 h2).2.2.2,(B k h1 h3).2.2.2,e]
theorem LG.take {G:Gh} {F:List Ent} (A:LG G F) (q:Nat):LG G (F.take q):=fun k h1 h2=>by
 rw [List.length_take] at h2
 rw [tK (by omega),List.take_take,Nat.min_eq_left (by omega)]
 exact A k h1 (by omega)
/-- what is known of one that was chosen -/
structure EL (n:Int) (B:Nat) (G:Gh) (T j:Int):Prop where
 t1:1<=T
 r:0<=j/\j < n
 q:Maj n fun k=>G.vt T k=some j/\∀ T0 x,T0 < T->x<=G.ak T0 k->own G T0 x->leC T0 x (tA (G.CL T) (G.CL T).length,(G.CL T).length)∨wZ G T0 x (T - 1)
 lg:LG G (G.CL T)
 lt:∀ e∈G.CL T,e.1 < T
 ex:∃ es,G.LL T=G.CL T ++ es/\∀ e∈es,e.1=T
 bd:(G.LL T).length<=B
def ELs (n:Int) (B:Nat) (G:Gh):Prop:=∀ T j,G.ld T=some j->EL n B G T j
section
variable {n:Int} {B:Nat} {G:Gh}
theorem qf {α:Type} {o:Option α} (h:o≠none):∃ x,o=some x:=by cases o with | none=>exact absurd rfl h | some x=>exact ⟨x,rfl⟩
theorem ELs.ll (E:ELs n B G) {T:Int} (h:G.ld T≠none):LG G (G.LL T):=fun k h1 h2=>by
 obtain ⟨j,hj⟩:=qf h
 have e:=E T j hj
 obtain ⟨es,ee,et⟩:=e.ex
 rw [ee] at h2
 by_cases c:k<=(G.CL T).length
 ·have:=e.lg k h1 c
  rw [ee,xg c,List.take_append_of_le_length c]
  exact this
 ·have:tA (G.LL T) k=T:=by
   rw [List.length_append] at h2
   have h3:k - 1 - (G.CL T).length < es.length:=by omega
   have:=sO (F:=G.LL T) (p:=k - 1) (e:=es[k - 1 - (G.CL T).length]) (by rw [ee,List.getElem?_append_right (by omega),List.getElem?_eq_getElem h3])
   rw [show k - 1 + 1=k from by omega] at this
   rw [this]; exact et _ (List.getElem_mem _)
  rw [this]
  exact ⟨e.t1,h,by rw [ee]; exact h2,rfl⟩
theorem ELs.cl (E:ELs n B G) {T:Int} (h:G.ld T≠none):G.CL T=(G.LL T).take (G.CL T).length/\(G.CL T).length<=(G.LL T).length:=by
 obtain ⟨j,hj⟩:=qf h
 obtain ⟨es,ee,_⟩:=(E T j hj).ex
 rw [ee]; simp
/-- an entry of a term stands behind what its leader began with -/
theorem ELs.beh (E:ELs n B G) {T:Int} {x:Nat} (o:own G T x):(G.CL T).length < x:=by
 obtain ⟨j,hj⟩:=qf o.l
 have e:=E T j hj
 obtain ⟨es,ee,et⟩:=e.ex
 apply Classical.byContradiction
 intro hc
 have h1:=o.t
 rw [ee,xg (by omega)] at h1
 obtain ⟨a,ha,h2⟩:=BH (F:=G.CL T) o.a (by omega)
 have:=e.lt a ha
 omega
/-- what more than half have of a term, each later leader began with -/
theorem uC (E:ELs n B G):∀ (f:Nat) (T':Int),T'.toNat<=f->G.ld T'≠none->∀ T x,T < T'->own G T x->Maj n (fun k=>x<=G.ak T k)->(G.CL T').take x=(G.LL T).take x
 | 0,T',hf,hl,T,x,hT,o,M=>by
  obtain ⟨j,hj⟩:=qf hl
  have:=(E T' j hj).t1; omega
 | f + 1,T',hf,hl,T,x,hT,o,M=>by
  obtain ⟨j,hj⟩:=qf hl
  have e:=E T' j hj
  have t1:=e.t1
  obtain ⟨jT,hjT⟩:=qf o.l
  have tT:=(E T jT hjT).t1
  obtain ⟨k,k0,k1,hk,ha⟩:=e.q.meet (by have:=e.r; omega) M
  rcases hk.2 T x hT ha o with h | ⟨T2,a1,a2,a3,a4⟩
  rotate_left
  ·exact absurd (uC E f T2 (by omega) a3 T x a1 o M) a4
  have ne:(G.CL T').length≠0:=fun z=>by
   rw [z] at h
   rcases h with h | ⟨h,h'⟩
   ·rw [Jb] at h; dsimp only at h; omega
   ·have:=o.a; dsimp only at h'; omega
  have lg:=e.lg (G.CL T').length (by omega) (Nat.le_refl _)
  obtain ⟨c,ec⟩:∃ c,c=tA (G.CL T') (G.CL T').length:=⟨_,rfl⟩
  rw [← ec] at lg h
  rw [List.take_length] at lg
  rcases h with h | ⟨h,h'⟩
  ·dsimp only at h
   have cT:c < T':=by
    obtain ⟨a,ha,h2⟩:=BH (F:=G.CL T') (p:=(G.CL T').length) (by omega) (Nat.le_refl _)
    have:=e.lt a ha; omega
   have oc:own G c (G.CL T').length:=⟨lg.2.1,by omega,lg.2.2.1,by rw [← tK (Nat.le_refl (G.CL T').length),← lg.2.2.2]; exact ec.symm⟩
   have bc:=E.beh oc
   have ih:=uC E f c (by omega) lg.2.1 T x h o M
   have cl:=(E.cl lg.2.1).1
   have xl:x<=(G.CL c).length:=by
    have:=congrArg List.length ih
    rw [List.length_take,List.length_take] at this
    have:=o.b; omega
   rw [← ih,cl,List.take_take,Nat.min_eq_left xl,lg.2.2.2,List.take_take,Nat.min_eq_left (by omega)]
  ·dsimp only at h h'
   rw [h,lg.2.2.2,List.take_take,Nat.min_eq_left h']
theorem ELs.uC (E:ELs n B G) {T' T:Int} {x:Nat} (h:G.ld T'≠none) (hT:T < T') (o:own G T x) (M:Maj n (fun k=>x<=G.ak T k)):(G.CL T').take x=(G.LL T).take x :=
 Rf.uC E T'.toNat T' (Nat.le_refl _) h T x hT o M
/-- what is committed -/
def Com (n:Int) (G:Gh) (A:Int) (P:List Ent):Prop:=P=[]∨∃ T x,T<=A/\own G T x/\P.length<=x/\P=(G.LL T).take P.length/\Maj n (fun k=>x<=G.ak T k)
theorem Com.up {A A':Int} {P:List Ent} (C:Com n G A P) (h:A<=A'):Com n G A' P:=C.imp id fun ⟨T,x,a,b⟩=>⟨T,x,by omega,b⟩
theorem Com.take {A:Int} {P:List Ent} (C:Com n G A P) (k:Nat):Com n G A (P.take k):=by
 rcases C with rfl | ⟨T,x,a,o,l,e,M⟩
 ·exact .inl (by simp)
 ·refine .inr ⟨T,x,a,o,by rw [List.length_take]; omega,?_,M⟩
  conv=>lhs; rw [e]
  rw [List.take_take,List.length_take]
/-- what is committed stands in the log of each later leader -/
theorem Com.Fy (E:ELs n B G) {A T:Int} {P:List Ent} (C:Com n G A P) (h:G.ld T≠none) (hA:A<=T):(G.LL T).take P.length=P/\P.length<=(G.LL T).length:=by
 rcases C with rfl | ⟨T1,x,a,o,l,e,M⟩
 ·simp
 ·have ob:=o.b
  by_cases c:T1=T
  ·subst c; exact ⟨e.symm,by omega⟩
  ·have h1:=E.uC h (by omega:T1 < T) o M
   have cl:=E.cl h
   have xl:x<=(G.CL T).length:=by
    have:=congrArg List.length h1
    rw [List.length_take,List.length_take] at this; omega
   have h2:(G.LL T).take x=(G.LL T1).take x:=by
    rw [← h1]
    conv=>rhs; rw [cl.1]
    rw [List.take_take,Nat.min_eq_left xl]
   refine ⟨?_,by omega⟩
   rw [oU h2 l,← e]
/-- what is committed here and there is the same -/
theorem Com.comp (E:ELs n B G) {A A':Int} {P Q:List Ent} (C:Com n G A P) (D:Com n G A' Q) {k:Nat} (h1:k<=P.length) (h2:k<=Q.length):P.take k=Q.take k:=by
 rcases C with rfl | ⟨T1,x,a,o,l,e,M⟩
 ·simp at h1; subst h1; simp
 rcases D with rfl | ⟨T2,y,a',o',l',e',M'⟩
 ·simp at h2; subst h2; simp
 have key:∀ {T1 T2:Int} {x y:Nat} {P Q:List Ent},T1<=T2->own G T1 x->P.length<=x->P=(G.LL T1).take P.length->Maj n (fun k=>x<=G.ak T1 k)->own G T2 y->Q=(G.LL T2).take Q.length->k<=P.length->k<=Q.length->P.take k=Q.take k:=fun {T1 T2 x y P Q} hT o l e M o' e' h1 h2=>by
  have:=(Com.Fy E (.inr ⟨T1,x,Int.le_refl _,o,l,e,M⟩:Com n G T1 P) o'.l hT).1
  rw [← this,e',List.take_take,List.take_take,Nat.min_eq_left h1,Nat.min_eq_left h2]
 rcases Int.le_total T1 T2 with h | h
 ·exact key h o l e M o' e' h1 h2
 ·exact (key h o' l' e' M' o e h2 h1).symm
end
end Go.Q.Rf
end
section
/- What holds of each member, and of each letter; what others' steps leave. -/
namespace Go.Q.Rf
structure JO (n:Int) (G:Gh) (i:Int) (r:RS):Prop where
 ld:G.ld r.term≠some i
 vt:G.vt r.term i=some i
 bl:∃ l,r.ballot=some l/\l.Nodup/\∀ k∈l,(0<=k/\k < n)/\G.vt r.term k=some i
 cp:G.cp r.term i=(tA (G.F i) (G.F i).length,(G.F i).length)
 lt:∀ e∈G.F i,e.1 < r.term
 t1:1<=r.term
structure Ez (n:Int) (G:Gh) (i:Int) (r:RS):Prop where
 ld:G.ld r.term=some i
 F:G.F i=G.LL r.term
 nl:r.next.length=n.toNat
 hl:r.has.length=n.toNat
 nx:∀ x∈r.next,1<=x/\x<=(G.F i).length + 1
 hs:∀ (k:Nat),k < n.toNat->0<=r.has.getD k 0/\r.has.getD k 0<=(G.ak r.term k:Int)
structure MI (n:Int) (B:Nat) (G:Gh) (i:Int) (r:RS):Prop where
 me:r.me=i
 rn:r.n=n
 t0:0<=r.term
 rep:Rep (G.F i) r.log
 lg:LG G (G.F i)
 ft:∀ e∈G.F i,e.1<=r.term
 v0:r.aN=0∨(1<=r.aN/\r.aN<=n)
 v1:G.vt r.term i=if r.aN=0 then none else some (r.aN - 1)
 v2:∀ T,r.term < T->G.vt T i=none
 v3:∀ T,G.ld T=some i->T<=r.term
 v4:∀ T j,G.vt T i=some j->G.vt T j=some j
 c1:r.role=1->JO n G i r
 l1:r.role=2->Ez n G i r
 rl:r.role=0∨r.role=1∨r.role=2
 c0:r.log.ix<=r.commit
 c2:r.commit<=(G.F i).length
 cm:Com n G r.term ((G.F i).take r.commit.toNat)
 a1:∀ T,r.term < T->G.ak T i=0
 a2:∀ T x,x<=G.ak T i->own G T x->(G.F i).take x=(G.LL T).take x∨wZ G T x r.term
 a3:∀ T,G.ak T i<=(G.LL T).length/\(0 < G.ak T i->G.ld T≠none)
 a4:∀ x,x<=G.ak r.term i->(G.F i).take x=(G.LL r.term).take x
 vi:∀ T' T j x,G.vt T' i=some j->T < T'->x<=G.ak T i->own G T x->leC T x (G.cp T' j)∨wZ G T x T'
 bt:r.term<=B
 bf:(G.F i).length<=B
/-- a letter: from, to, what -/
structure LI (n:Int) (G:Gh) (f t:Int) (m:Msg):Prop where
 fr:0<=f/\f < n
 k1:m.kind=1->G.vt m.term f=some f/\G.cp m.term f=(m.logTerm,m.index.toNat)/\0<=m.index
 k2:m.kind=2->m.yes=true->G.vt m.term f=some t
 k3:m.kind=3->G.ld m.term=some f/\0<=m.index/\m.index.toNat + m.aM.length<=(G.LL m.term).length/\tA (G.LL m.term) m.index.toNat=m.logTerm/\(∀ i x,m.aM[i]? = some x->(G.LL m.term)[m.index.toNat + i]? = some x)/\0<=m.commit/\m.commit.toNat<=(G.LL m.term).length/\Com n G m.term ((G.LL m.term).take m.commit.toNat)
 k4:m.kind=4->m.yes=true->0<=m.index/\m.index.toNat<=G.ak m.term f
 k5:m.kind=5->G.ld m.term=some f/\0<=m.index/\m.index.toNat<=(G.LL m.term).length/\tA (G.LL m.term) m.index.toNat=m.logTerm/\Com n G m.term ((G.LL m.term).take m.index.toNat)
/-- what a step of member i, that is in the term t then, may turn -/
structure Gx (G G':Gh) (i t:Int):Prop where
 ld:∀ T j,G.ld T=some j->G'.ld T=some j
 ln:∀ T j,G'.ld T=some j->G.ld T=some j∨(T=t/\j=i)
 cl:∀ T,G.ld T≠none->G'.CL T=G.CL T
 ll:∀ T,G.ld T≠none->∃ es,G'.LL T=G.LL T ++ es/\∀ e∈es,e.1=T
 lk:∀ T,G.ld T≠none->G.ld T≠some i->G'.LL T=G.LL T
 vt:∀ T k j,G.vt T k=some j->G'.vt T k=some j
 vk:∀ T k,k≠i->G'.vt T k=G.vt T k
 v2:∀ T,t < T->G'.vt T i=none
 cp:∀ T j,G.vt T j=some j->G'.cp T j=G.cp T j
 ak:∀ T k,G.ak T k<=G'.ak T k
 an:∀ T k,(T≠t∨k≠i)->G'.ak T k=G.ak T k
 F:∀ k,k≠i->G'.F k=G.F k
theorem Gx.refl {G:Gh} {i t:Int} (v:∀ T,t < T->G.vt T i=none):Gx G G i t :=
 ⟨fun _ _ h=>h,fun _ _ h=>.inl h,fun _ _=>rfl,fun _ _=>⟨[],by simp,by simp⟩,fun _ _ _=>rfl,fun _ _ _ h=>h,fun _ _ _=>rfl,v,fun _ _ _=>rfl,fun _ _=>Nat.le_refl _,fun _ _ _=>rfl,fun _ _=>rfl⟩
section
variable {n:Int} {B B':Nat} {G G':Gh} {i t:Int}
theorem Gx.I9 (X:Gx G G' i t) {T:Int} (h:G.ld T≠none):G'.ld T≠none:=by
 obtain ⟨j,hj⟩:=qf h
 rw [X.ld T j hj]; simp
theorem Gx.llk (X:Gx G G' i t) {T:Int} (h:G.ld T≠none) {k:Nat} (hk:k<=(G.LL T).length):(G'.LL T).take k=(G.LL T).take k/\tA (G'.LL T) k=tA (G.LL T) k:=by
 obtain ⟨es,e,_⟩:=X.ll T h
 rw [e,List.take_append_of_le_length hk,xg hk]
 exact ⟨rfl,rfl⟩
theorem Gx.lll (X:Gx G G' i t) {T:Int} (h:G.ld T≠none):(G.LL T).length<=(G'.LL T).length:=by
 obtain ⟨es,e,_⟩:=X.ll T h
 rw [e,List.length_append]; omega
theorem Gx.own (X:Gx G G' i t) {T:Int} {x:Nat} (o:Rf.own G T x):Rf.own G' T x :=
 ⟨X.I9 o.l,o.a,Nat.le_trans o.b (X.lll o.l),by rw [(X.llk o.l o.b).2]; exact o.t⟩
theorem Gx.own' (X:Gx G G' i t) {T:Int} {x:Nat} (o:Rf.own G' T x) (h:G.ld T≠none) (hx:x<=(G.LL T).length):Rf.own G T x :=
 ⟨h,o.a,hx,by rw [← (X.llk h hx).2]; exact o.t⟩
theorem Gx.lacks (X:Gx G G' i t) {T:Int} {x:Nat} {A:Int} (o:Rf.own G T x) (h:wZ G T x A):wZ G' T x A:=by
 obtain ⟨T2,a,b,c,d⟩:=h
 exact ⟨T2,a,b,X.I9 c,by rw [X.cl T2 c,(X.llk o.l o.b).1]; exact d⟩
theorem wZ.mono {T:Int} {x:Nat} {A A':Int} (h:wZ G T x A) (hA:A<=A'):wZ G T x A':=by
 obtain ⟨T2,a,b,c⟩:=h; exact ⟨T2,a,by omega,c⟩
theorem Gx.lg (X:Gx G G' i t) {F:List Ent} (h:LG G F):LG G' F:=fun k h1 h2=>by
 obtain ⟨a,b,c,d⟩:=h k h1 h2
 exact ⟨a,X.I9 b,Nat.le_trans c (X.lll b),by rw [(X.llk b c).1]; exact d⟩
theorem Gx.com (X:Gx G G' i t) {A:Int} {P:List Ent} (h:Com n G A P):Com n G' A P:=by
 rcases h with h | ⟨T,x,a,o,l,e,M⟩
 ·exact .inl h
 ·exact .inr ⟨T,x,a,X.own o,l,by rw [(X.llk o.l (by have:=o.b; omega)).1]; exact e,M.mono fun k _ _ h=>Nat.le_trans h (X.ak T k)⟩
/-- acks that are new are of the term, and of the member -/
theorem Gx.akk (X:Gx G G' i t) {T k:Int} {x:Nat} (h:x<=G'.ak T k) (c:T≠t∨k≠i):x<=G.ak T k:=by rw [← X.an T k c]; exact h
theorem Gx.el (X:Gx G G' i t) (A3:∀ k,0<=k->k < n->∀ T,G.ak T k<=(G.LL T).length/\(0 < G.ak T k->G.ld T≠none)) {T j:Int} (h:G.ld T=some j) (e:EL n B G T j) (hB:(G'.LL T).length<=B'):EL n B' G' T j:=by
 have hl:G.ld T≠none:=by rw [h]; simp
 refine ⟨e.t1,e.r,e.q.mono fun k k0 k1 hk=>⟨X.vt T k j hk.1,fun T0 x hT hx o=>?_⟩,by rw [X.cl T hl]; exact X.lg e.lg,by rw [X.cl T hl]; exact e.lt,?_,hB⟩
 ·have c:T0≠t∨k≠i:=by
   by_cases c:T0=t/\k=i
   ·obtain ⟨rfl,rfl⟩:=c
    have:=X.vt T k j hk.1
    rw [X.v2 T hT] at this; cases this
   ·by_cases c1:T0=t
    ·exact .inr fun q=>c ⟨c1,q⟩
    ·exact .inl c1
  have hx':=X.akk hx c
  have a3:=A3 k k0 k1 T0
  have oa:=o.a
  have o':=X.own' o (a3.2 (by omega)) (by omega)
  rw [X.cl T hl]
  exact (hk.2 T0 x hT hx' o').imp id (X.lacks o')
 ·obtain ⟨es,ee,et⟩:=e.ex
  obtain ⟨fs,fe,ft⟩:=X.ll T hl
  exact ⟨es ++ fs,by rw [fe,ee,X.cl T hl,List.append_assoc],fun x hx=>(List.mem_append.1 hx).elim (et x) (ft x)⟩
theorem Gx.mi (X:Gx G G' i t) {k:Int} (ne:k≠i) {r:RS} (M:MI n B G k r) (hB:B<=B'):MI n B' G' k r:=by
 have a3:=M.a3
 have ow:∀ {T x},x<=G'.ak T k->Rf.own G' T x->x<=G.ak T k/\Rf.own G T x:=fun {T x} hx o=>by
  have hx':=X.akk hx (.inr ne)
  have oa:=o.a
  exact ⟨hx',X.own' o ((a3 T).2 (by omega)) (by have:=(a3 T).1; omega)⟩
 have ldk:∀ {T},G'.ld T=some k->G.ld T=some k:=fun {T} h=>(X.ln T k h).elim id fun q=>absurd q.2 ne
 refine { me:=M.me,rn:=M.rn,t0:=M.t0,rep:=by rw [X.F k ne]; exact M.rep,lg:=by rw [X.F k ne]; exact X.lg M.lg,ft:=by rw [X.F k ne]; exact M.ft,v0:=M.v0,v1:=by rw [X.vk _ k ne]; exact M.v1,v2:=fun T h=>by rw [X.vk T k ne]; exact M.v2 T h,v3:=fun T h=>M.v3 T (ldk h),v4:=fun T j h=>?_,c1:=fun h=>?_,l1:=fun h=>?_,rl:=M.rl,c0:=M.c0,c2:=by rw [X.F k ne]; exact M.c2,cm:=by rw [X.F k ne]; exact X.com M.cm,a1:=fun T h=>by rw [X.an T k (.inr ne)]; exact M.a1 T h,a2:=fun T x hx o=>?_,a3:=fun T=>?_,a4:=fun x hx=>?_,vi:=fun T' T j x hv hT hx o=>?_,bt:=Int.le_trans M.bt (by omega),bf:=by rw [X.F k ne]; exact Nat.le_trans M.bf hB }
 ·rw [X.vk T k ne] at h; exact X.vt T j j (M.v4 T j h)
 ·have c:=M.c1 h
  obtain ⟨l,l1,l2,l3⟩:=c.bl
  exact ⟨fun q=>c.ld (ldk q),by rw [X.vk _ k ne]; exact c.vt,⟨l,l1,l2,fun x hx=>⟨(l3 x hx).1,X.vt _ _ _ (l3 x hx).2⟩⟩,by rw [X.cp _ k c.vt,X.F k ne]; exact c.cp,by rw [X.F k ne]; exact c.lt,c.t1⟩
 ·have c:=M.l1 h
  have hl:G.ld r.term≠none:=by rw [c.ld]; simp
  refine ⟨X.ld _ _ c.ld,by rw [X.F k ne,X.lk _ hl (by rw [c.ld]; intro q; exact ne (Option.some.inj q))]; exact c.F,c.nl,c.hl,by rw [X.F k ne]; exact c.nx,fun x hx=>⟨(c.hs x hx).1,?_⟩⟩
  have:=(c.hs x hx).2
  have:=X.ak r.term x
  omega
 ·obtain ⟨h1,h2⟩:=ow hx o
  rw [X.F k ne,(X.llk h2.l h2.b).1]
  exact (M.a2 T x h1 h2).imp id (X.lacks h2)
 ·rw [X.an T k (.inr ne)]
  by_cases c:G.ak T k=0
  ·rw [c]; exact ⟨Nat.zero_le _,fun q=>by omega⟩
  ·have h:=(a3 T).2 (by omega)
   exact ⟨Nat.le_trans (a3 T).1 (X.lll h),fun _=>X.I9 h⟩
 ·rw [X.an _ k (.inr ne)] at hx
  rw [X.F k ne]
  by_cases c:x=0
  ·subst c; simp
  ·have h:=a3 r.term
   rw [(X.llk (h.2 (by omega)) (by omega)).1]
   exact M.a4 x hx
 ·rw [X.vk T' k ne] at hv
  obtain ⟨h1,h2⟩:=ow hx o
  rw [X.cp T' j (M.v4 T' j hv)]
  exact (M.vi T' T j x hv hT h1 h2).imp id (X.lacks h2)
theorem Gx.li (X:Gx G G' i t) {f to:Int} {m:Msg} (L:LI n G f to m):LI n G' f to m:=by
 refine ⟨L.fr,fun h=>?_,fun h y=>X.vt _ _ _ (L.k2 h y),fun h=>?_,fun h y=>⟨(L.k4 h y).1,Nat.le_trans (L.k4 h y).2 (X.ak _ _)⟩,fun h=>?_⟩
 ·obtain ⟨a,b,c⟩:=L.k1 h
  exact ⟨X.vt _ _ _ a,by rw [X.cp _ _ a]; exact b,c⟩
 ·obtain ⟨a0,b,c,d,e,f1,g,k⟩:=L.k3 h
  have a:G.ld m.term≠none:=by rw [a0]; simp
  refine ⟨X.ld _ _ a0,b,Nat.le_trans c (X.lll a),by rw [(X.llk a (by omega)).2]; exact d,fun i x hx=>?_,f1,Nat.le_trans g (X.lll a),by rw [(X.llk a g).1]; exact X.com k⟩
  obtain ⟨es,ee,_⟩:=X.ll _ a
  have:=e i x hx
  rw [ee,List.getElem?_append_left (List.getElem?_eq_some_iff.1 this).1]
  exact this
 ·obtain ⟨a0,b,c,d,e⟩:=L.k5 h
  have a:G.ld m.term≠none:=by rw [a0]; simp
  exact ⟨X.ld _ _ a0,b,Nat.le_trans c (X.lll a),by rw [(X.llk a c).2]; exact d,by rw [(X.llk a c).1]; exact X.com e⟩
end
/-- what holds of all members -/
structure Core (n:Int) (B:Nat) (G:Gh) (R:Int->RS):Prop where
 mi:∀ i,0<=i->i < n->MI n B G i (R i)
 el:ELs n B G
def upd (R:Int->RS) (i:Int) (r:RS):Int->RS:=fun k=>if k=i then r else R k
theorem upd_same (R:Int->RS) (i:Int) (r:RS):upd R i r i=r:=if_pos rfl
theorem aL {R:Int->RS} {i k:Int} {r:RS} (h:k≠i):upd R i r k=R k:=if_neg h
/-- a step of one member -/
theorem Core.step {n:Int} {B B':Nat} {G G':Gh} {R:Int->RS} {i:Int} {r:RS} (C:Core n B G R) (i0:0<=i) (i1:i < n) (X:Gx G G' i r.term) (hB:B<=B') (M:MI n B' G' i r) (E:∀ T j,G'.ld T=some j->(G.ld T=some j->(G'.LL T).length<=B')/\(G.ld T≠some j->EL n B' G' T j)):Core n B' G' (upd R i r):=by
 refine ⟨fun k k0 k1=>?_,fun T j h=>?_⟩
 ·by_cases c:k=i
  ·subst c; rw [upd_same]; exact M
  ·rw [aL c]; exact X.mi c (C.mi k k0 k1) hB
 ·by_cases c:G.ld T=some j
  ·exact X.el (fun k k0 k1 T=>(C.mi k k0 k1).a3 T) c (C.el T j c) ((E T j h).1 c)
  ·exact (E T j h).2 c
end Go.Q.Rf
end
section
/- Steps of a member: a later term, a vote, a campaign, a ballot. -/
namespace Go.Q.Rf
section
variable {n:Int} {B:Nat} {G:Gh} {R:Int->RS} {i:Int} {r r':RS}
/-- what of a member counts here -/
structure Eqv (r r':RS):Prop where
 me:r'.me=r.me
 n:r'.n=r.n
 term:r'.term=r.term
 aN:r'.aN=r.aN
 log:r'.log=r.log
 commit:r'.commit=r.commit
 role:r'.role=r.role
 ballot:r'.ballot=r.ballot
 next:r'.next=r.next
 has:r'.has=r.has
theorem JO.eqv (c:JO n G i r) (h2:r'.term=r.term) (h3:r'.ballot=r.ballot):JO n G i r' :=
 ⟨by rw [h2]; exact c.ld,by rw [h2]; exact c.vt,by rw [h2,h3]; exact c.bl,by rw [h2]; exact c.cp,by rw [h2]; exact c.lt,by rw [h2]; exact c.t1⟩
theorem Ez.eqv (c:Ez n G i r) (h2:r'.term=r.term) (h3:r'.next=r.next) (h4:r'.has=r.has):Ez n G i r' :=
 ⟨by rw [h2]; exact c.ld,by rw [h2]; exact c.F,by rw [h3]; exact c.nl,by rw [h4]; exact c.hl,by rw [h3]; exact c.nx,by rw [h2,h4]; exact c.hs⟩
theorem MI.eqv (M:MI n B G i r) (e:Eqv r r'):MI n B G i r' :=
 { me:=e.me.trans M.me,rn:=e.n.trans M.rn,t0:=by rw [e.term]; exact M.t0,rep:=by rw [e.log]; exact M.rep,lg:=M.lg,ft:=by rw [e.term]; exact M.ft,v0:=by rw [e.aN]; exact M.v0,v1:=by rw [e.term,e.aN]; exact M.v1,v2:=by rw [e.term]; exact M.v2,v3:=by rw [e.term]; exact M.v3,v4:=M.v4,c1:=fun h=>(M.c1 (by rw [← e.role]; exact h)).eqv e.term e.ballot,l1:=fun h=>(M.l1 (by rw [← e.role]; exact h)).eqv e.term e.next e.has,rl:=by rw [e.role]; exact M.rl,c0:=by rw [e.log,e.commit]; exact M.c0,c2:=by rw [e.commit]; exact M.c2,cm:=by rw [e.term,e.commit]; exact M.cm,a1:=by rw [e.term]; exact M.a1,a2:=by rw [e.term]; exact M.a2,a3:=M.a3,a4:=by rw [e.term]; exact M.a4,vi:=M.vi,bt:=by rw [e.term]; exact M.bt,bf:=M.bf }
theorem MI.mono {B':Nat} (M:MI n B G i r) (h:B<=B'):MI n B' G i r:={ M with bt:=Int.le_trans M.bt (by omega),bf:=Nat.le_trans M.bf h }
theorem EL.mono {B':Nat} {T j:Int} (e:EL n B G T j) (h:B<=B'):EL n B' G T j:={ e with bd:=Nat.le_trans e.bd h }
/-- a step that turns nothing of what is not said -/
theorem Core.same (C:Core n B G R) (i0:0<=i) (i1:i < n) {B':Nat} (hB:B<=B') (M:MI n B' G i r):Core n B' G (upd R i r)/\Gx G G i r.term :=
 have X:Gx G G i r.term:=Gx.refl M.v2
 ⟨C.step i0 i1 X hB M fun T j h=>⟨fun h=>Nat.le_trans (C.el T j h).bd hB,fun q=>absurd h q⟩,X⟩
theorem ELs.le (E:ELs n B G) {c:Int} (h:G.ld c≠none) {x:Nat} (h1:1<=x) (h2:x<=(G.LL c).length):tA (G.LL c) x<=c:=by
 obtain ⟨j,hj⟩:=qf h
 have e:=E c j hj
 obtain ⟨es,ee,et⟩:=e.ex
 obtain ⟨a,ha,q⟩:=BH h1 h2
 rw [q]
 rw [ee] at ha
 rcases List.mem_append.1 ha with ha | ha
 ·have:=e.lt a ha; omega
 ·have:=et a ha; omega
/-- a log that has it ends with something as late -/
theorem JS (E:ELs n B G) {F:List Ent} (L:LG G F) {T:Int} {x:Nat} (o:own G T x) (h:F.take x=(G.LL T).take x):leC T x (tA F F.length,F.length):=by
 have ob:=o.b
 have oa:=o.a
 have xl:x<=F.length:=by
  have:=congrArg List.length h
  rw [List.length_take,List.length_take] at this; omega
 have tx:tA F x=T:=by rw [E8 h (Nat.le_refl _)]; exact o.t
 obtain ⟨c,ec⟩:∃ c,c=tA F F.length:=⟨_,rfl⟩
 have lg:=L F.length (by omega) (Nat.le_refl _)
 rw [← ec] at lg ⊢
 rw [List.take_length] at lg
 have:T<=c:=by
  have h1:=E.le lg.2.1 oa (by omega)
  rw [← tK xl,← lg.2.2.2,tx] at h1
  exact h1
 unfold leC
 dsimp only
 omega
theorem leC.trans {T:Int} {x:Nat} {a b:Int × Nat} (h:leC T x a) (k:b.1 > a.1∨b.1=a.1/\b.2>=a.2):leC T x b:=by unfold leC at *; omega
/-! ### a later term -/
theorem Core.follow (C:Core n B G R) (i0:0<=i) (i1:i < n) {T l:Int} (h:(R i).term<=T) (hT:T<=B):Core n B G (upd R i ((R i).follow T l))/\Gx G G i T:=by
 have M:=C.mi i i0 i1
 have et:((R i).follow T l).term=T:=by
  unfold RS.follow RS.aK
  split
  ·rfl
  ·show (R i).term=T; omega
 have key:MI n B G i ((R i).follow T l):=by
  by_cases c:T > (R i).term
  ·have e:(R i).follow T l = { RS.fq { R i with term:=T,aN:=0 } with role:=0,leader:=l,ballot:=none }:=by unfold RS.follow RS.aK; rw [if_pos c]
   rw [e]
   exact { me:=M.me,rn:=M.rn,t0:=by show 0<=T; have:=M.t0; omega,rep:=M.rep,lg:=M.lg,ft:=fun x hx=>by have:=M.ft x hx; show x.1<=T; omega,v0:=.inl rfl,v1:=by show G.vt T i=if (0:Int)=0 then none else _; rw [if_pos rfl]; exact M.v2 T c,v2:=fun T2 h2=>M.v2 T2 (by have:T < T2:=h2; omega),v3:=fun T2 h2=>by have:=M.v3 T2 h2; show T2<=T; omega,v4:=M.v4,c1:=fun q=>(by cases q),l1:=fun q=>(by cases q),rl:=.inl rfl,c0:=M.c0,c2:=M.c2,cm:=M.cm.up (by show (R i).term<=T; omega),a1:=fun T2 h2=>M.a1 T2 (by have:T < T2:=h2; omega),a2:=fun T2 x hx o=>(M.a2 T2 x hx o).imp id fun q=>q.mono (by show (R i).term<=T; omega),a3:=M.a3,a4:=fun x hx=>(by have h0:=M.a1 T c; have hx':x<=G.ak T i:=hx; rw [h0] at hx'; rw [Nat.le_zero.1 hx']; simp),vi:=M.vi,bt:=hT,bf:=M.bf }
  ·have e:(R i).follow T l = { R i with role:=0,leader:=l,ballot:=none }:=by unfold RS.follow RS.aK; rw [if_neg c]
   rw [e]
   exact { me:=M.me,rn:=M.rn,t0:=M.t0,rep:=M.rep,lg:=M.lg,ft:=M.ft,v0:=M.v0,v1:=M.v1,v2:=M.v2,v3:=M.v3,v4:=M.v4,c1:=fun q=>(by cases q),l1:=fun q=>(by cases q),rl:=.inl rfl,c0:=M.c0,c2:=M.c2,cm:=M.cm,a1:=M.a1,a2:=M.a2,a3:=M.a3,a4:=M.a4,vi:=M.vi,bt:=M.bt,bf:=M.bf }
 have:=C.same i0 i1 (Nat.le_refl _) key
 rw [et] at this
 exact this
/-! ### a vote -/
theorem Core.aN (C:Core n B G R) (i0:0<=i) (i1:i < n) {f:Int} {m:Msg} (L:LI n G f i m) (mk:m.kind=1) (mt:m.term=(R i).term) (ne:f≠i) (v:(R i).aN=0) (nw:(R i).log.newer m.index m.logTerm=true) (h:Eqv { R i with aN:=f + 1 } r) :
  ∃ G',Core n B G' (upd R i r)/\Gx G G' i (R i).term/\G'.vt (R i).term i=some f:=by
 have M:=C.mi i i0 i1
 have hn:G.vt (R i).term i=none:=by rw [M.v1,if_pos v]
 obtain ⟨G',eG⟩:∃ G':Gh,G' = { G with vt:=fun T k=>if T=(R i).term/\k=i then some f else G.vt T k }:=⟨_,rfl⟩
 have vt1:G'.vt (R i).term i=some f:=by rw [eG]; exact if_pos ⟨rfl,rfl⟩
 have vt2:∀ T k,¬ (T=(R i).term/\k=i)->G'.vt T k=G.vt T k:=fun T k q=>by rw [eG]; exact if_neg q
 have vx:∀ T k j,G.vt T k=some j->G'.vt T k=some j:=fun T k j q=>by
  by_cases c:T=(R i).term/\k=i
  ·obtain ⟨rfl,rfl⟩:=c; rw [hn] at q; cases q
  ·rw [vt2 T k c]; exact q
 have X:Gx G G' i (R i).term:=by
  refine ⟨fun _ _ h=>by rw [eG]; exact h,fun _ _ h=>.inl (by rw [eG] at h; exact h),fun _ _=>by rw [eG],fun _ _=>⟨[],by rw [eG]; simp,by simp⟩,fun _ _ _=>by rw [eG],vx,fun T k hk=>vt2 T k fun q=>hk q.2,fun T hT=>?_,fun _ _ _=>by rw [eG],fun _ _=>by rw [eG]; exact Nat.le_refl _,fun _ _ _=>by rw [eG],fun _ _=>by rw [eG]⟩
  rw [vt2 T i fun q=>by omega]; exact M.v2 T hT
 obtain ⟨k1,k2,k3⟩:=L.k1 mk
 rw [mt] at k1 k2
 have eF:G'.F=G.F:=by rw [eG]
 have eL:G'.LL=G.LL:=by rw [eG]
 have ed:G'.ld=G.ld:=by rw [eG]
 have ea:G'.ak=G.ak:=by rw [eG]
 have ec:G'.cp=G.cp:=by rw [eG]
 have ow:∀ {T x},own G' T x->own G T x:=fun o=>⟨by rw [← ed]; exact o.l,o.a,by rw [← eL]; exact o.b,by rw [← eL]; exact o.t⟩
 have MI':MI n B G' i r:=by
  refine MI.eqv ?_ h
  refine { me:=M.me,rn:=M.rn,t0:=M.t0,rep:=by rw [eF]; exact M.rep,lg:=by rw [eF]; exact X.lg M.lg,ft:=by rw [eF]; exact M.ft,v0:=.inr (by have:=L.fr; show 1<=f + 1/\f + 1<=n; omega),v1:=?_,v2:=fun T hT=>?_,v3:=by rw [ed]; exact M.v3,v4:=fun T j hj=>?_,c1:=fun q=>?_,l1:=fun q=>?_,rl:=M.rl,c0:=M.c0,c2:=by rw [eF]; exact M.c2,cm:=by rw [eF]; exact X.com M.cm,a1:=by rw [ea]; exact M.a1,a2:=fun T x hx o=>?_,a3:=by rw [ea,eL,ed]; exact M.a3,a4:=by rw [ea,eL,eF]; exact M.a4,vi:=fun T' T j x hv hT hx o=>?_,bt:=M.bt,bf:=by rw [eF]; exact M.bf }
  ·show G'.vt (R i).term i=if f + 1=0 then none else some (f + 1 - 1)
   rw [vt1,if_neg (by have:=L.fr; omega)]; congr 1; omega
  ·exact X.v2 T hT
  ·by_cases c:T=(R i).term
   ·subst c
    rw [vt1] at hj; cases hj
    exact vx _ _ _ k1
   ·rw [vt2 T i fun q=>c q.1] at hj
    exact vx _ _ _ (M.v4 T j hj)
  ·have:=(M.c1 q).vt
   rw [hn] at this; cases this
  ·have c:=M.l1 q
   exact ⟨by rw [ed]; exact c.ld,by rw [eF,eL]; exact c.F,c.nl,c.hl,by rw [eF]; exact c.nx,by rw [ea]; exact c.hs⟩
  ·rw [ea] at hx
   rw [eF,eL]
   exact (M.a2 T x hx (ow o)).imp id (X.lacks (ow o))
  ·rw [ea] at hx
   rw [ec]
   have o':=ow o
   by_cases c:T'=(R i).term
   ·subst c
    rw [vt1] at hv; cases hv
    rcases M.a2 T x hx o' with q | q
    ·left
     rw [k2]
     refine (JS C.el M.lg o' q).trans ?_
     unfold Lg.newer at nw
     rw [M.rep.last,M.rep.lastT] at nw
     simp only [Bool.or_eq_true,decide_eq_true_eq,Bool.and_eq_true,beq_iff_eq] at nw
     dsimp only
     omega
    ·exact .inr (X.lacks o' q)
   ·rw [vt2 T' i fun q=>c q.1] at hv
    exact (M.vi T' T j x hv hT hx o').imp id (X.lacks o')
 have tr:r.term=(R i).term:=h.term
 refine ⟨G',?_,X,vt1⟩
 refine C.step i0 i1 (by rw [tr]; exact X) (Nat.le_refl _) MI' fun T j hj=>⟨fun hj=>by rw [eL]; exact (C.el T j hj).bd,fun q=>absurd (by rw [ed] at hj; exact hj) q⟩
/-! ### a campaign -/
theorem Core.asks (C:Core n B G R) (i0:0<=i) (i1:i < n) (hB:(B:Int)<=100000000):∃ G',Core n (B + 1) G' (upd R i (R i).asks)/\Gx G G' i ((R i).term + 1)/\(R i).asks.term=(R i).term + 1/\G'.vt ((R i).term + 1) i=some i/\G'.cp ((R i).term + 1) i=(tA (G.F i) (G.F i).length,(G.F i).length)/\G'.F i=G.F i:=by
 have M:=C.mi i i0 i1
 have t0:=M.t0
 have bt:=M.bt
 obtain ⟨t,et⟩:∃ t,t=(R i).term + 1:=⟨_,rfl⟩
 have wt:W ((R i).term + 1)=t:=by rw [et]; exact tN (by omega) (by omega)
 have hn:G.vt t i=none:=M.v2 t (by omega)
 obtain ⟨G',eG⟩:∃ G':Gh,G' = { G with vt:=fun T k=>if T=t/\k=i then some i else G.vt T k,cp:=fun T k=>if T=t/\k=i then (tA (G.F i) (G.F i).length,(G.F i).length) else G.cp T k }:=⟨_,rfl⟩
 have vt1:G'.vt t i=some i:=by rw [eG]; exact if_pos ⟨rfl,rfl⟩
 have cp1:G'.cp t i=(tA (G.F i) (G.F i).length,(G.F i).length):=by rw [eG]; exact if_pos ⟨rfl,rfl⟩
 have vt2:∀ T k,¬ (T=t/\k=i)->G'.vt T k=G.vt T k:=fun T k q=>by rw [eG]; exact if_neg q
 have cp2:∀ T k,¬ (T=t/\k=i)->G'.cp T k=G.cp T k:=fun T k q=>by rw [eG]; exact if_neg q
 have vx:∀ T k j,G.vt T k=some j->G'.vt T k=some j:=fun T k j q=>by
  by_cases c:T=t/\k=i
  ·obtain ⟨rfl,rfl⟩:=c; rw [hn] at q; cases q
  ·rw [vt2 T k c]; exact q
 have X:Gx G G' i t:=by
  refine ⟨fun _ _ h=>by rw [eG]; exact h,fun _ _ h=>.inl (by rw [eG] at h; exact h),fun _ _=>by rw [eG],fun _ _=>⟨[],by rw [eG]; simp,by simp⟩,fun _ _ _=>by rw [eG],vx,fun T k hk=>vt2 T k fun q=>hk q.2,fun T hT=>?_,fun T j hj=>cp2 T j fun q=>?_,fun _ _=>by rw [eG]; exact Nat.le_refl _,fun _ _ _=>by rw [eG],fun _ _=>by rw [eG]⟩
  ·rw [vt2 T i fun q=>by omega]; exact M.v2 T (by omega)
  ·obtain ⟨rfl,rfl⟩:=q; rw [hn] at hj; cases hj
 have eF:G'.F=G.F:=by rw [eG]
 have eL:G'.LL=G.LL:=by rw [eG]
 have ed:G'.ld=G.ld:=by rw [eG]
 have ea:G'.ak=G.ak:=by rw [eG]
 have ow:∀ {T x},own G' T x->own G T x:=fun o=>⟨by rw [← ed]; exact o.l,o.a,by rw [← eL]; exact o.b,by rw [← eL]; exact o.t⟩
 have ta:(R i).asks.term=t:=wt
 have MI':MI n (B + 1) G' i (R i).asks:=by
  refine { me:=M.me,rn:=M.rn,t0:=by rw [ta]; omega,rep:=by rw [eF]; exact M.rep,lg:=by rw [eF]; exact X.lg M.lg,ft:=fun e he=>by rw [eF] at he; have:=M.ft e he; rw [ta]; omega,v0:=.inr ?_,v1:=?_,v2:=fun T hT=>X.v2 T (by rw [ta] at hT; exact hT),v3:=fun T hT=>by rw [ed] at hT; have:=M.v3 T hT; rw [ta]; omega,v4:=fun T j hj=>?_,c1:=fun q=>?_,l1:=fun q=>(by cases q),rl:=.inr (.inl rfl),c0:=M.c0,c2:=by rw [eF]; exact M.c2,cm:=by rw [eF]; exact (X.com M.cm).up (by rw [ta]; omega),a1:=fun T hT=>by rw [ea]; exact M.a1 T (by rw [ta] at hT; omega),a2:=fun T x hx o=>?_,a3:=by rw [ea,eL,ed]; exact M.a3,a4:=fun x hx=>?_,vi:=fun T' T j x hv hT hx o=>?_,bt:=by rw [ta]; omega,bf:=by rw [eF]; have:=M.bf; omega }
  ·show 1<=(R i).me + 1/\(R i).me + 1<=n
   rw [M.me]; omega
  ·rw [ta]
   show G'.vt t i=if (R i).me + 1=0 then none else some ((R i).me + 1 - 1)
   rw [vt1,M.me,if_neg (by omega)]; congr 1; omega
  ·by_cases c:T=t
   ·subst c
    rw [vt1] at hj; cases hj; exact vt1
   ·rw [vt2 T i fun q=>c q.1] at hj
    exact vx _ _ _ (M.v4 T j hj)
  ·refine ⟨?_,by rw [ta]; exact vt1,⟨[i],?_,by simp,fun k hk=>?_⟩,by rw [ta,eF]; exact cp1,fun e he=>?_,by rw [ta]; omega⟩
   ·rw [ta,ed]
    intro h
    have:=M.v3 t h; omega
   ·show some [(R i).me]=some [i]
    rw [M.me]
   ·simp at hk; subst hk
    exact ⟨⟨i0,i1⟩,by rw [ta]; exact vt1⟩
   ·rw [eF] at he
    have:=M.ft e he
    rw [ta]; omega
  ·rw [ea] at hx
   rw [eF,eL,ta]
   exact (M.a2 T x hx (ow o)).imp id fun q=>(X.lacks (ow o) q).mono (by omega)
  ·rw [ta,ea,M.a1 t (by omega)] at hx
   have:x=0:=by omega
   subst this; simp
  ·rw [ea] at hx
   have o':=ow o
   by_cases c:T'=t
   ·subst c
    rw [vt1] at hv; cases hv
    rw [cp1]
    rcases M.a2 T x hx o' with q | q
    ·exact .inl (JS C.el M.lg o' q)
    ·exact .inr ((X.lacks o' q).mono (by omega))
   ·rw [vt2 T' i fun q=>c q.1] at hv
    rw [cp2 T' j fun q=>c q.1]
    exact (M.vi T' T j x hv hT hx o').imp id (X.lacks o')
 rw [← et]
 refine ⟨G',C.step i0 i1 (by rw [ta]; exact X) (by omega) MI' fun T j hj=>⟨fun hj=>by rw [eL]; have:=(C.el T j hj).bd; omega,fun q=>absurd (by rw [ed] at hj; exact hj) q⟩,X,ta,vt1,cp1,by rw [eF]⟩
/-! ### one more says yes -/
theorem Core.counted (C:Core n B G R) (i0:0<=i) (i1:i < n) {f:Int} {m:Msg} (L:LI n G f i m) (mk:m.kind=2) (mt:m.term=(R i).term):Core n B G (upd R i ((R i).counted f m))/\Gx G G i (R i).term/\((R i).counted f m).term=(R i).term:=by
 have M:=C.mi i i0 i1
 unfold RS.counted
 by_cases c:(R i).role=1/\m.yes=true
 ·rw [if_pos c]
  have hv:=L.k2 mk c.2
  rw [mt] at hv
  refine ⟨(C.same i0 i1 (Nat.le_refl _) (r:={ R i with ballot:=(R i).ballot.map fun l=>RS.say l f (R i).n }) ?_).1,Gx.refl M.v2,rfl⟩
  refine { me:=M.me,rn:=M.rn,t0:=M.t0,rep:=M.rep,lg:=M.lg,ft:=M.ft,v0:=M.v0,v1:=M.v1,v2:=M.v2,v3:=M.v3,v4:=M.v4,c1:=fun q=>?_,l1:=fun q=>?_,rl:=M.rl,c0:=M.c0,c2:=M.c2,cm:=M.cm,a1:=M.a1,a2:=M.a2,a3:=M.a3,a4:=M.a4,vi:=M.vi,bt:=M.bt,bf:=M.bf }
  ·have a:=M.c1 c.1
   obtain ⟨l,l1,l2,l3⟩:=a.bl
   refine ⟨a.ld,a.vt,⟨RS.say l f (R i).n,by show (R i).ballot.map _=_; rw [l1]; rfl,?_,?_⟩,a.cp,a.lt,a.t1⟩
   ·unfold RS.say
    split
    ·exact l2
    ·rename_i h
     rw [List.nodup_append]
     exact ⟨l2,by simp,fun x hx y hy=>by rw [List.mem_singleton] at hy; subst hy; intro e; subst e; exact h (.inr (.inr hx))⟩
   ·intro k hk
    unfold RS.say at hk
    split at hk
    ·exact l3 k hk
    ·rcases List.mem_append.1 hk with hk | hk
     ·exact l3 k hk
     ·simp at hk; subst hk
      exact ⟨L.fr,hv⟩
  ·have:(R i).role=2:=q
   omega
 ·rw [if_neg c]
  refine ⟨?_,Gx.refl M.v2,rfl⟩
  exact (C.same i0 i1 (Nat.le_refl _) M).1
end
end Go.Q.Rf
end

/- A part of the proof of statements of this seat: lemmas, no statement of their own. -/
import Derived.Test.YthjafnfadiijgaaYiZaq
set_option linter.unusedVariables false
set_option linter.unusedSimpArgs false
section
/- A member's whole log, of which the log in memory is the part behind the base. -/
namespace Go.Q.Rf
theorem wo {x:Int} (h0:0<=x) (h1:x<=1000000000):W x=x:=aL (by omega) (by omega)
/-- the term at an index; 0 at 0 -/
def tA (F:List Ent) (p:Nat):Int:=if p=0 then 0 else (F.getD (p - 1) (0,[])).1
theorem EA (F:List Ent):tA F 0=0:=rfl
theorem qy {F:List Ent} {p:Nat} {e:Ent} (h:F[p]? = some e):tA F (p + 1)=e.1:=by
 unfold tA
 rw [if_neg (by omega),Nat.add_sub_cancel,List.getD_eq_getElem?_getD,h]; rfl
theorem qC {F:List Ent} {p k:Nat} (h:p<=k):tA (F.take k) p=tA F p:=by
 unfold tA
 split
 ·rfl
 ·rw [List.getD_eq_getElem?_getD,List.getD_eq_getElem?_getD,List.getElem?_take,if_pos (by omega)]
theorem CX {F X:List Ent} {p k:Nat} (h:F.take k=X.take k) (hp:p<=k):tA F p=tA X p:=by
 rw [← qC (F:=F) hp,h,qC hp]
theorem ut {F G:List Ent} {p:Nat} (h:p<=F.length):tA (F ++ G) p=tA F p:=by
 unfold tA
 split
 ·rfl
 ·rw [List.getD_eq_getElem?_getD,List.getD_eq_getElem?_getD,List.getElem?_append_left (by omega)]
theorem xz {F:List Ent} {p:Nat} (h1:1<=p) (h2:p<=F.length):∃ e∈F,tA F p=e.1:=by
 have hp:p - 1 < F.length:=by omega
 refine ⟨F[p - 1],List.getElem_mem _,?_⟩
 have:=qy (F:=F) (p:=p - 1) (List.getElem?_eq_getElem hp)
 rwa [show p - 1 + 1=p from by omega] at this
theorem nN {α:Type} {F X:List α} {p k:Nat} (h:F.take k=X.take k) (hp:p<=k):F.take p=X.take p:=by
 rw [show p=min p k from by omega,← List.take_take,h,List.take_take]
/-- the log in memory is the part behind the base -/
structure Rep (F:List Ent) (l:Lg):Prop where
 i0:0<=l.ix
 i1:l.ix.toNat<=F.length
 es:l.es=F.drop l.ix.toNat
 tm:l.tm=tA F l.ix.toNat
section
variable {F X:List Ent} {l:Lg}
theorem Rep.last (R:Rep F l):l.last=F.length:=by
 unfold Lg.last; rw [R.es,List.length_drop]; have:=R.i0; have:=R.i1; omega
theorem Rep.lastT (R:Rep F l):l.lastT=tA F F.length:=by
 unfold Lg.lastT
 rw [R.es]
 have h:=R.i1
 cases hl:(F.drop l.ix.toNat).getLast? with
 | none =>
  rw [List.getLast?_eq_none_iff,List.drop_eq_nil_iff] at hl
  dsimp only
  rw [R.tm,show l.ix.toNat=F.length from by omega]
 | some e =>
  dsimp only
  rw [List.getLast?_eq_getElem?,List.getElem?_drop,List.length_drop] at hl
  have:l.ix.toNat < F.length:=by
   have:=(List.getElem?_eq_some_iff.1 hl).1; omega
  rw [show l.ix.toNat + (F.length - l.ix.toNat - 1)=F.length - 1 from by omega] at hl
  have:=qy hl
  rw [show F.length - 1 + 1=F.length from by omega] at this
  exact this.symm
theorem Rep.aH (R:Rep F l) {p:Int} (h0:0<=p):l.aH p=if p.toNat < l.ix.toNat then (0,13) else if p.toNat > F.length then (0,6) else (tA F p.toNat,0):=by
 unfold Lg.aH
 have i0:=R.i0
 have i1:=R.i1
 rw [R.last]
 by_cases c1:p < l.ix
 ·rw [if_pos c1,if_pos (by omega)]
 rw [if_neg c1,if_neg (show ¬ p.toNat < l.ix.toNat from by omega)]
 by_cases c2:p > (F.length:Int)
 ·rw [if_pos c2,if_pos (by omega)]
 rw [if_neg c2,if_neg (show ¬ p.toNat > F.length from by omega)]
 by_cases c3:p=l.ix
 ·rw [if_pos c3,R.tm,c3]
 rw [if_neg c3,R.es]
 congr 1
 unfold tA
 rw [if_neg (by omega),List.getD_eq_getElem?_getD,List.getD_eq_getElem?_getD,List.getElem?_drop,show l.ix.toNat + (p - l.ix - 1).toNat=p.toNat - 1 from by omega]
theorem Rep.mat (R:Rep F l) {p t:Int} (h0:0<=p):l.mat p t=true ↔ l.ix.toNat<=p.toNat/\p.toNat<=F.length/\tA F p.toNat=t:=by
 unfold Lg.mat
 rw [R.aH h0]
 split
 ·simp; omega
 ·split
  ·simp; omega
  ·simp; omega
theorem Rep.frm (R:Rep F l) {p:Int} {m:Int} (h0:1<=p) (h1:l.ix < p) (h2:p<=F.length + 1):l.frm p m=((F.drop (p.toNat - 1)).take m.toNat,0):=by
 have i0:=R.i0
 have e:(l.aH (p - 1)).2=0:=by rw [R.aH (by omega),if_neg (by omega),if_neg (by omega)]
 unfold Lg.frm
 rw [if_neg (by omega),if_neg (by rw [e]; simp),R.es,List.drop_drop,show l.ix.toNat + (p - 1 - l.ix).toNat=p.toNat - 1 from by omega]
theorem Rep.cut (R:Rep F l) {p:Int} (h0:l.ix<=p) (h1:p<=F.length):(l.cut p).2=0/\Rep F (l.cut p).1/\(l.cut p).1.ix=p:=by
 have i0:=R.i0
 have e:l.aH p=(tA F p.toNat,0):=by rw [R.aH (by omega),if_neg (by omega),if_neg (by omega)]
 unfold Lg.cut
 rw [e,if_neg (by simp)]
 refine ⟨rfl,⟨by show 0<=p; omega,by show p.toNat<=_; omega,?_,rfl⟩,rfl⟩
 show l.es.drop (p - l.ix).toNat=F.drop p.toNat
 rw [R.es,List.drop_drop,show l.ix.toNat + (p - l.ix).toNat=p.toNat from by omega]
/-- what stands behind a merge -/
def mrg (F X:List Ent) (q:Nat):List Ent:=if q<=F.length/\F.take q=X.take q then F else X.take q
theorem Ai {q:Nat} (h:q<=X.length):q<=(mrg F X q).length:=by
 unfold mrg; split
 ·rename_i c; exact c.1
 ·rw [List.length_take]; omega
theorem y8 {q:Nat} (h:q<=X.length):(mrg F X q).take q=X.take q:=by
 unfold mrg; split
 ·rename_i c; exact c.2
 ·rw [List.take_take,Nat.min_self]
theorem Rep.fF (R:Rep F l) {p:Nat} {more:List Ent} (mx:∀ i x,more[i]? = some x->X[p + i]? = some x) (ml:p + more.length<=X.length) (bd:X.length<=100000000)
  (eqT:∀ k,1<=k->k<=F.length->k<=X.length->tA F k=tA X k->F.take k=X.take k)
  (h0:max p l.ix.toNat<=F.length) (h1:F.take (max p l.ix.toNat)=X.take (max p l.ix.toNat)) :
  ∀ i,i<=more.length->F.take l.ix.toNat ++ Lg.fF l.ix p l.es more i=(if p + i<=l.ix.toNat then F else mrg F X (p + i))/\(p + i<=l.ix.toNat->Lg.fF l.ix p l.es more i=l.es)
 | 0,_=>by
  have e:F.take l.ix.toNat ++ l.es=F:=by rw [R.es]; exact List.take_append_drop _ _
  refine ⟨?_,fun _=>rfl⟩
  show F.take l.ix.toNat ++ l.es=_
  rw [e]
  split
  ·rfl
  ·unfold mrg
   rw [if_pos ⟨by omega,by rw [Nat.add_zero]; exact nN h1 (by omega)⟩]
 | i + 1,hi=>by
  obtain ⟨ih,ih0⟩:=Rep.fF R mx ml bd eqT h0 h1 i (by omega)
  obtain ⟨x,hx⟩:∃ x,more[i]? = some x:=⟨_,List.getElem?_eq_getElem (by omega)⟩
  have hX:=mx i x hx
  have i0:=R.i0
  have i1:=R.i1
  have wi:W ((p:Int) + i + 1)=p + i + 1:=wo (by omega) (by omega)
  show F.take l.ix.toNat ++ (match more[i]? with | some x=>Lg.dR l.ix p (Lg.fF l.ix p l.es more i) i x | none=>Lg.fF l.ix p l.es more i)=_/\_
  have ev:Lg.fF l.ix p l.es more (i + 1)=Lg.dR l.ix p (Lg.fF l.ix p l.es more i) i x:=by
   show (match more[i]? with | some x=>Lg.dR l.ix p (Lg.fF l.ix p l.es more i) i x | none=>Lg.fF l.ix p l.es more i)=_
   rw [hx]
  rw [hx,ev]
  dsimp only
  unfold Lg.dR
  rw [wi]
  by_cases c:p + (i + 1)<=l.ix.toNat
  ·rw [if_pos (show (p:Int) + i + 1<=l.ix from by omega),if_pos c]
   rw [if_pos (by omega)] at ih
   exact ⟨ih,fun _=>ih0 (by omega)⟩
  rw [if_neg (show ¬ (p:Int) + i + 1<=l.ix from by omega),if_neg c]
  refine ⟨?_,fun q=>absurd q c⟩
  -- now: the log as it stands
  obtain ⟨now,en⟩:∃ now,now=Lg.fF l.ix p l.es more i:=⟨_,rfl⟩
  rw [← en] at ih ⊢
  have tl:(F.take l.ix.toNat).length=l.ix.toNat:=by rw [List.length_take]; omega
  obtain ⟨Fi,eF⟩:∃ Fi,Fi=F.take l.ix.toNat ++ now:=⟨_,rfl⟩
  have ixp:l.ix.toNat<=p + i:=by omega
  have idx:((p:Int) + i + 1 - l.ix - 1).toNat=p + i - l.ix.toNat:=by omega
  rw [idx]
  have get:∀ k,now[k]? = Fi[l.ix.toNat + k]?:=fun k=>by rw [eF,List.getElem?_append_right (by omega),tl,Nat.add_sub_cancel_left]
  have nl:now.length=Fi.length - l.ix.toNat:=by rw [eF,List.length_append,tl]; omega
  have fl:l.ix.toNat<=Fi.length:=by rw [eF,List.length_append,tl]; omega
  have tk:F.take l.ix.toNat ++ now.take (p + i - l.ix.toNat)=Fi.take (p + i):=by
   rw [eF,List.take_append,tl,List.take_of_length_le (l:=F.take l.ix.toNat) (by rw [tl]; exact ixp)]
  rw [← eF] at ih
  have xt:X.take (p + i) ++ [x]=X.take (p + i + 1):=by rw [List.take_add_one,hX]; rfl
  have gX:tA X (p + i + 1)=x.1:=qy hX
  -- what it is by now
  have cases':(Fi=F/\p + i<=F.length/\F.take (p + i)=X.take (p + i))∨(Fi=X.take (p + i)/\¬ (p + i<=F.length/\F.take (p + i)=X.take (p + i))):=by
   by_cases c2:p + i<=l.ix.toNat
   ·rw [if_pos c2] at ih
    exact .inl ⟨ih,by omega,nN h1 (by omega)⟩
   ·rw [if_neg c2] at ih
    unfold mrg at ih
    split at ih
    ·rename_i c3; exact .inl ⟨ih,c3⟩
    ·rename_i c3; exact .inr ⟨ih,c3⟩
  unfold mrg
  rcases cases' with ⟨e1,e2,e3⟩ | ⟨e1,e2⟩
  ·rw [e1] at nl get tk
   by_cases c2:p + i - l.ix.toNat < now.length
   ·rw [if_pos c2]
    have pf:p + i < F.length:=by omega
    have gF:now.getD (p + i - l.ix.toNat) (0,[])=F[p + i]:=by
     rw [List.getD_eq_getElem?_getD,get,show l.ix.toNat + (p + i - l.ix.toNat)=p + i from by omega,List.getElem?_eq_getElem pf]; rfl
    have tF:tA F (p + i + 1)=(F[p + i]).1:=qy (List.getElem?_eq_getElem pf)
    rw [gF]
    by_cases c3:(F[p + i]).1=x.1
    ·rw [if_pos c3,← eF,e1]
     have:=eqT (p + i + 1) (by omega) (by omega) (by omega) (by rw [tF,gX,c3])
     rw [if_pos ⟨by omega,this⟩]
    ·rw [if_neg c3,← List.append_assoc,tk,e3,xt]
     rw [if_neg (fun q=>c3 (by rw [← tF,← gX]; exact CX q.2 (Nat.le_refl _)))]
     rfl
   ·rw [if_neg c2,← List.append_assoc,← eF,e1]
    have:F.length=p + i:=by omega
    rw [if_neg (by omega)]
    rw [show F ++ [x]=F.take (p + i) ++ [x] from by rw [List.take_of_length_le (by omega)],e3,xt]
    rfl
  ·have xl:(X.take (p + i)).length=p + i:=by rw [List.length_take]; omega
   rw [e1,xl] at nl
   rw [if_neg (show ¬ p + i - l.ix.toNat < now.length from by omega),← List.append_assoc,← eF,e1,xt]
   rw [if_neg (fun q=>e2 ⟨by omega,nN q.2 (by omega)⟩)]
   rfl
/-- an append that fits: the log is merged with the one that it is of -/
theorem Rep.append (R:Rep F l) {p:Nat} {t:Int} {more:List Ent} (mx:∀ i x,more[i]? = some x->X[p + i]? = some x) (ml:p + more.length<=X.length) (bd:X.length<=100000000)
  (eqT:∀ k,1<=k->k<=F.length->k<=X.length->tA F k=tA X k->F.take k=X.take k) (hb:F.take l.ix.toNat=X.take l.ix.toNat) (ht:tA X p=t)
  (ok:(l.append p t more).2.2=0):∃ F',Rep F' (l.append p t more).1/\(l.append p t more).1.ix=l.ix/\(l.append p t more).2.1=((p + more.length:Nat):Int)/\F'=(if p + more.length<=l.ix.toNat then F else mrg F X (p + more.length)) /\
   (l.ix.toNat<=p->p<=F.length/\F.take p=X.take p):=by
 have i0:=R.i0
 have i1:=R.i1
 unfold Lg.append at ok ⊢
 have hm:l.ix.toNat<=p->p<=F.length/\F.take p=X.take p:=fun hp=>by
  by_cases q:l.mat p t=true
  ·obtain ⟨_,q2,q3⟩:=(R.mat (by omega)).1 q
   rw [Int.toNat_natCast] at q2 q3
   refine ⟨q2,?_⟩
   by_cases z:p=0
   ·subst z; simp
   ·exact eqT p (by omega) q2 (by omega) (by rw [q3,ht])
  ·rw [if_pos ⟨by omega,by simpa using q⟩] at ok; simp at ok
 have h0:max p l.ix.toNat<=F.length:=by
  rcases Nat.le_total l.ix.toNat p with c | c
  ·have:=(hm c).1; omega
  ·omega
 have h1:F.take (max p l.ix.toNat)=X.take (max p l.ix.toNat):=by
  rcases Nat.le_total l.ix.toNat p with c | c
  ·rw [Nat.max_eq_left c]; exact (hm c).2
  ·rw [Nat.max_eq_right c]; exact hb
 obtain ⟨k1,k2⟩:=R.fF mx ml bd eqT h0 h1 more.length (Nat.le_refl _)
 by_cases c1:(p:Int)>=l.ix/\l.mat p t=false
 ·rw [if_pos c1] at ok; simp at ok
 rw [if_neg c1] at ok ⊢
 by_cases c2:(Lg.fF l.ix p l.es more more.length).length > 64
 ·rw [if_pos c2] at ok; simp at ok
 rw [if_neg c2]
 refine ⟨F.take l.ix.toNat ++ Lg.fF l.ix p l.es more more.length,⟨i0,?_,?_,?_⟩,rfl,?_,k1,hm⟩
 ·show l.ix.toNat<=(F.take l.ix.toNat ++ _).length
  rw [List.length_append,List.length_take]; omega
 ·show Lg.fF l.ix p l.es more more.length=List.drop l.ix.toNat _
  rw [List.drop_append,List.drop_of_length_le (by rw [List.length_take]; exact Nat.min_le_left _ _),List.length_take,show l.ix.toNat - min l.ix.toNat F.length=0 from by omega,List.nil_append,List.drop_zero]
 ·show l.tm=tA (F.take l.ix.toNat ++ _) l.ix.toNat
  rw [ut (by rw [List.length_take]; omega),qC (Nat.le_refl _)]; exact R.tm
 ·show W ((p:Int) + more.length)=_
  rw [wo (by omega) (by omega)]; omega
end
end Go.Q.Rf
end
section
/- What is never said of a cluster of members: who led, what they had, who voted, who has what. -/
namespace Go.Q.Rf
theorem vE {α:Type} [DecidableEq α]:∀ {a l:List α},a.Nodup->(∀ z∈a,z∈l)->a.length<=l.length
 | [],l,_,_=>by simp
 | x :: a,l,hn,hs=>by
  obtain ⟨h1,h2⟩:=List.nodup_cons.1 hn
  have hx:=hs x List.mem_cons_self
  have:=vE (l:=l.erase x) h2 fun z hz=>by
   have ne:z≠x:=fun e=>h1 (by rw [← e]; exact hz)
   exact (List.mem_erase_of_ne ne).2 (hs z (List.mem_cons_of_mem _ hz))
  rw [List.length_erase_of_mem hx] at this
  have:=List.length_pos_of_mem hx
  simp only [List.length_cons]; omega
/-- more than half -/
def Maj (n:Int) (P:Int->Prop):Prop:=∃ l:List Int,l.Nodup/\(∀ x∈l,(0<=x/\x < n)/\P x)/\n / 2 + 1<=(l.length:Int)
theorem Maj.mono {n:Int} {P Q:Int->Prop} (M:Maj n P) (h:∀ x,0<=x->x < n->P x->Q x):Maj n Q:=by
 obtain ⟨l,h1,h2,h3⟩:=M
 exact ⟨l,h1,fun x hx=>⟨(h2 x hx).1,h x (h2 x hx).1.1 (h2 x hx).1.2 (h2 x hx).2⟩,h3⟩
theorem Maj.meet {n:Int} {P Q:Int->Prop} (n0:1<=n) (A:Maj n P) (B:Maj n Q):∃ x,0<=x/\x < n/\P x/\Q x:=by
 obtain ⟨a,a1,a2,a3⟩:=A
 obtain ⟨b,b1,b2,b3⟩:=B
 apply Classical.byContradiction
 intro hc
 have dj:∀ x∈a,∀ y∈b,x≠y:=fun x hx y hy e=>by
  subst e
  exact hc ⟨x,(a2 x hx).1.1,(a2 x hx).1.2,(a2 x hx).2,(b2 x hy).2⟩
 have nd:(a ++ b).Nodup:=List.nodup_append.2 ⟨a1,b1,dj⟩
 have:=vE (l:=(List.range n.toNat).map fun (i:Nat)=>(i:Int)) nd fun z hz=>by
  have hb:0<=z/\z < n:=(List.mem_append.1 hz).elim (fun h=>(a2 z h).1) fun h=>(b2 z h).1
  exact List.mem_map.2 ⟨z.toNat,List.mem_range.2 (by omega),by omega⟩
 rw [List.length_append,List.length_map,List.length_range] at this
 omega
structure Gh where
 F:Int->List Ent
 ld:Int->Option Int
 CL:Int->List Ent
 LL:Int->List Ent
 vt:Int->Int->Option Int
 cp:Int->Int->Int × Nat
 ak:Int->Int->Nat
def leC (T:Int) (x:Nat) (c:Int × Nat):Prop:=T < c.1∨T=c.1/\x<=c.2
/-- the entry x of the log of T's leader is one of T -/
structure own (G:Gh) (T:Int) (x:Nat):Prop where
 l:G.ld T≠none
 a:1<=x
 b:x<=(G.LL T).length
 t:tA (G.LL T) x=T
/-- one that led meanwhile began without it -/
def sI (G:Gh) (T:Int) (x:Nat) (B:Int):Prop:=∃ T2,T < T2/\T2<=B/\G.ld T2≠none/\(G.CL T2).take x≠(G.LL T).take x
def LG (G:Gh) (F:List Ent):Prop:=∀ k,1<=k->k<=F.length->1<=tA F k/\G.ld (tA F k)≠none/\k<=(G.LL (tA F k)).length/\F.take k=(G.LL (tA F k)).take k
theorem LG.eqT {G:Gh} {F X:List Ent} (A:LG G F) (B:LG G X) (k:Nat) (h1:1<=k) (h2:k<=F.length) (h3:k<=X.length) (e:tA F k=tA X k):F.take k=X.take k:=by
 rw [(A k h1 h2).2.2.2,(B k h1 h3).2.2.2,e]
theorem LG.take {G:Gh} {F:List Ent} (A:LG G F) (q:Nat):LG G (F.take q):=fun k h1 h2=>by
 rw [List.length_take] at h2
 rw [qC (by omega),List.take_take,Nat.min_eq_left (by omega)]
 exact A k h1 (by omega)
/-- what is known of one that was chosen -/
structure EL (n:Int) (B:Nat) (G:Gh) (T j:Int):Prop where
 t1:1<=T
 r:0<=j/\j < n
 q:Maj n fun k=>G.vt T k=some j/\∀ T0 x,T0 < T->x<=G.ak T0 k->own G T0 x->leC T0 x (tA (G.CL T) (G.CL T).length,(G.CL T).length)∨sI G T0 x (T - 1)
 lg:LG G (G.CL T)
 lt:∀ e∈G.CL T,e.1 < T
 ex:∃ es,G.LL T=G.CL T ++ es/\∀ e∈es,e.1=T
 bd:(G.LL T).length<=B
def ELs (n:Int) (B:Nat) (G:Gh):Prop:=∀ T j,G.ld T=some j->EL n B G T j
section
variable {n:Int} {B:Nat} {G:Gh}
theorem mh {α:Type} {o:Option α} (h:o≠none):∃ x,o=some x:=by cases o with | none=>exact absurd rfl h | some x=>exact ⟨x,rfl⟩
theorem ELs.ll (E:ELs n B G) {T:Int} (h:G.ld T≠none):LG G (G.LL T):=fun k h1 h2=>by
 obtain ⟨j,hj⟩:=mh h
 have e:=E T j hj
 obtain ⟨es,ee,et⟩:=e.ex
 rw [ee] at h2
 by_cases c:k<=(G.CL T).length
 ·have:=e.lg k h1 c
  rw [ee,ut c,List.take_append_of_le_length c]
  exact this
 ·have:tA (G.LL T) k=T:=by
   rw [List.length_append] at h2
   have h3:k - 1 - (G.CL T).length < es.length:=by omega
   have:=qy (F:=G.LL T) (p:=k - 1) (e:=es[k - 1 - (G.CL T).length]) (by rw [ee,List.getElem?_append_right (by omega),List.getElem?_eq_getElem h3])
   rw [show k - 1 + 1=k from by omega] at this
   rw [this]; exact et _ (List.getElem_mem _)
  rw [this]
  exact ⟨e.t1,h,by rw [ee]; exact h2,rfl⟩
theorem ELs.cl (E:ELs n B G) {T:Int} (h:G.ld T≠none):G.CL T=(G.LL T).take (G.CL T).length/\(G.CL T).length<=(G.LL T).length:=by
 obtain ⟨j,hj⟩:=mh h
 obtain ⟨es,ee,_⟩:=(E T j hj).ex
 rw [ee]; simp
/-- an entry of a term stands behind what its leader began with -/
theorem ELs.beh (E:ELs n B G) {T:Int} {x:Nat} (o:own G T x):(G.CL T).length < x:=by
 obtain ⟨j,hj⟩:=mh o.l
 have e:=E T j hj
 obtain ⟨es,ee,et⟩:=e.ex
 apply Classical.byContradiction
 intro hc
 have h1:=o.t
 rw [ee,ut (by omega)] at h1
 obtain ⟨a,ha,h2⟩:=xz (F:=G.CL T) o.a (by omega)
 have:=e.lt a ha
 omega
/-- what more than half have of a term, each later leader began with -/
theorem qU (E:ELs n B G):∀ (f:Nat) (T':Int),T'.toNat<=f->G.ld T'≠none->∀ T x,T < T'->own G T x->Maj n (fun k=>x<=G.ak T k)->(G.CL T').take x=(G.LL T).take x
 | 0,T',hf,hl,T,x,hT,o,M=>by
  obtain ⟨j,hj⟩:=mh hl
  have:=(E T' j hj).t1; omega
 | f + 1,T',hf,hl,T,x,hT,o,M=>by
  obtain ⟨j,hj⟩:=mh hl
  have e:=E T' j hj
  have t1:=e.t1
  obtain ⟨jT,hjT⟩:=mh o.l
  have tT:=(E T jT hjT).t1
  obtain ⟨k,k0,k1,hk,ha⟩:=e.q.meet (by have:=e.r; omega) M
  rcases hk.2 T x hT ha o with h | ⟨T2,a1,a2,a3,a4⟩
  rotate_left
  ·exact absurd (qU E f T2 (by omega) a3 T x a1 o M) a4
  have ne:(G.CL T').length≠0:=fun z=>by
   rw [z] at h
   rcases h with h | ⟨h,h'⟩
   ·rw [EA] at h; dsimp only at h; omega
   ·have:=o.a; dsimp only at h'; omega
  have lg:=e.lg (G.CL T').length (by omega) (Nat.le_refl _)
  obtain ⟨c,ec⟩:∃ c,c=tA (G.CL T') (G.CL T').length:=⟨_,rfl⟩
  rw [← ec] at lg h
  rw [List.take_length] at lg
  rcases h with h | ⟨h,h'⟩
  ·dsimp only at h
   have cT:c < T':=by
    obtain ⟨a,ha,h2⟩:=xz (F:=G.CL T') (p:=(G.CL T').length) (by omega) (Nat.le_refl _)
    have:=e.lt a ha; omega
   have oc:own G c (G.CL T').length:=⟨lg.2.1,by omega,lg.2.2.1,by rw [← qC (Nat.le_refl (G.CL T').length),← lg.2.2.2]; exact ec.symm⟩
   have bc:=E.beh oc
   have ih:=qU E f c (by omega) lg.2.1 T x h o M
   have cl:=(E.cl lg.2.1).1
   have xl:x<=(G.CL c).length:=by
    have:=congrArg List.length ih
    rw [List.length_take,List.length_take] at this
    have:=o.b; omega
   rw [← ih,cl,List.take_take,Nat.min_eq_left xl,lg.2.2.2,List.take_take,Nat.min_eq_left (by omega)]
  ·dsimp only at h h'
   rw [h,lg.2.2.2,List.take_take,Nat.min_eq_left h']
theorem ELs.qU (E:ELs n B G) {T' T:Int} {x:Nat} (h:G.ld T'≠none) (hT:T < T') (o:own G T x) (M:Maj n (fun k=>x<=G.ak T k)):(G.CL T').take x=(G.LL T).take x :=
 Rf.qU E T'.toNat T' (Nat.le_refl _) h T x hT o M
/-- what is committed -/
def Com (n:Int) (G:Gh) (A:Int) (P:List Ent):Prop:=P=[]∨∃ T x,T<=A/\own G T x/\P.length<=x/\P=(G.LL T).take P.length/\Maj n (fun k=>x<=G.ak T k)
theorem Com.up {A A':Int} {P:List Ent} (C:Com n G A P) (h:A<=A'):Com n G A' P:=C.imp id fun ⟨T,x,a,b⟩=>⟨T,x,by omega,b⟩
theorem Com.take {A:Int} {P:List Ent} (C:Com n G A P) (k:Nat):Com n G A (P.take k):=by
 rcases C with rfl | ⟨T,x,a,o,l,e,M⟩
 ·exact .inl (by simp)
 ·refine .inr ⟨T,x,a,o,by rw [List.length_take]; omega,?_,M⟩
  conv=>lhs; rw [e]
  rw [List.take_take,List.length_take]
/-- what is committed stands in the log of each later leader -/
theorem Com.CV (E:ELs n B G) {A T:Int} {P:List Ent} (C:Com n G A P) (h:G.ld T≠none) (hA:A<=T):(G.LL T).take P.length=P/\P.length<=(G.LL T).length:=by
 rcases C with rfl | ⟨T1,x,a,o,l,e,M⟩
 ·simp
 ·have ob:=o.b
  by_cases c:T1=T
  ·subst c; exact ⟨e.symm,by omega⟩
  ·have h1:=E.qU h (by omega:T1 < T) o M
   have cl:=E.cl h
   have xl:x<=(G.CL T).length:=by
    have:=congrArg List.length h1
    rw [List.length_take,List.length_take] at this; omega
   have h2:(G.LL T).take x=(G.LL T1).take x:=by
    rw [← h1]
    conv=>rhs; rw [cl.1]
    rw [List.take_take,Nat.min_eq_left xl]
   refine ⟨?_,by omega⟩
   rw [nN h2 l,← e]
/-- what is committed here and there is the same -/
theorem Com.comp (E:ELs n B G) {A A':Int} {P Q:List Ent} (C:Com n G A P) (D:Com n G A' Q) {k:Nat} (h1:k<=P.length) (h2:k<=Q.length):P.take k=Q.take k:=by
 rcases C with rfl | ⟨T1,x,a,o,l,e,M⟩
 ·simp at h1; subst h1; simp
 rcases D with rfl | ⟨T2,y,a',o',l',e',M'⟩
 ·simp at h2; subst h2; simp
 have key:∀ {T1 T2:Int} {x y:Nat} {P Q:List Ent},T1<=T2->own G T1 x->P.length<=x->P=(G.LL T1).take P.length->Maj n (fun k=>x<=G.ak T1 k)->own G T2 y->Q=(G.LL T2).take Q.length->k<=P.length->k<=Q.length->P.take k=Q.take k:=fun {T1 T2 x y P Q} hT o l e M o' e' h1 h2=>by
  have:=(Com.CV E (.inr ⟨T1,x,Int.le_refl _,o,l,e,M⟩:Com n G T1 P) o'.l hT).1
  rw [← this,e',List.take_take,List.take_take,Nat.min_eq_left h1,Nat.min_eq_left h2]
 rcases Int.le_total T1 T2 with h | h
 ·exact key h o l e M o' e' h1 h2
 ·exact (key h o' l' e' M' o e h2 h1).symm
end
end Go.Q.Rf
end
section
/- What holds of each member, and of each letter; what others' steps leave. -/
namespace Go.Q.Rf
structure DC (n:Int) (G:Gh) (i:Int) (r:RS):Prop where
 ld:G.ld r.term≠some i
 vt:G.vt r.term i=some i
 bl:∃ l,r.ballot=some l/\l.Nodup/\∀ k∈l,(0<=k/\k < n)/\G.vt r.term k=some i
 cp:G.cp r.term i=(tA (G.F i) (G.F i).length,(G.F i).length)
 lt:∀ e∈G.F i,e.1 < r.term
 t1:1<=r.term
structure AQ (n:Int) (G:Gh) (i:Int) (r:RS):Prop where
 ld:G.ld r.term=some i
 F:G.F i=G.LL r.term
 nl:r.next.length=n.toNat
 hl:r.has.length=n.toNat
 nx:∀ x∈r.next,1<=x/\x<=(G.F i).length + 1
 hs:∀ (k:Nat),k < n.toNat->0<=r.has.getD k 0/\r.has.getD k 0<=(G.ak r.term k:Int)
structure MI (n:Int) (B:Nat) (G:Gh) (i:Int) (r:RS):Prop where
 me:r.me=i
 rn:r.n=n
 t0:0<=r.term
 rep:Rep (G.F i) r.log
 lg:LG G (G.F i)
 ft:∀ e∈G.F i,e.1<=r.term
 v0:r.bR=0∨(1<=r.bR/\r.bR<=n)
 v1:G.vt r.term i=if r.bR=0 then none else some (r.bR - 1)
 v2:∀ T,r.term < T->G.vt T i=none
 v3:∀ T,G.ld T=some i->T<=r.term
 v4:∀ T j,G.vt T i=some j->G.vt T j=some j
 c1:r.role=1->DC n G i r
 l1:r.role=2->AQ n G i r
 rl:r.role=0∨r.role=1∨r.role=2
 c0:r.log.ix<=r.commit
 c2:r.commit<=(G.F i).length
 cm:Com n G r.term ((G.F i).take r.commit.toNat)
 a1:∀ T,r.term < T->G.ak T i=0
 a2:∀ T x,x<=G.ak T i->own G T x->(G.F i).take x=(G.LL T).take x∨sI G T x r.term
 a3:∀ T,G.ak T i<=(G.LL T).length/\(0 < G.ak T i->G.ld T≠none)
 vi:∀ T' T j x,G.vt T' i=some j->T < T'->x<=G.ak T i->own G T x->leC T x (G.cp T' j)∨sI G T x T'
 bt:r.term<=B
 bf:(G.F i).length<=B
/-- a letter: from, to, what -/
structure LI (n:Int) (G:Gh) (f t:Int) (m:Msg):Prop where
 fr:0<=f/\f < n
 k1:m.kind=1->G.vt m.term f=some f/\G.cp m.term f=(m.logTerm,m.index.toNat)/\0<=m.index
 k2:m.kind=2->m.yes=true->G.vt m.term f=some t
 k3:m.kind=3->G.ld m.term≠none/\0<=m.index/\m.index.toNat + m.aK.length<=(G.LL m.term).length/\tA (G.LL m.term) m.index.toNat=m.logTerm/\(∀ i x,m.aK[i]? = some x->(G.LL m.term)[m.index.toNat + i]? = some x)/\0<=m.commit/\m.commit.toNat<=(G.LL m.term).length/\Com n G m.term ((G.LL m.term).take m.commit.toNat)
 k4:m.kind=4->m.yes=true->0<=m.index/\m.index.toNat<=G.ak m.term f
 k5:m.kind=5->G.ld m.term≠none/\0<=m.index/\m.index.toNat<=(G.LL m.term).length/\tA (G.LL m.term) m.index.toNat=m.logTerm/\Com n G m.term ((G.LL m.term).take m.index.toNat)
/-- what a step of member i, that is in the term t then, may turn -/
structure Gx (G G':Gh) (i t:Int):Prop where
 ld:∀ T j,G.ld T=some j->G'.ld T=some j
 ln:∀ T j,G'.ld T=some j->G.ld T=some j∨(T=t/\j=i)
 cl:∀ T,G.ld T≠none->G'.CL T=G.CL T
 ll:∀ T,G.ld T≠none->∃ es,G'.LL T=G.LL T ++ es/\∀ e∈es,e.1=T
 lk:∀ T,G.ld T≠none->G.ld T≠some i->G'.LL T=G.LL T
 vt:∀ T k j,G.vt T k=some j->G'.vt T k=some j
 vk:∀ T k,k≠i->G'.vt T k=G.vt T k
 v2:∀ T,t < T->G'.vt T i=none
 cp:∀ T j,G.vt T j=some j->G'.cp T j=G.cp T j
 ak:∀ T k,G.ak T k<=G'.ak T k
 an:∀ T k,(T≠t∨k≠i)->G'.ak T k=G.ak T k
 F:∀ k,k≠i->G'.F k=G.F k
theorem Gx.refl {G:Gh} {i t:Int} (v:∀ T,t < T->G.vt T i=none):Gx G G i t :=
 ⟨fun _ _ h=>h,fun _ _ h=>.inl h,fun _ _=>rfl,fun _ _=>⟨[],by simp,by simp⟩,fun _ _ _=>rfl,fun _ _ _ h=>h,fun _ _ _=>rfl,v,fun _ _ _=>rfl,fun _ _=>Nat.le_refl _,fun _ _ _=>rfl,fun _ _=>rfl⟩
section
variable {n:Int} {B B':Nat} {G G':Gh} {i t:Int}
theorem Gx.BA (X:Gx G G' i t) {T:Int} (h:G.ld T≠none):G'.ld T≠none:=by
 obtain ⟨j,hj⟩:=mh h
 rw [X.ld T j hj]; simp
theorem Gx.llk (X:Gx G G' i t) {T:Int} (h:G.ld T≠none) {k:Nat} (hk:k<=(G.LL T).length):(G'.LL T).take k=(G.LL T).take k/\tA (G'.LL T) k=tA (G.LL T) k:=by
 obtain ⟨es,e,_⟩:=X.ll T h
 rw [e,List.take_append_of_le_length hk,ut hk]
 exact ⟨rfl,rfl⟩
theorem Gx.lll (X:Gx G G' i t) {T:Int} (h:G.ld T≠none):(G.LL T).length<=(G'.LL T).length:=by
 obtain ⟨es,e,_⟩:=X.ll T h
 rw [e,List.length_append]; omega
theorem Gx.own (X:Gx G G' i t) {T:Int} {x:Nat} (o:Rf.own G T x):Rf.own G' T x :=
 ⟨X.BA o.l,o.a,Nat.le_trans o.b (X.lll o.l),by rw [(X.llk o.l o.b).2]; exact o.t⟩
theorem Gx.own' (X:Gx G G' i t) {T:Int} {x:Nat} (o:Rf.own G' T x) (h:G.ld T≠none) (hx:x<=(G.LL T).length):Rf.own G T x :=
 ⟨h,o.a,hx,by rw [← (X.llk h hx).2]; exact o.t⟩
theorem Gx.lacks (X:Gx G G' i t) {T:Int} {x:Nat} {A:Int} (o:Rf.own G T x) (h:sI G T x A):sI G' T x A:=by
 obtain ⟨T2,a,b,c,d⟩:=h
 exact ⟨T2,a,b,X.BA c,by rw [X.cl T2 c,(X.llk o.l o.b).1]; exact d⟩
theorem sI.mono {T:Int} {x:Nat} {A A':Int} (h:sI G T x A) (hA:A<=A'):sI G T x A':=by
 obtain ⟨T2,a,b,c⟩:=h; exact ⟨T2,a,by omega,c⟩
theorem Gx.lg (X:Gx G G' i t) {F:List Ent} (h:LG G F):LG G' F:=fun k h1 h2=>by
 obtain ⟨a,b,c,d⟩:=h k h1 h2
 exact ⟨a,X.BA b,Nat.le_trans c (X.lll b),by rw [(X.llk b c).1]; exact d⟩
theorem Gx.com (X:Gx G G' i t) {A:Int} {P:List Ent} (h:Com n G A P):Com n G' A P:=by
 rcases h with h | ⟨T,x,a,o,l,e,M⟩
 ·exact .inl h
 ·exact .inr ⟨T,x,a,X.own o,l,by rw [(X.llk o.l (by have:=o.b; omega)).1]; exact e,M.mono fun k _ _ h=>Nat.le_trans h (X.ak T k)⟩
/-- acks that are new are of the term, and of the member -/
theorem Gx.akk (X:Gx G G' i t) {T k:Int} {x:Nat} (h:x<=G'.ak T k) (c:T≠t∨k≠i):x<=G.ak T k:=by rw [← X.an T k c]; exact h
theorem Gx.el (X:Gx G G' i t) (A3:∀ k,0<=k->k < n->∀ T,G.ak T k<=(G.LL T).length/\(0 < G.ak T k->G.ld T≠none)) {T j:Int} (h:G.ld T=some j) (e:EL n B G T j) (hB:(G'.LL T).length<=B'):EL n B' G' T j:=by
 have hl:G.ld T≠none:=by rw [h]; simp
 refine ⟨e.t1,e.r,e.q.mono fun k k0 k1 hk=>⟨X.vt T k j hk.1,fun T0 x hT hx o=>?_⟩,by rw [X.cl T hl]; exact X.lg e.lg,by rw [X.cl T hl]; exact e.lt,?_,hB⟩
 ·have c:T0≠t∨k≠i:=by
   by_cases c:T0=t/\k=i
   ·obtain ⟨rfl,rfl⟩:=c
    have:=X.vt T k j hk.1
    rw [X.v2 T hT] at this; cases this
   ·by_cases c1:T0=t
    ·exact .inr fun q=>c ⟨c1,q⟩
    ·exact .inl c1
  have hx':=X.akk hx c
  have a3:=A3 k k0 k1 T0
  have oa:=o.a
  have o':=X.own' o (a3.2 (by omega)) (by omega)
  rw [X.cl T hl]
  exact (hk.2 T0 x hT hx' o').imp id (X.lacks o')
 ·obtain ⟨es,ee,et⟩:=e.ex
  obtain ⟨fs,fe,ft⟩:=X.ll T hl
  exact ⟨es ++ fs,by rw [fe,ee,X.cl T hl,List.append_assoc],fun x hx=>(List.mem_append.1 hx).elim (et x) (ft x)⟩
theorem Gx.mi (X:Gx G G' i t) {k:Int} (ne:k≠i) {r:RS} (M:MI n B G k r) (hB:B<=B'):MI n B' G' k r:=by
 have a3:=M.a3
 have ow:∀ {T x},x<=G'.ak T k->Rf.own G' T x->x<=G.ak T k/\Rf.own G T x:=fun {T x} hx o=>by
  have hx':=X.akk hx (.inr ne)
  have oa:=o.a
  exact ⟨hx',X.own' o ((a3 T).2 (by omega)) (by have:=(a3 T).1; omega)⟩
 have ldk:∀ {T},G'.ld T=some k->G.ld T=some k:=fun {T} h=>(X.ln T k h).elim id fun q=>absurd q.2 ne
 refine { me:=M.me,rn:=M.rn,t0:=M.t0,rep:=by rw [X.F k ne]; exact M.rep,lg:=by rw [X.F k ne]; exact X.lg M.lg,ft:=by rw [X.F k ne]; exact M.ft,v0:=M.v0,v1:=by rw [X.vk _ k ne]; exact M.v1,v2:=fun T h=>by rw [X.vk T k ne]; exact M.v2 T h,v3:=fun T h=>M.v3 T (ldk h),v4:=fun T j h=>?_,c1:=fun h=>?_,l1:=fun h=>?_,rl:=M.rl,c0:=M.c0,c2:=by rw [X.F k ne]; exact M.c2,cm:=by rw [X.F k ne]; exact X.com M.cm,a1:=fun T h=>by rw [X.an T k (.inr ne)]; exact M.a1 T h,a2:=fun T x hx o=>?_,a3:=fun T=>?_,vi:=fun T' T j x hv hT hx o=>?_,bt:=Int.le_trans M.bt (by omega),bf:=by rw [X.F k ne]; exact Nat.le_trans M.bf hB }
 ·rw [X.vk T k ne] at h; exact X.vt T j j (M.v4 T j h)
 ·have c:=M.c1 h
  obtain ⟨l,l1,l2,l3⟩:=c.bl
  exact ⟨fun q=>c.ld (ldk q),by rw [X.vk _ k ne]; exact c.vt,⟨l,l1,l2,fun x hx=>⟨(l3 x hx).1,X.vt _ _ _ (l3 x hx).2⟩⟩,by rw [X.cp _ k c.vt,X.F k ne]; exact c.cp,by rw [X.F k ne]; exact c.lt,c.t1⟩
 ·have c:=M.l1 h
  have hl:G.ld r.term≠none:=by rw [c.ld]; simp
  refine ⟨X.ld _ _ c.ld,by rw [X.F k ne,X.lk _ hl (by rw [c.ld]; intro q; exact ne (Option.some.inj q))]; exact c.F,c.nl,c.hl,by rw [X.F k ne]; exact c.nx,fun x hx=>⟨(c.hs x hx).1,?_⟩⟩
  have:=(c.hs x hx).2
  have:=X.ak r.term x
  omega
 ·obtain ⟨h1,h2⟩:=ow hx o
  rw [X.F k ne,(X.llk h2.l h2.b).1]
  exact (M.a2 T x h1 h2).imp id (X.lacks h2)
 ·rw [X.an T k (.inr ne)]
  by_cases c:G.ak T k=0
  ·rw [c]; exact ⟨Nat.zero_le _,fun q=>by omega⟩
  ·have h:=(a3 T).2 (by omega)
   exact ⟨Nat.le_trans (a3 T).1 (X.lll h),fun _=>X.BA h⟩
 ·rw [X.vk T' k ne] at hv
  obtain ⟨h1,h2⟩:=ow hx o
  rw [X.cp T' j (M.v4 T' j hv)]
  exact (M.vi T' T j x hv hT h1 h2).imp id (X.lacks h2)
theorem Gx.li (X:Gx G G' i t) {f to:Int} {m:Msg} (L:LI n G f to m):LI n G' f to m:=by
 refine ⟨L.fr,fun h=>?_,fun h y=>X.vt _ _ _ (L.k2 h y),fun h=>?_,fun h y=>⟨(L.k4 h y).1,Nat.le_trans (L.k4 h y).2 (X.ak _ _)⟩,fun h=>?_⟩
 ·obtain ⟨a,b,c⟩:=L.k1 h
  exact ⟨X.vt _ _ _ a,by rw [X.cp _ _ a]; exact b,c⟩
 ·obtain ⟨a,b,c,d,e,f1,g,k⟩:=L.k3 h
  refine ⟨X.BA a,b,Nat.le_trans c (X.lll a),by rw [(X.llk a (by omega)).2]; exact d,fun i x hx=>?_,f1,Nat.le_trans g (X.lll a),by rw [(X.llk a g).1]; exact X.com k⟩
  obtain ⟨es,ee,_⟩:=X.ll _ a
  have:=e i x hx
  rw [ee,List.getElem?_append_left (List.getElem?_eq_some_iff.1 this).1]
  exact this
 ·obtain ⟨a,b,c,d,e⟩:=L.k5 h
  exact ⟨X.BA a,b,Nat.le_trans c (X.lll a),by rw [(X.llk a c).2]; exact d,by rw [(X.llk a c).1]; exact X.com e⟩
end
/-- what holds of all members -/
structure Core (n:Int) (B:Nat) (G:Gh) (R:Int->RS):Prop where
 mi:∀ i,0<=i->i < n->MI n B G i (R i)
 el:ELs n B G
def upd (R:Int->RS) (i:Int) (r:RS):Int->RS:=fun k=>if k=i then r else R k
theorem upd_same (R:Int->RS) (i:Int) (r:RS):upd R i r i=r:=if_pos rfl
theorem dw {R:Int->RS} {i k:Int} {r:RS} (h:k≠i):upd R i r k=R k:=if_neg h
/-- a step of one member -/
theorem Core.step {n:Int} {B B':Nat} {G G':Gh} {R:Int->RS} {i:Int} {r:RS} (C:Core n B G R) (i0:0<=i) (i1:i < n) (X:Gx G G' i r.term) (hB:B<=B') (M:MI n B' G' i r) (E:∀ T j,G'.ld T=some j->(G.ld T=some j->(G'.LL T).length<=B')/\(G.ld T≠some j->EL n B' G' T j)):Core n B' G' (upd R i r):=by
 refine ⟨fun k k0 k1=>?_,fun T j h=>?_⟩
 ·by_cases c:k=i
  ·subst c; rw [upd_same]; exact M
  ·rw [dw c]; exact X.mi c (C.mi k k0 k1) hB
 ·by_cases c:G.ld T=some j
  ·exact X.el (fun k k0 k1 T=>(C.mi k k0 k1).a3 T) c (C.el T j c) ((E T j h).1 c)
  ·exact (E T j h).2 c
end Go.Q.Rf
end

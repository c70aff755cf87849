/- A part of the proof of statements of this seat: lemmas, no statement of their own. -/
import Derived.Test.YthjafnfadiijgaaYiZaz
import Derived.Test.YthjafnfadiijgaaYiZay
import Derived.Test.YthjafnfadiijgaaYiZam
import Derived.Test.YthjafnfadiijgaaYiZau
import Derived.Test.YthjafnfadiijgaaYiZap
set_option linter.unusedVariables false
set_option linter.unusedSimpArgs false
set_option linter.unusedSectionVars false
set_option maxRecDepth 100000
section
/- What holds of all the members, the letters on their way, what was known as committed, who led. -/
namespace Go.Q.Rf
def KI (n:Int) (G:Gh) (known:List Ent):Prop:=∀ (j:Nat) e,known[j]? = some e->e.1≠0->∃ A P,Com n G A P/\P[j]? = some e
def DI (G:Gh) (leaders:List Int):Prop:=∀ (T:Nat) j,leaders[T]? = some j->0<=j->G.ld T=some j
abbrev Let:=Int × Int × Msg
def LsI (n:Int) (B:Nat) (G:Gh) (l:List Let):Prop:=∀ x∈l,LI n G x.1 x.2.1 x.2.2/\(0<=x.2.1/\x.2.1 < n)/\0<=x.2.2.term/\x.2.2.term<=B/\(x.2.2.kind=3->0<=x.2.2.index/\x.2.2.index + x.2.2.aK.length<=100000000)
structure WG (n:Int) (B:Nat) (G:Gh) (R:Int->RS) (S:Int->SS) (Ls:List Let) (known:List Ent) (leaders:List Int):Prop where
 core:Core n B G R
 ls:LsI n B G Ls
 kn:KI n G known
 ld:DI G leaders
 sy:∀ i,0<=i->i < n->S i=ofR (R i)/\(R i).keeps=[]
def Wi (n:Int) (B:Nat) (R:Int->RS) (S:Int->SS) (Ls:List Let) (known:List Ent) (leaders:List Int):Prop:=∃ G,WG n B G R S Ls known leaders
def sD (S:Int->SS) (i:Int) (s:SS):Int->SS:=fun k=>if k=i then s else S k
section
variable {n:Int} {B:Nat} {G:Gh} {R:Int->RS} {S:Int->SS} {Ls:List Let} {known:List Ent} {leaders:List Int} {i:Int}
/-- an entry that is there -/
theorem sF {r:RS} (M:MI n B G i r) {k:Int} (k0:1<=k):(r.log.ix < k/\k<=(G.F i).length/\∃ x,(G.F i)[k.toNat - 1]? = some x/\r.entry k=(x,0))∨((k<=r.log.ix∨(G.F i).length < k)/\(r.entry k).2≠0/\(k=(G.F i).length + 1->(r.entry k).2=6)):=by
 have x0:=M.rep.i0
 have to:=M.rep.aH (p:=k) (by omega)
 unfold RS.entry
 by_cases c1:k < r.log.ix
 ·right
  rw [if_pos (by omega)] at to
  rw [to,if_pos (by simp)]
  exact ⟨.inl (by omega),by simp,fun q=>by have:=M.rep.i1; omega⟩
 by_cases c2:(G.F i).length < k
 ·right
  rw [if_neg (by omega),if_pos (by omega)] at to
  rw [to,if_pos (by simp)]
  exact ⟨.inr c2,by simp,fun _=>rfl⟩
 rw [if_neg (by omega),if_neg (by omega)] at to
 rw [to,if_neg (by simp)]
 by_cases c3:k=r.log.ix
 ·right
  have e:(r.log.frm k 1).2≠0:=by
   have t2:=M.rep.aH (p:=k - 1) (by omega)
   rw [if_pos (by omega)] at t2
   unfold Lg.frm
   rw [if_neg (by omega),t2,if_pos (by simp)]
   simp
  rw [if_pos e]
  exact ⟨.inl (by omega),by simp,fun q=>by omega⟩
 ·left
  have fr:=M.rep.frm (p:=k) (m:=1) (by omega) (by omega) (by omega)
  rw [fr,if_neg (by simp)]
  have hk:k.toNat - 1 < (G.F i).length:=by omega
  refine ⟨by omega,by omega,(G.F i)[k.toNat - 1],List.getElem?_eq_getElem hk,?_⟩
  have:((G.F i).drop (k.toNat - 1)).take (1:Int).toNat=[(G.F i)[k.toNat - 1]]:=by
   rw [List.drop_eq_getElem_cons hk]; rfl
  rw [this]
/-- what a member knows as committed is what was known -/
theorem KI.look (K:KI n G known) (E:ELs n B G) {r:RS} (M:MI n B G i r) {k:Int} (k0:1<=k) (k1:k<=r.commit) {x:Ent} (hx:r.entry k=(x,0)):(∀ e,known[k.toNat - 1]? = some e->e.1≠0->e=x)/\KI n G (known.set (k.toNat - 1) x):=by
 have c2:=M.c2
 have pf:((G.F i).take r.commit.toNat)[k.toNat - 1]? = some x:=by
  rcases sF M k0 with ⟨_,_,y,hy,e⟩ | ⟨_,e,_⟩
  ·rw [hx] at e; cases e
   rw [List.getElem?_take,if_pos (by omega)]; exact hy
  ·rw [hx] at e; exact absurd rfl e
 refine ⟨fun e he ne=>?_,fun j e hj ne=>?_⟩
 ·obtain ⟨A,P,C,hP⟩:=K _ e he ne
  have pl:=(List.getElem?_eq_some_iff.1 hP).1
  have ql:=(List.getElem?_eq_some_iff.1 pf).1
  have:=C.comp E M.cm (k:=k.toNat) (by omega) (by omega)
  have h1:(P.take k.toNat)[k.toNat - 1]? = some e:=by rw [List.getElem?_take,if_pos (by omega)]; exact hP
  rw [this,List.getElem?_take,if_pos (by omega),pf] at h1
  exact (Option.some.inj h1).symm
 ·by_cases c:j=k.toNat - 1
  ·subst c
   rw [List.getElem?_set_self (by have:=(List.getElem?_eq_some_iff.1 hj).1; simpa using this)] at hj
   cases hj
   exact ⟨_,_,M.cm,pf⟩
  ·rw [List.getElem?_set_ne (fun q=>c q.symm)] at hj
   exact K j e hj ne
theorem KI.more (K:KI n G known):KI n G (known ++ [(0,[])]):=fun j e hj ne=>by
 rw [List.getElem?_append] at hj
 split at hj
 ·exact K j e hj ne
 ·have:e=(0,[]):=by
   have h1:=List.mem_of_getElem? hj
   simpa using h1
  subst this; exact absurd rfl ne
theorem DI.look (D:DI G leaders) {r:RS} (M:MI n B G i r) (i0:0<=i) (h2:r.role=2):(∀ j,leaders[r.term.toNat]? = some j->0<=j->j=i)/\DI G (leaders.set r.term.toNat i):=by
 have A:=(M.l1 h2).ld
 have t0:=M.t0
 have et:((r.term.toNat:Nat):Int)=r.term:=by omega
 refine ⟨fun j hj j0=>?_,fun T j hj j0=>?_⟩
 ·have:=D _ j hj j0
  rw [et,A] at this
  exact (Option.some.inj this).symm
 ·by_cases c:T=r.term.toNat
  ·subst c
   rw [List.getElem?_set_self (by have:=(List.getElem?_eq_some_iff.1 hj).1; simpa using this)] at hj
   cases hj
   rw [et]; exact A
  ·rw [List.getElem?_set_ne (fun q=>c q.symm)] at hj
   exact D T j hj j0
theorem DI.more (D:DI G leaders):DI G (leaders ++ [-1]):=fun T j hj j0=>by
 rw [List.getElem?_append] at hj
 split at hj
 ·exact D T j hj j0
 ·have:j = -1:=by
   have h1:=List.mem_of_getElem? hj
   simpa using h1
  omega
theorem KI.pst {G':Gh} (K:KI n G known) (P:Pst n G G'):KI n G' known:=fun j e hj ne=>by
 obtain ⟨A,Q,C,h⟩:=K j e hj ne
 exact ⟨A,Q,P.com A Q C,h⟩
theorem DI.pst {G':Gh} (D:DI G leaders) (P:Pst n G G'):DI G' leaders:=fun T j hj j0=>P.ld _ _ (D T j hj j0)
theorem LsI.pst {G':Gh} {B':Nat} (L:LsI n B G Ls) (P:Pst n G G') (hB:B<=B'):LsI n B' G' Ls:=fun x hx=>by
 obtain ⟨a,b,c,d,e⟩:=L x hx
 exact ⟨P.li _ _ _ a,b,c,by omega,e⟩
theorem LsI.sub (L:LsI n B G Ls) {Ls':List Let} (h:∀ x∈Ls',x∈Ls):LsI n B G Ls':=fun x hx=>L x (h x hx)
/-- letters of a member -/
theorem DU (E:ELs n B G) (hB:B<=100000) {out:List lY} (L:Lts n B G i out) (to:∀ x∈out,0<=x.1/\x.1 < n):LsI n B G (out.map fun x=>(i,x.1,x.2)):=fun x hx=>by
 obtain ⟨y,hy,rfl⟩:=List.mem_map.1 hx
 obtain ⟨a,b,c⟩:=L y hy
 refine ⟨a,to y hy,b,c,fun k=>?_⟩
 obtain ⟨hl,p0,k1,_⟩:=a.k3 k
 obtain ⟨j,hj⟩:=mh hl
 have:=(E _ j hj).bd
 exact ⟨p0,by show y.2.index + (y.2.aK.length:Int)<=_; omega⟩
/-- a member's act: what it has now is stored, its letters go (or some of them) -/
theorem WG.act (W:WG n B G R S Ls known leaders) (i0:0<=i) (i1:i < n) {B':Nat} (hB:B<=B') (hB':B'<=100000) {r:RS} {out:List lY} {Ls':List Let} (h:∃ G',Core n B' G' (upd R i r)/\Pst n G G'/\Lts n B' G' i out) (to:∀ x∈out,0<=x.1/\x.1 < n)
  (sub:∀ x∈Ls',x∈Ls∨∃ y∈out,x=(i,y.1,y.2)):Wi n B' (upd R i { r with keeps:=[] }) (sD S i (ofR r)) Ls' known leaders:=by
 obtain ⟨G',C,P,L⟩:=h
 have C':=C.eqv i0 i1 (r:={ r with keeps:=[] }) (by rw [upd_same]; exact ⟨rfl,rfl,rfl,rfl,rfl,rfl,rfl,rfl,rfl,rfl⟩)
 rw [mW] at C'
 refine ⟨G',C',fun x hx=>?_,W.kn.pst P,W.ld.pst P,fun k k0 k1=>?_⟩
 ·rcases sub x hx with q | ⟨y,hy,q⟩
  ·exact W.ls.pst P hB x q
  ·exact DU C.el hB' L to x (List.mem_map.2 ⟨y,hy,q.symm⟩)
 ·unfold sD
  by_cases c:k=i
  ·subst c; rw [if_pos rfl,upd_same]; exact ⟨rfl,rfl⟩
  ·rw [if_neg c,dw c]; exact W.sy k k0 k1
theorem WG.syi (W:WG n B G R S Ls known leaders) (i0:0<=i) (i1:i < n):Sy (S i) (R i):=by
 obtain ⟨a,b⟩:=W.sy i i0 i1
 unfold Sy
 rw [b,a]; rfl
/-- a member begins anew with what it has stored -/
theorem WG.again (W:WG n B G R S Ls known leaders) (i0:0<=i) (i1:i < n):WG n B G (upd R i (RS.start i n (S i).term (S i).bR (S i).log (S i).aQ)) S Ls known leaders:=by
 obtain ⟨a,b⟩:=W.sy i i0 i1
 refine ⟨?_,W.ls,W.kn,W.ld,fun k k0 k1=>?_⟩
 ·rw [a]; exact (W.core.again i0 i1 (R i).aQ).1
 ·by_cases c:k=i
  ·subst c; rw [upd_same]; exact ⟨by rw [a]; rfl,rfl⟩
  ·rw [dw c]; exact W.sy k k0 k1
/-- how it begins -/
theorem Wi.begin (n:Int):Wi n 0 (fun i=>RS.start i n 0 0 ⟨0,0,[]⟩ []) (fun _=>⟨0,0,⟨0,0,[]⟩,[]⟩) [] [] []:=by
 refine ⟨⟨fun _=>[],fun _=>none,fun _=>[],fun _=>[],fun _ _=>none,fun _ _=>(0,0),fun _ _=>0⟩,⟨fun i i0 i1=>?_,fun T j h=>by cases h⟩,fun x h=>(by cases h),fun j e h=>(by simp at h),fun T j h=>(by simp at h),fun i _ _=>⟨rfl,rfl⟩⟩
 exact { me:=rfl,rn:=rfl,t0:=Int.le_refl _,rep:=⟨Int.le_refl _,Nat.le_refl _,rfl,rfl⟩,lg:=fun k h1 h2=>by simp at h2; omega,ft:=fun e h=>(by cases h),v0:=.inl rfl,v1:=rfl,v2:=fun _ _=>rfl,v3:=fun T h=>(by cases h),v4:=fun T j h=>(by cases h),c1:=fun h=>(by cases h),l1:=fun h=>(by cases h),rl:=.inl rfl,c0:=Int.le_refl _,c2:=Int.le_refl _,cm:=.inl rfl,a1:=fun _ _=>rfl,a2:=fun T x hx o=>(o.l rfl).elim,a3:=fun T=>⟨Nat.le_refl _,fun h=>absurd h (Nat.lt_irrefl _)⟩,vi:=fun T' T j x h=>(by cases h),bt:=Int.le_refl _,bf:=Nat.le_refl _ }
end
end Go.Q.Rf
end
section
/- Letters of members may be taken; what they are to keep fits. -/
namespace Go.Q.Yi
open Rf
/-- what holds of a member that stands in memory -/
structure WL (r:RS):Prop where
 tm:0<=r.term/\r.term < 18446744073709551616
 cm:0<=r.commit/\r.commit < 18446744073709551616
 sn:isB r.aQ/\r.aQ.length<=1099511627776
 x0:0<=r.log.ix
 x1:r.log.ix + r.log.es.length < 18446744073709551616
 t0:0<=r.log.tm/\r.log.tm < 18446744073709551616
 ok:o9 r.log.es
 sz:r.log.es.length<=1000
theorem aB.wl {O:bz} {h:Heap} {L:RLy} {r:RS} (R:aB O h L r):WL r:=⟨R.wf.tm,R.wf.cm,R.wf.sn,R.p.l.x0,R.p.l.x1,R.p.l.t0,R.p.l.ok,R.p.l.sz⟩
section
variable {r:RS} {f:Int} {m:Msg}
theorem WL.term (w:WL r) (p:Int):0<=(r.log.aH p).1/\(r.log.aH p).1 < 18446744073709551616:=by
 unfold Lg.aH
 split
 ·decide
 ·split
  ·decide
  ·split
   ·exact w.t0
   ·rename_i h5 h6 h7
    have hlast:r.log.last=r.log.ix + r.log.es.length:=rfl
    obtain ⟨e,he⟩:∃ e,r.log.es[(p - r.log.ix - 1).toNat]? = some e:=⟨_,List.getElem?_eq_getElem (by omega)⟩
    rw [List.getD_eq_getElem?_getD,he]
    exact (w.ok _ (List.mem_of_getElem? he)).1
theorem WL.lastT (w:WL r):0<=r.log.lastT/\r.log.lastT < 18446744073709551616:=by
 unfold Lg.lastT
 cases h:r.log.es.getLast? with
 | none=>exact w.t0
 | some e=>exact (w.ok _ (List.mem_of_getLast? h)).1
theorem oq {k t i l:Int} {y:Bool} (ht:0<=t/\t < 18446744073709551616) (hi:0<=i/\i < 18446744073709551616) (hl:0<=l/\l < 18446744073709551616):WFm ⟨k,t,i,l,0,y,[],[]⟩ :=
 ⟨ht,hi,hl,by show (0:Int)<=0/\(0:Int) < _; omega,(fun e he=>by cases he),by show 0<=1000; omega,sW,by show 0<=_; omega⟩
theorem xA (w:WL r) (i:Int):WFm (r.due i):=by
 unfold RS.due
 split
 ·exact ⟨w.tm,⟨w.x0,by have:=w.x1; show r.log.ix < _; omega⟩,w.t0,w.cm,(fun e he=>by cases he),by show 0<=1000; omega,w.sn⟩
 ·refine ⟨w.tm,uu _,w.term _,w.cm,?_,?_,sW,by show 0<=_; omega⟩
  ·show o9 (r.log.frm _ 4).1
   unfold Lg.frm
   split
   ·exact fun e he=>by cases he
   ·split
    ·exact fun e he=>by cases he
    ·exact (w.ok.drop _).take _
  ·show (r.log.frm _ 4).1.length<=1000
   unfold Lg.frm
   split
   ·show 0<=1000; omega
   ·split
    ·show 0<=1000; omega
    ·show (List.take _ _).length<=1000
     rw [List.length_take]
     have:(4:Int).toNat=4:=rfl
     omega
theorem uf {g:Int->Msg} (hg:∀ i,WFm (g i)):∀ x∈r.others g,WFm x.2:=fun x hx=>by
 unfold RS.others at hx
 obtain ⟨i,_,rfl⟩:=List.mem_map.1 hx
 exact hg i
theorem BV (w:WL r.win.1):∀ x∈r.win.2,WFm x.2:=by
 unfold RS.win at w ⊢
 split
 ·exact fun x hx=>by cases hx
 ·rename_i c
  rw [if_neg c] at w
  exact uf fun i=>xA w i
theorem WL.last (w:WL r):0<=r.log.last/\r.log.last < 18446744073709551616:=by
 have:=w.x0; have:=w.x1; unfold Lg.last; omega
theorem D9 (w:WL r) (w':WL r.tick.1):∀ x∈r.tick.2,WFm x.2:=by
 unfold RS.tick at w' ⊢
 split
 ·exact uf fun i=>xA (r:={ r with ticks:=r.ticks + 1 }) ⟨w.tm,w.cm,w.sn,w.x0,w.x1,w.t0,w.ok,w.sz⟩ i
 ·rename_i c1
  rw [if_neg c1] at w'
  split
  ·rename_i c2
   rw [if_pos c2] at w'
   unfold RS.iA at w' ⊢
   split
   ·exact fun x hx=>by cases hx
   ·rename_i c3
    rw [if_neg c3] at w'
    intro x hx
    rcases List.mem_append.1 hx with hx | hx
    ·exact uf (fun i=>oq (uu _) w.last w.lastT) x hx
    ·exact BV w' x hx
  ·exact fun x hx=>by cases hx
theorem one_wf {i:Int} {y:Msg} (h:WFm y):∀ x∈[((i,y):lY)],WFm x.2:=fun x hx=>by simp at hx; subst hx; exact h
theorem yX (wt:0<=r.term/\r.term < 18446744073709551616) (wl:0<=r.log.last/\r.log.last < 18446744073709551616) (mt:0<=m.term/\m.term < 18446744073709551616) (mi:0<=m.index/\m.index < 18446744073709551616) (w':WL (r.take2 f m).1):∀ x∈(r.take2 f m).2,WFm x.2:=by
 have z:(0:Int)<=0/\(0:Int) < 18446744073709551616:=by omega
 unfold RS.take2 at w' ⊢
 split
 ·unfold RS.nE
  split
  ·exact one_wf (oq wt z z)
  ·exact one_wf (oq wt z z)
 rename_i c1
 rw [if_neg c1] at w'
 split
 ·rename_i c2
  rw [if_pos c2] at w'
  exact BV w'
 rename_i c2
 rw [if_neg c2] at w'
 split
 ·rename_i c3
  rw [if_pos c3] at w'
  unfold RS.appends RS.ou at w' ⊢
  split
  ·rename_i c4
   rw [if_pos c4] at w'
   have hl:(r.lu f m).log=r.log:=by
    show (r.aR m.term).log=r.log
    unfold RS.aR; split <;> rfl
   refine one_wf (oq w'.tm ?_ z)
   rw [hl]; omega
  ·rename_i c4
   rw [if_neg c4] at w'
   exact one_wf (oq w'.tm ui z)
 rename_i c3
 rw [if_neg c3] at w'
 split
 ·rename_i c4
  rw [if_pos c4] at w'
  unfold RS.appended at w' ⊢
  split
  ·exact fun x hx=>by cases hx
  rename_i d1
  rw [if_neg d1] at w'
  split
  ·rename_i d2
   rw [if_pos d2] at w'
   exact one_wf (xA w' _)
  rename_i d2
  rw [if_neg d2] at w'
  split
  ·exact fun x hx=>by cases hx
  rename_i d3
  rw [if_neg d3] at w'
  split
  ·rename_i d4
   rw [if_pos d4] at w'
   exact one_wf (xA w' _)
  ·exact fun x hx=>by cases hx
 ·rename_i c4
  rw [if_neg c4] at w'
  unfold RS.kP at w' ⊢
  exact one_wf (oq w'.tm w'.cm z)
theorem Dx (w:WL r) (wm:WFm m) (w':WL (r.take f m).1):∀ x∈(r.take f m).2,WFm x.2:=by
 have z:(0:Int)<=0/\(0:Int) < 18446744073709551616:=by omega
 unfold RS.take at w' ⊢
 split
 ·exact fun x hx=>by cases hx
 rename_i c1
 rw [if_neg c1] at w'
 split
 ·unfold RS.late
  split
  ·exact one_wf (oq w.tm z z)
  ·split
   ·exact one_wf (oq w.tm z z)
   ·exact fun x hx=>by cases hx
 rename_i c2
 rw [if_neg c2] at w'
 split
 ·rename_i c3
  rw [if_pos c3] at w'
  refine yX ?_ ?_ wm.t wm.i w'
  ·show 0<=(r.aR m.term).term/\(r.aR m.term).term < _
   unfold RS.aR; rw [if_pos c3]; exact wm.t
  ·show 0<=(r.aR m.term).log.last/\(r.aR m.term).log.last < _
   unfold RS.aR; rw [if_pos c3]; exact w.last
 ·rename_i c3
  rw [if_neg c3] at w'
  exact yX w.tm w.last wm.t wm.i w'
/-! ### what is to be kept fits -/
def Kpt (r:RS):Prop:=∀ k∈r.keeps,WFk k
theorem Kpt.of {r':RS} (h:Kpt r) (e:r'.keeps=r.keeps):Kpt r':=fun k hk=>h k (by rw [← e]; exact hk)
theorem Kpt.one {r':RS} {k:qj} (h:Kpt r) (e:r'.keeps=r.keeps ++ [k]) (w:WFk k):Kpt r':=fun x hx=>by
 rw [e] at hx
 rcases List.mem_append.1 hx with hx | hx
 ·exact h x hx
 ·simp at hx; subst hx; exact w
theorem wk0 {a b c:Int} {s:List Int}:WFk ⟨a,b,c,0,[],s⟩:=⟨by show (0:Int)<=0/\(0:Int)<=_; omega,by show 0<=100000; omega⟩
theorem Kpt.aR (h:Kpt r) (t:Int):Kpt (r.aR t)/\(r.aR t).log=r.log:=by
 unfold RS.aR
 split
 ·exact ⟨h.one rfl wk0,rfl⟩
 ·exact ⟨h,rfl⟩
theorem Kpt.follow (h:Kpt r) (t l:Int):Kpt (r.follow t l):=(h.aR t).1.of rfl
theorem Kpt.lu (h:Kpt r):Kpt (r.lu f m):=(h.follow m.term f).of rfl
theorem Kpt.settle (h:Kpt r):Kpt r.settle:=by unfold RS.settle; split <;> exact h.of rfl
def lok (l:Lg):Prop:=0<=l.last/\l.last<=1000000000
theorem Kpt.put (h:Kpt r) (l:lok r.log) (cmd:List Int):Kpt (r.put cmd).1:=by
 unfold RS.put
 split
 ·exact h
 ·exact Kpt.settle (h.one rfl ⟨l,by show 1<=100000; omega⟩)
theorem Kpt.win (h:Kpt r) (l:lok r.log):Kpt r.win.1:=by
 unfold RS.win
 split
 ·exact h
 ·exact Kpt.put (h.of (r':=r.lead) rfl) l []
theorem Kpt.tick (h:Kpt r) (l:lok r.log):Kpt r.tick.1:=by
 unfold RS.tick
 split
 ·exact h.of rfl
 ·split
  ·unfold RS.iA
   split
   ·exact h.of rfl
   ·exact Kpt.win (h.one rfl wk0) l
  ·exact h.of rfl
theorem Kpt.base (h:Kpt r) {x:Int} (hx:0<=x/\x<=1000000000) (t:Int) (sn:List Int):Kpt (r.base x t sn):=h.one rfl ⟨hx,by show 0<=100000; omega⟩
theorem Kpt.iC (h:Kpt r) (l:lok r.log) (cmd:List Int):Kpt (r.iC cmd).1:=by
 unfold RS.iC
 split
 ·exact h
 ·exact h.put l cmd
theorem Kpt.nG (h:Kpt r) {x:Int} (hx:0<=x/\x<=1000000000) (sn:List Int):Kpt (r.nG x sn).1:=by
 unfold RS.nG
 split
 ·exact h
 ·split
  ·exact h
  ·exact h.base hx _ sn
theorem vQ (p0:0<=m.index) (bd:m.index + m.aK.length<=100000000) (z:m.aK.length<=1000):∀ (xs:List Ent) (i:Nat),i + xs.length=m.aK.length->WFk (r.lL m i xs)
 | [],i,_=>wk0
 | x :: xs,i,hi=>by
  simp at hi
  unfold RS.lL
  split
  ·exact vQ p0 bd z xs (i + 1) (by omega)
  ·have e:W (W (m.index + i + 1) - 1)=m.index + i:=by
    unfold W
    rw [aL (x:=m.index + i + 1) (by omega) (by omega),aL (by omega) (by omega)]
    omega
   refine ⟨?_,by show (x :: xs).length<=_; simp; omega⟩
   show 0<=W (W (m.index + i + 1) - 1)/\W (W (m.index + i + 1) - 1)<=_
   rw [e]; omega
theorem Kpt.take2 (h:Kpt r) (l:lok r.log) (z:m.aK.length<=1000) (k3:m.kind=3->0<=m.index/\m.index + m.aK.length<=100000000) (k5:m.kind=5->0<=m.index/\m.index<=1000000000) (hk:1<=m.kind/\m.kind<=5):Kpt (r.take2 f m).1:=by
 unfold RS.take2
 split
 ·unfold RS.nE
  split
  ·dsimp only
   split
   ·exact h.one rfl wk0
   ·exact h.of rfl
  ·exact h
 split
 ·have c:Kpt (r.counted f m)/\(r.counted f m).log=r.log:=by
   unfold RS.counted
   split
   ·exact ⟨h.of rfl,rfl⟩
   ·exact ⟨h,rfl⟩
  exact c.1.win (by rw [c.2]; exact l)
 split
 ·rename_i c
  obtain ⟨p0,bd⟩:=k3 c
  unfold RS.appends RS.ou
  split
  ·exact h.lu
  ·unfold RS.wh
   by_cases q:((r.lu f m).fresh m).aK.length > 0
   ·exact (h.lu (f:=f) (m:=m)).one (k:=(r.lu f m).fresh m) (by dsimp only; rw [if_pos q]) (vQ p0 bd z m.aK 0 (by omega))
   ·exact (h.lu (f:=f) (m:=m)).of (by dsimp only; rw [if_neg q])
 split
 ·unfold RS.appended
  split
  ·exact h
  split
  ·exact h.of rfl
  split
  ·exact h
  split
  ·exact Kpt.settle (h.of rfl)
  ·exact Kpt.settle (h.of rfl)
 ·unfold RS.kP RS.oC
  dsimp only
  split
  ·exact (h.lu.base (k5 (by omega)) m.logTerm m.aQ).of rfl
  ·exact h.lu
theorem Kpt.take (h:Kpt r) (l:lok r.log) (z:m.aK.length<=1000) (k3:m.kind=3->0<=m.index/\m.index + m.aK.length<=100000000) (k5:m.kind=5->0<=m.index/\m.index<=1000000000):Kpt (r.take f m).1:=by
 unfold RS.take
 split
 ·exact h
 rename_i c
 split
 ·exact h
 split
 ·exact (h.follow m.term (-1)).take2 (by show lok (r.aR m.term).log; rw [(h.aR m.term).2]; exact l) z k3 k5 (by omega)
 ·exact h.take2 l z k3 k5 (by omega)
end
end Go.Q.Yi
end
section
/- The document's example: a node alone. -/
namespace Go.Q.Yi
open Rf
def qw:Nat->RS
 | 0=>RS.start 0 1 0 0 ⟨0,0,[]⟩ []
 | n + 1=>(qw n).tick.1
def tX:RS:=((qw 10).iC [120]).1
theorem ym:(List.range 10).all (fun n=>(qw n).role != 2 && (qw n).role != 1 && decide ((qw n).keeps.length < 100) && decide ((qw n).ticks < 1000))=true:=by decide +kernel
theorem xe:(qw 10).role=2/\(qw 10).keeps.length < 100/\((qw 10).iC [120]).2=(2,0)/\tX.entry 2=((1,[120]),0)/\tX.role=2/\tX.leader=0/\tX.commit=2/\tX.term=1:=by decide +kernel
theorem Res.ge {O:bz} {h0 h h':Heap} {L L':RLy} {r r':RS} (q:Res O h L r' h' L') (R:aB O h L r) (hO:∀ g,O g->h0.size<=g) (hz:h0.size<=h.size):∀ g,G O L' g->h0.size<=g:=fun g hg=>hg.elim (hO g) fun h1=>(q.F g h1).elim (fun h2=>hO g (R.ow g h2)) fun h2=>by omega
theorem Res.X {O:bz} {h0 h h':Heap} {L L':RLy} {r r':RS} (q:Res O h L r' h' L') (R:aB O h L r) (hO:∀ g,O g->h0.size<=g) (hz:h0.size<=h.size):Ext h0.size h h':=q.S.ext (fun g hg=>hO g (R.ow g hg)) hz
theorem BF {k:KP (Option Addr)} {h:Heap} (H:∀ O L h',aB O h' L (qw 10)->(∀ g,O g->h.size<=g)->Ext h.size h h'->k (some ⟨L.b,0,none⟩) h'):qa k h:=by
 unfold qa
 refine rY (l:=⟨0,0,[]⟩) (aQ:=[]) (by omega) (by omega) (by omega) (by omega) (.inl ⟨rfl,rfl⟩) (nk h) rfl sW (by simp) fun L0 h1 M1 o1 X1=>?_
 have M1:=M1 (fun _=>False) fun _ h=>h.elim
 unfold rf
 refine ⟨fun i h'=>∃ n:Nat,i=n/\n<=10/\∃ O L,L.b=L0.b/\aB O h' L (qw n)/\(∀ g,O g->h.size<=g)/\Ext h.size h h',fun i _=>(20 - i).toNat,⟨0,rfl,by omega,_,L0,rfl,M1,fun g hg=>hg.elim (fun h=>h.elim) (o1 g),X1⟩,?_⟩
 rintro i h2 ⟨n,rfl,hn,O,L,eb,M,oO,X⟩
 have z:=X.size
 unfold qI
 rw [if_pos (by simp; omega),← eb]
 refine vL M ?_
 by_cases h10:n=10
 ·subst h10
  rw [xe.1]
  show iR _ _ false _ _ _
  unfold iR
  rw [if_neg (by simp)]
  exact H O L h2 M oO X
 ·have f:=List.all_eq_true.1 ym n (by simp; omega)
  simp only [Bool.and_eq_true,bne_iff_ne,ne_eq,decide_eq_true_eq] at f
  obtain ⟨⟨⟨f1,f2⟩,f3⟩,f4⟩:=f
  show iR _ _ (!((qw n).role == 2)) _ _ _
  rw [show (!((qw n).role == 2))=true from by simpa using f1]
  unfold iR
  rw [if_pos rfl]
  refine Au M (by omega) (by omega) fun s h3 L3 q Ml sb=>?_
  rw [ay (by omega) (by omega)]
  have z3:=q.S.size
  exact ⟨_,rfl,⟨n + 1,by omega,by omega,_,L3,q.b,q.R,q.ge M oO z,X.trans (q.X M oO z)⟩,by dsimp only; omega⟩
theorem zy {k:KP Bool} {h:Heap} (H:∀ h',Ext h.size h h'->k true h'):qd k h:=by
 obtain ⟨f1,f2,f3,f4,f5,f6,f7,f8⟩:=xe
 unfold qd
 refine BF fun O L h2 M oO X=>?_
 have z2:=X.size
 refine ⟨_,_,rfl,rfl,_,rfl,?_⟩
 have X3:=Ext.push h2 (.cells ([.int .u8 120]:List Value).toArray 5 (1,2)) (Nat.le_refl _)
 have B3:=Blk.Gt h2 [.int .u8 120] 5 (lo:=1) (hi:=2) (Nat.le_refl _)
 have M3:=M.ext X3
 generalize h2.push (.cells ([.int .u8 120]:List Value).toArray 5 (1,2))=h3 at *
 have z3:=X3.size
 refine uY (cmd:=[120]) M3 (by omega) (B3.slc (o:=0) (n:=1) rfl) rfl (fun b hb=>by simp at hb; omega) (by simp) fun h4 L4 q4=>?_
 have M4:=q4.R
 change aB (G O L4) h4 L4 tX at M4
 rw [f3]
 have o4:=q4.ge M3 oO (by omega)
 have X4:=q4.X M3 oO (by omega)
 have z4:=X4.size
 rw [← q4.b]
 refine sN (p:=2) M4 (by omega) fun v h5 v1 v2 X5=>?_
 rw [f4] at v1 v2 ⊢
 have M5:=M4.ext X5
 have z5:=X5.size
 refine ⟨_,_,rfl,rfl,?_⟩
 have P0:=Blk.push h5 (ae.cs ⟨0,⟨none,0,0⟩⟩) 65
 have P1:=P0.jN (vs:=ae.cs v) rfl
 have X6:Ext h5.size h5 (aO (h5.push (.cells (ae.cs ⟨0,⟨none,0,0⟩⟩).toArray 65)) ⟨h5.size,0,none⟩ 0 (ae.cs v)):=(Ext.push h5 _ (Nat.le_refl _)).trans (Ext.sets _ _ _ (Nat.le_refl _))
 refine ⟨_,bZ.dL P0 (by show 2<=2; omega),rfl,?_⟩
 generalize aO (h5.push (.cells (ae.cs ⟨0,⟨none,0,0⟩⟩).toArray 65)) ⟨h5.size,0,none⟩ 0 (ae.cs v)=h6 at *
 have M6:=M5.ext X6
 have R6:=v2.ext X6 fun g hg=>(v2.bd hg).2
 have z6:=X6.size
 refine vL M6 ?_
 rw [f5,if_pos (by simp)]
 refine Bn M6 ?_
 rw [f6]
 unfold ny
 rw [if_pos (by simp)]
 refine pg M6 ?_
 rw [f7]
 unfold mR
 rw [if_pos (by simp)]
 refine ⟨v.lS,by rw [P1.get]; rfl,[120],by have:=R6.len; simp at this; simp; omega,R6.slc,?_⟩
 unfold nu
 rw [if_pos (by decide +kernel)]
 refine pM M6 ?_
 rw [f8]
 unfold mM
 exact H h6 (X.trans ((X3.mono z2).trans (X4.trans ((X5.mono (by omega)).trans (X6.mono (by omega))))))
end Go.Q.Yi
end
section
/- All the members, the letters, what was known, who led: in memory. -/
namespace Go.Q.Yi
open Rf
theorem aB.move {O O' S:bz} {h h':Heap} {L:RLy} {r:RS} (R:aB O h L r) (p:Stp S h h') (hS:∀ g,S g->O g∨h.size<=g) (hd:∀ g,own L g->¬ S g) (hO:∀ g,O' g->O g∨h.size<=g) (hw:∀ g,own L g->O' g) (ob:∀ g,O' g->g < h'.size):aB O' h' L r:=by
 have P:=R.p.stp p hS (hd _ (.inr (.inl rfl))) (fun g hg=>hd g (.inr (.inr (.inl hg)))) (fun g hg=>hd g (.inr (.inr (.inr (.inl hg))))) (fun g hg=>hd g (.inr (.inr (.inr (.inr (.inl hg)))))) (fun g hg=>hd g (.inr (.inr (.inr (.inr (.inr (.inl hg))))))) fun g hg=>hd g (.inr (.inr (.inr (.inr (.inr (.inr hg))))))
 obtain ⟨ks,K,I⟩:=R.p.kp
 obtain ⟨vs,Re,Ie⟩:=R.p.l.r
 refine ⟨p.blk R.k (hd _ (.inl rfl)),⟨?_,R.p.sn.step (p.mono hS) hO,P.sl,P.nx,P.hs,P.dj,⟨ks,p.row K fun g hg=>hd g (.inr (.inr (.inr (.inr (.inr (.inl hg)))))),I.step (p.mono hS) hO⟩,P.bl⟩,hw,ob,R.wf⟩
 exact ⟨P.l.k,⟨vs,p.row Re fun g hg=>hd g (.inr (.inr (.inl hg))),Ie.step (p.mono hS) hO⟩,hw _ (.inr (.inl rfl)),fun g hg=>hw g (.inr (.inr (.inl hg))),P.l.x0,P.l.x1,P.l.t0,P.l.ok,P.l.sz⟩
structure MLy where
 w:Nat
 m:Slc
 lt:Slc
 kn:Slc
 ld:Slc
 rs:Int->RLy
 ss:Int->SLy
def mbs (n:Int) (M:MLy):List ax:=(List.range n.toNat).map fun (i:Nat)=>⟨some ⟨(M.rs i).b,0,none⟩,some ⟨(M.ss i).b,0,none⟩⟩
def ins (l:List Int):List Value:=l.map (Value.int .i64)
def yc (O:bz) (h:Heap) (s:Slc) (l:List Let):Prop:=∃ ls:List ai,Row 0 h 109 10 s (ls.flatMap ai.cs)/\ls.length=l.length/\∀ (i:Nat) v x,ls[i]? = some v->l[i]? = some x->v.qW=x.1/\v.zG=x.2.1/\Imm O h fun h=>rH h v.f_M x.2.2
def KnI (O:bz) (h:Heap) (s:Slc) (l:List Ent):Prop:=∃ vs:List ae,Row 0 h 65 2 s (ecs vs)/\vs.length=l.length/\∀ (i:Nat) v x,vs[i]? = some v->l[i]? = some x->Imm O h fun h=>oD h v x
def In (n i:Int):Prop:=0<=i/\i < n
def wcs (M:MLy):List Value:=bD.cs ⟨M.m,M.lt,M.kn,M.ld,false⟩
/-- the blocks of the world's own rows -/
structure Own (n:Int) (O:bz) (M:MLy):Prop where
 w:O M.w
 m:∀ g,M.m.blk=some g->O g
 l:∀ g,M.lt.blk=some g->O g
 k:∀ g,M.kn.blk=some g->O g
 d:∀ g,M.ld.blk=some g->O g
/-- what must stay whatever the world does -/
class QC where
 Q:Heap->Prop
structure WAt [QC] (n:Int) (O:bz) (h:Heap) (M:MLy) (R:Int->RS) (S:Int->SS) (Ls:List Let) (kn:List Ent) (ld:List Int):Prop where
 n1:1<=n/\n<=32
 w:Blk h M.w (wcs M) 56
 m:Row 0 h 60 2 M.m ((mbs n M).flatMap ax.cs)
 r:∀ i,In n i->aB O h (M.rs i) (R i)
 rd:∀ i j,In n i->In n j->i≠j->∀ g,own (M.rs i) g->¬ own (M.rs j) g
 s:∀ i,In n i->mI O h (M.ss i) (S i)
 sd:∀ i j,In n i->In n j->i≠j->∀ g,nK (M.ss i) g->¬ nK (M.ss j) g
 l:yc O h M.lt Ls
 k:KnI O h M.kn kn
 kd:∀ i,In n i->∀ g,M.kn.blk=some g->¬ own (M.rs i) g
 d:Row 0 h 3 1 M.ld (ins ld)
 ow:Own n O M
 ob:∀ g,O g->g < h.size
 im:Imm O h QC.Q
theorem yc.move {O O' X:bz} {h h':Heap} {s:Slc} {l:List Let} (A:yc O h s l) (p:Stp X h h') (hX:∀ g,X g->O g∨h.size<=g) (hO:∀ g,O' g->O g∨h.size<=g) (hd:∀ g,s.blk=some g->¬ X g):yc O' h' s l:=by
 obtain ⟨ls,R,e,I⟩:=A
 exact ⟨ls,p.row R hd,e,fun i v x hv hx=>⟨(I i v x hv hx).1,(I i v x hv hx).2.1,(I i v x hv hx).2.2.step (p.mono hX) hO⟩⟩
theorem KnI.move {O O' X:bz} {h h':Heap} {s:Slc} {l:List Ent} (A:KnI O h s l) (p:Stp X h h') (hX:∀ g,X g->O g∨h.size<=g) (hO:∀ g,O' g->O g∨h.size<=g) (hd:∀ g,s.blk=some g->¬ X g):KnI O' h' s l:=by
 obtain ⟨vs,R,e,I⟩:=A
 exact ⟨vs,p.row R hd,e,fun i v x hv hx=>(I i v x hv hx).step (p.mono hX) hO⟩
theorem sG {O:bz} {h:Heap} {L:SLy} {s:SS} (A:mI O h L s) {g:Nat} (hg:nK L g):∃ cs E,Blk h g cs E/\(E=73∨E=75):=by
 rcases hg with rfl | rfl
 ·exact ⟨_,_,A.k,.inl rfl⟩
 ·exact ⟨_,_,A.l.k,.inr rfl⟩
section
variable [QC] {n:Int} {O O' X:bz} {h h':Heap} {M:MLy} {R:Int->RS} {S:Int->SS} {Ls:List Let} {kn:List Ent} {ld:List Int} {i:Int}
theorem mI.own (A:mI O h (M.ss i) (S i)):∀ g,nK (M.ss i) g->O g:=fun g hg=>hg.elim (fun e=>by subst e; exact A.ob) fun e=>by subst e; exact A.l.ob
/-- a row's block isn't a member's -/
theorem WAt.nr (W:WAt n O h M R S Ls kn ld) (hi:In n i) {B E w:Nat} {s:Slc} {xs:List Value} (T:Row B h E w s xs) (hE:E≠94/\E≠117/\E≠65/\E≠22/\E≠107/\E≠123):∀ g,s.blk=some g->¬ own (M.rs i) g:=fun g hg=>by
 obtain ⟨cs,K⟩:=T.y5 hg
 exact (W.r i hi).lZ K hE
theorem WAt.nsr (W:WAt n O h M R S Ls kn ld) {j:Int} (hi:In n i) (hj:In n j):∀ g,nK (M.ss j) g->¬ own (M.rs i) g:=fun g hg=>by
 obtain ⟨cs,E,K,hE⟩:=sG (W.s j hj) hg
 refine (W.r i hi).lZ K ?_
 rcases hE with rfl | rfl <;> decide
theorem WAt.tu (W:WAt n O h M R S Ls kn ld) (hi:In n i) {B E w:Nat} {s:Slc} {xs:List Value} (T:Row B h E w s xs) (hE:E≠73/\E≠75):∀ g,s.blk=some g->¬ nK (M.ss i) g:=fun g hg hs=>by
 obtain ⟨cs,E',K,hE'⟩:=sG (W.s i hi) hs
 refine T.aW K ?_ hg
 rcases hE' with rfl | rfl
 ·exact hE.1
 ·exact hE.2
theorem WAt.nw (W:WAt n O h M R S Ls kn ld) (hi:In n i):¬ own (M.rs i) M.w:=(W.r i hi).lZ W.w (by decide)
theorem WAt.nws (W:WAt n O h M R S Ls kn ld) (hi:In n i):¬ nK (M.ss i) M.w:=fun hs=>by
 obtain ⟨cs,E',K,hE'⟩:=sG (W.s i hi) hs
 have:=(K.inj W.w).2
 rcases hE' with rfl | rfl <;> exact absurd this (by decide)
theorem WAt.ext (W:WAt n O h M R S Ls kn ld) (p:Ext h.size h h'):WAt n O h' M R S Ls kn ld:=by
 have q:Stp (fun _=>False) h h':=.bi p
 have ob:∀ g,O g->g < h'.size:=fun g hg=>by have:=W.ob g hg; have:=p.size; omega
 exact ⟨W.n1,q.blk W.w fun h=>h,q.row W.m fun _ _ h=>h,fun i hi=>(W.r i hi).ext p,W.rd,fun i hi=>(W.s i hi).ext p,W.sd,W.l.move q (fun _ h=>h.elim) (fun _ h=>.inl h) fun _ _ h=>h,W.k.move q (fun _ h=>h.elim) (fun _ h=>.inl h) fun _ _ h=>h,W.kd,q.row W.d fun _ _ h=>h,W.ow,ob,W.im.ext p⟩
def vW (M:MLy) (i:Int) (L:RLy):MLy:={ M with rs:=fun k=>if k=i then L else M.rs k }
def sets (M:MLy) (i:Int) (L:SLy):MLy:={ M with ss:=fun k=>if k=i then L else M.ss k }
theorem kS {L:RLy}:(vW M i L).rs i=L:=if_pos rfl
theorem gV {L:RLy} {j:Int} (h:j≠i):(vW M i L).rs j=M.rs j:=if_neg h
theorem rR {L:SLy}:(sets M i L).ss i=L:=if_pos rfl
theorem pF {L:SLy} {j:Int} (h:j≠i):(sets M i L).ss j=M.ss j:=if_neg h
theorem Ck {L:RLy} (e:L.b=(M.rs i).b):mbs n (vW M i L)=mbs n M:=by
 unfold mbs
 refine List.map_congr_left fun j _=>?_
 by_cases c:(j:Int)=i
 ·rw [← c] at e ⊢
  rw [kS,e]; rfl
 ·rw [gV c]; rfl
theorem Cw {L:SLy} (e:L.b=(M.ss i).b):mbs n (sets M i L)=mbs n M:=by
 unfold mbs
 refine List.map_congr_left fun j _=>?_
 by_cases c:(j:Int)=i
 ·rw [← c] at e ⊢
  rw [rR,e]; rfl
 ·rw [pF c]; rfl
/-- a member acts -/
theorem WAt.act (W:WAt n O h M R S Ls kn ld) (hi:In n i) {r':RS} {L':RLy} (q:Res O h (M.rs i) r' h' L'):WAt n (G O L') h' (vW M i L') (upd R i r') S Ls kn ld:=by
 have Ri:=W.r i hi
 have p:=q.S
 have hX:∀ g,own (M.rs i) g->O g∨h.size<=g:=fun g hg=>.inl (Ri.ow g hg)
 have hO:∀ g,G O L' g->O g∨h.size<=g:=fun g hg=>hg.elim .inl fun h1=>(q.F g h1).elim (fun h2=>.inl (Ri.ow g h2)) .inr
 have fr:∀ g,own L' g->g < h.size->own (M.rs i) g:=fun g hg hl=>(q.F g hg).elim id fun h2=>by omega
 have hw:∀ g,O g->G O L' g:=fun g hg=>.inl hg
 have ow:=W.ow
 refine ⟨W.n1,p.blk W.w (W.nw hi),?_,fun j hj=>?_,fun j k hj hk hn g h1 h2=>?_,fun j hj=>?_,W.sd,W.l.move p hX hO (by obtain ⟨_,T,_⟩:=W.l; exact W.nr hi T (by decide)),W.k.move p hX hO (W.kd i hi),fun j hj g hg h1=>?_,p.row W.d (W.nr hi W.d (by decide)),⟨hw _ ow.w,fun g hg=>hw g (ow.m g hg),fun g hg=>hw g (ow.l g hg),fun g hg=>hw g (ow.k g hg),fun g hg=>hw g (ow.d g hg)⟩,q.R.ob,W.im.step (p.mono hX) hO⟩
 ·rw [Ck q.b]; exact p.row W.m (W.nr hi W.m (by decide))
 ·by_cases c:j=i
  ·subst c; rw [kS,upd_same]; exact q.R
  ·rw [gV c,dw c]
   exact (W.r j hj).move p hX (W.rd j i hj hi c) hO (fun g hg=>hw g ((W.r j hj).ow g hg)) q.R.ob
 ·by_cases c:j=i
  ·subst c
   have ck:k≠j:=fun e=>hn e.symm
   rw [kS] at h1; rw [gV ck] at h2
   exact W.rd j k hj hk hn g (fr g h1 ((W.r k hk).ob' h2)) h2
  ·rw [gV c] at h1
   by_cases ck:k=i
   ·subst ck
    rw [kS] at h2
    exact W.rd j k hj hk hn g h1 (fr g h2 ((W.r j hj).ob' h1))
   ·rw [gV ck] at h2
    exact W.rd j k hj hk hn g h1 h2
 ·exact (W.s j hj).move p hX (W.nsr hi hj) hO fun g hg=>hw g ((W.s j hj).own g hg)
 ·by_cases c:j=i
  ·subst c
   rw [kS] at h1
   exact W.kd j hj g hg (fr g h1 (W.ob g (ow.k g hg)))
  ·rw [gV c] at h1
   exact W.kd j hj g hg h1
/-- something is stored -/
theorem WAt.keep (W:WAt n O h M R S Ls kn ld) (hi:In n i) {s':SS} {L':SLy} (A:mI (fun g=>O g∨g=L'.lb) h' L' s') (eb:L'.b=(M.ss i).b) (el:L'.lb=(M.ss i).lb∨h.size<=L'.lb) (ll:L'.lb < h'.size) (p:Stp (nK (M.ss i)) h h'):WAt n (fun g=>O g∨g=L'.lb) h' (sets M i L') R (sD S i s') Ls kn ld:=by
 have Si:=W.s i hi
 have hX:∀ g,nK (M.ss i) g->O g∨h.size<=g:=fun g hg=>.inl (Si.own g hg)
 have hO:∀ g,(O g∨g=L'.lb)->O g∨h.size<=g:=fun g hg=>hg.elim .inl fun e=>by
  subst e
  exact el.elim (fun e=>.inl (by rw [e]; exact Si.l.ob)) .inr
 have fr:∀ g,nK L' g->g < h.size->nK (M.ss i) g:=fun g hg hl=>by
  rcases hg with hg | hg
  ·exact .inl (hg.trans eb)
  ·rcases el with el | el
   ·exact .inr (hg.trans el)
   ·omega
 have hw:∀ g,O g->O g∨g=L'.lb:=fun g hg=>.inl hg
 have ob:∀ g,(O g∨g=L'.lb)->g < h'.size:=fun g hg=>hg.elim (fun hg=>by have:=W.ob g hg; have:=p.size; omega) fun e=>by omega
 have ow:=W.ow
 have sb:∀ j,In n j->∀ g,nK (M.ss j) g->g < h.size:=fun j hj g hg=>W.ob g ((W.s j hj).own g hg)
 obtain ⟨_,TL,_⟩:=W.l
 obtain ⟨_,TK,_⟩:=W.k
 refine ⟨W.n1,p.blk W.w (W.nws hi),?_,fun j hj=>?_,W.rd,fun j hj=>?_,fun j k hj hk hn g h1 h2=>?_,W.l.move p hX hO (W.tu hi TL (by decide)),W.k.move p hX hO (W.tu hi TK (by decide)),W.kd,p.row W.d (W.tu hi W.d (by decide)),⟨hw _ ow.w,fun g hg=>hw g (ow.m g hg),fun g hg=>hw g (ow.l g hg),fun g hg=>hw g (ow.k g hg),fun g hg=>hw g (ow.d g hg)⟩,ob,W.im.step (p.mono hX) hO⟩
 ·rw [Cw eb]; exact p.row W.m (W.tu hi W.m (by decide))
 ·exact (W.r j hj).move p hX (fun g h1 h2=>W.nsr hj hi g h2 h1) hO (fun g hg=>hw g ((W.r j hj).ow g hg)) ob
 ·unfold sD
  by_cases c:j=i
  ·subst c; rw [rR,if_pos rfl]; exact A
  ·rw [pF c,if_neg c]
   exact (W.s j hj).move p hX (W.sd j i hj hi c) hO fun g hg=>hw g ((W.s j hj).own g hg)
 ·by_cases c:j=i
  ·subst c
   have ck:k≠j:=fun e=>hn e.symm
   rw [rR] at h1; rw [pF ck] at h2
   exact W.sd j k hj hk hn g (fr g h1 (sb k hk g h2)) h2
  ·rw [pF c] at h1
   by_cases ck:k=i
   ·subst ck
    rw [rR] at h2
    exact W.sd j k hj hk hn g h1 (fr g h2 (sb j hj g h1))
   ·rw [pF ck] at h2
    exact W.sd j k hj hk hn g h1 h2
end
end Go.Q.Yi
end
section
/- The world's rows: what is put behind, what is written. -/
namespace Go.Q.Yi
open Rf
theorem xy {p0 p1:Slc} {l m:List Int} {k:KP Bool} {h:Heap} (h0:SlcAt h p0 (b8 l)) (l0:p0.len=l.length) (h1:SlcAt h p1 (b8 m)) (l1:p1.len=m.length) (hb:l.length<=4611686018427387904) (H:k (decide (l=m)) h):mE p0 p1 k h:=by
 unfold mE
 by_cases hlm:l.length=m.length
 ·rw [if_neg (by simp [l0,l1,hlm])]
  refine ⟨fun i h'=>0<=i/\i<=l.length/\l.take i.toNat=m.take i.toNat/\h'=h,fun i _=>(l.length - i).toNat,⟨by omega,by omega,by simp,rfl⟩,?_⟩
  rintro i h' ⟨i0,i1,he,rfl⟩
  unfold qZ
  by_cases hi:i < l.length
  ·rw [if_pos (by simp [l0]; omega)]
   have n0:p0.a≠none:=fun hn=>by have:=h0.1 hn; simp at this; simp [this] at hi; omega
   have n1:p1.a≠none:=fun hn=>by have:=h1.1 hn; simp at this; simp [this] at hlm; simp [hlm] at hi; omega
   obtain ⟨a,ha⟩:=Option.ne_none_iff_exists'.1 n0
   obtain ⟨b,hb'⟩:=Option.ne_none_iff_exists'.1 n1
   have hla:i.toNat < l.length:=by omega
   have hma:i.toNat < m.length:=by omega
   refine ⟨a,ha,i0,by omega,l[i.toNat],?_,b,hb',i0,by omega,m[i.toNat],?_,?_⟩
   ·rw [Nat.mul_one]; exact h0.2 a ha i.toNat _ (by simp [hla])
   ·rw [Nat.mul_one]; exact h1.2 b hb' i.toNat _ (by simp [hma])
   ·by_cases hv:l[i.toNat]=m[i.toNat]
    ·rw [if_neg (by simp [hv]),ay (by omega) (by omega)]
     refine ⟨_,rfl,⟨by omega,by omega,?_,rfl⟩,by dsimp only; omega⟩
     rw [show (i + 1).toNat=i.toNat + 1 from by omega,List.take_succ_eq_append_getElem hla,List.take_succ_eq_append_getElem hma,he,hv]
    ·rw [if_pos (by simpa using hv)]
     have:decide (l=m)=false:=by
      rw [decide_eq_false_iff_not]
      rintro rfl
      exact hv rfl
     rw [← this]; exact H
  ·rw [if_neg (by simp [l0]; omega)]
   have:l=m:=by
    have e1:l.take i.toNat=l:=List.take_of_length_le (by omega)
    have e2:m.take i.toNat=m:=List.take_of_length_le (by omega)
    rw [e1,e2] at he; exact he
   simpa [this] using H
 ·rw [if_pos (by simp [l0,l1]; omega)]
  have:decide (l=m)=false:=by rw [decide_eq_false_iff_not]; rintro rfl; exact hlm rfl
  rw [← this]; exact H
theorem Eo {x:Int} {n:Nat} {k:KP Int} {h:Heap} (n0:1<=n) (n1:n<=1000000) (H:∀ r:Int,0<=r->r < n->k r h):lH x n k h:=by
 unfold lH nM
 rw [if_neg (by simp; omega)]
 have h1:-(n:Int) < x.tmod n/\x.tmod n < n:=by
  refine ⟨?_,Int.tmod_lt_of_pos x (by omega)⟩
  have:=Int.tmod_lt_of_pos (-x) (b:=n) (by omega)
  rw [Int.neg_tmod] at this; omega
 refine ⟨by omega,_,rfl,?_⟩
 by_cases hx:x.tmod n < 0
 ·rw [if_pos (by simpa using hx)]
  refine ⟨_,rfl,?_⟩
  rw [ay (by omega) (by omega)]
  exact H _ (by omega) (by omega)
 ·rw [if_neg (by simpa using hx)]
  exact H _ (by omega) (by omega)
/-- a step of the world's own -/
structure Go (O:bz) (h:Heap) (O':bz) (h':Heap):Prop where
 p:Stp O h h'
 o:∀ g,O' g->O g∨h.size<=g
 w:∀ g,O g->O' g
theorem Go.imm {O O':bz} {h h':Heap} {p:Heap->Prop} (a:Go O h O' h') (I:Imm O h p):Imm O' h' p:=I.step a.p a.o
section
variable [QC] {n:Int} {O O' X:bz} {h h':Heap} {M:MLy} {R:Int->RS} {S:Int->SS} {Ls:List Let} {kn:List Ent} {ld:List Int} {i:Int}
theorem WAt.c (W:WAt n O h M R S Ls kn ld) (j:Nat):af h ((⟨M.w,0,none⟩:Addr).add j)=(wcs M)[j]?:=W.w.get j
theorem WAt.c0 (W:WAt n O h M R S Ls kn ld):af h ⟨M.w,0,none⟩=some (Slc.v M.m):=W.w.cell
theorem WAt.ml (W:WAt n O h M R S Ls kn ld):(M.m.len:Int)=n:=by
 have:=W.m.1
 have e:((mbs n M).flatMap ax.cs).length=(mbs n M).length * 2:=qg (w:=2) (fun _=>rfl) _
 have e2:(mbs n M).length=n.toNat:=by simp [mbs]
 have:=W.n1
 omega
/-- a member's pointers -/
theorem WAt.mr (W:WAt n O h M R S Ls kn ld) (hi:In n i):∃ a:Addr,M.m.a=some a/\(0:Int)<=i/\i < (M.m.len:Int)/\af h (a.add (i.toNat * 2))=some (.pointer (some ⟨(M.rs i).b,0,none⟩))/\af h ((a.add (i.toNat * 2)).add 1)=some (.pointer (some ⟨(M.ss i).b,0,none⟩)):=by
 have hm:(mbs n M)[i.toNat]? = some ⟨some ⟨(M.rs i).b,0,none⟩,some ⟨(M.ss i).b,0,none⟩⟩:=by
  unfold mbs
  have:=hi.1; have:=hi.2
  rw [List.getElem?_map,List.getElem?_range (by omega)]
  simp only [Option.map_some]
  rw [show ((i.toNat:Nat):Int)=i from by omega]
 have ml:=W.ml
 have L:=LsAt.qh (cs:=ax.cs) (w:=2) (fun _=>rfl) W.m.slc (by simp [mbs]; have:=W.n1; omega) (by decide)
 obtain ⟨a,ha,c⟩:=L.at' _ _ hm
 refine ⟨a,ha,hi.1,by rw [ml]; exact hi.2,?_,c 1 _ rfl⟩
 have:=c 0 (.pointer (some ⟨(M.rs i).b,0,none⟩)) rfl
 rwa [dI,Nat.add_zero] at this
/-- something is done to the world's rows alone -/
theorem WAt.rows (W:WAt n O h M R S Ls kn ld) {M':MLy} {Ls':List Let} {kn':List Ent} {ld':List Int} (p:Stp X h h') (hX:∀ g,X g->g=M.w∨M.lt.blk=some g∨M.kn.blk=some g∨M.ld.blk=some g)
  (e:M'.w=M.w/\M'.m=M.m/\M'.rs=M.rs/\M'.ss=M.ss) (hO:∀ g,O' g->O g∨h.size<=g) (hw:∀ g,O g->O' g) (ob:∀ g,O' g->g < h'.size) (K:Blk h' M.w (wcs M') 56)
  (l:yc O' h' M'.lt Ls') (k:KnI O' h' M'.kn kn') (kb:∀ g,M'.kn.blk=some g->M.kn.blk=some g∨h.size<=g) (d:Row 0 h' 3 1 M'.ld (ins ld')) (ow:Own n O' M'):WAt n O' h' M' R S Ls' kn' ld':=by
 obtain ⟨e1,e2,e3,e4⟩:=e
 obtain ⟨_,TL,_⟩:=W.l
 obtain ⟨_,TK,_⟩:=W.k
 have XO:∀ g,X g->O g∨h.size<=g:=fun g hg=>by
  rcases hX g hg with rfl | hg | hg | hg
  ·exact .inl W.ow.w
  ·exact .inl (W.ow.l g hg)
  ·exact .inl (W.ow.k g hg)
  ·exact .inl (W.ow.d g hg)
 have nr:∀ i,In n i->∀ g,own (M.rs i) g->¬ X g:=fun i hi g h1 hg=>by
  rcases hX g hg with rfl | hg | hg | hg
  ·exact W.nw hi h1
  ·exact W.nr hi TL (by decide) g hg h1
  ·exact W.kd i hi g hg h1
  ·exact W.nr hi W.d (by decide) g hg h1
 have ns:∀ i,In n i->∀ g,nK (M.ss i) g->¬ X g:=fun i hi g h1 hg=>by
  rcases hX g hg with rfl | hg | hg | hg
  ·exact W.nws hi h1
  ·exact W.tu hi TL (by decide) g hg h1
  ·exact W.tu hi TK (by decide) g hg h1
  ·exact W.tu hi W.d (by decide) g hg h1
 have mbe:mbs n M'=mbs n M:=by unfold mbs; rw [e3,e4]
 refine ⟨W.n1,by rw [e1]; exact K,?_,fun i hi=>?_,by rw [e3]; exact W.rd,fun i hi=>?_,by rw [e4]; exact W.sd,l,k,fun i hi g hg h1=>?_,d,ow,ob,W.im.step (p.mono XO) hO⟩
 ·rw [e2,mbe]
  refine p.row W.m fun g hg h1=>?_
  rcases hX g h1 with rfl | h1 | h1 | h1
  ·exact W.m.aW W.w (by decide) hg
  ·exact W.m.pO TL (by decide) hg h1
  ·exact W.m.pO TK (by decide) hg h1
  ·exact W.m.pO W.d (by decide) hg h1
 ·rw [e3]; exact (W.r i hi).move p XO (nr i hi) hO (fun g hg=>hw g ((W.r i hi).ow g hg)) ob
 ·rw [e4]; exact (W.s i hi).move p XO (ns i hi) hO fun g hg=>hw g ((W.s i hi).own g hg)
 ·rw [e3] at h1
  rcases kb g hg with h2 | h2
  ·exact W.kd i hi g h2 h1
  ·have:=(W.r i hi).ob' h1; omega
/-! letters -/
theorem yc.len {s:Slc} {l:List Let} (A:yc O h s l):s.len=l.length:=by
 obtain ⟨ls,T,e,_⟩:=A
 have:=T.1
 have e2:(ls.flatMap ai.cs).length=ls.length * 10:=qg (w:=10) (fun _=>rfl) _
 omega
theorem KnI.len {s:Slc} {l:List Ent} (A:KnI O h s l):s.len=l.length:=by
 obtain ⟨ls,T,e,_⟩:=A
 have:=T.1
 rw [ji] at this
 omega
theorem Ch (W:WAt n O h M R S Ls kn ld) {s':Slc} {Ls':List Let} {h1:Heap} {k:Heap->Prop} (p:Stp (fun g=>M.lt.blk=some g) h h1) (sb:∀ g,s'.blk=some g->M.lt.blk=some g∨h.size<=g) (A:yc (OB O s') h1 s' Ls') (hb:∀ g,s'.blk=some g->g < h1.size)
  (H:∀ O' h',WAt n O' h' { M with lt:=s' } R S Ls' kn ld->Go O h O' h'->k h'):∃ h2:Heap,WrH h1 ((⟨M.w,0,none⟩:Addr).add 1)/\h2=setH h1 ((⟨M.w,0,none⟩:Addr).add 1) (Slc.v s')/\k h2:=by
 obtain ⟨_,TL,_⟩:=W.l
 obtain ⟨_,TK,_⟩:=W.k
 have K1:=p.blk W.w fun e=>TL.aW W.w (by decide) e
 obtain ⟨w1,f1⟩:=K1.put (i:=1) (v:=Slc.v s') (by show 1 < 5; omega)
 refine ⟨_,w1,rfl,?_⟩
 obtain ⟨K2,U2⟩:=f1 _ rfl
 generalize setH h1 ((⟨M.w,0,none⟩:Addr).add 1) (Slc.v s')=h2 at *
 have S2:Stp (fun g=>g=M.w) h1 h2:=.dD U2 (.inl rfl)
 have P:Stp (fun g=>g=M.w∨M.lt.blk=some g) h h2:=(p.mono fun g hg=>.inl (.inr hg)).trans S2 fun g hg=>.inl (.inl hg)
 have hO:∀ g,OB O s' g->O g∨h.size<=g:=fun g hg=>hg.elim .inl fun q=>(sb g q).elim (fun q=>.inl (W.ow.l g q)) .inr
 have PO:∀ g,(g=M.w∨M.lt.blk=some g)->O g∨h.size<=g:=fun g hg=>.inl (hg.elim (fun e=>by subst e; exact W.ow.w) (W.ow.l g))
 have ob:∀ g,OB O s' g->g < h2.size:=fun g hg=>by
  have:=U2.size; have:=P.size
  exact hg.elim (fun q=>by have:=W.ob g q; omega) fun q=>by have:=hb g q; omega
 obtain ⟨_,TA,_⟩:=id A
 refine H (OB O s') h2 (W.rows (X:=fun g=>g=M.w∨M.lt.blk=some g) P (fun g hg=>hg.elim .inl fun q=>.inr (.inl q)) ⟨rfl,rfl,rfl,rfl⟩ hO (fun g hg=>.inl hg) ob K2 (A.move S2 (fun g hg=>.inl (.inl (by subst hg; exact W.ow.w))) (fun g hg=>.inl hg) fun g hg e=>by subst e; exact TA.aW K1 (by decide) hg) (W.k.move P PO hO fun g hg e=>?_) (fun g hg=>.inl hg) (P.row W.d fun g hg e=>?_) ⟨.inl W.ow.w,fun g hg=>.inl (W.ow.m g hg),fun g hg=>.inr hg,fun g hg=>.inl (W.ow.k g hg),fun g hg=>.inl (W.ow.d g hg)⟩) ⟨P.mono PO,hO,fun g hg=>.inl hg⟩
 ·rcases e with rfl | e
  ·exact TK.aW W.w (by decide) hg
  ·exact TK.pO TL (by decide) hg e
 ·rcases e with rfl | e
  ·exact W.d.aW W.w (by decide) hg
  ·exact W.d.pO TL (by decide) hg e
theorem yN (W:WAt n O h M R S Ls kn ld) {v:ai} {x:Let} {k:Heap->Prop} (hv:v.qW=x.1/\v.zG=x.2.1/\Imm O h fun h=>rH h v.f_M x.2.2) (hl:Ls.length<=3000)
  (H:∀ O' h' s',WAt n O' h' { M with lt:=s' } R S (Ls ++ [x]) kn ld->Go O h O' h'->k h'):App 109 10 112 [.int .i64 0,.int .i64 0,.int .i64 0,.int .u64 0,.int .u64 0,.int .u64 0,.int .u64 0,.bool false,.slice none 0 0,.slice none 0 0] h M.lt 1 (ai.cs v) (fun s h'=>∃ h2:Heap,WrH h' ((⟨M.w,0,none⟩:Addr).add 1)/\h2=setH h' ((⟨M.w,0,none⟩:Addr).add 1) (Slc.v s)/\k h2):=by
 have ll:=W.l.len
 obtain ⟨ls,T,e,I⟩:=W.l
 refine App.xI T (Nat.zero_le _) rfl rfl (qX (by kernel_rfl)) (by omega) (by simp only [maxLen]; omega) fun s h1 R1 l1 z1 o1 b1 _=>?_
 have S1:Stp (fun g=>M.lt.blk=some g) h h1:=⟨z1,fun g hg hn=>o1 g hg hn⟩
 have sb:∀ g,s.blk=some g->M.lt.blk=some g∨h.size<=g:=fun g hg=>by
  rcases b1 with ⟨b1,_⟩ | b1
  ·exact .inl (by rw [← b1]; exact hg)
  ·rw [b1] at hg; cases hg; exact .inr (Nat.le_refl _)
 have hO:∀ g,OB O s g->O g∨h.size<=g:=fun g hg=>hg.elim .inl fun q=>(sb g q).elim (fun q=>.inl (W.ow.l g q)) .inr
 have SO:Stp O h h1:=S1.mono fun g hg=>.inl (W.ow.l g hg)
 refine Ch W S1 sb ⟨ls ++ [v],?_,by simp [e],fun i u y hu hy=>?_⟩ (fun g hg=>(R1.bd hg).2) fun O' h' W' G=>H O' h' s W' G
 ·have:(ls ++ [v]).flatMap ai.cs=ls.flatMap ai.cs ++ ai.cs v:=by simp
  rw [this]; exact R1
 ·rcases Nat.lt_or_ge i ls.length with hi | hi
  ·rw [List.getElem?_append_left hi] at hu
   rw [List.getElem?_append_left (by rw [← e]; exact hi)] at hy
   exact ⟨(I i u y hu hy).1,(I i u y hu hy).2.1,(I i u y hu hy).2.2.step SO hO⟩
  ·rw [List.getElem?_append_right hi] at hu
   rw [List.getElem?_append_right (by rw [← e]; exact hi),← e] at hy
   have:i - ls.length=0:=by have:=(List.getElem?_eq_some_iff.1 hu).1; simp at this; omega
   rw [this] at hu hy
   simp at hu hy
   subst hu; subst hy
   exact ⟨hv.1,hv.2.1,hv.2.2.step SO hO⟩
end
end Go.Q.Yi
end

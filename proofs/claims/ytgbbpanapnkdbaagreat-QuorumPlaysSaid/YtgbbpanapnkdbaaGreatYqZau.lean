/- A part of the proof of statements of this seat: lemmas, no statement of their own. -/
import Derived.Test.YtgbbpanapnkdbaaGreatYqZat
import Derived.Test.YtgbbpanapnkdbaaGreatYqZar
import Derived.Test.YtgbbpanapnkdbaaGreatYqZah
set_option linter.unusedVariables false
set_option linter.unusedSimpArgs false
set_option maxRecDepth 100000
section
/- Quorum: an op is started. -/
namespace Go.Q.Yq
theorem D7 {E:List Ent} {n:Int} (h:look E n=none):∀ e∈E,e.n≠n:=fun e he q=>by
 have:=List.find?_eq_none.1 h e he
 simp [q] at this
theorem gW.more {h h':Heap} {r m:Nat} {E:List Ent} {e:Ent} (D:gW h r m E) (s:Stp (fun b=>b=m) h h') (M':MapU h' (some m) (ptrs (E ++ [e]))) (fr:look E e.n=none) (new:∀ b,e.own b->h.size<=b)
  (K:uP (fG r m (E ++ [e])) h' e):gW h' r m (E ++ [e]):=by
 have sub:∀ b,fG r m (E ++ [e]) b->fG r m E b∨h.size<=b:=fun b hb=>by
  rcases hb with hb | hb | ⟨a,ha,hb⟩
  ·exact .inl (.inl hb)
  ·exact .inl (.inr (.inl hb))
  ·rcases List.mem_append.1 ha with ha | ha
   ·exact .inl (.inr (.inr ⟨a,ha,hb⟩))
   ·simp at ha; subst ha; exact .inr (new b hb)
 have rl:=D.P.lt; have ml:=D.M.lt
 refine ⟨D.P.old (s.block r rl D.rm),M',D.rm,?_,?_,fun a ha=>?_,fun a ha=>?_⟩
 ·rw [List.map_append,List.nodup_append]
  refine ⟨D.nd,by simp,fun x hx y hy=>?_⟩
  obtain ⟨a,ha,rfl⟩:=List.mem_map.1 hx
  simp at hy; subst hy
  exact D7 fr a ha
 ·rw [List.pairwise_append]
  refine ⟨D.dis,by simp,fun a ha b hb c hc hd=>?_⟩
  simp at hb; subst hb
  have:=new c hd; have:=(D.ok a ha).lt hc; omega
 ·rcases List.mem_append.1 ha with ha | ha
  ·exact D.off a ha
  ·simp at ha; subst ha
   exact ⟨fun hb=>by have:=new _ hb; omega,fun hb=>by have:=new _ hb; omega⟩
 ·rcases List.mem_append.1 ha with ha | ha
  ·exact (D.ok a ha).keep s (fun b hb=>.inl (.inr (.inl hb))) sub fun b hb q=>(D.off a ha).2 (q ▸ hb)
  ·simp at ha; subst ha; exact K
/-- an op that was started -/
def begun (x:aj):aj:={ x with eD:=uh,dV:=uh,cZ:=0,aI:=false,f_E:=0,aP:=if x.aJ=1 then x.aP else uh }
def eU (o:OpV):OpV:=⟨begun o.x,if o.x.aJ=1 then o.ps else [],o.ns,[],[],o.wr⟩
def wm (o:OpV):Prop:=needs o.x.aJ o.ns.length=0∨o.ns=[]∨¬ o.ns.Nodup
instance (o:OpV):Decidable (wm o):=by unfold wm; infer_instance
theorem Hm {h:Heap} {r m:Nat} {E:List Ent} {x:aj} {o:OpV} {k:KP Int} (D:gW h r m E) (M:OpM h x o) (Z:OpZ o) (nz:o.ns.length<=1000000)
  (B1:wm o->∀ h',Ext h.size h h'->k 1 h') (B7:¬ wm o->look E o.x.f_N≠none->∀ h',Ext h.size h h'->k 7 h')
  (H:¬ wm o->look E o.x.f_N=none->∀ g x' h',gW h' r m (E ++ [⟨o.x.f_N,g,x',eU o⟩])->h.size<=g->Stp (fun b=>b=m) h h'->(∀ b,Ent.own ⟨o.x.f_N,g,x',eU o⟩ b->h.size<=b)->(∀ b,Slo x' (eU o) b->h.size<=b)->k 0 h'):lJ (some ⟨r,0,none⟩) x k h:=by
 have xk:x.aJ=o.x.aJ:=by rw [← M.e]; rfl
 have xN:x.f_N=o.x.f_N:=by rw [← M.e]; rfl
 unfold lJ
 refine bx0 fun h2 P2 X2=>?_
 have z2:=X2.size; have p2:=P2.lt
 obtain ⟨b1,e1⟩:∃ b1,b1=h.size:=⟨_,rfl⟩
 have rl:=D.P.lt; have ml:=D.M.lt
 rw [← e1] at P2 p2 z2 X2 rl ml B1 B7 H ⊢
 rw [if_neg (by simp)]
 refine ⟨x,ai.aL P2,EN (by rw [M.nl]; simp only [maxLen]; omega) fun h3 X3=>?_⟩
 have z3:=X3.size
 have X03:Ext b1 h h3:=X2.trans (X3.mono z2)
 have P3:=P2.ext X3 p2
 have M3:=M.ext (e1 ▸ X03)
 have D3:=D.ext (e1 ▸ X03)
 have one:wm o->∀ h',Ext b1 h h'->fH (some ⟨r,0,none⟩) ⟨b1,0,none⟩ true k h':=fun b h' X=>by
  unfold fH; rw [if_pos rfl]; exact B1 b h' X
 have two:wm o->∀ h',Ext b1 h h'->fJ (some ⟨r,0,none⟩) ⟨b1,0,none⟩ true k h':=fun b h' X=>by
  unfold fJ; rw [if_pos rfl]; exact one b h' X
 rw [M.nl,xk]
 unfold lW
 by_cases c1:needs o.x.aJ o.ns.length=0
 ·rw [if_pos (by simpa using c1)]; exact two (.inl c1) h3 X03
 rw [if_neg (by simpa using c1)]
 refine ⟨x.aQ,P3.cl rfl,?_⟩
 rw [M.nl]
 unfold fJ
 by_cases c2:o.ns=[]
 ·rw [if_pos (by simp [c2])]; exact one (.inr (.inl c2)) h3 X03
 rw [if_neg (by simpa using c2)]
 refine ⟨x.aQ,P3.cl rfl,K6 ⟨M3.n,M3.nl,M3.nc⟩ nz ?_⟩
 by_cases c3':¬ o.ns.Nodup
 ·have c3:=c3'
  rw [decide_eq_true c3]; exact one (.inr (.inr c3)) h3 X03
 have c3:o.ns.Nodup:=Decidable.not_not.1 c3'
 rw [decide_eq_false c3']
 have good:¬ wm o:=fun b=>b.elim c1 fun b=>b.elim c2 fun b=>b c3
 unfold fH
 rw [if_neg (by simp)]
 refine ⟨_,rfl,some m,D3.P.cl0 rfl,x.f_N,P3.cl0 rfl,_,D3.M,?_⟩
 rw [za,xN]
 cases hl:look E o.x.f_N with
 | some e=>rw [if_pos (by simp)]; exact B7 good (by rw [hl]; simp) h3 X03
 | none =>
  rw [if_neg (by simp)]
  refine ⟨x,ai.aL P3,Gf M3 Z fun y h4 M4 F4 X4=>?_⟩
  have z4:=X4.size
  have P4:=P3.ext X4 (by omega)
  have X04:Ext b1 h h4:=X03.trans (X4.mono (by omega))
  have yk:y.aJ=o.x.aJ:=by rw [← M4.e]; rfl
  have yN:y.f_N=o.x.f_N:=by rw [← M4.e]; rfl
  refine pY (cs:=aj.cs y) P4 rfl (by show 33<=33; decide) fun h5 P5 U5=>?_
  refine jI P5 (by show 28 < 33; decide) fun h6 P6 U6=>jI P6 (by simp only [List.length_set]; show 32 < 33; decide) fun h7 P7 U7=>jI P7 (by simp only [List.length_set]; show 29 < 33; decide) fun h8 P8 U8=>jI P8 (by simp only [List.length_set]; show 30 < 33; decide) fun h9 P9 U9=>jI P9 (by simp only [List.length_set]; show 31 < 33; decide) fun h10 P10 U10=>?_
  have U:Upd b1 h4 h10:=((((U5.trans U6).trans U7).trans U8).trans U9).trans U10
  have fin:∀ h',Blk h' b1 (aj.cs (begun y)) 39->Upd b1 h4 h'->iV (some ⟨r,0,none⟩) ⟨b1,0,none⟩ k h':=fun h' B V=>by
   have zv:=V.size
   have X0:Ext b1 h h':=X04.trans (V.ext (Nat.le_refl _) (by omega))
   have D':=D.ext (e1 ▸ X0)
   unfold iV
   refine ⟨_,rfl,some m,D'.P.cl0 rfl,y.f_N,B.cl0 rfl,m,_,_,rfl,D'.M,rfl,?_⟩
   have M2:=D'.M.put (IK .u64) y.f_N (some ⟨b1,0,none⟩)
   rw [zf (fun p hp q=>by
    obtain ⟨e,he,rfl⟩:=List.mem_map.1 hp
    exact D7 hl e he (q.trans yN))] at M2
   have oo:∀ i,i≠m->(ry h' m (Value.int .u64 y.f_N) (.pointer (some ⟨b1,0,none⟩)))[i]? = h'[i]?:=fun i hi=>sJ hi
   have ss:(ry h' m (Value.int .u64 y.f_N) (.pointer (some ⟨b1,0,none⟩))).size=h'.size:=vL
   generalize ry h' m (Value.int .u64 y.f_N) (.pointer (some ⟨b1,0,none⟩))=h12 at *
   have st:Stp (fun b=>b=m) h h12:=⟨by have:=X0.size; omega,fun g hg hn=>by rw [oo g hn,X0.block g (by omega)]⟩
   have own1:∀ b,Ent.own ⟨o.x.f_N,b1,begun y,eU o⟩ b->b=b1:=fun b hb=>hb.elim id fun q=>by cases q
   refine H good hl b1 (begun y) h12 (D.more st (by rw [show ptrs (E ++ [⟨o.x.f_N,b1,begun y,eU o⟩])=ptrs E ++ [(y.f_N,some ⟨b1,0,none⟩)] from by unfold ptrs; rw [List.map_append,yN]; rfl]; exact M2) hl (fun b hb=>by rw [own1 b hb]; omega) ?_) (Nat.le_refl _) st (fun b hb=>by rw [own1 b hb]; omega) (fun b hb=>by
    have hy:∀ b,(begun y).aP.blk=some b->y.aP.blk=some b:=fun b q=>by
     unfold begun at q; dsimp only at q
     split at q
     ·exact q
     ·cases q
    rcases hb with ⟨q,_⟩ | ⟨q,_⟩ | ⟨q,_⟩ | ⟨q,_⟩
    ·have:=F4.p b (hy b q); omega
    ·have:=F4.n b q; omega
    ·cases q
    ·have:=F4.w b q; omega)
   have keepS:∀ {s:Slc} {vs:List Value} {hz:Heap},SlcAt h4 s vs->(∀ g,s.blk=some g->h3.size<=g)->Stp (fG r m (E ++ [⟨o.x.f_N,b1,begun y,eU o⟩])) h12 hz->SlcAt hz s vs:=fun {s vs hz} S hf sz=>⟨S.1,fun a ha j v hj=>by
    have c:=S.2 a ha j v hj
    have ab:(a.add j).block=a.block:=by unfold Addr.add; split <;> rfl
    have hb:h3.size<=a.block:=hf a.block (by unfold Slc.blk; rw [ha])
    have lt:=om c
    rw [ab] at lt
    rw [uw (h':=hz) (h:=h4) (by
     rw [ab,sz.block a.block (by omega) (fun q=>?_),oo _ (by omega),V.block _ lt (by omega)]
     rcases q with q | q | ⟨e,he,q⟩
     ·omega
     ·omega
     ·rcases List.mem_append.1 he with he | he
      ·have:=(D.ok e he).lt q; omega
      ·simp at he; subst he
       have:=own1 _ q; omega)]
    exact c⟩
   have nk:begun o.x=bare (begun y):=by
    have:=M4.e
    unfold begun bare at *
    rw [← this]
    dsimp only
    split <;> rfl
   refine ⟨B.old (oo b1 (by omega)),nk.symm,yN,Row.nil _ _ _ _,(fun q=>by cases q),fun hz sz=>⟨?_,keepS M4.n F4.n sz,⟨fun _=>rfl,fun a ha=>by cases ha⟩,keepS M4.w F4.w sz⟩,?_,M4.nl,M4.nc,rfl,M4.wl,?_⟩
   ·show SlcAt hz (begun y).aP (pcv (if o.x.aJ=1 then o.ps else []))
    unfold begun
    dsimp only
    rw [yk]
    split
    ·exact keepS M4.p F4.p sz
    ·exact ⟨fun _=>rfl,fun a ha=>by cases ha⟩
   ·show (begun y).aP.len=(if o.x.aJ=1 then o.ps else []).length
    unfold begun
    dsimp only
    rw [yk]
    split
    ·exact M4.pl
    ·rfl
   ·refine ⟨?_,Z.n,by simp [eU],by simp [eU],Z.w⟩
    show (if o.x.aJ=1 then o.ps else []).length * 48<=_
    split
    ·exact Z.p
    ·simp
  refine ⟨y.aJ,P10.cl rfl,?_⟩
  by_cases ck:y.aJ=1
  ·rw [if_neg (by simp [ck])]
   exact fin h10 (by
    have:aj.cs (begun y)=aj.cs { y with eD:=uh,dV:=uh,cZ:=0,aI:=false,f_E:=0 }:=by unfold begun; rw [if_pos ck]
    rw [this]; exact P10) U
  ·rw [if_pos (by simpa using ck)]
   exact jI P10 (by simp only [List.length_set]; show 3 < 33; decide) fun h11 P11 U11=>fin h11 (by
    have:aj.cs (begun y)=aj.cs { y with eD:=uh,dV:=uh,cZ:=0,aI:=false,f_E:=0,aP:=uh }:=by unfold begun; rw [if_neg ck]
    rw [this]; exact P11) (U.trans U11)
end Go.Q.Yq
end
section
/- Quorum: the ops' numbers, and a tick. -/
namespace Go.Q.Yq
open Go.Sort
section
variable {B:Nat} {h h':Heap} {s:Slc} {d:Array Int}
theorem NL {k:KP Unit} (R:U64 B h s d) (hz:d.size<=32) (H:∀ d' h',U64 B h' s d'->PermIn 0 d.size d d'->SortedIn ltInt 0 d.size d'->Onl s h h'->k () h'):iw s k h:=by
 have sl:=R.len
 unfold iw
 refine ⟨_,rfl,?_⟩
 rw [oF (by omega) (by omega),sl]
 refine MB (by omega) ?_
 have hb:bitsLen d.size<=8:=by
  have key:(List.range 33).all (fun n=>decide (bitsLen n<=8))=true:=by decide +kernel
  have:=List.all_eq_true.1 key d.size (by simp; omega)
  simpa using this
 exact Mk (IE 40) (N:=40) (Jr 40) (by omega) ⟨B,d,0,d.size,R,rfl,rfl,Nat.zero_le _,Nat.le_refl _,hz,.inl rfl,⟨by omega,by omega⟩,H⟩
end
theorem Nv {n:Nat} {d d':Array Int} (hn:d.size=n) (P:PermIn 0 n d d'):d'.toList.Perm d.toList:=by
 have h:=P.2.2
 have h1:=P.1
 have e:∀ x:Array Int,x.size=n->x.extract 0 n=x:=fun x hx=>by rw [← hx]; simp
 rw [e d hn,e d' (by omega)] at h
 exact h
theorem NH {n:Nat} {d:Array Int} (hn:d.size=n) (S:SortedIn ltInt 0 n d) {i j:Nat} (hij:i<=j) (hj:j < n):d[i]!<=d[j]!:=by
 rcases Nat.lt_or_ge i j with h | h
 ·have:=S i j (Nat.zero_le _) h hj
  unfold ltInt at this
  rw [decide_eq_false_iff_not] at this
  omega
 ·rw [show i=j from by omega]; exact Int.le_refl _
section
variable {h:Heap} {r m:Nat} {E:List Ent}
theorem E8 {k:KP Slc} (D:gW h r m E) (hz:E.length<=30)
  (H:∀ s (d:Array Int) h',d.toList.Perm (E.map (·.n))->(∀ i j,i<=j->j < d.size->d[i]!<=d[j]!)->Row h.size h' 25 1 s (u8s d.toList)->Ext h.size h h'->k s h'):jX (some ⟨r,0,none⟩) k h:=by
 unfold jX
 rw [if_neg (by simp)]
 refine ⟨_,rfl,some m,D.P.cl0 rfl,?_⟩
 unfold dU
 refine bx0 fun h4 B4 X4=>?_
 have z4:=X4.size
 obtain ⟨es,ck,m1,m2,_,m4⟩:=D.M
 have ml:=D.M.lt
 unfold o9 oC
 refine ⟨h.size,m,ck,es,E.map (·.n),rfl,B4.cl0 rfl,by rw [X4.block _ ml]; exact m1,m2,?_,by rw [List.length_map]; omega,fun s xs h5 hp R5 sl X5=>?_⟩
 ·have:=congrArg (List.map (·.1)) m4
  unfold ptrs at this
  rw [List.map_map,List.map_map,List.map_map] at this
  rw [List.map_map]
  exact this
 ·have z5:=X5.size
  have xl:xs.length=E.length:=by have:=hp.length_eq; simpa using this
  refine NL (B:=h4.size) (d:=xs.toArray) (by unfold U64; simpa using R5) (by simp; omega) fun d' h6 R6 P6 S6 O6=>?_
  have sz:d'.size=xs.length:=by have:=P6.1; simpa using this
  have R5':U64 h4.size h5 s xs.toArray:=by unfold U64; simpa using R5
  have X56:=O6.ext R5' (by omega)
  refine H s d' h6 ((Nv rfl P6).trans (by simpa using hp)) (fun i j hij hj=>NH (n:=xs.toArray.size) (by rw [sz]; simp) S6 hij (by simp; omega)) (R6.mono (by omega)) ?_
  exact (X4.trans (X5.mono z4)).trans (X56.mono (by omega))
end
end Go.Q.Yq
end
section
/- Quorum: a tick. -/
namespace Go.Q.Yq
theorem Di {α:Type}:∀ {l:List α} {j:Nat} {a:α},l[j]? = some a->l.set j a=l
 | b :: r,0,a,h=>by simp at h; simp [h]
 | b :: r,j + 1,a,h=>by simp at h ⊢; exact Di h
def uf (x:aj):aj:=if IntKind.i64.wrap (x.cZ + 1)>=60 then { x with cZ:=IntKind.i64.wrap (x.cZ + 1),aI:=true,f_E:=15 } else { x with cZ:=IntKind.i64.wrap (x.cZ + 1) }
def iR (e:Ent):Ent:=if e.x.aI then e else { e with x:=uf e.x,o:={ e.o with x:=bare (uf e.x) } }
def tk (l:List Int) (e:Ent):Ent:=if e.n∈l then iR e else e
theorem Mj {E:List Ent} (nd:(E.map (·.n)).Nodup) {i j:Nat} {a b:Ent} (hi:E[i]? = some a) (hj:E[j]? = some b) (e:a.n=b.n):i=j:=by
 obtain ⟨hi',rfl⟩:=List.getElem?_eq_some_iff.1 hi
 obtain ⟨hj',rfl⟩:=List.getElem?_eq_some_iff.1 hj
 have key:∀ {i j:Nat} (hi:i < E.length) (hj:j < E.length),i < j->E[i].n≠E[j].n:=fun {i j} hi hj lt=>by
  have:=List.pairwise_iff_getElem.1 (List.pairwise_map.1 nd) i j hi hj lt
  exact this
 rcases Nat.lt_trichotomy i j with lt | h | lt
 ·exact absurd e (key hi' hj' lt)
 ·exact h
 ·exact absurd e.symm (key hj' hi' lt)
theorem Ev {E:List Ent} (nd:(E.map (·.n)).Nodup) {j:Nat} {e:Ent} (hj:E[j]? = some e):look E e.n=some e:=by
 cases hl:look E e.n with
 | none=>exact absurd rfl (D7 hl e (List.mem_of_getElem? hj))
 | some a =>
  obtain ⟨i,hi,en⟩:=Dl hl
  have:=Mj nd hi hj en
  subst this
  rw [hi] at hj; exact hj
/-- one more of them is ticked -/
theorem OC {E:List Ent} (nd:(E.map (·.n)).Nodup) {j:Nat} {e:Ent} (hj:E[j]? = some e) {l:List Int} (hl:e.n ∉ l):(E.map (tk l)).set j (iR e)=E.map (tk (l ++ [e.n])):=by
 apply List.ext_getElem?
 intro i
 have jl:=(List.getElem?_eq_some_iff.1 hj).1
 by_cases q:i=j
 ·subst q
  rw [List.getElem?_set_self (by simpa using jl),List.getElem?_map,hj]
  show _=some (tk (l ++ [e.n]) e)
  unfold tk
  rw [if_pos (by simp)]
 ·rw [List.getElem?_set_ne (fun x=>q x.symm),List.getElem?_map,List.getElem?_map]
  cases hi:E[i]? with
  | none=>rfl
  | some a =>
   have:a.n≠e.n:=fun x=>q (Mj nd hi hj x)
   show some (tk l a)=some (tk (l ++ [e.n]) a)
   unfold tk
   simp [this]
section
variable {h:Heap} {r m:Nat} {E:List Ent}
theorem Nk {k:KP Unit} (D:gW h r m E) (hz:E.length<=30)
  (H:∀ h',gW h' r m (E.map iR)->Stp (fG r m E) h h'->k () h'):pW (some ⟨r,0,none⟩) k h:=by
 unfold pW
 refine E8 D hz fun s d h2 hp _ R X2=>?_
 have D2:=D.ext X2
 have z2:=X2.size
 have sl:s.len=d.size:=by have:=R.len; unfold u8s at this; simpa using this
 have dl:d.size=E.length:=by have:=hp.length_eq; simpa using this
 have dn:d.toList.Nodup:=(hp.nodup_iff).2 D.nd
 have own:∀ {l:List Int} {b:Nat},fG r m (E.map (tk l)) b->fG r m E b:=fun {l b} hb=>by
  rcases hb with hb | hb | ⟨a,ha,hb⟩
  ·exact .inl hb
  ·exact .inr (.inl hb)
  ·obtain ⟨e,he,rfl⟩:=List.mem_map.1 ha
   refine .inr (.inr ⟨e,he,?_⟩)
   unfold Ent.own tk iR uf at *
   split at hb
   ·split at hb
    ·exact hb
    ·dsimp only at hb
     split at hb <;> exact hb
   ·exact hb
 unfold uR
 refine ⟨fun i h'=>0<=i/\i<=(d.size:Int)/\gW h' r m (E.map (tk (d.toList.take i.toNat)))/\Stp (fG r m E) h2 h',fun i _=>d.size - i.toNat,⟨Int.le_refl _,by omega,by
  rw [show E.map (tk (d.toList.take (0:Int).toNat))=E from by
   have:tk (d.toList.take (0:Int).toNat)=id:=by funext e; unfold tk; simp
   rw [this]; simp]
  exact D2,Stp.refl _ _⟩,?_⟩
 rintro i h3 ⟨i0,i1,D3,S3⟩
 have z3:=S3.size
 unfold tQ
 rw [sl]
 by_cases hi:i < (d.size:Int)
 ·rw [if_pos (by simpa using hi)]
  have il:i.toNat < d.toList.length:=by simp; omega
  obtain ⟨v,hv⟩:∃ v,d.toList[i.toNat]? = some v:=⟨_,List.getElem?_eq_getElem il⟩
  obtain ⟨e,he,en⟩:=List.mem_map.1 (hp.subset (List.mem_of_getElem? hv))
  obtain ⟨j,hj⟩:=List.getElem?_of_mem he
  obtain ⟨a,ha,hc⟩:=R.slc.get (i:=i.toNat) (v:=.int .u64 v) (by unfold u8s; rw [List.getElem?_map,hv]; rfl)
  have hc3:ah h3 (a.add (i.toNat * 1))=some (.int .u64 v):=by
   rw [Nat.mul_one,uw (h:=h2) (h':=h3) (by
    have lt:=om hc
    have ab:(a.add i.toNat).block=a.block:=by unfold Addr.add; split <;> rfl
    have:=(R.bd (g:=a.block) (by unfold Slc.blk; rw [ha])).1
    rw [ab] at lt ⊢
    exact S3.block _ lt fun q=>by have:=D.lt q; omega)]
   exact hc
  have nin:e.n ∉ d.toList.take i.toNat:=fun q=>by
   rw [en] at q
   obtain ⟨p,hp1,hp2⟩:=List.getElem_of_mem q
   rw [List.getElem_take] at hp2
   have pl:p < i.toNat:=by simp at hp1; omega
   have:d.toList[i.toNat]=v:=Option.some.inj ((List.getElem?_eq_getElem il).symm.trans hv)
   exact List.pairwise_iff_getElem.1 dn p i.toNat (by omega) il pl (hp2.trans this.symm)
  have nd3:=D3.nd
  have hj3:(E.map (tk (d.toList.take i.toNat)))[j]? = some e:=by
   rw [List.getElem?_map,hj]
   show some (tk _ e)=some e
   unfold tk; rw [if_neg nin]
  have lk:look (E.map (tk (d.toList.take i.toNat))) v=some e:=by rw [← en]; exact Ev nd3 hj3
  have K:=D3.ok e (List.mem_of_getElem? hj3)
  have nx:(d.toList.take (i + 1).toNat)=d.toList.take i.toNat ++ [e.n]:=by
   rw [en,show (i + 1).toNat=i.toNat + 1 from by omega,List.take_add_one,hv]; rfl
  have stp:∀ {h'},Upd e.g h3 h'->Stp (fG r m E) h2 h':=fun U=>S3.trans' (Stp.vX U (.inl (own (.inr (.inr ⟨e,List.mem_of_getElem? hj3,.inl rfl⟩)))))
  have fin:∀ h',gW h' r m ((E.map (tk (d.toList.take i.toNat))).set j (iR e))->Stp (fG r m E) h2 h'->gP (some ⟨r,0,none⟩) s (d.size:Int) i k (fun i' h''=>(0<=i'/\i'<=(d.size:Int)/\gW h'' r m (E.map (tk (d.toList.take i'.toNat)))/\Stp (fG r m E) h2 h'')/\d.size - i'.toNat < d.size - i.toNat) h':=fun h' D' S'=>by
   unfold gP
   rw [aA (by omega) (by omega)]
   rw [OC D.nd hj nin,← nx] at D'
   exact ⟨⟨by omega,by omega,D',S'⟩,by omega⟩
  refine ⟨a,ha,i0,by omega,v,hc3,_,rfl,some m,D3.P.cl0 rfl,_,D3.M,?_⟩
  rw [za,lk]
  refine ⟨⟨e.g,0,none⟩,rfl,e.x.aI,K.B.cl rfl,?_⟩
  cases hd:e.x.aI with
  | true =>
   rw [if_pos rfl]
   have te:iR e=e:=by unfold iR; rw [hd,if_pos rfl]
   refine fin h3 ?_ S3
   rw [te,Di hj3]; exact D3
  | false =>
   rw [if_neg (by simp)]
   refine ⟨e.x.cZ,K.B.cl rfl,jI K.B (by show 29 < 33; decide) fun h4 B4 U4=>⟨_,B4.cl (by simp [aj.cs,aC.cs,aT.cs,arr]; rfl),?_⟩⟩
   by_cases c:IntKind.i64.wrap (e.x.cZ + 1)>=60
   ·rw [if_pos (by simpa using c)]
    refine jI B4 (by rw [List.length_set]; show 30 < 33; decide) fun h5 B5 U5=>jI B5 (by rw [List.length_set,List.length_set]; show 31 < 33; decide) fun h6 B6 U6=>?_
    have te:iR e = { e with x:={ e.x with cZ:=IntKind.i64.wrap (e.x.cZ + 1),aI:=true,f_E:=15 },o:={ e.o with x:=bare { e.x with cZ:=IntKind.i64.wrap (e.x.cZ + 1),aI:=true,f_E:=15 } } }:=by
     unfold iR; rw [if_neg (by rw [hd]; simp)]; unfold uf; rw [if_pos c]
    refine fin h6 ?_ (stp ((U4.trans U5).trans U6))
    rw [te]
    exact uP.Pb D3 hj3 B6 ((U4.trans U5).trans U6) rfl rfl rfl rfl rfl rfl
   ·rw [if_neg (by simpa using c)]
    have te:iR e = { e with x:={ e.x with cZ:=IntKind.i64.wrap (e.x.cZ + 1) },o:={ e.o with x:=bare { e.x with cZ:=IntKind.i64.wrap (e.x.cZ + 1) } } }:=by
     unfold iR; rw [if_neg (by rw [hd]; simp)]; unfold uf; rw [if_neg c]
    refine fin h4 ?_ (stp U4)
    rw [te]
    exact uP.Pb D3 hj3 B4 U4 rfl rfl rfl rfl rfl rfl
 ·rw [if_neg (by simpa using hi)]
  rw [List.take_of_length_le (by simp; omega)] at D3
  have:E.map (tk d.toList)=E.map iR:=List.map_congr_left fun e he=>by
   unfold tk; rw [if_pos (hp.symm.subset (List.mem_map.2 ⟨e,he,rfl⟩))]
  rw [this] at D3
  exact H h3 D3 ((Stp.oL X2).trans' S3)
end
end Go.Q.Yq
end
section
namespace Go.Q.Yq
/-! ### texts as rows of bytes -/
abbrev Tx:=List UInt8
def U (t:ByteArray):Tx:=t.data.toList
def ofL (l:Tx):ByteArray:=⟨l.toArray⟩
theorem N9 (l:Tx):U (ofL l)=l:=by simp [U,ofL]
theorem N8 (t:ByteArray):ofL (U t)=t:=by cases t; simp [U,ofL]
theorem dI (l:Tx):(ofL l).size=l.length:=by show l.toArray.size=l.length; simp
theorem Lm (t:ByteArray):t.toList=U t:=by rw [ByteArray.toList_eq]; rfl
theorem gz (l:Tx):(ofL l).toList=l:=by rw [Lm,N9]
theorem FX (t:ByteArray):(U t).length=t.size:=by show t.data.toList.length=t.data.size; simp
theorem ig (l:Tx) (a b:Nat):(ofL l).extract a b=ofL ((l.drop a).take (b - a)):=by
 have h:U ((ofL l).extract a b)=(l.drop a).take (b - a):=by
  show ((ofL l).extract a b).data.toList=_
  rw [ByteArray.data_extract]
  simp only [ofL,Array.toList_extract,List.extract_eq_take_drop,List.toList_toArray]
 rw [← h,N8]
theorem vM {l:Tx} {i:Int} {c:UInt8} (h:l[i.toNat]? = some c):wK (ofL l) i (c.toNat:Int):=by
 have hi:=(List.getElem?_eq_some_iff.1 h).1
 refine ⟨by rw [dI]; exact hi,?_⟩
 have e:=(List.getElem?_eq_some_iff.1 h).2
 rw [← e]; rfl
theorem Jl (c:UInt8):((c.toNat:Int)).toNat.toUInt8=c:=by simp
/-! ### letters and words -/
def aO (c:UInt8):Bool:=(decide (97<=c.toNat) && decide (c.toNat<=122)) || (decide (65<=c.toNat) && decide (c.toNat<=90)) || (decide (48<=c.toNat) && decide (c.toNat<=57)) || c == 95 || c == 45 || c == 46 || c == 47
def cu (l:Tx):Bool:=l.all aO && (decide (0 < l.length) && decide (l.length<=24))
theorem ib4 (c:UInt8):decide (Lib.indexByte [95,45,46,47] c>=0)=(c == 95 || c == 45 || c == 46 || c == 47):=by
 simp only [Lib.indexByte]
 by_cases h1:(95:UInt8)=c
 ·subst h1; rfl
 ·by_cases h2:(45:UInt8)=c
  ·subst h2; rfl
  ·by_cases h3:(46:UInt8)=c
   ·subst h3; rfl
   ·by_cases h4:(47:UInt8)=c
    ·subst h4; rfl
    ·have e1:(c == 95)=false:=by simp; exact fun h=>h1 h.symm
     have e2:(c == 45)=false:=by simp; exact fun h=>h2 h.symm
     have e3:(c == 46)=false:=by simp; exact fun h=>h3 h.symm
     have e4:(c == 47)=false:=by simp; exact fun h=>h4 h.symm
     simp [h1,h2,h3,h4,e1,e2,e3,e4]
theorem Gd {c:UInt8} {k:KP Bool} {h:Heap} (H:k (aO c) h):rq (c.toNat:Int) k h:=by
 unfold rq
 have j:∀ b,(b || (c == 95 || c == 45 || c == 46 || c == 47))=aO c->lu (c.toNat:Int) b k h:=fun b hb=>by
  unfold lu
  cases b with
  | true =>
   rw [if_pos rfl]
   rw [Bool.true_or] at hb
   rw [← hb] at H; exact H
  | false =>
   rw [if_neg (by simp)]
   unfold strings_IndexByte bY
   refine ⟨_,rfl,?_⟩
   rw [Jl]
   show k (decide (Lib.indexByte [95,45,46,47] c>=0)) h
   rw [ib4]
   rw [Bool.false_or] at hb
   rw [← hb] at H; exact H
 have e1:(decide ((c.toNat:Int)>=97) && decide ((c.toNat:Int)<=122))=(decide (97<=c.toNat) && decide (c.toNat<=122)):=by congr 1 <;> exact decide_eq_decide.2 (by omega)
 have e2:(decide ((c.toNat:Int)>=65) && decide ((c.toNat:Int)<=90))=(decide (65<=c.toNat) && decide (c.toNat<=90)):=by congr 1 <;> exact decide_eq_decide.2 (by omega)
 have e3:(decide ((c.toNat:Int)>=48) && decide ((c.toNat:Int)<=57))=(decide (48<=c.toNat) && decide (c.toNat<=57)):=by congr 1 <;> exact decide_eq_decide.2 (by omega)
 rw [e1,e2,e3]
 have le:aO c=(((decide (97<=c.toNat) && decide (c.toNat<=122)) || (decide (65<=c.toNat) && decide (c.toNat<=90)) || (decide (48<=c.toNat) && decide (c.toNat<=57))) || (c == 95 || c == 45 || c == 46 || c == 47)):=by
  unfold aO; simp only [Bool.or_assoc]
 generalize (decide (97<=c.toNat) && decide (c.toNat<=122))=x1 at *
 generalize (decide (65<=c.toNat) && decide (c.toNat<=90))=x2 at *
 generalize (decide (48<=c.toNat) && decide (c.toNat<=57))=x3 at *
 cases x1 with
 | true=>rw [if_pos rfl]; exact j _ (by rw [le]; simp)
 | false =>
  rw [if_neg (by simp)]
  cases x2 with
  | true=>rw [if_pos rfl]; exact j _ (by rw [le]; simp)
  | false=>rw [if_neg (by simp)]; exact j _ (by rw [le]; simp)
theorem Bt {l:Tx} {k:KP Bool} {h:Heap} (hl:l.length<=9223372036854775807) (H:k (cu l) h):nY (ofL l) k h:=by
 unfold nY
 rw [dI]
 refine ⟨fun i h'=>0<=i/\i<=l.length/\(l.take i.toNat).all aO=true/\h'=h,fun i _=>(l.length - i).toNat,⟨by omega,by omega,by simp,rfl⟩,?_⟩
 rintro i h' ⟨i0,i1,ha,e⟩
 subst e
 unfold Bg
 by_cases hi:i < l.length
 ·rw [if_pos (by rw [decide_eq_true_eq]; exact hi)]
  have hx:l[i.toNat]? = some (l[i.toNat]'(by omega)):=by simp
  generalize l[i.toNat]'(by omega)=c at *
  refine ⟨_,i0,vM hx,Gd ?_⟩
  cases hc:aO c with
  | true =>
   rw [if_neg (by simp),aA (by omega) (by omega)]
   refine ⟨⟨by omega,by omega,?_,rfl⟩,by dsimp only; omega⟩
   rw [show (i + 1).toNat=i.toNat + 1 from by omega,List.take_add_one,hx]
   simp [ha,hc]
  | false =>
   rw [if_pos (by simp)]
   have:cu l=false:=by
    have:l.all aO=false:=by
     cases hh:l.all aO with
     | false=>rfl
     | true=>have:=List.all_eq_true.1 hh c (List.mem_of_getElem? hx); rw [hc] at this; cases this
    unfold cu; rw [this]; rfl
   rw [this] at H; exact H
 ·rw [if_neg (by rw [decide_eq_true_eq]; exact hi)]
  rw [List.take_of_length_le (by omega)] at ha
  unfold cu at H
  rw [ha,Bool.true_and] at H
  rw [dI,show decide ((l.length:Int) > 0)=decide (0 < l.length) from decide_eq_decide.2 (by omega),show decide ((l.length:Int)<=24)=decide (l.length<=24) from decide_eq_decide.2 (by omega)]
  exact H
/-! ### a text is cut -/
theorem JP (c:UInt8):∀ l:Tx,(c∈l/\Lib.indexByte l c=((l.takeWhile fun x=>x != c).length:Int))∨(c ∉ l/\Lib.indexByte l c = -1)
 | []=>.inr ⟨by simp,rfl⟩
 | b :: r=>by
  unfold Lib.indexByte
  by_cases hb:b=c
  ·subst hb; left; simp
  ·rcases JP c r with ⟨h1,h2⟩ | ⟨h1,h2⟩
   ·left
    refine ⟨List.mem_cons_of_mem _ h1,?_⟩
    rw [if_neg (by simpa using hb),h2,if_neg (by simp),List.takeWhile_cons]
    rw [if_pos (by simpa using hb),List.length_cons]; omega
   ·right
    refine ⟨fun h=>?_,?_⟩
    ·rcases List.mem_cons.1 h with h | h
     ·exact hb h.symm
     ·exact h1 h
    ·rw [if_neg (by simpa using hb),h2]; rfl
def jV (l:Tx) (c:UInt8):Tx × Tx × Bool:=if c∈l then (l.takeWhile (fun x=>x != c),(l.dropWhile (fun x=>x != c)).drop 1,true) else (l,[],false)
theorem AC (c:UInt8):∀ {l:Tx},c∈l->l=l.takeWhile (fun x=>x != c) ++ c :: (l.dropWhile (fun x=>x != c)).drop 1
 | [],h=>by simp at h
 | b :: r,h=>by
  by_cases hb:b=c
  ·subst hb; simp
  ·have hr:c∈r:=by
    rcases List.mem_cons.1 h with h | h
    ·exact absurd h.symm hb
    ·exact h
   rw [List.takeWhile_cons,if_pos (by simpa using hb),List.dropWhile_cons,if_pos (by simpa using hb),List.cons_append,← AC c hr]
theorem JQ {l:Tx} {c:UInt8} {k:KP (ByteArray × ByteArray × Bool)} {h:Heap} (hl:l.length<=1000000000) (H:k (ofL (jV l c).1,ofL (jV l c).2.1,(jV l c).2.2) h):strings_Cut (ofL l) ⟨#[c]⟩ k h:=by
 unfold strings_Cut mE kI
 have z1:(⟨#[c]⟩:ByteArray).size=1:=rfl
 have e1:(⟨#[c]⟩:ByteArray).toList=[c]:=gz [c]
 refine ⟨_,rfl,?_⟩
 rw [z1,e1,gz,dI]
 by_cases h1:l=[c]
 ·rw [if_pos (by subst h1; simp)]
  dsimp only
  rw [if_pos (by decide)]
  subst h1
  refine ⟨_,by omega,by omega,by simp,rfl,?_⟩
  rw [aA (by simp) (by simp)]
  refine ⟨_,by simp,by simp,by omega,rfl,?_⟩
  rw [ig,ig]
  have:jV [c] c=([],[],true):=by simp [jV]
  rw [this] at H
  simpa using H
 ·rw [if_neg (by simp; exact fun h=>h1 h.symm),if_pos (by decide)]
  refine ⟨(c.toNat:Int),by omega,vM (l:=[c]) rfl,?_⟩
  unfold bY
  refine ⟨_,rfl,?_⟩
  rw [Jl]
  have hU:(ofL l).data.toList=l:=N9 l
  rw [hU]
  dsimp only
  rcases JP c l with ⟨hc,hi⟩ | ⟨hc,hi⟩
  ·have hs:=AC c hc
   have hlen:=congrArg List.length hs
   simp only [List.length_append,List.length_cons] at hlen
   obtain ⟨A,eA⟩:∃ A,A=l.takeWhile (fun x=>x != c):=⟨_,rfl⟩
   obtain ⟨B,eB⟩:∃ B,B=(l.dropWhile (fun x=>x != c)).drop 1:=⟨_,rfl⟩
   have hcut:jV l c=(A,B,true):=by unfold jV; rw [if_pos hc,eA,eB]
   rw [hcut] at H
   rw [← eA] at hs hlen hi
   rw [← eB] at hs hlen
   rw [hi,if_pos (by rw [decide_eq_true_eq]; omega)]
   refine ⟨_,by omega,by omega,by omega,rfl,?_⟩
   rw [aA (by omega) (by omega)]
   refine ⟨_,by omega,by omega,by omega,rfl,?_⟩
   rw [ig,ig]
   rw [show ((A.length:Int)).toNat - (0:Int).toNat=A.length from by simp,show (0:Int).toNat=0 from rfl,List.drop_zero,show ((A.length:Int) + ((1:Nat):Int)).toNat=A.length + 1 from by omega,show (l.length:Int).toNat=l.length from rfl]
   have t1:l.take A.length=A:=by rw [hs]; simp
   have t2:(l.drop (A.length + 1)).take (l.length - (A.length + 1))=B:=by
    have d:(A ++ c :: B).drop (A.length + 1)=B:=by rw [← List.drop_drop,List.drop_left]; rfl
    rw [hs,d,List.take_of_length_le (by simp; omega)]
   rw [t1,t2]; exact H
  ·rw [hi,if_neg (by decide)]
   have hcut:jV l c=(l,[],false):=by unfold jV; rw [if_neg hc]
   rw [hcut] at H; exact H
def ut (l p:Tx):Bool:=decide (p.length<=l.length) && decide (l.take p.length=p)
theorem De {l p:Tx} {k:KP Bool} {h:Heap} (hl:l.length<=9223372036854775807) (H:k (ut l p) h):strings_HasPrefix (ofL l) (ofL p) k h:=by
 unfold strings_HasPrefix fe dW
 rw [dI,dI]
 unfold ut at H
 by_cases hp:p.length<=l.length
 ·rw [if_pos (by rw [decide_eq_true_eq]; omega)]
  refine ⟨_,by omega,by omega,by omega,rfl,?_⟩
  rw [ig,gz,gz]
  rw [show (p.length:Int).toNat - (0:Int).toNat=p.length from by simp,show (0:Int).toNat=0 from rfl,List.drop_zero]
  rw [show decide (p.length<=l.length)=true from by simpa using hp,Bool.true_and] at H
  rw [show (l.take p.length == p)=decide (l.take p.length=p) from by by_cases h:l.take p.length=p <;> simp [h]]
  exact H
 ·rw [if_neg (by rw [decide_eq_true_eq]; omega)]
  rw [show decide (p.length<=l.length)=false from by simpa using hp,Bool.false_and] at H
  exact H
theorem Gm {l p:Tx} {k:KP (ByteArray × Bool)} {h:Heap} (hl:l.length<=9223372036854775807) (H:k (if ut l p=true then (ofL (l.drop p.length),true) else (ofL l,false)) h):strings_CutPrefix (ofL l) (ofL p) k h:=by
 unfold strings_CutPrefix iA
 have:=De (l:=l) (p:=p) (k:=fun (r1:Bool) h2=>if (!r1) then k (ofL l,false) h2 else (∃ s3:ByteArray,(0:Int)<=((ofL p).size:Int)/\(((ofL p).size:Int):Int)<=((ofL l).size:Int)/\((ofL l).size:Int)<=((ofL l).size:Int)/\s3=(ofL l).extract ((ofL p).size:Int).toNat ((ofL l).size:Int).toNat/\(k (s3,true) h2))) (h:=h) hl (by
  cases hp:ut l p with
  | false=>rw [hp,if_neg (by simp)] at H; rw [if_pos (by simp)]; exact H
  | true =>
   rw [hp,if_pos rfl] at H
   rw [if_neg (by simp)]
   unfold ut at hp
   simp only [Bool.and_eq_true,decide_eq_true_eq] at hp
   rw [dI,dI]
   refine ⟨_,by omega,by omega,by omega,rfl,?_⟩
   rw [ig,show (p.length:Int).toNat=p.length from rfl,show (l.length:Int).toNat=l.length from rfl,List.take_of_length_le (by rw [List.length_drop]; exact Nat.le_refl _)]
   exact H)
 exact this
def xu (l:Tx) (c:UInt8):Tx × Bool:=if l.getLast? = some c then (l.dropLast,true) else (l,false)
theorem Gl {l:Tx} {c:UInt8} {k:KP (ByteArray × Bool)} {h:Heap} (hl:l.length<=1000000000) (H:k (ofL (xu l c).1,(xu l c).2) h):strings_CutSuffix (ofL l) ⟨#[c]⟩ k h:=by
 unfold strings_CutSuffix iF iI dY
 have z1:(⟨#[c]⟩:ByteArray).size=1:=rfl
 have e1:(⟨#[c]⟩:ByteArray).toList=[c]:=gz [c]
 rw [z1,e1,dI]
 rcases List.eq_nil_or_concat l with rfl | ⟨ys,y,rfl⟩
 ·rw [if_neg (by simp)]
  dsimp only
  rw [if_pos (by simp)]
  have:xu [] c=([],false):=by simp [xu]
  rw [this] at H; exact H
 ·rw [List.concat_eq_append] at *
  simp only [List.length_append,List.length_cons,List.length_nil] at hl ⊢
  rw [if_pos (by rw [decide_eq_true_eq]; omega)]
  rw [aA (by omega) (by omega)]
  refine ⟨_,by omega,by omega,by omega,rfl,?_⟩
  rw [ig,gz]
  rw [show (((ys.length + (0 + 1):Nat):Int) - ((1:Nat):Int)).toNat=ys.length from by omega,show ((ys.length + (0 + 1):Nat):Int).toNat=ys.length + 1 from by omega]
  rw [List.drop_left,show ys.length + 1 - ys.length=1 from by omega]
  by_cases hy:y=c
  ·subst hy
   rw [if_neg (by simp)]
   refine ⟨_,by omega,by omega,by omega,rfl,?_⟩
   rw [ig]
   have:xu (ys ++ [y]) y=(ys,true):=by simp [xu]
   rw [this] at H
   simpa using H
  ·rw [if_pos (by simpa using hy)]
   have:xu (ys ++ [y]) c=(ys ++ [y],false):=by simp [xu,hy]
   rw [this] at H; exact H
end Go.Q.Yq
end

/- A part of the proof of statements of this seat: lemmas, no statement of their own. -/
import Derived.Test.YtgbbpanapnkdbaaGreatYqZas
import Derived.Test.YtgbbpanapnkdbaaGreatYqZar
set_option linter.unusedVariables false
set_option linter.unusedSimpArgs false
section
set_option maxRecDepth 100000
/- Quorum: a desk in memory. -/
namespace Go.Q.Yq
structure Ent where
 n:Int
 g:Nat
 x:S_api_Op
 o:OpV
abbrev MapU (h:Heap) (m:Option Nat) (l:List (Int × Option Addr)):Prop:=MapAt (K:=Int) (V:=Option Addr) (.int .u64) (Value.int .u64) (fun v:Option Addr=>(.pointer v:Value)) h m l
def ptrs (E:List Ent):List (Int × Option Addr):=E.map fun e=>(e.n,some ⟨e.g,0,none⟩)
def Ent.own (e:Ent) (b:Nat):Prop:=b=e.g∨e.x.f_Yes.blk=some b
def OwnD (r m:Nat) (E:List Ent):BSet:=fun b=>b=r∨b=m∨∃ e∈E,e.own b
/-- what of an op is never written in place -/
def Still (e:Ent) (h:Heap):Prop:=SlcAt h e.x.f_Pieces (pcv e.o.ps)/\SlcAt h e.x.f_Nodes (ints e.o.ns)/\SlcAt h e.x.f_Rows (rwv e.o.rs)/\SlcAt h e.x.f_Cmd.f_Wrapped (b8 e.o.wr)
structure EntOk (O:BSet) (h:Heap) (e:Ent):Prop where
 B:Blk h e.g (S_api_Op.cs e.x) 39
 be:bare e.x=e.o.x
 n:e.x.f_N=e.n
 Y:Row 0 h 3 1 e.x.f_Yes (ints e.o.ys)
 gy:e.x.f_Yes.blk≠some e.g
 I:Imm O h (Still e)
 pl:e.x.f_Pieces.len=e.o.ps.length
 nl:e.x.f_Nodes.len=e.o.ns.length
 nc:e.x.f_Nodes.len<=e.x.f_Nodes.cap
 rl:e.x.f_Rows.len=e.o.rs.length
 wl:e.x.f_Cmd.f_Wrapped.len=e.o.wr.length
 z:OpZ e.o
theorem EntOk.m {O:BSet} {h:Heap} {e:Ent} (K:EntOk O h e):OpM h e.x e.o:=by
 obtain ⟨a,b,c,d⟩:=K.I.now
 exact ⟨K.be,a,K.pl,b,K.nl,K.nc,K.Y.slc,by have:=K.Y.len; simpa using this,c,K.rl,d,K.wl⟩
theorem EntOk.lt {O:BSet} {h:Heap} {e:Ent} (K:EntOk O h e) {b:Nat} (hb:e.own b):b < h.size:=by
 rcases hb with rfl | hb
 ·exact K.B.lt
 ·exact (K.Y.bd hb).2
/-- an op that nothing touches -/
theorem EntOk.keep {O O' S:BSet} {h h':Heap} {e:Ent} (K:EntOk O h e) (s:Stp S h h') (hS:∀ b,S b->O b∨h.size<=b) (hO:∀ b,O' b->O b∨h.size<=b) (no:∀ b,e.own b->¬ S b):EntOk O' h' e :=
 { K with
  B:=K.B.old (s.block _ K.B.lt (no _ (.inl rfl)))
  Y:=K.Y.keep fun b hb=>s.block b (K.Y.bd hb).2 (no _ (.inr hb))
  I:=K.I.step (s.mono hS) hO }
structure DeskA (h:Heap) (r m:Nat) (E:List Ent):Prop where
 P:Blk h r [.map (some m)] 63
 M:MapU h (some m) (ptrs E)
 rm:r≠m
 nd:(E.map (·.n)).Nodup
 dis:E.Pairwise fun a b=>∀ c,a.own c->¬ b.own c
 off:∀ e∈E,¬ e.own r/\¬ e.own m
 ok:∀ e∈E,EntOk (OwnD r m E) h e
theorem DeskA.lt {h:Heap} {r m:Nat} {E:List Ent} (D:DeskA h r m E) {b:Nat} (hb:OwnD r m E b):b < h.size:=by
 rcases hb with rfl | rfl | ⟨e,he,hb⟩
 ·exact D.P.lt
 ·exact D.M.lt
 ·exact (D.ok e he).lt hb
theorem DeskA.ext {h h':Heap} {r m:Nat} {E:List Ent} (D:DeskA h r m E) (X:Ext h.size h h'):DeskA h' r m E :=
 ⟨D.P.ext X D.P.lt,D.M.ext X D.M.lt,D.rm,D.nd,D.dis,D.off,fun e he=>(D.ok e he).keep (Stp.of_ext (O:=fun _=>False) X) (fun _ h=>h.elim) (fun _ h=>.inl h) fun _ _ h=>h⟩
theorem ent_dis {E:List Ent} (d:E.Pairwise fun a b=>∀ c,a.own c->¬ b.own c) {i j:Nat} {a b:Ent} (hi:E[i]? = some a) (hj:E[j]? = some b) (ne:i≠j) (c:Nat):a.own c->¬ b.own c:=by
 have key:∀ {i j:Nat} {a b:Ent},E[i]? = some a->E[j]? = some b->i < j->∀ c,a.own c->¬ b.own c:=fun {i j a b} hi hj lt=>by
  obtain ⟨hi',rfl⟩:=List.getElem?_eq_some_iff.1 hi
  obtain ⟨hj',rfl⟩:=List.getElem?_eq_some_iff.1 hj
  exact List.pairwise_iff_getElem.1 d i j hi' hj' lt
 intro ha hb
 rcases Nat.lt_or_gt_of_ne ne with lt | lt
 ·exact key hi hj lt c ha hb
 ·exact key hj hi lt c hb ha
theorem own_set {h:Heap} {r m i:Nat} {E:List Ent} {e e':Ent} (hi:E[i]? = some e) (eo:∀ b,e'.own b->e.own b∨h.size<=b):∀ b,OwnD r m (E.set i e') b->OwnD r m E b∨h.size<=b:=fun b hb=>by
 have he:=List.mem_of_getElem? hi
 have il:=(List.getElem?_eq_some_iff.1 hi).1
 rcases hb with hb | hb | ⟨a,ha,hb⟩
 ·exact .inl (.inl hb)
 ·exact .inl (.inr (.inl hb))
 ·obtain ⟨j,hj⟩:=List.getElem?_of_mem ha
  by_cases q:j=i
  ·subst q; rw [List.getElem?_set_self il] at hj; cases hj
   exact (eo b hb).imp (fun h=>.inr (.inr ⟨e,he,h⟩)) id
  ·rw [List.getElem?_set_ne (fun x=>q x.symm)] at hj
   exact .inl (.inr (.inr ⟨a,List.mem_of_getElem? hj,hb⟩))
/-- one op of the desk is turned -/
theorem DeskA.turn {h h':Heap} {r m i:Nat} {E:List Ent} {e e':Ent} (D:DeskA h r m E) (hi:E[i]? = some e) (s:Stp e.own h h') (en:e'.n=e.n) (eg:e'.g=e.g) (eo:∀ b,e'.own b->e.own b∨h.size<=b)
  (K:EntOk (OwnD r m (E.set i e')) h' e'):DeskA h' r m (E.set i e'):=by
 have he:=List.mem_of_getElem? hi
 have il:=(List.getElem?_eq_some_iff.1 hi).1
 have offe:=D.off e he
 have at':∀ {a:Ent},a∈E.set i e'->a=e'∨∃ j:Nat,j≠i/\E[j]? = some a:=fun {a} ha=>by
  obtain ⟨j,hj⟩:=List.getElem?_of_mem ha
  by_cases q:j=i
  ·subst q; rw [List.getElem?_set_self il] at hj; exact .inl (Option.some.inj hj).symm
  ·rw [List.getElem?_set_ne (fun x=>q x.symm)] at hj; exact .inr ⟨j,q,hj⟩
 have sub:=own_set (r:=r) (m:=m) hi eo
 have up:∀ b,e.own b->OwnD r m E b∨h.size<=b:=fun b hb=>.inl (.inr (.inr ⟨e,he,hb⟩))
 have pt:ptrs (E.set i e')=ptrs E:=by
  unfold ptrs
  rw [List.map_set]
  apply List.ext_getElem?
  intro j
  by_cases q:j=i
  ·subst q
   rw [List.getElem?_set_self (by simpa using il),List.getElem?_map,hi,en,eg]; rfl
  ·rw [List.getElem?_set_ne (fun x=>q x.symm)]
 have disj:∀ {j:Nat} {a:Ent},j≠i->E[j]? = some a->∀ c,a.own c->¬ e'.own c:=fun {j a} q hj c ha hc=>by
  rcases eo c hc with h1 | h1
  ·exact ent_dis D.dis hj hi q c ha h1
  ·have:=(D.ok a (List.mem_of_getElem? hj)).lt ha; omega
 refine ⟨D.P.old (s.block r D.P.lt offe.1),by rw [pt]; exact D.M.old (s.block m D.M.lt offe.2),D.rm,?_,?_,fun a ha=>?_,fun a ha=>?_⟩
 ·have:(E.set i e').map (·.n)=E.map (·.n):=by
   have:=congrArg (List.map (·.1)) pt
   unfold ptrs at this
   rw [List.map_map,List.map_map] at this
   exact this
  rw [this]; exact D.nd
 ·rw [List.pairwise_iff_getElem]
  intro p q hp hq lt c
  have g1:=at' (List.getElem_mem hp); have g2:=at' (List.getElem_mem hq)
  by_cases pi:p=i
  ·subst pi
   have qi:q≠p:=by omega
   have e1:(E.set p e')[p]=e':=by simp
   have e2:E[q]? = some (E.set p e')[q]:=by rw [← List.getElem?_set_ne (l:=E) (a:=e') (i:=p) (j:=q) (fun x=>qi x.symm)]; exact List.getElem?_eq_getElem hq
   rw [e1]
   intro h1 h2
   exact disj qi e2 c h2 h1
  ·have e2:E[p]? = some (E.set i e')[p]:=by rw [← List.getElem?_set_ne (l:=E) (a:=e') (i:=i) (j:=p) (fun x=>pi x.symm)]; exact List.getElem?_eq_getElem hp
   by_cases qi:q=i
   ·subst qi
    have e1:(E.set q e')[q]=e':=by simp
    rw [e1]
    exact disj pi e2 c
   ·have e3:E[q]? = some (E.set i e')[q]:=by rw [← List.getElem?_set_ne (l:=E) (a:=e') (i:=i) (j:=q) (fun x=>qi x.symm)]; exact List.getElem?_eq_getElem hq
    exact ent_dis D.dis e2 e3 (by omega) c
 ·rcases at' ha with rfl | ⟨j,_,hj⟩
  ·have r1:=D.P.lt; have m1:=D.M.lt
   exact ⟨fun hb=>(eo r hb).elim offe.1 fun h=>by omega,fun hb=>(eo m hb).elim offe.2 fun h=>by omega⟩
  ·exact D.off a (List.mem_of_getElem? hj)
 ·rcases at' ha with rfl | ⟨j,q,hj⟩
  ·exact K
  ·exact (D.ok a (List.mem_of_getElem? hj)).keep s up sub fun b hb=>ent_dis D.dis hj hi q b hb
end Go.Q.Yq
end
section
set_option maxRecDepth 100000
/- Quorum: a desk is made, an op is looked for, ended, told. -/
namespace Go.Q.Yq
def look (E:List Ent) (n:Int):Option Ent:=E.find? fun e=>decide (e.n=n)
theorem mget_ptrs (E:List Ent) (n:Int):mget (ptrs E) n=(look E n).map fun e=>some ⟨e.g,0,none⟩:=by
 induction E with
 | nil=>rfl
 | cons p r ih =>
  unfold ptrs look at ih ⊢
  rw [List.map_cons,List.find?_cons]
  unfold mget
  dsimp only
  by_cases h:p.n=n
  ·rw [if_pos h,decide_eq_true h]; rfl
  ·rw [if_neg h,decide_eq_false h]; exact ih
theorem look_at {E:List Ent} {n:Int} {e:Ent} (h:look E n=some e):∃ i:Nat,E[i]? = some e/\e.n=n :=
 have ⟨i,hi⟩:=List.getElem?_of_mem (List.mem_of_find?_eq_some h)
 ⟨i,hi,by have:=List.find?_some h; simpa using this⟩
section
variable {h:Heap} {r m:Nat} {E:List Ent}
theorem New_ok {k:Option Addr->Heap->Prop} {h:Heap} (H:∀ r m h',DeskA h' r m []->h.size<=r->h.size<=m->Ext h.size h h'->k (some ⟨r,0,none⟩) h'):quorum_New k h:=by
 unfold quorum_New
 have X1:=Ext.push h (.map #[] 0) (Nat.le_refl _)
 have M:MapU (h.push (.map #[] 0)) (some h.size) []:=MapAt.mk0
 refine ⟨_,_,rfl,rfl,?_⟩
 have z1:(h.push (.map #[] 0)).size=h.size + 1:=by simp
 generalize h.push (.map #[] 0)=h2 at *
 refine bx0 fun h3 P3 X3=>H _ h.size h3 ⟨P3,M.ext X3 (by omega),by omega,List.Pairwise.nil,List.Pairwise.nil,(fun _ h=>by cases h),(fun _ h=>by cases h)⟩ (by omega) (Nat.le_refl _) (X1.trans (X3.mono (by omega)))
theorem open_ok {n node:Int} {k:Option Addr × Bool->Heap->Prop} (D:DeskA h r m E) (nz:∀ e∈E,e.o.ns.length<=1000000)
  (N:look E n=none->k (none,false) h) (H:∀ (i:Nat) e,E[i]? = some e->e.n=n->look E n=some e->k (some ⟨e.g,0,none⟩,decide (e.o.x.f_Done=false/\node∈e.o.ns)) h):quorum_Desk_open (some ⟨r,0,none⟩) n node k h:=by
 unfold quorum_Desk_open
 rw [if_neg (by simp)]
 refine ⟨_,rfl,some m,D.P.cl0 rfl,_,D.M,?_⟩
 rw [mget_ptrs]
 cases hl:look E n with
 | none =>
  rw [if_neg (by simp)]
  unfold quorum_Desk_open_g1
  rw [if_neg (by simp)]
  unfold quorum_Desk_open_g2
  exact N hl
 | some e =>
  obtain ⟨i,hi,en⟩:=look_at hl
  have he:=List.mem_of_getElem? hi
  have K:=D.ok e he
  have M:=K.m
  have H':=H i e hi en hl
  rw [if_pos (by simp)]
  have dn:e.x.f_Done=e.o.x.f_Done:=by rw [← K.be]; rfl
  refine ⟨⟨e.g,0,none⟩,rfl,e.x.f_Done,K.B.cl rfl,?_⟩
  unfold quorum_Desk_open_g1
  rw [dn]
  cases hd:e.o.x.f_Done with
  | false =>
   rw [if_pos (by simp)]
   refine ⟨⟨e.g,0,none⟩,rfl,e.x.f_Nodes,K.B.cl rfl,Has_ok ⟨M.n,M.nl,M.nc⟩ (nz e he) ?_⟩
   unfold quorum_Desk_open_g2
   rw [hd] at H'
   simpa using H'
  | true =>
   rw [if_neg (by simp)]
   unfold quorum_Desk_open_g2
   rw [hd] at H'
   simpa using H'
/-- whether an error ends an op -/
def endsB (kind e:Int):Bool:=if e=1∨e=3∨e=17 then true else if e=0∨e=18∨e=14∨e=11∨e=15 then false else decide (kind=3)
theorem ends_ok {a e:Int} {k:Bool->Heap->Prop} (H:k (endsB a e) h):quorum_ends a e k h:=by
 unfold endsB at H
 unfold quorum_ends quorum_ends_j1 quorum_ends_j2
 by_cases h1:e=1
 ·subst h1; simpa using H
 by_cases h3:e=3
 ·subst h3; simpa using H
 by_cases h17:e=17
 ·subst h17; simpa using H
 by_cases h0:e=0
 ·subst h0; simpa using H
 by_cases h18:e=18
 ·subst h18; simpa using H
 by_cases h14:e=14
 ·subst h14; simpa using H
 by_cases h11:e=11
 ·subst h11; simpa using H
 by_cases h15:e=15
 ·subst h15; simpa using H
 rw [if_neg (by omega),if_neg (by omega)] at H
 rw [if_neg (by simpa using h1),if_neg (by simpa using h3),if_neg (by simpa using h17),if_neg (by simpa using h0),if_neg (by simpa using h18),if_neg (by simpa using h14),if_neg (by simpa using h11),if_neg (by simpa using h15)]
 have:(a == 3)=decide (a=3):=by by_cases q:a=3 <;> simp [q]
 rw [this]; exact H
/-- an op whose scalars alone are turned -/
theorem EntOk.scal {h':Heap} {i:Nat} {e:Ent} {x:S_api_Op} (D:DeskA h r m E) (hi:E[i]? = some e) (B:Blk h' e.g (S_api_Op.cs x) 39) (U:Upd e.g h h')
  (xp:x.f_Pieces=e.x.f_Pieces) (xn:x.f_Nodes=e.x.f_Nodes) (xy:x.f_Yes=e.x.f_Yes) (xr:x.f_Rows=e.x.f_Rows) (xw:x.f_Cmd.f_Wrapped=e.x.f_Cmd.f_Wrapped) (xN:x.f_N=e.x.f_N) :
  DeskA h' r m (E.set i { e with x:=x,o:={ e.o with x:=bare x } }):=by
 have K:=D.ok e (List.mem_of_getElem? hi)
 have st:Stp e.own h h':=Stp.of_upd U (.inl (.inl rfl))
 have eo:∀ b,Ent.own { e with x:=x,o:={ e.o with x:=bare x } } b->e.own b∨h.size<=b:=fun b hb=>.inl (hb.imp id fun q=>by rw [← xy]; exact q)
 refine D.turn hi st rfl rfl eo ⟨B,rfl,xN.trans K.n,?_,?_,?_,by rw [xp]; exact K.pl,by rw [xn]; exact K.nl,by rw [xn]; exact K.nc,by rw [xr]; exact K.rl,by rw [xw]; exact K.wl,⟨K.z.p,K.z.n,K.z.y,K.z.r,K.z.w⟩⟩
 ·show Row 0 h' 3 1 x.f_Yes _
  rw [xy]
  exact K.Y.keep fun b hb=>U.block b (K.Y.bd hb).2 fun q=>K.gy (q ▸ hb)
 ·show x.f_Yes.blk≠_
  rw [xy]; exact K.gy
 ·refine ((K.I.step (st.mono fun b hb=>.inl (.inr (.inr ⟨e,List.mem_of_getElem? hi,hb⟩))) (own_set hi eo))).imp fun hx q=>?_
  unfold Still at q ⊢
  dsimp only
  rw [xp,xn,xr,xw]; exact q
def endE (e:Ent) (er:Int):Ent:={ e with x:={ e.x with f_Done:=true,f_E:=er },o:={ e.o with x:=bare { e.x with f_Done:=true,f_E:=er } } }
theorem No_ok {n node er:Int} {k:Bool->Heap->Prop} (D:DeskA h r m E) (nz:∀ e∈E,e.o.ns.length<=1000000)
  (N:(∀ e,look E n=some e->e.o.x.f_Done=false->node∈e.o.ns->endsB e.o.x.f_Kind er=false)->k false h) (H:∀ (i:Nat) e h',E[i]? = some e->e.n=n->look E n=some e->e.o.x.f_Done=false->node∈e.o.ns->endsB e.o.x.f_Kind er=true->DeskA h' r m (E.set i (endE e er))->Stp e.own h h'->k true h'):quorum_Desk_No (some ⟨r,0,none⟩) n node er k h:=by
 unfold quorum_Desk_No
 refine open_ok D nz (fun hl=>?_) fun i e hi en hl=>?_
 ·rw [if_pos (by simp)]
  unfold quorum_Desk_No_g1
  rw [if_pos rfl]; exact N fun e he=>by rw [hl] at he; cases he
 ·have K:=D.ok e (List.mem_of_getElem? hi)
  by_cases c:e.o.x.f_Done=false/\node∈e.o.ns
  ·rw [decide_eq_true c,if_neg (by simp)]
   have kd:e.x.f_Kind=e.o.x.f_Kind:=by rw [← K.be]; rfl
   refine ⟨⟨e.g,0,none⟩,rfl,e.x.f_Kind,K.B.cl rfl,ends_ok ?_⟩
   unfold quorum_Desk_No_g1
   rw [kd]
   cases hb:endsB e.o.x.f_Kind er with
   | false=>rw [if_pos (by simp)]; exact N fun e' he' _ _=>by rw [hl] at he'; cases he'; exact hb
   | true =>
    rw [if_neg (by simp)]
    refine ⟨⟨e.g,0,none⟩,rfl,bset1 K.B (by show 30 < 33; decide) fun h2 B2 U2=>bset1 B2 (by rw [List.length_set]; show 31 < 33; decide) fun h3 B3 U3=>?_⟩
    exact H i e h3 hi en hl c.1 c.2 hb (EntOk.scal D hi (x:={ e.x with f_Done:=true,f_E:=er }) B3 (U2.trans U3) rfl rfl rfl rfl rfl rfl) (Stp.of_upd (U2.trans U3) (.inl (.inl rfl)))
  ·rw [decide_eq_false c,if_pos (by simp)]
   unfold quorum_Desk_No_g1
   rw [if_pos rfl]; exact N fun e' he' d q=>by rw [hl] at he'; cases he'; exact absurd ⟨d,q⟩ c
end
end Go.Q.Yq
end
section
set_option maxRecDepth 100000
/- Quorum: an op is told. -/
namespace Go.Q.Yq
abbrev zOp:S_api_Op:=⟨0,0,ByteArray.empty,nilS,⟨ByteArray.empty,0,0,0,0⟩,⟨0,ByteArray.empty,0,([]:List Int),nilS,0⟩,0,nilS,nilS,0,false,0,nilS⟩
section
variable {h:Heap} {r m:Nat} {E:List Ent}
theorem Op_ok {n:Int} {k:S_api_Op × Int->Heap->Prop} (D:DeskA h r m E) (N:look E n=none->∀ h',Ext h.size h h'->k (zOp,6) h')
  (H:∀ (i:Nat) e x h',E[i]? = some e->e.n=n->look E n=some e->OpM h' x e.o->OpF h.size x->Ext h.size h h'->k (x,0) h'):quorum_Desk_Op (some ⟨r,0,none⟩) n k h:=by
 unfold quorum_Desk_Op
 refine bx0 fun h2 P2 X2=>?_
 have z2:=X2.size; have p2:=P2.lt
 have D2:=D.ext X2
 obtain ⟨b1,e1⟩:∃ b1,b1=h.size:=⟨_,rfl⟩
 rw [← e1] at P2 p2 z2 X2 H N ⊢
 rw [if_neg (by simp)]
 refine ⟨_,rfl,some m,D2.P.cl0 rfl,_,D2.M,?_⟩
 rw [mget_ptrs]
 cases hl:look E n with
 | none =>
  rw [if_pos (by simp)]
  exact bset (cs:=S_api_Op.cs zOp) P2 rfl (by show 33<=33; decide) fun h3 P3 U3=>⟨zOp,CellsAt.of_blk P3,N hl h3 (X2.trans (U3.ext (Nat.le_refl _) (by omega)))⟩
 | some e =>
  obtain ⟨i,hi,en⟩:=look_at hl
  have K:=D2.ok e (List.mem_of_getElem? hi)
  rw [if_neg (by simp)]
  refine ⟨⟨e.g,0,none⟩,rfl,e.x,CellsAt.of_blk K.B,copied_ok K.m K.z fun x h4 M4 F4 X4=>?_⟩
  have z4:=X4.size
  refine bset (cs:=S_api_Op.cs x) (P2.ext X4 p2) rfl (by show 33<=33; decide) fun h5 P5 U5=>⟨x,CellsAt.of_blk P5,H i e x h5 hi en hl ?_ ⟨fun g hg=>by have:=F4.p g hg; omega,fun g hg=>by have:=F4.n g hg; omega,fun g hg=>by have:=F4.y g hg; omega,fun g hg=>by have:=F4.r g hg; omega,fun g hg=>by have:=F4.w g hg; omega⟩ ?_⟩
  ·have kp:∀ {s:Slc} {vs:List Value},SlcAt h4 s vs->(∀ g,s.blk=some g->h2.size<=g)->SlcAt h5 s vs:=fun {s vs} S hf=>⟨S.1,fun a ha j v hj=>by
    have c:=S.2 a ha j v hj
    have hb:h2.size<=a.block:=hf a.block (by unfold Slc.blk; rw [ha])
    rw [cellH_of (U5.block _ (cellH_lt c) (by rw [show (a.add j).block=a.block from by unfold Addr.add; split <;> rfl]; omega))]
    exact c⟩
   exact { M4 with p:=kp M4.p F4.p,n:=kp M4.n F4.n,y:=kp M4.y F4.y,r:=kp M4.r F4.r,w:=kp M4.w F4.w }
  ·exact (X2.trans (X4.mono (by omega))).trans (U5.ext (Nat.le_refl _) (by omega))
/-- what is told of an op, wherever it is kept meanwhile -/
theorem Result_ok {n:Int} {k:S_api_Op × Int->Heap->Prop} (D:DeskA h r m E) (N:∀ e h',(e=6∨e=14)->(e=6->look E n=none)->(e=14->∃ a,look E n=some a/\a.o.x.f_Done=false)->Ext h.size h h'->k (zOp,e) h')
  (H:∀ (i:Nat) e x h',E[i]? = some e->e.n=n->look E n=some e->e.o.x.f_Done=true->OpM h' x e.o->OpF h.size x->Ext h.size h h'->k (x,0) h'):quorum_Desk_Result (some ⟨r,0,none⟩) n k h:=by
 unfold quorum_Desk_Result
 refine bx0 fun h2 P2 X2=>?_
 have z2:=X2.size; have p2:=P2.lt
 have D2:=D.ext X2
 obtain ⟨b1,e1⟩:∃ b1,b1=h.size:=⟨_,rfl⟩
 rw [← e1] at P2 p2 z2 X2 H N ⊢
 refine Op_ok D2 (fun hl h4 X4=>?_) fun i e x h4 hi en hl M4 F4 X4=>?_
 ·have z4:=X4.size
  refine bx rfl (by decide) fun h7 P7 X7=>?_
  have z7:=X7.size
  rw [if_neg (by simp)]
  unfold quorum_Desk_Result_g1
  rw [if_neg (by simp)]
  refine ⟨zOp,CellsAt.of_blk P7,bset (cs:=S_api_Op.cs zOp) ((P2.ext X4 p2).ext X7 (by omega)) rfl (by show 33<=33; decide) fun h8 P8 U8=>⟨zOp,CellsAt.of_blk P8,N 6 h8 (.inl rfl) (fun _=>hl) (fun h=>by cases h) ?_⟩⟩
  exact ((X2.trans (X4.mono (by omega))).trans (X7.mono (by omega))).trans (U8.ext (Nat.le_refl _) (by omega))
 ·have z4:=X4.size
  have dn:x.f_Done=e.o.x.f_Done:=by rw [← M4.e]; rfl
  refine bx rfl (by decide) fun h7 P7 X7=>?_
  have z7:=X7.size
  have Q7:=(P2.ext X4 p2).ext X7 (by omega)
  have X07:Ext b1 h h7:=(X2.trans (X4.mono (by omega))).trans (X7.mono (by omega))
  rw [if_pos (by simp)]
  refine ⟨x.f_Done,P7.cl rfl,?_⟩
  unfold quorum_Desk_Result_g1
  rw [dn]
  cases hd:e.o.x.f_Done with
  | false =>
   rw [if_pos (by simp)]
   exact bset (cs:=S_api_Op.cs zOp) Q7 rfl (by show 33<=33; decide) fun h8 P8 U8=>⟨zOp,CellsAt.of_blk P8,N 14 h8 (.inr rfl) (fun h=>by cases h) (fun _=>⟨e,hl,hd⟩) (X07.trans (U8.ext (Nat.le_refl _) (by omega)))⟩
  | true =>
   rw [if_neg (by simp)]
   refine ⟨x,CellsAt.of_blk P7,bset (cs:=S_api_Op.cs x) Q7 rfl (by show 33<=33; decide) fun h8 P8 U8=>⟨x,CellsAt.of_blk P8,H i e x h8 hi en hl hd ?_ ⟨fun g hg=>by have:=F4.p g hg; omega,fun g hg=>by have:=F4.n g hg; omega,fun g hg=>by have:=F4.y g hg; omega,fun g hg=>by have:=F4.r g hg; omega,fun g hg=>by have:=F4.w g hg; omega⟩ (X07.trans (U8.ext (Nat.le_refl _) (by omega)))⟩⟩
   have M7:=M4.ext X7
   have kp:∀ {s:Slc} {vs:List Value},SlcAt h7 s vs->(∀ g,s.blk=some g->h2.size<=g)->SlcAt h8 s vs:=fun {s vs} S hf=>⟨S.1,fun a ha j v hj=>by
    have c:=S.2 a ha j v hj
    have hb:h2.size<=a.block:=hf a.block (by unfold Slc.blk; rw [ha])
    rw [cellH_of (U8.block _ (cellH_lt c) (by rw [show (a.add j).block=a.block from by unfold Addr.add; split <;> rfl]; omega))]
    exact c⟩
   exact { M7 with p:=kp M7.p F4.p,n:=kp M7.n F4.n,y:=kp M7.y F4.y,r:=kp M7.r F4.r,w:=kp M7.w F4.w }
end
end Go.Q.Yq
end
section
set_option maxRecDepth 100000
/- Quorum: an op is started. -/
namespace Go.Q.Yq
theorem look_none {E:List Ent} {n:Int} (h:look E n=none):∀ e∈E,e.n≠n:=fun e he q=>by
 have:=List.find?_eq_none.1 h e he
 simp [q] at this
theorem DeskA.more {h h':Heap} {r m:Nat} {E:List Ent} {e:Ent} (D:DeskA h r m E) (s:Stp (fun b=>b=m) h h') (M':MapU h' (some m) (ptrs (E ++ [e]))) (fr:look E e.n=none) (new:∀ b,e.own b->h.size<=b)
  (K:EntOk (OwnD r m (E ++ [e])) h' e):DeskA h' r m (E ++ [e]):=by
 have sub:∀ b,OwnD r m (E ++ [e]) b->OwnD r m E b∨h.size<=b:=fun b hb=>by
  rcases hb with hb | hb | ⟨a,ha,hb⟩
  ·exact .inl (.inl hb)
  ·exact .inl (.inr (.inl hb))
  ·rcases List.mem_append.1 ha with ha | ha
   ·exact .inl (.inr (.inr ⟨a,ha,hb⟩))
   ·simp at ha; subst ha; exact .inr (new b hb)
 have rl:=D.P.lt; have ml:=D.M.lt
 refine ⟨D.P.old (s.block r rl D.rm),M',D.rm,?_,?_,fun a ha=>?_,fun a ha=>?_⟩
 ·rw [List.map_append,List.nodup_append]
  refine ⟨D.nd,by simp,fun x hx y hy=>?_⟩
  obtain ⟨a,ha,rfl⟩:=List.mem_map.1 hx
  simp at hy; subst hy
  exact look_none fr a ha
 ·rw [List.pairwise_append]
  refine ⟨D.dis,by simp,fun a ha b hb c hc hd=>?_⟩
  simp at hb; subst hb
  have:=new c hd; have:=(D.ok a ha).lt hc; omega
 ·rcases List.mem_append.1 ha with ha | ha
  ·exact D.off a ha
  ·simp at ha; subst ha
   exact ⟨fun hb=>by have:=new _ hb; omega,fun hb=>by have:=new _ hb; omega⟩
 ·rcases List.mem_append.1 ha with ha | ha
  ·exact (D.ok a ha).keep s (fun b hb=>.inl (.inr (.inl hb))) sub fun b hb q=>(D.off a ha).2 (q ▸ hb)
  ·simp at ha; subst ha; exact K
/-- an op that was started -/
def begun (x:S_api_Op):S_api_Op:={ x with f_Yes:=nilS,f_Rows:=nilS,f_Age:=0,f_Done:=false,f_E:=0,f_Pieces:=if x.f_Kind=1 then x.f_Pieces else nilS }
def startO (o:OpV):OpV:=⟨begun o.x,if o.x.f_Kind=1 then o.ps else [],o.ns,[],[],o.wr⟩
def badOp (o:OpV):Prop:=needs o.x.f_Kind o.ns.length=0∨o.ns=[]∨¬ o.ns.Nodup
instance (o:OpV):Decidable (badOp o):=by unfold badOp; infer_instance
theorem Start_ok {h:Heap} {r m:Nat} {E:List Ent} {x:S_api_Op} {o:OpV} {k:Int->Heap->Prop} (D:DeskA h r m E) (M:OpM h x o) (Z:OpZ o) (nz:o.ns.length<=1000000)
  (B1:badOp o->∀ h',Ext h.size h h'->k 1 h') (B7:¬ badOp o->look E o.x.f_N≠none->∀ h',Ext h.size h h'->k 7 h')
  (H:¬ badOp o->look E o.x.f_N=none->∀ g x' h',DeskA h' r m (E ++ [⟨o.x.f_N,g,x',startO o⟩])->h.size<=g->Stp (fun b=>b=m) h h'->(∀ b,Ent.own ⟨o.x.f_N,g,x',startO o⟩ b->h.size<=b)->k 0 h'):quorum_Desk_Start (some ⟨r,0,none⟩) x k h:=by
 have xk:x.f_Kind=o.x.f_Kind:=by rw [← M.e]; rfl
 have xN:x.f_N=o.x.f_N:=by rw [← M.e]; rfl
 unfold quorum_Desk_Start
 refine bx0 fun h2 P2 X2=>?_
 have z2:=X2.size; have p2:=P2.lt
 obtain ⟨b1,e1⟩:∃ b1,b1=h.size:=⟨_,rfl⟩
 have rl:=D.P.lt; have ml:=D.M.lt
 rw [← e1] at P2 p2 z2 X2 rl ml B1 B7 H ⊢
 rw [if_neg (by simp)]
 refine ⟨x,CellsAt.of_blk P2,Needs_ok (by rw [M.nl]; simp only [maxLen]; omega) fun h3 X3=>?_⟩
 have z3:=X3.size
 have X03:Ext b1 h h3:=X2.trans (X3.mono z2)
 have P3:=P2.ext X3 p2
 have M3:=M.ext (e1 ▸ X03)
 have D3:=D.ext (e1 ▸ X03)
 have one:badOp o->∀ h',Ext b1 h h'->quorum_Desk_Start_g3 (some ⟨r,0,none⟩) ⟨b1,0,none⟩ true k h':=fun b h' X=>by
  unfold quorum_Desk_Start_g3; rw [if_pos rfl]; exact B1 b h' X
 have two:badOp o->∀ h',Ext b1 h h'->quorum_Desk_Start_g2 (some ⟨r,0,none⟩) ⟨b1,0,none⟩ true k h':=fun b h' X=>by
  unfold quorum_Desk_Start_g2; rw [if_pos rfl]; exact one b h' X
 rw [M.nl,xk]
 unfold quorum_Desk_Start_g1
 by_cases c1:needs o.x.f_Kind o.ns.length=0
 ·rw [if_pos (by simpa using c1)]; exact two (.inl c1) h3 X03
 rw [if_neg (by simpa using c1)]
 refine ⟨x.f_Nodes,P3.cl rfl,?_⟩
 rw [M.nl]
 unfold quorum_Desk_Start_g2
 by_cases c2:o.ns=[]
 ·rw [if_pos (by simp [c2])]; exact one (.inr (.inl c2)) h3 X03
 rw [if_neg (by simpa using c2)]
 refine ⟨x.f_Nodes,P3.cl rfl,Twice_ok ⟨M3.n,M3.nl,M3.nc⟩ nz ?_⟩
 by_cases c3':¬ o.ns.Nodup
 ·have c3:=c3'
  rw [decide_eq_true c3]; exact one (.inr (.inr c3)) h3 X03
 have c3:o.ns.Nodup:=Decidable.not_not.1 c3'
 rw [decide_eq_false c3']
 have good:¬ badOp o:=fun b=>b.elim c1 fun b=>b.elim c2 fun b=>b c3
 unfold quorum_Desk_Start_g3
 rw [if_neg (by simp)]
 refine ⟨_,rfl,some m,D3.P.cl0 rfl,x.f_N,P3.cl0 rfl,_,D3.M,?_⟩
 rw [mget_ptrs,xN]
 cases hl:look E o.x.f_N with
 | some e=>rw [if_pos (by simp)]; exact B7 good (by rw [hl]; simp) h3 X03
 | none =>
  rw [if_neg (by simp)]
  refine ⟨x,CellsAt.of_blk P3,copied_ok M3 Z fun y h4 M4 F4 X4=>?_⟩
  have z4:=X4.size
  have P4:=P3.ext X4 (by omega)
  have X04:Ext b1 h h4:=X03.trans (X4.mono (by omega))
  have yk:y.f_Kind=o.x.f_Kind:=by rw [← M4.e]; rfl
  have yN:y.f_N=o.x.f_N:=by rw [← M4.e]; rfl
  refine bset (cs:=S_api_Op.cs y) P4 rfl (by show 33<=33; decide) fun h5 P5 U5=>?_
  refine bset1 P5 (by show 28 < 33; decide) fun h6 P6 U6=>bset1 P6 (by simp only [List.length_set]; show 32 < 33; decide) fun h7 P7 U7=>bset1 P7 (by simp only [List.length_set]; show 29 < 33; decide) fun h8 P8 U8=>bset1 P8 (by simp only [List.length_set]; show 30 < 33; decide) fun h9 P9 U9=>bset1 P9 (by simp only [List.length_set]; show 31 < 33; decide) fun h10 P10 U10=>?_
  have U:Upd b1 h4 h10:=((((U5.trans U6).trans U7).trans U8).trans U9).trans U10
  have fin:∀ h',Blk h' b1 (S_api_Op.cs (begun y)) 39->Upd b1 h4 h'->quorum_Desk_Start_j4 (some ⟨r,0,none⟩) ⟨b1,0,none⟩ k h':=fun h' B V=>by
   have zv:=V.size
   have X0:Ext b1 h h':=X04.trans (V.ext (Nat.le_refl _) (by omega))
   have D':=D.ext (e1 ▸ X0)
   unfold quorum_Desk_Start_j4
   refine ⟨_,rfl,some m,D'.P.cl0 rfl,y.f_N,B.cl0 rfl,m,_,_,rfl,D'.M,rfl,?_⟩
   have M2:=D'.M.put (kInt .u64) y.f_N (some ⟨b1,0,none⟩)
   rw [mput_none (fun p hp q=>by
    obtain ⟨e,he,rfl⟩:=List.mem_map.1 hp
    exact look_none hl e he (q.trans yN))] at M2
   have oo:∀ i,i≠m->(setM h' m (Value.int .u64 y.f_N) (.pointer (some ⟨b1,0,none⟩)))[i]? = h'[i]?:=fun i hi=>setM_other hi
   have ss:(setM h' m (Value.int .u64 y.f_N) (.pointer (some ⟨b1,0,none⟩))).size=h'.size:=setM_size
   generalize setM h' m (Value.int .u64 y.f_N) (.pointer (some ⟨b1,0,none⟩))=h12 at *
   have st:Stp (fun b=>b=m) h h12:=⟨by have:=X0.size; omega,fun g hg hn=>by rw [oo g hn,X0.block g (by omega)]⟩
   have own1:∀ b,Ent.own ⟨o.x.f_N,b1,begun y,startO o⟩ b->b=b1:=fun b hb=>hb.elim id fun q=>by cases q
   refine H good hl b1 (begun y) h12 (D.more st (by rw [show ptrs (E ++ [⟨o.x.f_N,b1,begun y,startO o⟩])=ptrs E ++ [(y.f_N,some ⟨b1,0,none⟩)] from by unfold ptrs; rw [List.map_append,yN]; rfl]; exact M2) hl (fun b hb=>by rw [own1 b hb]; omega) ?_) (Nat.le_refl _) st fun b hb=>by rw [own1 b hb]; omega
   have keepS:∀ {s:Slc} {vs:List Value} {hz:Heap},SlcAt h4 s vs->(∀ g,s.blk=some g->h3.size<=g)->Stp (OwnD r m (E ++ [⟨o.x.f_N,b1,begun y,startO o⟩])) h12 hz->SlcAt hz s vs:=fun {s vs hz} S hf sz=>⟨S.1,fun a ha j v hj=>by
    have c:=S.2 a ha j v hj
    have ab:(a.add j).block=a.block:=by unfold Addr.add; split <;> rfl
    have hb:h3.size<=a.block:=hf a.block (by unfold Slc.blk; rw [ha])
    have lt:=cellH_lt c
    rw [ab] at lt
    rw [cellH_of (h':=hz) (h:=h4) (by
     rw [ab,sz.block a.block (by omega) (fun q=>?_),oo _ (by omega),V.block _ lt (by omega)]
     rcases q with q | q | ⟨e,he,q⟩
     ·omega
     ·omega
     ·rcases List.mem_append.1 he with he | he
      ·have:=(D.ok e he).lt q; omega
      ·simp at he; subst he
       have:=own1 _ q; omega)]
    exact c⟩
   have nk:begun o.x=bare (begun y):=by
    have:=M4.e
    unfold begun bare at *
    rw [← this]
    dsimp only
    split <;> rfl
   refine ⟨B.old (oo b1 (by omega)),nk.symm,yN,Row.nil _ _ _ _,(fun q=>by cases q),fun hz sz=>⟨?_,keepS M4.n F4.n sz,⟨fun _=>rfl,fun a ha=>by cases ha⟩,keepS M4.w F4.w sz⟩,?_,M4.nl,M4.nc,rfl,M4.wl,?_⟩
   ·show SlcAt hz (begun y).f_Pieces (pcv (if o.x.f_Kind=1 then o.ps else []))
    unfold begun
    dsimp only
    rw [yk]
    split
    ·exact keepS M4.p F4.p sz
    ·exact ⟨fun _=>rfl,fun a ha=>by cases ha⟩
   ·show (begun y).f_Pieces.len=(if o.x.f_Kind=1 then o.ps else []).length
    unfold begun
    dsimp only
    rw [yk]
    split
    ·exact M4.pl
    ·rfl
   ·refine ⟨?_,Z.n,by simp [startO],by simp [startO],Z.w⟩
    show (if o.x.f_Kind=1 then o.ps else []).length * 48<=_
    split
    ·exact Z.p
    ·simp
  refine ⟨y.f_Kind,P10.cl rfl,?_⟩
  by_cases ck:y.f_Kind=1
  ·rw [if_neg (by simp [ck])]
   exact fin h10 (by
    have:S_api_Op.cs (begun y)=S_api_Op.cs { y with f_Yes:=nilS,f_Rows:=nilS,f_Age:=0,f_Done:=false,f_E:=0 }:=by unfold begun; rw [if_pos ck]
    rw [this]; exact P10) U
  ·rw [if_pos (by simpa using ck)]
   exact bset1 P10 (by simp only [List.length_set]; show 3 < 33; decide) fun h11 P11 U11=>fin h11 (by
    have:S_api_Op.cs (begun y)=S_api_Op.cs { y with f_Yes:=nilS,f_Rows:=nilS,f_Age:=0,f_Done:=false,f_E:=0,f_Pieces:=nilS }:=by unfold begun; rw [if_neg ck]
    rw [this]; exact P11) (U.trans U11)
end Go.Q.Yq
end
section
set_option maxRecDepth 100000
/- Quorum: the ops' numbers, and a tick. -/
namespace Go.Q.Yq
open Go.Sort
section
variable {B:Nat} {h h':Heap} {s:Slc} {d:Array Int}
theorem Sort_ok {k:Unit->Heap->Prop} (R:U64 B h s d) (hz:d.size<=32) (H:∀ d' h',U64 B h' s d'->PermIn 0 d.size d d'->SortedIn ltInt 0 d.size d'->Onl s h h'->k () h'):slices_Sort_uint64_uint64 s k h:=by
 have sl:=R.len
 unfold slices_Sort_uint64_uint64
 refine ⟨_,rfl,?_⟩
 rw [wrapU64 (by omega) (by omega),sl]
 refine Len_ok (by omega) ?_
 have hb:bitsLen d.size<=8:=by
  have key:(List.range 33).all (fun n=>decide (bitsLen n<=8))=true:=by decide +kernel
  have:=List.all_eq_true.1 key d.size (by simp; omega)
  simpa using this
 exact Pdq_ok (pdqQ 40) (N:=40) (pdqQ_ok 40) (by omega) ⟨B,d,0,d.size,R,rfl,rfl,Nat.zero_le _,Nat.le_refl _,hz,.inl rfl,⟨by omega,by omega⟩,H⟩
end
theorem perm_of {n:Nat} {d d':Array Int} (hn:d.size=n) (P:PermIn 0 n d d'):d'.toList.Perm d.toList:=by
 have h:=P.2.2
 have h1:=P.1
 have e:∀ x:Array Int,x.size=n->x.extract 0 n=x:=fun x hx=>by rw [← hx]; simp
 rw [e d hn,e d' (by omega)] at h
 exact h
theorem mono_of {n:Nat} {d:Array Int} (hn:d.size=n) (S:SortedIn ltInt 0 n d) {i j:Nat} (hij:i<=j) (hj:j < n):d[i]!<=d[j]!:=by
 rcases Nat.lt_or_ge i j with h | h
 ·have:=S i j (Nat.zero_le _) h hj
  unfold ltInt at this
  rw [decide_eq_false_iff_not] at this
  omega
 ·rw [show i=j from by omega]; exact Int.le_refl _
section
variable {h:Heap} {r m:Nat} {E:List Ent}
theorem numbers_ok {k:Slc->Heap->Prop} (D:DeskA h r m E) (hz:E.length<=30)
  (H:∀ s (d:Array Int) h',d.toList.Perm (E.map (·.n))->(∀ i j,i<=j->j < d.size->d[i]!<=d[j]!)->Row h.size h' 25 1 s (u8s d.toList)->Ext h.size h h'->k s h'):quorum_Desk_numbers (some ⟨r,0,none⟩) k h:=by
 unfold quorum_Desk_numbers
 rw [if_neg (by simp)]
 refine ⟨_,rfl,some m,D.P.cl0 rfl,?_⟩
 unfold maps_Keys_map_uint64_api_Op_uint64_api_Op
 refine bx0 fun h4 B4 X4=>?_
 have z4:=X4.size
 obtain ⟨es,ck,m1,m2,_,m4⟩:=D.M
 have ml:=D.M.lt
 unfold slices_Sorted_uint64 slices_Collect_uint64
 refine ⟨h.size,m,ck,es,E.map (·.n),rfl,B4.cl0 rfl,by rw [X4.block _ ml]; exact m1,m2,?_,by rw [List.length_map]; omega,fun s xs h5 hp R5 sl X5=>?_⟩
 ·have:=congrArg (List.map (·.1)) m4
  unfold ptrs at this
  rw [List.map_map,List.map_map,List.map_map] at this
  rw [List.map_map]
  exact this
 ·have z5:=X5.size
  have xl:xs.length=E.length:=by have:=hp.length_eq; simpa using this
  refine Sort_ok (B:=h4.size) (d:=xs.toArray) (by unfold U64; simpa using R5) (by simp; omega) fun d' h6 R6 P6 S6 O6=>?_
  have sz:d'.size=xs.length:=by have:=P6.1; simpa using this
  have R5':U64 h4.size h5 s xs.toArray:=by unfold U64; simpa using R5
  have X56:=O6.ext R5' (by omega)
  refine H s d' h6 ((perm_of rfl P6).trans (by simpa using hp)) (fun i j hij hj=>mono_of (n:=xs.toArray.size) (by rw [sz]; simp) S6 hij (by simp; omega)) (R6.mono (by omega)) ?_
  exact (X4.trans (X5.mono z4)).trans (X56.mono (by omega))
end
end Go.Q.Yq
end
section
set_option maxRecDepth 100000
/- Quorum: a tick. -/
namespace Go.Q.Yq
theorem set_same {α:Type}:∀ {l:List α} {j:Nat} {a:α},l[j]? = some a->l.set j a=l
 | b :: r,0,a,h=>by simp at h; simp [h]
 | b :: r,j + 1,a,h=>by simp at h ⊢; exact set_same h
def tickX (x:S_api_Op):S_api_Op:=if IntKind.i64.wrap (x.f_Age + 1)>=60 then { x with f_Age:=IntKind.i64.wrap (x.f_Age + 1),f_Done:=true,f_E:=15 } else { x with f_Age:=IntKind.i64.wrap (x.f_Age + 1) }
def tickE (e:Ent):Ent:=if e.x.f_Done then e else { e with x:=tickX e.x,o:={ e.o with x:=bare (tickX e.x) } }
def tk (l:List Int) (e:Ent):Ent:=if e.n∈l then tickE e else e
theorem tickE_n (e:Ent):(tickE e).n=e.n:=by unfold tickE; split <;> rfl
theorem nd_at {E:List Ent} (nd:(E.map (·.n)).Nodup) {i j:Nat} {a b:Ent} (hi:E[i]? = some a) (hj:E[j]? = some b) (e:a.n=b.n):i=j:=by
 obtain ⟨hi',rfl⟩:=List.getElem?_eq_some_iff.1 hi
 obtain ⟨hj',rfl⟩:=List.getElem?_eq_some_iff.1 hj
 have key:∀ {i j:Nat} (hi:i < E.length) (hj:j < E.length),i < j->E[i].n≠E[j].n:=fun {i j} hi hj lt=>by
  have:=List.pairwise_iff_getElem.1 (List.pairwise_map.1 nd) i j hi hj lt
  exact this
 rcases Nat.lt_trichotomy i j with lt | h | lt
 ·exact absurd e (key hi' hj' lt)
 ·exact h
 ·exact absurd e.symm (key hj' hi' lt)
theorem look_of {E:List Ent} (nd:(E.map (·.n)).Nodup) {j:Nat} {e:Ent} (hj:E[j]? = some e):look E e.n=some e:=by
 cases hl:look E e.n with
 | none=>exact absurd rfl (look_none hl e (List.mem_of_getElem? hj))
 | some a =>
  obtain ⟨i,hi,en⟩:=look_at hl
  have:=nd_at nd hi hj en
  subst this
  rw [hi] at hj; exact hj
/-- one more of them is ticked -/
theorem tk_set {E:List Ent} (nd:(E.map (·.n)).Nodup) {j:Nat} {e:Ent} (hj:E[j]? = some e) {l:List Int} (hl:e.n ∉ l):(E.map (tk l)).set j (tickE e)=E.map (tk (l ++ [e.n])):=by
 apply List.ext_getElem?
 intro i
 have jl:=(List.getElem?_eq_some_iff.1 hj).1
 by_cases q:i=j
 ·subst q
  rw [List.getElem?_set_self (by simpa using jl),List.getElem?_map,hj]
  show _=some (tk (l ++ [e.n]) e)
  unfold tk
  rw [if_pos (by simp)]
 ·rw [List.getElem?_set_ne (fun x=>q x.symm),List.getElem?_map,List.getElem?_map]
  cases hi:E[i]? with
  | none=>rfl
  | some a =>
   have:a.n≠e.n:=fun x=>q (nd_at nd hi hj x)
   show some (tk l a)=some (tk (l ++ [e.n]) a)
   unfold tk
   simp [this]
section
variable {h:Heap} {r m:Nat} {E:List Ent}
theorem Tick_ok {k:Unit->Heap->Prop} (D:DeskA h r m E) (hz:E.length<=30)
  (H:∀ h',DeskA h' r m (E.map tickE)->Stp (OwnD r m E) h h'->k () h'):quorum_Desk_Tick (some ⟨r,0,none⟩) k h:=by
 unfold quorum_Desk_Tick
 refine numbers_ok D hz fun s d h2 hp _ R X2=>?_
 have D2:=D.ext X2
 have z2:=X2.size
 have sl:s.len=d.size:=by have:=R.len; unfold u8s at this; simpa using this
 have dl:d.size=E.length:=by have:=hp.length_eq; simpa using this
 have dn:d.toList.Nodup:=(hp.nodup_iff).2 D.nd
 have own:∀ {l:List Int} {b:Nat},OwnD r m (E.map (tk l)) b->OwnD r m E b:=fun {l b} hb=>by
  rcases hb with hb | hb | ⟨a,ha,hb⟩
  ·exact .inl hb
  ·exact .inr (.inl hb)
  ·obtain ⟨e,he,rfl⟩:=List.mem_map.1 ha
   refine .inr (.inr ⟨e,he,?_⟩)
   unfold Ent.own tk tickE tickX at *
   split at hb
   ·split at hb
    ·exact hb
    ·dsimp only at hb
     split at hb <;> exact hb
   ·exact hb
 unfold quorum_Desk_Tick_l1
 refine ⟨fun i h'=>0<=i/\i<=(d.size:Int)/\DeskA h' r m (E.map (tk (d.toList.take i.toNat)))/\Stp (OwnD r m E) h2 h',fun i _=>d.size - i.toNat,⟨Int.le_refl _,by omega,by
  rw [show E.map (tk (d.toList.take (0:Int).toNat))=E from by
   have:tk (d.toList.take (0:Int).toNat)=id:=by funext e; unfold tk; simp
   rw [this]; simp]
  exact D2,Stp.refl _ _⟩,?_⟩
 rintro i h3 ⟨i0,i1,D3,S3⟩
 have z3:=S3.size
 unfold quorum_Desk_Tick_l1b
 rw [sl]
 by_cases hi:i < (d.size:Int)
 ·rw [if_pos (by simpa using hi)]
  have il:i.toNat < d.toList.length:=by simp; omega
  obtain ⟨v,hv⟩:∃ v,d.toList[i.toNat]? = some v:=⟨_,List.getElem?_eq_getElem il⟩
  obtain ⟨e,he,en⟩:=List.mem_map.1 (hp.subset (List.mem_of_getElem? hv))
  obtain ⟨j,hj⟩:=List.getElem?_of_mem he
  obtain ⟨a,ha,hc⟩:=R.slc.get (i:=i.toNat) (v:=.int .u64 v) (by unfold u8s; rw [List.getElem?_map,hv]; rfl)
  have hc3:cellH h3 (a.add (i.toNat * 1))=some (.int .u64 v):=by
   rw [Nat.mul_one,cellH_of (h:=h2) (h':=h3) (by
    have lt:=cellH_lt hc
    have ab:(a.add i.toNat).block=a.block:=by unfold Addr.add; split <;> rfl
    have:=(R.bd (g:=a.block) (by unfold Slc.blk; rw [ha])).1
    rw [ab] at lt ⊢
    exact S3.block _ lt fun q=>by have:=D.lt q; omega)]
   exact hc
  have nin:e.n ∉ d.toList.take i.toNat:=fun q=>by
   rw [en] at q
   obtain ⟨p,hp1,hp2⟩:=List.getElem_of_mem q
   rw [List.getElem_take] at hp2
   have pl:p < i.toNat:=by simp at hp1; omega
   have:d.toList[i.toNat]=v:=Option.some.inj ((List.getElem?_eq_getElem il).symm.trans hv)
   exact List.pairwise_iff_getElem.1 dn p i.toNat (by omega) il pl (hp2.trans this.symm)
  have nd3:=D3.nd
  have hj3:(E.map (tk (d.toList.take i.toNat)))[j]? = some e:=by
   rw [List.getElem?_map,hj]
   show some (tk _ e)=some e
   unfold tk; rw [if_neg nin]
  have lk:look (E.map (tk (d.toList.take i.toNat))) v=some e:=by rw [← en]; exact look_of nd3 hj3
  have K:=D3.ok e (List.mem_of_getElem? hj3)
  have nx:(d.toList.take (i + 1).toNat)=d.toList.take i.toNat ++ [e.n]:=by
   rw [en,show (i + 1).toNat=i.toNat + 1 from by omega,List.take_add_one,hv]; rfl
  have stp:∀ {h'},Upd e.g h3 h'->Stp (OwnD r m E) h2 h':=fun U=>S3.trans' (Stp.of_upd U (.inl (own (.inr (.inr ⟨e,List.mem_of_getElem? hj3,.inl rfl⟩)))))
  have fin:∀ h',DeskA h' r m ((E.map (tk (d.toList.take i.toNat))).set j (tickE e))->Stp (OwnD r m E) h2 h'->quorum_Desk_Tick_j2 (some ⟨r,0,none⟩) s (d.size:Int) i k (fun i' h''=>(0<=i'/\i'<=(d.size:Int)/\DeskA h'' r m (E.map (tk (d.toList.take i'.toNat)))/\Stp (OwnD r m E) h2 h'')/\d.size - i'.toNat < d.size - i.toNat) h':=fun h' D' S'=>by
   unfold quorum_Desk_Tick_j2
   rw [wrapI64 (by omega) (by omega)]
   rw [tk_set D.nd hj nin,← nx] at D'
   exact ⟨⟨by omega,by omega,D',S'⟩,by omega⟩
  refine ⟨a,ha,i0,by omega,v,hc3,_,rfl,some m,D3.P.cl0 rfl,_,D3.M,?_⟩
  rw [mget_ptrs,lk]
  refine ⟨⟨e.g,0,none⟩,rfl,e.x.f_Done,K.B.cl rfl,?_⟩
  cases hd:e.x.f_Done with
  | true =>
   rw [if_pos rfl]
   have te:tickE e=e:=by unfold tickE; rw [hd,if_pos rfl]
   refine fin h3 ?_ S3
   rw [te,set_same hj3]; exact D3
  | false =>
   rw [if_neg (by simp)]
   refine ⟨e.x.f_Age,K.B.cl rfl,bset1 K.B (by show 29 < 33; decide) fun h4 B4 U4=>⟨_,B4.cl (by simp [S_api_Op.cs,S_api_Query.cs,S_api_Command.cs,arr]; rfl),?_⟩⟩
   by_cases c:IntKind.i64.wrap (e.x.f_Age + 1)>=60
   ·rw [if_pos (by simpa using c)]
    refine bset1 B4 (by rw [List.length_set]; show 30 < 33; decide) fun h5 B5 U5=>bset1 B5 (by rw [List.length_set,List.length_set]; show 31 < 33; decide) fun h6 B6 U6=>?_
    have te:tickE e = { e with x:={ e.x with f_Age:=IntKind.i64.wrap (e.x.f_Age + 1),f_Done:=true,f_E:=15 },o:={ e.o with x:=bare { e.x with f_Age:=IntKind.i64.wrap (e.x.f_Age + 1),f_Done:=true,f_E:=15 } } }:=by
     unfold tickE; rw [if_neg (by rw [hd]; simp)]; unfold tickX; rw [if_pos c]
    refine fin h6 ?_ (stp ((U4.trans U5).trans U6))
    rw [te]
    exact EntOk.scal D3 hj3 B6 ((U4.trans U5).trans U6) rfl rfl rfl rfl rfl rfl
   ·rw [if_neg (by simpa using c)]
    have te:tickE e = { e with x:={ e.x with f_Age:=IntKind.i64.wrap (e.x.f_Age + 1) },o:={ e.o with x:=bare { e.x with f_Age:=IntKind.i64.wrap (e.x.f_Age + 1) } } }:=by
     unfold tickE; rw [if_neg (by rw [hd]; simp)]; unfold tickX; rw [if_neg c]
    refine fin h4 ?_ (stp U4)
    rw [te]
    exact EntOk.scal D3 hj3 B4 U4 rfl rfl rfl rfl rfl rfl
 ·rw [if_neg (by simpa using hi)]
  rw [List.take_of_length_le (by simp; omega)] at D3
  have:E.map (tk d.toList)=E.map tickE:=List.map_congr_left fun e he=>by
   unfold tk; rw [if_pos (hp.symm.subset (List.mem_map.2 ⟨e,he,rfl⟩))]
  rw [this] at D3
  exact H h3 D3 ((Stp.of_ext X2).trans' S3)
end
end Go.Q.Yq
end

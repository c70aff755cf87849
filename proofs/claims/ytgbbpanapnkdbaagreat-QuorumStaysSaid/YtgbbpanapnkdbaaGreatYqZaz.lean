/- A part of the proof of statements of this seat: lemmas, no statement of their own. -/
import Derived.Test.YtgbbpanapnkdbaaGreatYqZay
import Derived.Test.YtgbbpanapnkdbaaGreatYqZas
import Derived.Test.YtgbbpanapnkdbaaGreatYqZad
import Derived.OpenShut
import Derived.Test.YtgbbpanapnkdbaaGreatYqZah
import Derived.SizedLaws
set_option linter.unusedVariables false
set_option linter.unusedSimpArgs false
section
set_option maxRecDepth 100000
/- Quorum: what is looked at, what is picked. -/
namespace Go.Q.Yq
open Go.Q.Rw
theorem GreatP_ok {p0:Slc} {l:List Pc} {n:Nat} {k:Bool->Heap->Prop} {h:Heap} (L:Pcs h p0 l) (n1:n<=1000) (H0:k true h) (H1:l.length<=n->(∀ p∈l,p.f_Series.size<=400)->k false h):ref13_Great p0 n k h:=by
 unfold ref13_Great ref13_Great_l1
 refine ⟨fun i h'=>h'=h/\0<=i/\i<=(n:Int)/\∀ p∈l.take i.toNat,p.f_Series.size<=400,fun i _=>n - i.toNat,⟨rfl,Int.le_refl _,by omega,by simp⟩,?_⟩
 rintro i h' ⟨rfl,i0,i1,al⟩
 unfold ref13_Great_l1b
 rw [L.l]
 by_cases hi:i < (l.length:Int)/\i < (n:Int)
 ·rw [if_pos (by simpa using hi)]
  obtain ⟨a,x,ha,g0,g1,hx,hc⟩:=L.it i0 hi.1
  rw [L.l] at g1
  refine ⟨a,ha,g0,g1,x.f_Series,cls0 hc rfl,?_⟩
  by_cases hs:x.f_Series.size<=400
  ·rw [if_neg (by simp; omega)]
   refine ⟨_,rfl,?_⟩
   rw [wrapI64 (by omega) (by omega)]
   refine ⟨⟨rfl,by omega,by omega,?_⟩,by dsimp only; omega⟩
   rw [take1 i0 hx]
   intro p hp
   rcases List.mem_append.1 hp with hp | hp
   ·exact al p hp
   ·simp only [List.mem_singleton] at hp; subst hp; exact hs
  ·rw [if_pos (by simp; omega)]
   exact H0
 ·rw [if_neg (by simpa using hi)]
  by_cases hl:l.length<=n
  ·rw [show decide ((l.length:Int) > (n:Int))=false from by simp; omega]
   rw [take_all (by omega)] at al
   exact H1 hl al
  ·rw [show decide ((l.length:Int) > (n:Int))=true from by simp; omega]
   exact H0
theorem Pick_ok {x:Int} {n:Nat} {k:Int->Heap->Prop} {h:Heap} (n0:1<=n) (n1:n<=1000000) (H:∀ r:Int,0<=r->r < n->k r h):ref01_Pick x n k h:=by
 unfold ref01_Pick ref01_Pick_j1
 rw [if_neg (by simp; omega)]
 have h1:-(n:Int) < x.tmod n/\x.tmod n < n:=by
  refine ⟨?_,Int.tmod_lt_of_pos x (by omega)⟩
  have:=Int.tmod_lt_of_pos (-x) (b:=n) (by omega)
  rw [Int.neg_tmod] at this; omega
 refine ⟨by omega,_,rfl,?_⟩
 by_cases hx:x.tmod n < 0
 ·rw [if_pos (by simpa using hx)]
  refine ⟨_,rfl,?_⟩
  rw [wrapI64 (by omega) (by omega)]
  exact H _ (by omega) (by omega)
 ·rw [if_neg (by simpa using hx)]
  exact H _ (by omega) (by omega)
/-- what of an act is no more than is looked at -/
structure ActB (l ps:List S_api_Piece) (ns:Slc) (s:ByteArray):Prop where
 l1:l.length<=20
 l2:∀ p∈l,p.f_Series.size<=400
 p1:ps.length<=20
 p2:∀ p∈ps,p.f_Series.size<=400
 n1:ns.len<=40
 s1:s.size<=300
theorem great_ok {a:S_quaestorlaw31_Act} {l ps:List S_api_Piece} {k:Bool->Heap->Prop} {h:Heap} (L:Pcs h a.f_L l) (P:Pcs h a.f_O.f_Pieces ps)
  (H:∀ b h',Ext h.size h h'->(b=false->ActB l ps a.f_O.f_Nodes a.f_O.f_Q.f_Select)->k b h'):law31_great a k h:=by
 unfold law31_great
 refine bx0 fun h2 P2 X2=>⟨a.f_L,P2.cl rfl,?_⟩
 have yes:∀ {g},law31_great_g1 g true k h2:=fun {g}=>by
  unfold law31_great_g1; rw [if_pos rfl]
  unfold law31_great_g2; rw [if_pos rfl]
  unfold law31_great_g3
  exact H true h2 X2 fun q=>by cases q
 refine GreatP_ok (n:=20) (L.ext X2) (by decide) (by rw [if_pos rfl]; exact yes) fun l1 l2=>?_
 rw [if_neg (by simp)]
 refine ⟨a.f_O.f_Pieces,by rw [add_add2]; exact P2.cl rfl,GreatP_ok (n:=20) (P.ext X2) (by decide) yes fun p1 p2=>?_⟩
 unfold law31_great_g1
 rw [if_neg (by simp)]
 refine ⟨a.f_O.f_Nodes,by rw [add_add2]; exact P2.cl rfl,?_⟩
 unfold law31_great_g2
 by_cases c:(a.f_O.f_Nodes.len:Int) > 40
 ·rw [if_pos (by simpa using c)]
  unfold law31_great_g3
  exact H true h2 X2 fun q=>by cases q
 ·rw [if_neg (by simpa using c)]
  refine ⟨a.f_O.f_Q.f_Select,by rw [add_add2]; exact P2.cl rfl,?_⟩
  unfold law31_great_g3
  exact H _ h2 X2 fun q=>⟨l1,l2,p1,p2,by omega,by simp at q; omega⟩
end Go.Q.Yq
end
section
set_option maxRecDepth 100000
/- Quorum: the document's example. -/
namespace Go.Q.Yq
theorem one_at {a e:Ent} {i:Nat} (h:[a][i]? = some e):i=0/\e=a:=by
 cases i with
 | zero=>simp at h; exact ⟨rfl,h.symm⟩
 | succ i=>simp at h
theorem awake_ok {k:Bool->Heap->Prop} {h:Heap} (H:∀ h',Ext h.size h h'->k true h'):law31_awake k h:=by
 unfold law31_awake
 refine New_ok fun r m h2 D0 hr hm X2=>bx0 (cs:=[.int .i64 2,.int .i64 0,.int .i64 4]) fun h4 B4 X4=>?_
 have z2:=X2.size
 have z4:=X4.size
 obtain ⟨x0,ex0⟩:∃ x0:S_api_Op,x0=⟨5,1,ByteArray.empty,(⟨none,0,0⟩:Slc),(⟨ByteArray.empty,0,0,0,0⟩:S_api_Query),(⟨0,ByteArray.empty,0,([]:List Int),(⟨none,0,0⟩:Slc),0⟩:S_api_Command),0,(⟨some ⟨h2.size,0,none⟩,3,3⟩:Slc),(⟨none,0,0⟩:Slc),0,false,0,(⟨none,0,0⟩:Slc)⟩:=⟨_,rfl⟩
 rw [← ex0]
 obtain ⟨o0,eo0⟩:∃ o0:OpV,o0=⟨bare x0,[],[2,0,4],[],[],[]⟩:=⟨_,rfl⟩
 have ez:∀ {vs:Slc},vs=⟨none,0,0⟩->SlcAt h4 vs []:=fun e=>by subst e; exact ⟨fun _=>rfl,fun a ha=>by cases ha⟩
 have M0:OpM h4 x0 o0:=by
  subst eo0; subst ex0
  exact ⟨rfl,ez rfl,rfl,⟨(fun q=>by cases q),fun a ha j v hj=>by cases ha; exact B4.cl hj⟩,rfl,Nat.le_refl _,ez rfl,rfl,ez rfl,rfl,ez rfl,rfl⟩
 have Z0:OpZ o0:=by subst eo0; exact ⟨by simp,by simp,by simp,by simp,by simp⟩
 have k0:o0.x.f_Kind=1:=by subst eo0; subst ex0; rfl
 have n0:o0.ns=[2,0,4]:=by subst eo0; rfl
 have N0:o0.x.f_N=5:=by subst eo0; subst ex0; rfl
 have nb:¬ badOp o0:=by unfold badOp; rw [k0,n0]; decide
 refine Start_ok (D0.ext X4) M0 Z0 (by rw [n0]; decide) (fun b=>absurd b nb) (fun _ hl=>absurd rfl hl) fun _ _ g x1 h6 D1 hg S1 w1=>?_
 rw [N0,List.nil_append] at D1
 rw [N0] at w1
 have s0n:(startO o0).ns=[2,0,4]:=n0
 have s0y:(startO o0).ys=[]:=rfl
 have s0p:(startO o0).ps=[]:=by subst eo0; subst ex0; rfl
 have s0k:(startO o0).x.f_Kind=1:=k0
 have s0d:(startO o0).x.f_Done=false:=rfl
 have s0e:(startO o0).x.f_E=0:=rfl
 generalize startO o0=o1 at *
 have z6:=S1.size
 have lk1:look [⟨5,g,x1,o1⟩] 5=some ⟨5,g,x1,o1⟩:=rfl
 have T0:∀ (O:BSet) (h:Heap),Imm O h fun h'=>Pcs h' ⟨none,0,0⟩ []:=fun O h h' _=>⟨rfl,fun i x hx=>by simp at hx⟩
 have X6:Ext h.size h h6:=(X2.trans (X4.mono z2)).trans (S1.ext (fun b hb=>by subst hb; exact hm) (by omega))
 refine Yes_ok (told:=[]) D1 (fun e he=>by simp at he; subst he; rw [s0n]; decide) (fun e he=>by simp at he; subst he; rw [s0y]; decide) (fun e he=>by simp at he; subst he; rw [s0p]; decide) (by decide) (T0 _ _) (fun e he _ kk=>by simp at he; subst he; rw [s0k] at kk; cases kk) (fun q=>by
  have:=q _ lk1 s0d (by rw [s0n]; decide)
  rw [s0y] at this; cases this) fun i e x2 o2 h8 hi _ _ _ _ _ Y2 D2 S2 w2=>?_
 obtain ⟨rfl,rfl⟩:=one_at hi
 rw [show ([⟨5,g,x1,o1⟩]:List Ent).set 0 { (⟨5,g,x1,o1⟩:Ent) with x:=x2,o:=o2 } = [⟨5,g,x2,o2⟩] from rfl] at D2
 have X8:Ext h.size h h8:=X6.trans (S2.ext (fun b hb=>by have:=w1 b hb; omega) (by have:=X6.size; omega))
 have z8:=S2.size
 have w2':∀ b,Ent.own ⟨5,g,x2,o2⟩ b->h.size<=b:=fun b hb=>by
  rcases w2 b hb with q | q
  ·have:=w1 b q; omega
  ·omega
 have x2e:o2.x=o1.x:=by
  rcases Y2.x with ⟨_,q,_⟩ | ⟨q,_⟩ | ⟨q,_⟩
  ·exact q
  ·exact absurd (by rw [s0k,s0y,s0n]; decide) q
  ·exact absurd (by rw [s0k,s0y,s0n]; decide) q
 have n2:o2.ns=[2,0,4]:=Y2.ns.trans s0n
 have y2:o2.ys=[0]:=by rw [Y2.ys,s0y]; rfl
 have p2:o2.ps=[]:=by have:=Y2.ps; rw [if_neg (by rw [s0k]; decide)] at this; rw [this,s0p]
 have lk2:look [⟨5,g,x2,o2⟩] 5=some ⟨5,g,x2,o2⟩:=rfl
 refine Result_ok D2 (fun e1 h10 he q6 q14 X10=>?_) fun i e x h10 hi _ hl hd _ _ _=>by
  rw [lk2] at hl; cases hl
  rw [show (⟨5,g,x2,o2⟩:Ent).o.x.f_Done=o1.x.f_Done from congrArg S_api_Op.f_Done x2e,s0d] at hd; cases hd
 rcases he with rfl | rfl
 ·have:=q6 rfl; rw [lk2] at this; cases this
 have z10:=X10.size
 refine bx rfl (by decide) fun h13 P13 X13=>?_
 have z13:=X13.size
 have D3:=(D2.ext X10).ext X13
 have X013:Ext h.size h h13:=(X8.trans (X10.mono (by have:=X8.size; omega))).trans (X13.mono (by have:=X8.size; omega))
 refine Yes_ok (told:=[]) D3 (fun e he=>by simp at he; subst he; rw [n2]; decide) (fun e he=>by simp at he; subst he; rw [y2]; decide) (fun e he=>by simp at he; subst he; rw [p2]; decide) (by decide) (T0 _ _) (fun e he _ kk=>by simp at he; subst he; rw [x2e,s0k] at kk; cases kk) (fun q=>by
  have:=q _ lk2 (by rw [x2e]; exact s0d) (by rw [n2]; decide)
  rw [y2] at this; simp at this) fun i e x3 o3 h15 hi _ _ _ _ _ Y3 D4 S4 w3=>?_
 obtain ⟨rfl,rfl⟩:=one_at hi
 rw [show ([⟨5,g,x2,o2⟩]:List Ent).set 0 { (⟨5,g,x2,o2⟩:Ent) with x:=x3,o:=o3 } = [⟨5,g,x3,o3⟩] from rfl] at D4
 have X015:Ext h.size h h15:=X013.trans (S4.ext w2' (by have:=X013.size; omega))
 have x3e:o3.x = { o1.x with f_Done:=true }:=by
  have kk:o2.x.f_Kind=1:=by rw [x2e,s0k]
  rcases Y3.x with ⟨q,_⟩ | ⟨_,_,q,_⟩ | ⟨_,q,_⟩
  ·dsimp only at q; rw [kk,y2,n2] at q; exact absurd q (by decide)
  ·rw [← x2e]; exact q
  ·dsimp only at q; rw [kk] at q; cases q
 have lk3:look [⟨5,g,x3,o3⟩] 5=some ⟨5,g,x3,o3⟩:=rfl
 have d3:o3.x.f_Done=true:=by rw [x3e]
 have er3:o3.x.f_E=0:=by rw [x3e]; exact s0e
 refine Result_ok D4 (fun e1 h17 he q6 q14 X17=>by
  rcases he with rfl | rfl
  ·have:=q6 rfl; rw [lk3] at this; cases this
  ·obtain ⟨a,ha,hd⟩:=q14 rfl
   rw [lk3] at ha; cases ha
   rw [d3] at hd; cases hd) fun i e x h17 hi _ hl hd M F X17=>?_
 rw [lk3] at hl; cases hl
 have xd:x.f_Done=true:=by have:x.f_Done=(bare x).f_Done:=rfl; rw [this,M.e]; exact d3
 have xe:x.f_E=0:=by have:x.f_E=(bare x).f_E:=rfl; rw [this,M.e]; exact er3
 refine bx (cs:=S_api_Op.cs x) rfl (by decide) fun h20 P20 X20=>?_
 have z15:=X015.size
 have z17:=X17.size
 have fin:=H h20 ((X015.trans (X17.mono (by omega))).trans (X20.mono (by omega)))
 rw [if_pos (by simp)]
 refine ⟨x.f_Done,P20.cl rfl,?_⟩
 unfold law31_awake_g1
 rw [xd,if_pos rfl]
 refine ⟨x.f_E,P20.cl rfl,?_⟩
 unfold law31_awake_g2
 rw [xe]
 exact fin
end Go.Q.Yq
end
section
set_option maxRecDepth 100000
/- Quorum: what is done stays as it is, plainly. -/
namespace Go.Q.Yq
def Stay (E E':List Ent):Prop:=∀ n e,look E n=some e->e.o.x.f_Done=true->∃ e',look E' n=some e'/\e'.o=e.o
theorem Stay.refl (E:List Ent):Stay E E:=fun n e h _=>⟨e,h,rfl⟩
theorem Stay.app (E:List Ent) (a:Ent):Stay E (E ++ [a]):=fun n e h _=>⟨e,by unfold look at *; rw [List.find?_append,h]; rfl,rfl⟩
theorem Stay.set {E:List Ent} (nd:(E.map (·.n)).Nodup) {i:Nat} {e e':Ent} (hi:E[i]? = some e) (hd:e.o.x.f_Done=false) (en:e'.n=e.n):Stay E (E.set i e'):=fun n a h d=>by
 obtain ⟨j,hj,an⟩:=look_at h
 have ne:j≠i:=fun q=>by subst q; rw [hi] at hj; cases hj; rw [hd] at d; cases d
 have nd':((E.set i e').map (·.n)).Nodup:=by
  rw [List.map_set,set_same (by rw [List.getElem?_map,hi,en]; rfl)]; exact nd
 have hj':(E.set i e')[j]? = some a:=by rw [List.getElem?_set_ne (fun x=>ne x.symm)]; exact hj
 exact ⟨a,by rw [← an]; exact look_of nd' hj',rfl⟩
theorem Stay.tick {E:List Ent} (nd:(E.map (·.n)).Nodup) (be:∀ e∈E,e.x.f_Done=e.o.x.f_Done):Stay E (E.map tickE):=fun n a h d=>by
 obtain ⟨j,hj,an⟩:=look_at h
 have nd':((E.map tickE).map (·.n)).Nodup:=by
  rw [List.map_map,show ((fun e:Ent=>e.n) ∘ tickE)=fun e=>e.n from funext tickE_n]; exact nd
 have ta:tickE a=a:=by unfold tickE; rw [if_pos (by rw [be a (List.mem_of_getElem? hj)]; exact d)]
 have hj':(E.map tickE)[j]? = some a:=by rw [List.getElem?_map,hj]; exact congrArg some ta
 exact ⟨a,by rw [← an]; exact look_of nd' hj',rfl⟩
/-- what is known of a desk's ops behind c acts -/
structure EP (c:Nat) (e:Ent):Prop where
 ns:e.o.ns.length<=40
 ys:e.o.ys.length<=c
 ps:e.o.ps.length<=20 * c
 pk:∀ p∈e.o.ps,p.f_Series.size<=400/\in64 p.f_V/\in64 p.f_T
 s:e.o.x.f_Q.f_Select.size<=300
 t:in64 e.o.x.f_Q.f_Step
theorem EP.mono {c c':Nat} {e:Ent} (P:EP c e) (h:c<=c'):EP c' e:={ P with ys:=Nat.le_trans P.ys h,ps:=Nat.le_trans P.ps (by omega) }
theorem EP.tick {c:Nat} {e:Ent} (P:EP c e) (be:bare e.x=e.o.x):EP c (tickE e):=by
 have q:(tickE e).o.x.f_Q=e.o.x.f_Q:=by
  unfold tickE
  split
  ·rfl
  ·rw [← be]; unfold tickX; dsimp only; split <;> rfl
 have o1:(tickE e).o.ns=e.o.ns/\(tickE e).o.ys=e.o.ys/\(tickE e).o.ps=e.o.ps:=by unfold tickE; split <;> exact ⟨rfl,rfl,rfl⟩
 exact ⟨by rw [o1.1]; exact P.ns,by rw [o1.2.1]; exact P.ys,by rw [o1.2.2]; exact P.ps,by rw [o1.2.2]; exact P.pk,by rw [q]; exact P.s,by rw [q]; exact P.t⟩
theorem EP.yes {c:Nat} {e:Ent} {node:Int} {told:List S_api_Piece} {x':S_api_Op} {o':OpV} (P:EP c e) (Y:YesR e.o node told o') (tl:told.length<=20) (tk:∀ p∈told,p.f_Series.size<=400/\in64 p.f_V/\in64 p.f_T):EP (c + 1) { e with x:=x',o:=o' }:=by
 have q:o'.x.f_Q=e.o.x.f_Q:=by
  rcases Y.x with ⟨_,q,_⟩ | ⟨_,_,q,_⟩ | ⟨_,_,_,_,q,_⟩ <;> rw [q]
 have pm:o'.ps.length<=20 * (c + 1)/\∀ p∈o'.ps,p.f_Series.size<=400/\in64 p.f_V/\in64 p.f_T:=by
  have h:=Y.ps
  split at h
  ·refine ⟨by have:=h.len; rw [List.length_append] at this; have:=P.ps; omega,fun p hp=>?_⟩
   rcases List.mem_append.1 (h.sub p hp) with hp | hp
   ·exact P.pk p hp
   ·exact tk p hp
  ·rw [h]; exact ⟨by have:=P.ps; omega,P.pk⟩
 exact ⟨by show o'.ns.length<=40; rw [Y.ns]; exact P.ns,by show o'.ys.length<=c + 1; rw [Y.ys,List.length_append]; have:=P.ys; simp; omega,pm.1,pm.2,by show o'.x.f_Q.f_Select.size<=300; rw [q]; exact P.s,by show in64 o'.x.f_Q.f_Step; rw [q]; exact P.t⟩
/-- what a query is run over is no more than it bears -/
theorem EP.run {c:Nat} {e:Ent} {told ps:List S_api_Piece} (P:EP c e) (hc:c<=30) (tl:told.length<=20) (tk:∀ p∈told,p.f_Series.size<=400/\in64 p.f_V/\in64 p.f_T) (M:IsMrg (e.o.ps ++ told) ps):RunH e.o.x.f_Q ps:=by
 refine ⟨by have:=M.len; rw [List.length_append] at this; have:=P.ps; omega,by have:=P.s; omega,fun p hp=>?_,P.t⟩
 have key:p.f_Series.size<=400/\in64 p.f_V/\in64 p.f_T:=by
  rcases List.mem_append.1 (M.sub p hp) with hp | hp
  ·exact P.pk p hp
  ·exact tk p hp
 exact ⟨by have:=key.1; omega,key.2⟩
end Go.Q.Yq
end
section
set_option maxRecDepth 100000
/- QuorumStays: one act. -/
namespace Go.Q.Yq
open Go.Q.Rw
structure LS (h0 h:Heap) (r m c:Nat) (E:List Ent):Prop where
 D:DeskA h r m E
 X:Ext h0.size h0 h
 o:∀ b,OwnD r m E b->h0.size<=b
 l:E.length<=c
 p:∀ e∈E,EP c e
/-- an act that came in -/
structure ActA (h:Heap) (a:S_quaestorlaw31_Act) (l:List S_api_Piece) (o:OpV):Prop where
 L:Pcs h a.f_L l
 O:OpM h a.f_O o
 Z:OpZ o
 lk:∀ p∈l,in64 p.f_V/\in64 p.f_T
 pk:∀ p∈o.ps,in64 p.f_V/\in64 p.f_T
 t:in64 a.f_O.f_Q.f_Step
theorem own_tick {e:Ent} {b:Nat} (h:(tickE e).own b):e.own b:=by
 unfold Ent.own tickE tickX at *
 split at h
 ·exact h
 ·dsimp only at h
  split at h <;> exact h
theorem LS.grow {h0 h h':Heap} {r m c:Nat} {E:List Ent} (S:LS h0 h r m c E) (X:Ext h.size h h'):LS h0 h' r m (c + 1) E :=
 ⟨S.D.ext X,S.X.trans (X.mono S.X.size),S.o,Nat.le_succ_of_le S.l,fun e he=>(S.p e he).mono (Nat.le_succ _)⟩
theorem j7_ok {h0 h:Heap} {r m c b5:Nat} {E:List Ent} {a:S_quaestorlaw31_Act} {l:List S_api_Piece} {o:OpV} {t0 t6:Slc} {t4 t49:Int} {t54:Bool} {k:Bool->Heap->Prop} {nx1:Int->Heap->Prop} {nx2:Slc × Int->Heap->Prop}
  (S:LS h0 h r m c E) (hc:c < 30) (A:ActA h0 a l o) (B:ActB l o.ps a.f_O.f_Nodes a.f_O.f_Q.f_Select) (P:Blk h b5 (S_quaestorlaw31_Act.cs a) 41)
  (K:∀ E' h',LS h0 h' r m (c + 1) E'->Stay E E'->Stp (OwnD r m E) h h'->law31_QuorumStays_j4 t0 (some ⟨r,0,none⟩) t4 t6 k nx1 nx2 h') :
  law31_QuorumStays_j7 t0 (some ⟨r,0,none⟩) t4 ⟨b5,0,none⟩ t6 t49 t54 k nx1 nx2 h:=by
 have nz:∀ e∈E,e.o.ns.length<=1000000:=fun e he=>by have:=(S.p e he).ns; omega
 have ext':∀ {E':List Ent} {h':Heap},Stp (OwnD r m E) h h'->Ext h0.size h0 h':=fun st=>S.X.trans (st.ext S.o S.X.size)
 have up:∀ {e:Ent} {h':Heap},e∈E->Stp e.own h h'->Stp (OwnD r m E) h h':=fun he st=>st.mono fun b hb=>.inl (.inr (.inr ⟨_,he,hb⟩))
 have same:∀ h',Ext h.size h h'->law31_QuorumStays_j4 t0 (some ⟨r,0,none⟩) t4 t6 k nx1 nx2 h':=fun h' X=>K E h' (S.grow X) (Stay.refl E) (Stp.of_ext X)
 have turned:∀ {i:Nat} {e e':Ent} {h':Heap},E[i]? = some e->e.o.x.f_Done=false->e'.n=e.n->DeskA h' r m (E.set i e')->Stp e.own h h'->(∀ b,e'.own b->e.own b∨h.size<=b)->EP (c + 1) e'->law31_QuorumStays_j4 t0 (some ⟨r,0,none⟩) t4 t6 k nx1 nx2 h':=fun {i e e' h'} hi hd en D' st w pe=>by
  have he:=List.mem_of_getElem? hi
  have stO:=up he st
  refine K (E.set i e') h' ⟨D',ext' (E':=E) stO,fun b hb=>?_,by rw [List.length_set]; exact Nat.le_succ_of_le S.l,fun a ha=>?_⟩ (Stay.set S.D.nd hi hd en) stO
  ·rcases own_set hi w b hb with q | q
   ·exact S.o b q
   ·have:=S.X.size; omega
  ·rcases List.mem_or_eq_of_mem_set ha with ha | rfl
   ·exact (S.p a ha).mono (Nat.le_succ _)
   ·exact pe
 have tk:∀ p∈l,p.f_Series.size<=400/\in64 p.f_V/\in64 p.f_T:=fun p hp=>⟨B.l2 p hp,A.lk p hp⟩
 unfold law31_QuorumStays_j7
 cases t54 with
 | true =>
  rw [if_pos rfl]
  refine ⟨a.f_N,P.cl rfl,a.f_Node,P.cl rfl,a.f_L,P.cl rfl,Yes_ok (told:=l) S.D nz (fun e he=>by have:=(S.p e he).ys; omega) (fun e he=>by have:=(S.p e he).ps; omega) (by have:=B.l1; omega) (Imm.of_old (fun h' X=>A.L.ext X) S.X S.o)
   (fun e he _ _ ps M=>(S.p e he).run (by omega) B.l1 tk M) (fun _=>same h (Ext.refl _ _)) fun i e x' o' h' hi en hl hd _ _ Y D' st w=>?_⟩
  exact turned (e':={ e with x:=x',o:=o' }) hi hd rfl D' st w ((S.p e (List.mem_of_getElem? hi)).yes Y B.l1 tk)
 | false =>
  rw [if_neg (by simp)]
  by_cases c4:t49=4
  ·rw [if_pos (by simpa using c4)]
   refine ⟨a.f_N,P.cl rfl,a.f_Node,P.cl rfl,a.f_E,P.cl rfl,No_ok S.D nz (fun _=>same h (Ext.refl _ _)) fun i e h' hi en hl hd _ _ D' st=>?_⟩
   have pe:=S.p e (List.mem_of_getElem? hi)
   have be:=(S.D.ok e (List.mem_of_getElem? hi)).be
   refine turned (e':=endE e a.f_E) hi hd rfl D' st (fun b hb=>.inl hb) ?_
   have q:(endE e a.f_E).o.x.f_Q=e.o.x.f_Q:=by rw [← be]; rfl
   have p':=pe.mono (Nat.le_succ c)
   exact ⟨p'.ns,p'.ys,p'.ps,p'.pk,by rw [q]; exact p'.s,by rw [q]; exact p'.t⟩
  rw [if_neg (by simpa using c4)]
  by_cases c5:t49=5
  ·rw [if_pos (by simpa using c5)]
   refine Tick_ok S.D (by have:=S.l; omega) fun h' D' st=>?_
   refine K (E.map tickE) h' ⟨D',ext' (E':=E) st,fun b hb=>?_,by rw [List.length_map]; exact Nat.le_succ_of_le S.l,fun e he=>?_⟩ (Stay.tick S.D.nd fun e he=>by rw [← (S.D.ok e he).be]; rfl) st
   ·rcases hb with hb | hb | ⟨e,he,hb⟩
    ·exact S.o b (.inl hb)
    ·exact S.o b (.inr (.inl hb))
    ·obtain ⟨e1,h1,rfl⟩:=List.mem_map.1 he
     exact S.o b (.inr (.inr ⟨e1,h1,own_tick hb⟩))
   ·obtain ⟨e1,h1,rfl⟩:=List.mem_map.1 he
    exact ((S.p e1 h1).mono (Nat.le_succ _)).tick (S.D.ok e1 h1).be
  rw [if_neg (by simpa using c5)]
  have M:=A.O.ext S.X
  refine ⟨a.f_O,P.cls rfl,Start_ok S.D M A.Z (by have:=B.n1; have:=A.O.nl; omega) (fun _ h' X=>same h' X) (fun _ _ h' X=>same h' X) fun _ hl g x' h' D' hg st w=>?_⟩
  have stO:Stp (OwnD r m E) h h':=st.mono fun b hb=>.inl (.inr (.inl hb))
  have q:(startO o).x.f_Q=a.f_O.f_Q:=by show (begun o.x).f_Q=_; rw [← A.O.e]; rfl
  refine K _ h' ⟨D',ext' (E':=E) stO,fun b hb=>?_,by rw [List.length_append]; have:=S.l; simp; omega,fun e he=>?_⟩ (Stay.app _ _) stO
  ·rcases hb with hb | hb | ⟨e,he,hb⟩
   ·exact S.o b (.inl hb)
   ·exact S.o b (.inr (.inl hb))
   ·rcases List.mem_append.1 he with he | he
    ·exact S.o b (.inr (.inr ⟨e,he,hb⟩))
    ·simp at he; subst he
     have:=w b hb; have:=S.X.size; omega
  ·rcases List.mem_append.1 he with he | he
   ·exact (S.p e he).mono (Nat.le_succ _)
   ·simp at he; subst he
    have nl:=A.O.nl; have n1:=B.n1; have p1:=B.p1
    refine ⟨by show o.ns.length<=40; omega,Nat.zero_le _,?_,?_,by rw [q]; exact B.s1,by rw [q]; exact A.t⟩
    ·show (if o.x.f_Kind=1 then o.ps else []).length<=_
     split
     ·omega
     ·simp
    ·show ∀ p∈(if o.x.f_Kind=1 then o.ps else []),_
     split
     ·exact fun p hp=>⟨B.p2 p hp,A.pk p hp⟩
     ·intro p hp; cases hp
end Go.Q.Yq
end
section
set_option maxRecDepth 100000
/- QuorumStays: what was done is as it was. -/
namespace Go.Q.Yq
open Go.Q.Rw
abbrev opv (xs:List S_api_Op):List Value:=xs.flatMap S_api_Op.cs
theorem op_len (x:S_api_Op):(S_api_Op.cs x).length=33:=rfl
theorem l5_ok {h0 h:Heap} {r m c:Nat} {E:List Ent} {xs:List S_api_Op} {t0 t6:Slc} {t4:Int} {k:Bool->Heap->Prop} {nx1:Int->Heap->Prop} {nx2:Slc × Int->Heap->Prop}
  (S:LS h0 h r m c E) (W:SlcAt h t6 (opv xs)) (wl:t6.len=xs.length) (xz:xs.length<=1000) (X:∀ x∈xs,∃ e,look E x.f_N=some e/\e.o.x.f_Done=true/\OpM h x e.o)
  (K:∀ h',Ext h.size h h'->nx1 (IntKind.i64.wrap (t4 + 1)) h'):law31_QuorumStays_l5 t0 (some ⟨r,0,none⟩) t4 t6 0 k nx1 nx2 h:=by
 have L:LsAt S_api_Op.cs 33 h t6 xs:=ls_of_slc (cs:=S_api_Op.cs) (w:=33) op_len W wl (by decide)
 unfold law31_QuorumStays_l5
 refine ⟨fun i h'=>0<=i/\i<=(xs.length:Int)/\Ext h.size h h',fun i _=>xs.length - i.toNat,⟨Int.le_refl _,by omega,Ext.refl _ _⟩,?_⟩
 rintro i h2 ⟨i0,i1,X2⟩
 have z2:=X2.size
 unfold law31_QuorumStays_l5b
 rw [wl]
 by_cases hi:i < (xs.length:Int)
 ·rw [if_pos (by simpa using hi)]
  obtain ⟨a,x,ha,g0,g1,hx,hc⟩:=(L.ext X2).it i0 hi
  rw [wl] at g1
  obtain ⟨e,hl,hd,M⟩:=X x (List.mem_of_getElem? hx)
  have Z:=(S.D.ok e (by obtain ⟨j,hj,_⟩:=look_at hl; exact List.mem_of_getElem? hj)).z
  have D2:=S.D.ext X2
  refine ⟨a,ha,g0,g1,x.f_N,cls0 hc rfl,Result_ok D2 (fun e1 h3 he q6 q14 X3=>?_) fun j e1 y h3 hj _ hl1 hd1 M1 F1 X3=>?_⟩
  ·rcases he with rfl | rfl
   ·have:=q6 rfl; rw [hl] at this; cases this
   ·obtain ⟨b,hb,db⟩:=q14 rfl
    rw [hl] at hb; cases hb
    rw [hd] at db; cases db
  ·rw [hl] at hl1; cases hl1
   have z3:=X3.size
   refine bx (cs:=S_api_Op.cs y) rfl (by decide) fun h4 P4 X4=>?_
   have z4:=X4.size
   have X24:Ext h2.size h2 h4:=X3.trans (X4.mono z3)
   have X04:Ext h.size h h4:=X2.trans (X24.mono z2)
   rw [if_neg (by simp)]
   refine ⟨y,CellsAt.of_blk P4,a,ha,g0,g1,x,hc.ext X24,Same31_ok (M1.ext X4) (M.ext X04) Z fun h5 X5=>?_⟩
   unfold law31_QuorumStays_j6
   rw [if_neg (by simp)]
   refine ⟨_,rfl,?_⟩
   rw [wrapI64 (by omega) (by omega)]
   exact ⟨⟨by omega,by omega,X04.trans (X5.mono (by omega))⟩,by show xs.length - (i + 1).toNat < xs.length - i.toNat; omega⟩
 ·rw [if_neg (by simpa using hi)]
  exact ⟨_,rfl,K h2 X2⟩
end Go.Q.Yq
end
section
set_option maxRecDepth 100000
/- QuorumStays: what is done is noted, then an act is done. -/
namespace Go.Q.Yq
open Go.Q.Rw
/-- a block holds nothing of an op's slices -/
structure OpN (b:Nat) (x:S_api_Op) (o:OpV):Prop where
 p:x.f_Pieces.blk=some b->pcv o.ps=[]
 n:x.f_Nodes.blk=some b->ints o.ns=[]
 y:x.f_Yes.blk=some b->ints o.ys=[]
 r:x.f_Rows.blk=some b->rwv o.rs=[]
 w:x.f_Cmd.f_Wrapped.blk=some b->b8 o.wr=[]
theorem slc_off {h h':Heap} {s t:Slc} {vs:List Value} (S:SlcAt h t vs) (keep:∀ b,b < h.size->s.blk≠some b->h'[b]? = h[b]?) (N:∀ b,s.blk=some b->t.blk=some b->vs=[]):SlcAt h' t vs:=⟨S.1,fun a ha j v hj=>by
 have c:=S.2 a ha j v hj
 have ab:(a.add j).block=a.block:=by unfold Addr.add; split <;> rfl
 have lt:=cellH_lt c
 rw [cellH_of (h:=h) (h':=h') (by
  rw [ab] at lt ⊢
  exact keep _ lt fun q=>by
   have:=N _ q (by unfold Slc.blk; rw [ha])
   rw [this] at hj; simp at hj)]
 exact c⟩
theorem OpM.off {h h':Heap} {x:S_api_Op} {o:OpV} {s:Slc} (M:OpM h x o) (keep:∀ b,b < h.size->s.blk≠some b->h'[b]? = h[b]?) (N:∀ b,s.blk=some b->OpN b x o):OpM h' x o :=
 { M with
  p:=slc_off M.p keep fun b hb=>(N b hb).p
  n:=slc_off M.n keep fun b hb=>(N b hb).n
  y:=slc_off M.y keep fun b hb=>(N b hb).y
  r:=slc_off M.r keep fun b hb=>(N b hb).r
  w:=slc_off M.w keep fun b hb=>(N b hb).w }
theorem slc_new {h:Heap} {t:Slc} {vs:List Value} (S:SlcAt h t vs) (e:t.blk=some h.size):vs=[]:=by
 cases vs with
 | nil=>rfl
 | cons v r =>
  cases ha:t.a with
  | none=>have:=S.1 ha; cases this
  | some a =>
   have c:=S.2 a ha 0 v rfl
   have lt:=cellH_lt c
   have ab:(a.add 0).block=a.block:=by unfold Addr.add; split <;> rfl
   unfold Slc.blk at e
   rw [ha] at e
   have:=Option.some.inj e
   omega
theorem OpM.new {h:Heap} {x:S_api_Op} {o:OpV} (M:OpM h x o):OpN h.size x o:=⟨slc_new M.p,slc_new M.n,slc_new M.y,slc_new M.r,slc_new M.w⟩
theorem OpM.stp {O:BSet} {h h':Heap} {x:S_api_Op} {o:OpV} (M:OpM h x o) (s:Stp O h h') {B:Nat} (F:OpF B x) (hO:∀ b,O b->b < B):OpM h' x o :=
 { M with
  p:=slc_imm M.p (fun b hb ob=>by have:=F.p b hb; have:=hO b ob; omega) h' s
  n:=slc_imm M.n (fun b hb ob=>by have:=F.n b hb; have:=hO b ob; omega) h' s
  y:=slc_imm M.y (fun b hb ob=>by have:=F.y b hb; have:=hO b ob; omega) h' s
  r:=slc_imm M.r (fun b hb ob=>by have:=F.r b hb; have:=hO b ob; omega) h' s
  w:=slc_imm M.w (fun b hb ob=>by have:=F.w b hb; have:=hO b ob; omega) h' s }
theorem op_one (x:S_api_Op):∀ v∈S_api_Op.cs x,v.oneCell'=true:=fun v hv=>by
 have key:∀ v∈arr 12 .u8 x.f_Cmd.f_Nonce,v.oneCell'=true:=fun v hv=>by
  rw [arr_nrm] at hv
  obtain ⟨a,_,rfl⟩:=List.mem_map.1 hv; rfl
 unfold S_api_Op.cs S_api_Query.cs S_api_Command.cs at hv
 simp only [List.mem_append,List.mem_cons,List.not_mem_nil,or_false] at hv
 rcases hv with ((hv | hv) | hv) | hv
 ·rcases hv with rfl | rfl | rfl | rfl <;> rfl
 ·rcases hv with rfl | rfl | rfl | rfl | rfl <;> rfl
 ·rcases hv with (hv | hv) | hv
  ·rcases hv with rfl | rfl | rfl <;> rfl
  ·exact key v hv
  ·rcases hv with rfl | rfl <;> rfl
 ·rcases hv with rfl | rfl | rfl | rfl | rfl | rfl | rfl <;> rfl
theorem l2_ok {h0 h:Heap} {r m c b5:Nat} {E:List Ent} {a:S_quaestorlaw31_Act} {l:List S_api_Piece} {o:OpV} {t0:Slc} {t4:Int} {k:Bool->Heap->Prop} {nx1:Int->Heap->Prop}
  (S:LS h0 h r m c E) (hc:c < 30) (A:ActA h0 a l o) (B:ActB l o.ps a.f_O.f_Nodes a.f_O.f_Q.f_Select) (P:Blk h b5 (S_quaestorlaw31_Act.cs a) 41) (b50:h0.size<=b5)
  (K:∀ E' h',LS h0 h' r m (c + 1) E'->nx1 (IntKind.i64.wrap (t4 + 1)) h'):law31_QuorumStays_l2 t0 (some ⟨r,0,none⟩) t4 ⟨b5,0,none⟩ ⟨none,0,0⟩ 0 k nx1 h:=by
 have p5:=P.lt
 unfold law31_QuorumStays_l2
 refine ⟨fun q h'=>0<=q.2/\q.2<=6/\Ext h.size h h'/\∃ xs:List S_api_Op,Row h.size h' 39 33 q.1 (opv xs)/\q.1.len=xs.length/\(xs.length:Int)<=q.2/\∀ x∈xs,∃ e,look E x.f_N=some e/\e.o.x.f_Done=true/\OpM h' x e.o/\OpF h.size x/\∀ b,q.1.blk=some b->OpN b x e.o,
  fun q _=>6 - q.2.toNat,⟨Int.le_refl _,by dsimp only; omega,Ext.refl _ _,[],Row.nil _ _ _ _,rfl,by simp,by simp⟩,?_⟩
 rintro s n h2 ⟨n0,n1,X2,xs,R,sl,xl,XS⟩
 dsimp only at n0 n1 R sl xl XS
 have z2:=X2.size
 unfold law31_QuorumStays_l2b
 by_cases hn:n < 6
 ·rw [if_pos (by simpa using hn)]
  have D2:=S.D.ext X2
  have nw:IntKind.u64.wrap (n + 1)=n + 1:=wrapU64 (by omega) (by omega)
  refine Result_ok D2 (fun e1 h3 he _ _ X3=>?_) fun j e y h3 hj en hl hd M F X3=>?_
  ·have z3:=X3.size
   refine bx rfl (by decide) fun h4 P4 X4=>?_
   have z4:=X4.size
   have X24:Ext h2.size h2 h4:=X3.trans (X4.mono z3)
   rw [if_neg (by rcases he with rfl | rfl <;> simp)]
   unfold law31_QuorumStays_j3
   refine ⟨_,rfl,?_⟩
   rw [nw]
   refine ⟨⟨by dsimp only; omega,by dsimp only; omega,X2.trans (X24.mono z2),xs,R.keep fun b hb=>X24.block b (R.bd hb).2,sl,by dsimp only; omega,fun x hx=>?_⟩,by show 6 - (n + 1).toNat < 6 - n.toNat; omega⟩
   obtain ⟨e,q1,q2,q3,qF,q4⟩:=XS x hx
   exact ⟨e,q1,q2,q3.ext X24,qF,q4⟩
  ·have z3:=X3.size
   refine bx (cs:=S_api_Op.cs y) rfl (by decide) fun h4 P4 X4=>?_
   have z4:=X4.size
   rw [if_pos (by simp)]
   refine ⟨y,CellsAt.of_blk P4,bx0 fun h5 P5 X5=>?_⟩
   have z5:=X5.size
   have X25:Ext h2.size h2 h5:=(X3.trans (X4.mono z3)).trans (X5.mono (by omega))
   have R5:Row h.size h5 39 33 s (opv xs):=R.keep fun b hb=>X25.block b (R.bd hb).2
   refine App.row R5 (by omega) rfl rfl (op_one y) (by rw [sl]; omega) (by rw [sl]; simp only [maxLen]; omega) fun s' h6 R6 l6 z6 o6 b6=>?_
   have b6':s'.blk=s.blk∨s'.blk=some h5.size:=b6
   unfold law31_QuorumStays_j3
   refine ⟨_,rfl,?_⟩
   rw [nw]
   have yn:y.f_N=n:=by
    have K:=D2.ok e (List.mem_of_getElem? hj)
    have e1:y.f_N=(bare y).f_N:=rfl
    have e2:e.x.f_N=(bare e.x).f_N:=rfl
    rw [e1,M.e,← K.be,← e2,K.n,en]
   have M5:OpM h5 y e.o:=(M.ext X4).ext X5
   have ny:∀ b,s.blk=some b->OpN b y e.o:=fun b hb=>by
    have lt:=(R.bd hb).2
    exact ⟨fun q=>by have:=F.p b q; omega,fun q=>by have:=F.n b q; omega,fun q=>by have:=F.y b q; omega,fun q=>by have:=F.r b q; omega,fun q=>by have:=F.w b q; omega⟩
   have yF:OpF h.size y:=⟨fun g hg=>by have:=F.p g hg; omega,fun g hg=>by have:=F.n g hg; omega,fun g hg=>by have:=F.y g hg; omega,fun g hg=>by have:=F.r g hg; omega,fun g hg=>by have:=F.w g hg; omega⟩
   have keep6:∀ b,b < h5.size->s.blk≠some b->h6[b]? = h5[b]?:=fun b hb q=>o6 b hb q
   have new6:∀ {x:S_api_Op} {o:OpV},OpM h5 x o->(∀ b,s.blk=some b->OpN b x o)->∀ b,s'.blk=some b->OpN b x o:=fun {x o} M N b hb=>by
    rcases b6' with q | q
    ·exact N b (q ▸ hb)
    ·rw [q] at hb; have:=Option.some.inj hb; subst this; exact M.new
   refine ⟨⟨by dsimp only; omega,by dsimp only; omega,X2.trans ⟨by omega,fun b hb=>by rw [o6 b (by omega) (fun q=>by have:=(R.bd q).1; omega),X25.block b (by omega)]⟩,xs ++ [y],by unfold opv; rw [List.flatMap_append]; simpa using R6,by dsimp only; rw [l6,sl]; simp,by dsimp only; simp; omega,fun x hx=>?_⟩,by show 6 - (n + 1).toNat < 6 - n.toNat; omega⟩
   rcases List.mem_append.1 hx with hx | hx
   ·obtain ⟨e',q1,q2,q3,qF,q4⟩:=XS x hx
    have q5:=q3.ext X25
    exact ⟨e',q1,q2,q5.off keep6 q4,qF,new6 q5 q4⟩
   ·simp at hx; subst hx
    exact ⟨e,by rw [yn]; exact hl,hd,M5.off keep6 ny,yF,new6 M5 ny⟩
 ·rw [if_neg (by simpa using hn)]
  refine ⟨a.f_Kind,(P.ext X2 p5).cl0 rfl,Pick_ok (n:=6) (by decide) (by decide) fun r39 _ _=>?_⟩
  have S2:LS h0 h2 r m c E:=⟨S.D.ext X2,S.X.trans (X2.mono S.X.size),S.o,S.l,S.p⟩
  have go:∀ (nx2:Slc × Int->Heap->Prop) t54,law31_QuorumStays_j7 t0 (some ⟨r,0,none⟩) t4 ⟨b5,0,none⟩ s r39 t54 k nx1 nx2 h2:=fun nx2 t54=>j7_ok S2 hc A B (P.ext X2 p5) fun E' h3 S3 st3 stp=>by
   have nO:∀ b,s.blk=some b->¬ OwnD r m E b:=fun b hb ob=>by have:=S.D.lt ob; have:=(R.bd hb).1; omega
   unfold law31_QuorumStays_j4
   refine l5_ok S3 (stp.row R nO).slc sl (by omega) (fun x hx=>?_) fun h4 X4=>K E' h4 ⟨S3.D.ext X4,S3.X.trans (X4.mono S3.X.size),S3.o,S3.l,S3.p⟩
   obtain ⟨e,q1,q2,q3,qF,_⟩:=XS x hx
   obtain ⟨e',w1,w2⟩:=st3 _ e q1 q2
   refine ⟨e',w1,by rw [w2]; exact q2,?_⟩
   rw [w2]
   exact q3.stp stp qF fun b hb=>S.D.lt hb
  by_cases c2:r39=2
  ·rw [if_pos (by simpa using c2)]; exact go _ _
  ·rw [if_neg (by simpa using c2)]; exact go _ _
end Go.Q.Yq
end
section
set_option maxRecDepth 100000
/- QuorumStays walked. -/
namespace Go.Q.Yq
open Go.Q.Rw
theorem Stays_ok {h0:Heap} {p0:Slc} {as':List S_quaestorlaw31_Act} {k:Bool->Heap->Prop} (L:LsAt S_quaestorlaw31_Act.cs 38 h0 p0 as') (C:∀ a∈as',∃ l o,ActA h0 a l o)
  (H:∀ h',Ext h0.size h0 h'->k true h'):law31_QuorumStays p0 k h0:=by
 unfold law31_QuorumStays
 refine New_ok fun r m h1 D hr hm X1=>?_
 unfold law31_QuorumStays_l1
 have aw:∀ h',Ext h0.size h0 h'->law31_awake (fun r11 h12=>k r11 h12) h':=fun h' X=>awake_ok fun h2 X2=>H h2 (X.trans (X2.mono X.size))
 refine ⟨fun i h'=>0<=i/\i<=30/\∃ E,LS h0 h' r m i.toNat E,fun i _=>(30 - i).toNat,⟨Int.le_refl _,by decide,[],⟨D,X1,fun b hb=>?_,Nat.zero_le _,fun e he=>by cases he⟩⟩,?_⟩
 ·rcases hb with rfl | rfl | ⟨e,he,_⟩
  ·exact hr
  ·exact hm
  ·cases he
 rintro i h2 ⟨i0,i1,E,S⟩
 unfold law31_QuorumStays_l1b
 rw [L.l]
 by_cases hi:i < (as'.length:Int)/\i < 30
 ·rw [if_pos (by simpa using hi)]
  obtain ⟨a,x,ha,g0,g1,hx,hc⟩:=(L.ext S.X).it i0 hi.1
  rw [L.l] at g1
  obtain ⟨l,o,A⟩:=C x (List.mem_of_getElem? hx)
  have z2:=S.X.size
  refine ⟨a,ha,g0,g1,x,hc,bx rfl (by decide) fun h7 P7 X7=>⟨x,CellsAt.of_blk P7,?_⟩⟩
  have z7:=X7.size
  have X07:Ext h0.size h0 h7:=S.X.trans (X7.mono z2)
  refine great_ok (A.L.ext X07) (pcs_slc (A.O.ext X07).p A.O.pl) fun b h10 X10 hb=>?_
  have X010:Ext h0.size h0 h10:=X07.trans (X10.mono X07.size)
  cases b with
  | true=>rw [if_pos rfl]; exact aw h10 X010
  | false =>
   rw [if_neg (by simp)]
   have X210:Ext h2.size h2 h10:=X7.trans (X10.mono z7)
   refine l2_ok (c:=i.toNat) ⟨S.D.ext X210,X010,S.o,S.l,S.p⟩ (by omega) A (hb rfl) (P7.ext X10 P7.lt) z2 fun E' h' S'=>?_
   rw [wrapI64 (by omega) (by omega)]
   exact ⟨⟨by omega,by omega,E',by rw [show (i + 1).toNat=i.toNat + 1 from by omega]; exact S'⟩,by show (30 - (i + 1)).toNat < (30 - i).toNat; omega⟩
 ·rw [if_neg (by simpa using hi)]
  exact aw h2 S.X
end Go.Q.Yq
end
section
/- Arguments that are arrays of numbers. -/
namespace Go.Q
open Go.ChangeShapes Go.WideShapes
section
variable {H:Type} {enc:TypeId × Value->H} {P:Program} {t e:TypeId} {n:Nat} {q:IntKind} {w W:World} {base:Nat} {sp:Nat->Bool} {held:Bool}
end
end Go.Q
end
section
/- Arguments that came in, opened by their types. -/
namespace Go.Q
open Go.ChangeShapes Go.WideShapes
theorem choose_list {α:Type} {R:Nat->α->Prop}:∀ n:Nat,(∀ i,i < n->∃ y,R i y)->∃ ys:List α,ys.length=n/\∀ i y,ys[i]? = some y->R i y
 | 0,_=>⟨[],rfl,by simp⟩
 | n + 1,h=>by
  obtain ⟨ys,hl,hy⟩:=choose_list n fun i hi=>h i (by omega)
  obtain ⟨y,hR⟩:=h n (by omega)
  refine ⟨ys ++ [y],by simp [hl],fun i z hz=>?_⟩
  rcases Nat.lt_trichotomy i n with hi | hi | hi
  ·rw [List.getElem?_append_left (by omega)] at hz; exact hy i z hz
  ·subst hi
   rw [List.getElem?_append_right (by omega),hl] at hz
   simp at hz; subst hz; exact hR
  ·rw [List.getElem?_eq_none (by simp; omega)] at hz; cases hz
section
variable {H:Type} {enc:TypeId × Value->H} {P:Program} {t e:TypeId} {w:World} {base:Nat} {sp:Nat->Bool} {held:Bool}
theorem mapM_get {α β:Type} {f:α->Option β}:∀ {l:List α} {ys:List β},l.mapM f=some ys->ys.length=l.length/\∀ (i:Nat) x,l[i]? = some x->∃ y,f x=some y/\ys[i]? = some y
 | [],ys,h=>by simp at h; subst h; simp
 | a :: l,ys,h=>by
  rw [List.mapM_cons] at h
  cases ha:f a with
  | none=>simp [ha] at h
  | some b =>
   cases hl:l.mapM f with
   | none=>simp [ha,hl] at h
   | some zs =>
    simp [ha,hl] at h
    subst h
    obtain ⟨h1,h2⟩:=mapM_get hl
    refine ⟨by simp [h1],fun i x hx=>?_⟩
    cases i with
    | zero=>simp at hx; subst hx; exact ⟨b,ha,rfl⟩
    | succ i=>simp at hx; simpa using h2 i x hx
theorem cells_get {w:World} {base:Nat} {a:Addr} {n:Nat} {cs:List Value} (h:w.cells? base a n=some cs):cs.length=n/\CellsAt w.heap a cs:=by
 unfold World.cells? at h
 split at h
 ·obtain ⟨h1,h2⟩:=mapM_get h
  rw [List.length_range] at h1
  refine ⟨h1,fun i v hv=>?_⟩
  have hi:i < n:=by have:=(List.getElem?_eq_some_iff.1 hv).1; omega
  obtain ⟨y,e1,e2⟩:=h2 i i (by simp [hi])
  rw [hv] at e2; cases e2
  exact e1
 ·cases h
/-- a slice that came in -/
theorem open_sl {fuel:Nat} {cs:List Value} {x:DataW H × List MemPlace} (ht:P.underlying t=some (.slice e)) (h:DataW.trod enc P w base sp held fuel t cs=some x) :
  ∃ s:Slc,cs=[Slc.v s]/\s.len<=s.cap/\s.cap<=maxLen/\(s.a=none->s.len=0/\s.cap=0) /\
   ∀ a,s.a=some a->∀ i,i < s.len->∃ es f y,es.length=P.cellsOf e/\CellsAt w.heap (a.add (i * P.cellsOf e)) es/\DataW.trod enc P w base sp held f e es=some y:=by
 rcases DataW.trod_slice ht h with ⟨rfl,_⟩ | ⟨a,len,cap,elems,rest,n,_,rfl,_,hb,hl,hm,hlen,hel,_⟩
 ·exact ⟨⟨none,0,0⟩,rfl,Nat.le_refl _,by simp [maxLen],fun _=>⟨rfl,rfl⟩,fun a ha=>by cases ha⟩
 ·refine ⟨⟨some a,len,cap⟩,rfl,hl,hm,(fun hn=>by cases hn),fun b hb i hi=>?_⟩
  cases hb
  have hi:i < len:=hi
  have:=hel i hi
  rw [List.getElem?_eq_getElem (by omega),Option.bind_eq_some_iff] at this
  obtain ⟨es,h1,h2⟩:=this
  exact ⟨es,n,_,(cells_get h1).1,(cells_get h1).2,h2⟩
/-- bytes that came in, or other integers -/
theorem open_is {q:IntKind} {fuel:Nat} {cs:List Value} {x:DataW H × List MemPlace} (ht:P.underlying t=some (.slice e)) (he:P.underlying e=some (.int q)) (ce:P.cellsOf e=1) (h:DataW.trod enc P w base sp held fuel t cs=some x) :
  ∃ (s:Slc) (zs:List Int),cs=[Slc.v s]/\s.len<=s.cap/\s.cap<=maxLen/\s.len=zs.length/\SlcAt w.heap s (zs.map (Value.int q))/\∀ n∈zs,(Lit.int q n).wf=true:=by
 obtain ⟨s,rfl,h1,h2,h3,h4⟩:=open_sl ht h
 cases ha:s.a with
 | none =>
  have:=h3 ha
  exact ⟨s,[],rfl,h1,h2,by simp [this],⟨fun _=>rfl,fun b hb=>by rw [ha] at hb; cases hb⟩,by simp⟩
 | some a =>
  obtain ⟨zs,hl,hz⟩:=choose_list (R:=fun i n=>cellH w.heap (a.add i)=some (.int q n)/\(Lit.int q n).wf=true) s.len fun i hi=>by
   obtain ⟨es,f,y,e1,e2,e3⟩:=h4 a ha i hi
   obtain ⟨n,rfl,_,hw⟩:=DataW.trod_int he e3
   rw [ce,Nat.mul_one] at e2
   exact ⟨n,by have:=e2 0 _ rfl; rwa [show (a.add i).add 0=a.add i from by simp [Addr.add]] at this,hw⟩
  refine ⟨s,zs,rfl,h1,h2,hl.symm,⟨(fun hn=>by rw [ha] at hn; cases hn),fun b hb j v hv=>?_⟩,fun n hn=>?_⟩
  ·rw [ha] at hb; cases hb
   rw [List.getElem?_map,Option.map_eq_some_iff] at hv
   obtain ⟨n,hn,rfl⟩:=hv
   exact (hz j n hn).1
  ·obtain ⟨i,hi⟩:=List.getElem?_of_mem hn
   exact (hz i n hi).2
theorem cat_part {cs a:List Value} {o n:Nat} (h:(cs.drop o).take n=a):cs.drop o=a ++ cs.drop (o + n):=by
 rw [← h,← List.drop_drop,List.take_append_drop]
theorem cat_end {cs:List Value} {n:Nat} (h:cs.length=n):cs.drop n=[]:=by rw [← h]; exact List.drop_length
theorem open_arr {n:Nat} {q:IntKind} {fuel:Nat} {cs:List Value} {x:DataW H × List MemPlace} (ht:P.underlying t=some (.array n e)) (he:P.underlying e=some (.int q)) (ct:P.cellsOf t=n) (ce:P.cellsOf e=1)
  (h:DataW.trod enc P w base sp held fuel t cs=some x):∃ zs:List Int,cs=arr n q zs/\zs.length=n/\∀ x∈zs,(Lit.int q x).wf=true:=by
 obtain ⟨xs,m,_,_,hl,hxl,hg⟩:=DataW.trod_array ht h
 rw [ct] at hl
 obtain ⟨zs,zl,hz⟩:=choose_list (R:=fun i a=>cs[i]? = some (.int q a)/\(Lit.int q a).wf=true) n fun i hi=>by
  have h1:=hg i hi
  rw [ce,Nat.mul_one] at h1
  have hi':i < cs.length:=by omega
  have h2:(cs.drop i).take 1=[cs[i]]:=by rw [List.drop_eq_getElem_cons hi']; rfl
  rw [h2,List.getElem?_eq_getElem (by omega)] at h1
  obtain ⟨a,ea,_,wa⟩:=DataW.trod_int he h1
  simp only [List.cons.injEq,and_true] at ea
  exact ⟨a,by rw [List.getElem?_eq_getElem hi',ea],wa⟩
 refine ⟨zs,?_,zl,fun a ha=>?_⟩
 ·rw [arr_id zl]
  apply List.ext_getElem?
  intro i
  rw [List.getElem?_map]
  by_cases hi:i < n
  ·have hzi:zs[i]? = some zs[i]:=by simp
   rw [hzi,(hz i _ hzi).1]; rfl
  ·rw [List.getElem?_eq_none (by omega),List.getElem?_eq_none (by omega)]; rfl
 ·obtain ⟨i,hi⟩:=List.getElem?_of_mem ha
  exact (hz i a hi).2
/-- a slice of integers that came in -/
def SlI (q:IntKind) (h:Heap) (s:Slc) (zs:List Int):Prop:=s.len=zs.length/\SlcAt h s (zs.map (Value.int q))/\∀ n∈zs,(Lit.int q n).wf=true
theorem open_si {q:IntKind} {fuel:Nat} {cs:List Value} {x:DataW H × List MemPlace} (ht:P.underlying t=some (.slice e)) (he:P.underlying e=some (.int q)) (ce:P.cellsOf e=1) (h:DataW.trod enc P w base sp held fuel t cs=some x) :
  ∃ s:Slc,cs=[Slc.v s]/\s.len<=s.cap/\s.cap<=maxLen/\∃ zs,SlI q w.heap s zs:=by
 obtain ⟨s,zs,a,b,c,d,e,f⟩:=open_is ht he ce h
 exact ⟨s,a,b,c,zs,d,e,f⟩
end
end Go.Q
end
section
/- Arguments that came in, opened by their types, with their sizes. -/
namespace Go.Q
open Go.ChangeShapes Go.WideShapes
/-- what is read is no greater than what a form reaches -/
def WtOk {H:Type} (P:Program) (t:TypeId) (d:DataW H):Prop:=∀ n∈d.weights P t,n<=reachBytes
theorem wt_all {H:Type} {P:Program} {e:TypeId}:∀ {l:List (DataW H)} {d:DataW H},d∈l->∀ n∈d.weights P e,n∈DataW.weightsAll P e l
 | a :: r,d,h,n,hn=>by
  rw [DataW.weightsAll]
  rcases List.mem_cons.1 h with rfl | h
  ·exact List.mem_append.2 (.inl hn)
  ·exact List.mem_append.2 (.inr (wt_all h n hn))
section
variable {H:Type} {enc:TypeId × Value->H} {P:Program} {t e:TypeId} {w:World} {base:Nat} {sp:Nat->Bool} {held:Bool}
theorem open_slw {fuel:Nat} {cs:List Value} {x:DataW H × List MemPlace} (ht:P.underlying t=some (.slice e)) (W:WtOk P t x.1) (h:DataW.trod enc P w base sp held fuel t cs=some x) :
  ∃ s:Slc,cs=[Slc.v s]/\s.len<=s.cap/\s.cap<=maxLen/\(s.a=none->s.len=0/\s.cap=0)/\s.len * P.bytesOf e<=reachBytes /\
   ∀ a,s.a=some a->∀ i,i < s.len->∃ es f y,es.length=P.cellsOf e/\CellsAt w.heap (a.add (i * P.cellsOf e)) es/\DataW.trod enc P w base sp held f e es=some y/\WtOk P e y.1:=by
 rcases DataW.trod_slice ht h with ⟨rfl,_⟩ | ⟨a,len,cap,elems,rest,n,_,rfl,rfl,hb,hl,hm,hlen,hel,_⟩
 ·exact ⟨⟨none,0,0⟩,rfl,Nat.le_refl _,by simp [maxLen],(fun _=>⟨rfl,rfl⟩),by simp,fun a ha=>by cases ha⟩
 ·have wt:∀ n∈((elems.map (·.1)).length + (rest.map (·.1)).length) * P.bytesOf e :: (DataW.weightsAll P e (elems.map (·.1)) ++ DataW.weightsAll P e (rest.map (·.1))),n<=reachBytes:=fun n hn=>W n (by
   simp only [DataW.weights,ht]; exact hn)
  refine ⟨⟨some a,len,cap⟩,rfl,hl,hm,(fun hn=>by cases hn),?_,fun b hb i hi=>?_⟩
  ·have:=wt _ List.mem_cons_self
   rw [List.length_map,hlen] at this
   exact Nat.le_trans (Nat.mul_le_mul_right _ (Nat.le_add_right _ _)) this
  ·cases hb
   have hi:i < len:=hi
   have h1:=hel i hi
   rw [List.getElem?_eq_getElem (by omega),Option.bind_eq_some_iff] at h1
   obtain ⟨es,h2,h3⟩:=h1
   refine ⟨es,n,_,(cells_get h2).1,(cells_get h2).2,h3,fun m hm=>wt m (List.mem_cons_of_mem _ (List.mem_append.2 (.inl (wt_all (List.mem_map.2 ⟨_,List.getElem_mem _,rfl⟩) m hm))))⟩
theorem open_fsw {fs:Array Field} {fuel:Nat} {cs:List Value} {x:DataW H × List MemPlace} (ht:P.underlying t=some (.struct fs)) (W:WtOk P t x.1) (h:DataW.trod enc P w base sp held fuel t cs=some x) :
  ∃ n,cs.length=P.cellsOf t/\∀ (i:Nat) f,fs[i]? = some f->∃ y,DataW.trod enc P w base sp held n f.type ((cs.drop f.offset).take (P.cellsOf f.type))=some y/\WtOk P f.type y.1:=by
 obtain ⟨xs,n,_,rfl,hl,hxl,hf⟩:=DataW.trod_struct ht h
 refine ⟨n,hl,fun i f hi=>?_⟩
 have h1:=hf i f hi
 have hi2:i < xs.length:=by rw [hxl]; exact (Array.getElem?_eq_some_iff.1 hi).1
 refine ⟨xs[i],by rw [h1]; simp,fun m hm=>W m ?_⟩
 simp only [DataW.weights,ht]
 exact DataW.weights_mem_each (j:=i) (t:=f.type) (d:=xs[i].1) (by rw [List.getElem?_map,Array.getElem?_toList,hi]; rfl) (by simp [List.getElem?_eq_getElem hi2]) m hm
theorem open_lsw {α:Type} {cs:α->List Value} {w':Nat} {Ok:α->Prop} {fuel:Nat} {c:List Value} {x:DataW H × List MemPlace} (ht:P.underlying t=some (.slice e)) (hc:P.cellsOf e=w')
  (he:∀ {fuel:Nat} {cs':List Value} {x:DataW H × List MemPlace},WtOk P e x.1->DataW.trod enc P w base sp held fuel e cs'=some x->∃ y:α,cs'=cs y/\Ok y) (W:WtOk P t x.1) (h:DataW.trod enc P w base sp held fuel t c=some x) :
  ∃ s:Slc,c=[Slc.v s]/\s.len<=s.cap/\s.cap<=maxLen/\s.len * P.bytesOf e<=reachBytes/\∃ ys:List α,LsAt cs w' w.heap s ys/\∀ y∈ys,Ok y:=by
 obtain ⟨s,rfl,q1,q2,q3,q5,q4⟩:=open_slw ht W h
 rw [hc] at q4
 cases ha:s.a with
 | none =>
  have:=q3 ha
  exact ⟨s,rfl,q1,q2,q5,[],⟨by simp [this],fun i y hy=>by simp at hy⟩,by simp⟩
 | some a =>
  obtain ⟨ys,hl,hz⟩:=choose_list (R:=fun i (y:α)=>CellsAt w.heap (a.add (i * w')) (cs y)/\Ok y) s.len fun i hi=>by
   obtain ⟨es,f,y,e1,e2,e3,e4⟩:=q4 a ha i hi
   obtain ⟨z,rfl,r⟩:=he e4 e3
   exact ⟨z,e2,r⟩
  refine ⟨s,rfl,q1,q2,q5,ys,⟨hl.symm,fun i y hy=>⟨a,ha,(hz i y hy).1⟩⟩,fun y hy=>?_⟩
  obtain ⟨i,hi⟩:=List.getElem?_of_mem hy
  exact (hz i y hi).2
theorem open_siw {q:IntKind} {fuel:Nat} {cs:List Value} {x:DataW H × List MemPlace} (ht:P.underlying t=some (.slice e)) (he:P.underlying e=some (.int q)) (ce:P.cellsOf e=1) (W:WtOk P t x.1) (h:DataW.trod enc P w base sp held fuel t cs=some x) :
  ∃ s:Slc,cs=[Slc.v s]/\s.len<=s.cap/\s.cap<=maxLen/\s.len * P.bytesOf e<=reachBytes/\∃ zs,SlI q w.heap s zs:=by
 obtain ⟨s,e1,a,b,c⟩:=open_si ht he ce h
 obtain ⟨s',e2,_,_,_,d,_⟩:=open_slw ht W h
 have:s=s':=by
  rw [e1] at e2
  obtain ⟨a1,l1,c1⟩:=s
  obtain ⟨a2,l2,c2⟩:=s'
  simp [Slc.v] at e2
  obtain ⟨rfl,rfl,rfl⟩:=e2
  rfl
 subst this
 exact ⟨s,e1,a,b,d,c⟩
end
end Go.Q
end

/- A part of the proof of statements of this seat: lemmas, no statement of their own. -/
import Derived.Test.YtgbbpanapnkdbaaGreatYqZbe
set_option linter.unusedVariables false
set_option linter.unusedSimpArgs false
set_option maxRecDepth 100000
section
/- Quorum: the document's example. -/
namespace Go.Q.Yq
theorem KD {a e:Ent} {i:Nat} (h:[a][i]? = some e):i=0/\e=a:=by
 cases i with
 | zero=>simp at h; exact ⟨rfl,h.symm⟩
 | succ i=>simp at h
theorem KH {k:KP Bool} {h:Heap} (H:∀ h',Ext h.size h h'->k true h'):qK k h:=by
 unfold qK
 refine Lv fun r m h2 D0 hr hm X2=>bx0 (cs:=[.int .i64 2,.int .i64 0,.int .i64 4]) fun h4 B4 X4=>?_
 have z2:=X2.size
 have z4:=X4.size
 obtain ⟨x0,ex0⟩:∃ x0:aj,x0=⟨5,1,ByteArray.empty,(⟨none,0,0⟩:Slc),(⟨ByteArray.empty,0,0,0,0⟩:aC),(⟨0,ByteArray.empty,0,([]:List Int),(⟨none,0,0⟩:Slc),0⟩:aT),0,(⟨some ⟨h2.size,0,none⟩,3,3⟩:Slc),(⟨none,0,0⟩:Slc),0,false,0,(⟨none,0,0⟩:Slc)⟩:=⟨_,rfl⟩
 rw [← ex0]
 obtain ⟨o0,eo0⟩:∃ o0:OpV,o0=⟨bare x0,[],[2,0,4],[],[],[]⟩:=⟨_,rfl⟩
 have ez:∀ {vs:Slc},vs=⟨none,0,0⟩->SlcAt h4 vs []:=fun e=>by subst e; exact ⟨fun _=>rfl,fun a ha=>by cases ha⟩
 have M0:OpM h4 x0 o0:=by
  subst eo0; subst ex0
  exact ⟨rfl,ez rfl,rfl,⟨(fun q=>by cases q),fun a ha j v hj=>by cases ha; exact B4.cl hj⟩,rfl,Nat.le_refl _,ez rfl,rfl,ez rfl,rfl,ez rfl,rfl⟩
 have Z0:OpZ o0:=by subst eo0; exact ⟨by simp,by simp,by simp,by simp,by simp⟩
 have k0:o0.x.aJ=1:=by subst eo0; subst ex0; rfl
 have n0:o0.ns=[2,0,4]:=by subst eo0; rfl
 have N0:o0.x.f_N=5:=by subst eo0; subst ex0; rfl
 have nb:¬ wm o0:=by unfold wm; rw [k0,n0]; decide
 refine Hm (D0.ext X4) M0 Z0 (by rw [n0]; decide) (fun b=>absurd b nb) (fun _ hl=>absurd rfl hl) fun _ _ g x1 h6 D1 hg S1 w1 _=>?_
 rw [N0,List.nil_append] at D1
 rw [N0] at w1
 have s0n:(eU o0).ns=[2,0,4]:=n0
 have s0y:(eU o0).ys=[]:=rfl
 have s0p:(eU o0).ps=[]:=by subst eo0; subst ex0; rfl
 have s0k:(eU o0).x.aJ=1:=k0
 have s0d:(eU o0).x.aI=false:=rfl
 have s0e:(eU o0).x.f_E=0:=rfl
 generalize eU o0=o1 at *
 have z6:=S1.size
 have lk1:look [⟨5,g,x1,o1⟩] 5=some ⟨5,g,x1,o1⟩:=rfl
 have T0:∀ (O:kQ) (h:Heap),Imm O h fun h'=>Pcs h' ⟨none,0,0⟩ []:=fun O h h' _=>⟨rfl,fun i x hx=>by simp at hx⟩
 have X6:Ext h.size h h6:=(X2.trans (X4.mono z2)).trans (S1.ext (fun b hb=>by subst hb; exact hm) (by omega))
 refine Jh (told:=[]) D1 (fun e he=>by simp at he; subst he; rw [s0n]; decide) (fun e he=>by simp at he; subst he; rw [s0y]; decide) (fun e he=>by simp at he; subst he; rw [s0p]; decide) (by decide) (T0 _ _) (fun e he _ kk=>by simp at he; subst he; rw [s0k] at kk; cases kk) (fun q=>by
  have:=q _ lk1 s0d (by rw [s0n]; decide)
  rw [s0y] at this; cases this) fun i e x2 o2 h8 hi _ _ _ _ _ Y2 D2 S2 w2 _=>?_
 obtain ⟨rfl,rfl⟩:=KD hi
 rw [show ([⟨5,g,x1,o1⟩]:List Ent).set 0 { (⟨5,g,x1,o1⟩:Ent) with x:=x2,o:=o2 } = [⟨5,g,x2,o2⟩] from rfl] at D2
 have X8:Ext h.size h h8:=X6.trans (S2.ext (fun b hb=>by have:=w1 b hb; omega) (by have:=X6.size; omega))
 have z8:=S2.size
 have w2':∀ b,Ent.own ⟨5,g,x2,o2⟩ b->h.size<=b:=fun b hb=>by
  rcases w2 b hb with q | q
  ·have:=w1 b q; omega
  ·omega
 have x2e:o2.x=o1.x:=by
  rcases Y2.x with ⟨_,q,_⟩ | ⟨q,_⟩ | ⟨q,_⟩
  ·exact q
  ·exact absurd (by rw [s0k,s0y,s0n]; decide) q
  ·exact absurd (by rw [s0k,s0y,s0n]; decide) q
 have n2:o2.ns=[2,0,4]:=Y2.ns.trans s0n
 have y2:o2.ys=[0]:=by rw [Y2.ys,s0y]; rfl
 have p2:o2.ps=[]:=by have:=Y2.ps; rw [if_neg (by rw [s0k]; decide)] at this; rw [this,s0p]
 have lk2:look [⟨5,g,x2,o2⟩] 5=some ⟨5,g,x2,o2⟩:=rfl
 refine DT D2 (fun e1 h10 he q6 q14 X10=>?_) fun i e x h10 hi _ hl hd _ _ _=>by
  rw [lk2] at hl; cases hl
  rw [show (⟨5,g,x2,o2⟩:Ent).o.x.aI=o1.x.aI from congrArg aj.aI x2e,s0d] at hd; cases hd
 rcases he with rfl | rfl
 ·have:=q6 rfl; rw [lk2] at this; cases this
 have z10:=X10.size
 refine bx rfl (by decide) fun h13 P13 X13=>?_
 have z13:=X13.size
 have D3:=(D2.ext X10).ext X13
 have X013:Ext h.size h h13:=(X8.trans (X10.mono (by have:=X8.size; omega))).trans (X13.mono (by have:=X8.size; omega))
 refine Jh (told:=[]) D3 (fun e he=>by simp at he; subst he; rw [n2]; decide) (fun e he=>by simp at he; subst he; rw [y2]; decide) (fun e he=>by simp at he; subst he; rw [p2]; decide) (by decide) (T0 _ _) (fun e he _ kk=>by simp at he; subst he; rw [x2e,s0k] at kk; cases kk) (fun q=>by
  have:=q _ lk2 (by rw [x2e]; exact s0d) (by rw [n2]; decide)
  rw [y2] at this; simp at this) fun i e x3 o3 h15 hi _ _ _ _ _ Y3 D4 S4 w3 _=>?_
 obtain ⟨rfl,rfl⟩:=KD hi
 rw [show ([⟨5,g,x2,o2⟩]:List Ent).set 0 { (⟨5,g,x2,o2⟩:Ent) with x:=x3,o:=o3 } = [⟨5,g,x3,o3⟩] from rfl] at D4
 have X015:Ext h.size h h15:=X013.trans (S4.ext w2' (by have:=X013.size; omega))
 have x3e:o3.x = { o1.x with aI:=true }:=by
  have kk:o2.x.aJ=1:=by rw [x2e,s0k]
  rcases Y3.x with ⟨q,_⟩ | ⟨_,_,q,_⟩ | ⟨_,q,_⟩
  ·dsimp only at q; rw [kk,y2,n2] at q; exact absurd q (by decide)
  ·rw [← x2e]; exact q
  ·dsimp only at q; rw [kk] at q; cases q
 have lk3:look [⟨5,g,x3,o3⟩] 5=some ⟨5,g,x3,o3⟩:=rfl
 have d3:o3.x.aI=true:=by rw [x3e]
 have er3:o3.x.f_E=0:=by rw [x3e]; exact s0e
 refine DT D4 (fun e1 h17 he q6 q14 X17=>by
  rcases he with rfl | rfl
  ·have:=q6 rfl; rw [lk3] at this; cases this
  ·obtain ⟨a,ha,hd⟩:=q14 rfl
   rw [lk3] at ha; cases ha
   rw [d3] at hd; cases hd) fun i e x h17 hi _ hl hd M F X17=>?_
 rw [lk3] at hl; cases hl
 have xd:x.aI=true:=by have:x.aI=(bare x).aI:=rfl; rw [this,M.e]; exact d3
 have xe:x.f_E=0:=by have:x.f_E=(bare x).f_E:=rfl; rw [this,M.e]; exact er3
 refine bx (cs:=aj.cs x) rfl (by decide) fun h20 P20 X20=>?_
 have z15:=X015.size
 have z17:=X17.size
 have fin:=H h20 ((X015.trans (X17.mono (by omega))).trans (X20.mono (by omega)))
 rw [if_pos (by simp)]
 refine ⟨x.aI,P20.cl rfl,?_⟩
 unfold qO
 rw [xd,if_pos rfl]
 refine ⟨x.f_E,P20.cl rfl,?_⟩
 unfold rT
 rw [xe]
 exact fin
end Go.Q.Yq
end
section
/- Quorum: what is done stays as it is, plainly. -/
namespace Go.Q.Yq
/-- what is known of a desk's ops behind c acts -/
structure EP (c:Nat) (e:Ent):Prop where
 ns:e.o.ns.length<=40
 ys:e.o.ys.length<=c
 ps:e.o.ps.length<=20 * c
 pk:∀ p∈e.o.ps,p.ak.size<=400/\bJ p.f_V/\bJ p.f_T
 s:e.o.x.f_Q.dF.size<=300
 t:bJ e.o.x.f_Q.aX
theorem EP.mono {c c':Nat} {e:Ent} (P:EP c e) (h:c<=c'):EP c' e:={ P with ys:=Nat.le_trans P.ys h,ps:=Nat.le_trans P.ps (by omega) }
theorem EP.tick {c:Nat} {e:Ent} (P:EP c e) (be:bare e.x=e.o.x):EP c (iR e):=by
 have q:(iR e).o.x.f_Q=e.o.x.f_Q:=by
  unfold iR
  split
  ·rfl
  ·rw [← be]; unfold uf; dsimp only; split <;> rfl
 have o1:(iR e).o.ns=e.o.ns/\(iR e).o.ys=e.o.ys/\(iR e).o.ps=e.o.ps:=by unfold iR; split <;> exact ⟨rfl,rfl,rfl⟩
 exact ⟨by rw [o1.1]; exact P.ns,by rw [o1.2.1]; exact P.ys,by rw [o1.2.2]; exact P.ps,by rw [o1.2.2]; exact P.pk,by rw [q]; exact P.s,by rw [q]; exact P.t⟩
theorem EP.yes {c:Nat} {e:Ent} {node:Int} {told:List ae} {x':aj} {o':OpV} (P:EP c e) (Y:OT e.o node told o') (tl:told.length<=20) (tk:∀ p∈told,p.ak.size<=400/\bJ p.f_V/\bJ p.f_T):EP (c + 1) { e with x:=x',o:=o' }:=by
 have q:o'.x.f_Q=e.o.x.f_Q:=by
  rcases Y.x with ⟨_,q,_⟩ | ⟨_,_,q,_⟩ | ⟨_,_,_,_,q,_⟩ <;> rw [q]
 have pm:o'.ps.length<=20 * (c + 1)/\∀ p∈o'.ps,p.ak.size<=400/\bJ p.f_V/\bJ p.f_T:=by
  have h:=Y.ps
  split at h
  ·refine ⟨by have:=h.len; rw [List.length_append] at this; have:=P.ps; omega,fun p hp=>?_⟩
   rcases List.mem_append.1 (h.sub p hp) with hp | hp
   ·exact P.pk p hp
   ·exact tk p hp
  ·rw [h]; exact ⟨by have:=P.ps; omega,P.pk⟩
 exact ⟨by show o'.ns.length<=40; rw [Y.ns]; exact P.ns,by show o'.ys.length<=c + 1; rw [Y.ys,List.length_append]; have:=P.ys; simp; omega,pm.1,pm.2,by show o'.x.f_Q.dF.size<=300; rw [q]; exact P.s,by show bJ o'.x.f_Q.aX; rw [q]; exact P.t⟩
/-- what a query is run over is no more than it bears -/
theorem EP.run {c:Nat} {e:Ent} {told ps:List ae} (P:EP c e) (hc:c<=30) (tl:told.length<=20) (tk:∀ p∈told,p.ak.size<=400/\bJ p.f_V/\bJ p.f_T) (M:nK (e.o.ps ++ told) ps):Jb e.o.x.f_Q ps:=by
 refine ⟨by have:=M.len; rw [List.length_append] at this; have:=P.ps; omega,by have:=P.s; omega,fun p hp=>?_,P.t⟩
 have key:p.ak.size<=400/\bJ p.f_V/\bJ p.f_T:=by
  rcases List.mem_append.1 (M.sub p hp) with hp | hp
  ·exact P.pk p hp
  ·exact tk p hp
 exact ⟨by have:=key.1; omega,key.2⟩
end Go.Q.Yq
end
section
/- The two desks beside each other. -/
namespace Go.Q.Yq
open Go.Q.Rw
theorem Nf {O:kQ} {h:Heap} {t:Slc} {vs:List Value} (I:Imm O h fun h'=>SlcAt h' t vs):vs=[]∨∀ b,t.blk=some b->¬ O b:=by
 cases vs with
 | nil=>exact .inl rfl
 | cons v r =>
  refine .inr fun b hb ob=>?_
  have c:=I.now
  cases ha:t.a with
  | none=>have:=c.1 ha; cases this
  | some a =>
   have c0:=c.2 a ha 0 v rfl
   have ab:(a.add 0).block=a.block:=by unfold Addr.add; split <;> rfl
   have eb:a.block=b:=by unfold Slc.blk at hb; rw [ha] at hb; exact Option.some.inj hb
   have lt:=om c0
   rw [ab,eb] at lt
   have st:Stp O h (h.set b (.map #[] 0) lt):=⟨by simp,fun g hg hn=>by rw [Array.getElem?_set_ne]; exact fun q=>hn (q ▸ ob)⟩
   have c1:=(I _ st).2 a ha 0 v rfl
   unfold ah at c1
   rw [ab,eb,Array.getElem?_set_self] at c1
   cases c1
theorem CE {O W:kQ} {h h':Heap} {t:Slc} {vs:List Value} (I:Imm O h fun h'=>SlcAt h' t vs) (st:Stp W h h') (n:vs≠[]->∀ b,t.blk=some b->¬ W b):Imm O h' fun h'=>SlcAt h' t vs:=by
 have triv:vs=[]->Imm O h' fun h'=>SlcAt h' t vs:=fun q=>by
  subst q
  exact fun h'' _=>⟨fun _=>rfl,fun a ha j v hj=>by simp at hj⟩
 rcases Nf I with q | q
 ·exact triv q
 ·by_cases e:vs=[]
  ·exact triv e
  ·exact fun h'' s2=>xz (O:=fun b=>W b∨O b) I.now (fun b hb ob=>ob.elim (n e b hb) (q b hb)) h'' ((st.mono fun b hb=>.inl (.inl hb)).trans' (s2.mono fun b hb=>.inl (.inr hb)))
theorem NZ {α:Type} {f:α->List Value} {l:List α} (h:l.flatMap f≠[]):l≠[]:=fun q=>h (by rw [q]; rfl)
theorem Oi {α:Type} {f:α->Value} {l:List α} (h:l.map f≠[]):l≠[]:=fun q=>h (by rw [q]; rfl)
/-- what others do -/
theorem gW.Gz {W:kQ} {h h':Heap} {r m:Nat} {E:List Ent} (D:gW h r m E) (st:Stp W h h') (off:∀ b,fG r m E b->¬ W b) (sl:∀ e∈E,∀ b,Slo e.x e.o b->¬ W b):gW h' r m E :=
 ⟨st.blk D.P (off r (.inl rfl)),D.M.old (st.block m D.M.lt (off m (.inr (.inl rfl)))),D.rm,D.nd,D.dis,D.off,fun e he =>
  have K:=D.ok e he
  have I:=K.I
  { K with
   B:=st.blk K.B (off _ (.inr (.inr ⟨e,he,.inl rfl⟩)))
   Y:=st.row K.Y fun b hb=>off b (.inr (.inr ⟨e,he,.inr hb⟩))
   I:=((CE (I.imp fun _ q=>q.1) st fun w b hb=>sl e he b (.inl ⟨hb,NZ w⟩)).and ((CE (I.imp fun _ q=>q.2.1) st fun w b hb=>sl e he b (.inr (.inl ⟨hb,Oi w⟩))).and ((CE (I.imp fun _ q=>q.2.2.1) st fun w b hb=>sl e he b (.inr (.inr (.inl ⟨hb,NZ w⟩)))).and (CE (I.imp fun _ q=>q.2.2.2) st fun w b hb=>sl e he b (.inr (.inr (.inr ⟨hb,Oi w⟩))))))) }⟩
theorem GM {h:Heap} {t:Slc} {vs:List Value} (S:SlcAt h t vs) (ne:vs≠[]) {b:Nat} (hb:t.blk=some b):b < h.size:=by
 cases vs with
 | nil=>exact absurd rfl ne
 | cons v r =>
  cases ha:t.a with
  | none=>have:=S.1 ha; cases this
  | some a =>
   have lt:=om (S.2 a ha 0 v rfl)
   have ab:(a.add 0).block=a.block:=by unfold Addr.add; split <;> rfl
   unfold Slc.blk at hb; rw [ha] at hb
   have:=Option.some.inj hb
   omega
theorem K8 {α:Type} {f:α->List Value} (hf:∀ x,f x≠[]) {l:List α} (h:l≠[]):l.flatMap f≠[]:=by
 cases l with
 | nil=>exact absurd rfl h
 | cons x r=>rw [List.flatMap_cons]; exact fun q=>hf x (List.append_eq_nil_iff.1 q).1
theorem uP.slo {O:kQ} {h:Heap} {e:Ent} (K:uP O h e) {b:Nat} (hb:Slo e.x e.o b):b < h.size:=by
 have M:=K.m
 rcases hb with ⟨q,w⟩ | ⟨q,w⟩ | ⟨q,w⟩ | ⟨q,w⟩
 ·exact GM M.p (K8 (fun x=>by simp [ae.cs]) w) q
 ·exact GM M.n (by simpa using w) q
 ·exact GM M.r (K8 (fun x=>by simp [aH.cs]) w) q
 ·exact GM M.w (by simpa using w) q
/-- both desks have the same ops -/
def Mt (E:List Ent) (L:List RE):Prop:=∀ o:OpV,(∃ e∈E,e.o=o) ↔ ∃ f∈L,f.o=o
def Ar (L:List RE):Prop:=L.Pairwise fun a b=>a.o.x.f_N < b.o.x.f_N
section
variable {E:List Ent} {L:List RE}
theorem Ar.uniq (S:Ar L) {i j:Nat} {a b:RE} (hi:L[i]? = some a) (hj:L[j]? = some b) (e:a.o.x.f_N=b.o.x.f_N):i=j:=by
 obtain ⟨hi',rfl⟩:=List.getElem?_eq_some_iff.1 hi
 obtain ⟨hj',rfl⟩:=List.getElem?_eq_some_iff.1 hj
 rcases Nat.lt_trichotomy i j with lt | h | lt
 ·have:=List.pairwise_iff_getElem.1 S i j hi' hj' lt; omega
 ·exact h
 ·have:=List.pairwise_iff_getElem.1 S j i hj' hi' lt; omega
theorem Mt.set (M:Mt E L) (nd:(E.map (·.n)).Nodup) (kE:∀ e∈E,e.o.x.f_N=e.n) (S:Ar L) {i j:Nat} {e e':Ent} {f f':RE} (hi:E[i]? = some e) (hj:L[j]? = some f) (q:e.o=f.o) (q':e'.o=f'.o):Mt (E.set i e') (L.set j f'):=fun o=>by
 have il:=(List.getElem?_eq_some_iff.1 hi).1
 have jl:=(List.getElem?_eq_some_iff.1 hj).1
 have kf:f.o.x.f_N=e.n:=by rw [← q]; exact kE e (List.mem_of_getElem? hi)
 constructor
 ·rintro ⟨a,ha,rfl⟩
  obtain ⟨p,hp⟩:=List.getElem?_of_mem ha
  by_cases pi:p=i
  ·subst pi; rw [List.getElem?_set_self il] at hp; cases hp
   exact ⟨f',List.mem_of_getElem? (List.getElem?_set_self jl),q'.symm⟩
  ·rw [List.getElem?_set_ne (fun x=>pi x.symm)] at hp
   obtain ⟨g,hg,eg⟩:=(M a.o).1 ⟨a,List.mem_of_getElem? hp,rfl⟩
   obtain ⟨t,ht⟩:=List.getElem?_of_mem hg
   have tj:t≠j:=fun x=>by
    subst x; rw [hj] at ht; cases ht
    have:=kE a (List.mem_of_getElem? hp)
    rw [← eg,kf] at this
    exact pi (Mj nd hp hi this.symm)
   exact ⟨g,List.mem_of_getElem? (by rw [List.getElem?_set_ne (fun x=>tj x.symm)]; exact ht),eg⟩
 ·rintro ⟨a,ha,rfl⟩
  obtain ⟨p,hp⟩:=List.getElem?_of_mem ha
  by_cases pj:p=j
  ·subst pj; rw [List.getElem?_set_self jl] at hp; cases hp
   exact ⟨e',List.mem_of_getElem? (List.getElem?_set_self il),q'⟩
  ·rw [List.getElem?_set_ne (fun x=>pj x.symm)] at hp
   obtain ⟨g,hg,eg⟩:=(M a.o).2 ⟨a,List.mem_of_getElem? hp,rfl⟩
   obtain ⟨t,ht⟩:=List.getElem?_of_mem hg
   have ti:t≠i:=fun x=>by
    subst x; rw [hi] at ht; cases ht
    exact pj (S.uniq hp hj (by rw [← eg,q]))
   exact ⟨g,List.mem_of_getElem? (by rw [List.getElem?_set_ne (fun x=>ti x.symm)]; exact ht),eg⟩
theorem CU {n:Int} {f a:RE}:a∈Bf L n f ↔ a∈L∨a=f:=by
 unfold Bf
 rw [List.mem_append,List.mem_cons]
 have:a∈L ↔ a∈L.takeWhile (fun f=>decide (f.x.f_N < n))∨a∈L.dropWhile (fun f=>decide (f.x.f_N < n)):=by
  conv=>lhs; rw [← List.takeWhile_append_dropWhile (p:=fun f:RE=>decide (f.x.f_N < n)) (l:=L),List.mem_append]
 rw [this]
 constructor
 ·rintro (h | h | h)
  ·exact .inl (.inl h)
  ·exact .inr h
  ·exact .inl (.inr h)
 ·rintro ((h | h) | h)
  ·exact .inl h
  ·exact .inr (.inr h)
  ·exact .inr (.inl h)
theorem Mt.ins (M:Mt E L) {n:Int} {e:Ent} {f:RE} (q:e.o=f.o):Mt (E ++ [e]) (Bf L n f):=fun o=>by
 constructor
 ·rintro ⟨a,ha,rfl⟩
  rcases List.mem_append.1 ha with ha | ha
  ·obtain ⟨g,hg,eg⟩:=(M a.o).1 ⟨a,ha,rfl⟩
   exact ⟨g,CU.2 (.inl hg),eg⟩
  ·simp at ha; subst ha; exact ⟨f,CU.2 (.inr rfl),q.symm⟩
 ·rintro ⟨a,ha,rfl⟩
  rcases CU.1 ha with ha | rfl
  ·obtain ⟨g,hg,eg⟩:=(M a.o).2 ⟨a,ha,rfl⟩
   exact ⟨g,List.mem_append_left _ hg,eg⟩
  ·exact ⟨e,by simp,q⟩
theorem Mt.tick (M:Mt E L) (be:∀ e∈E,bare e.x=e.o.x):Mt (E.map iR) (L.map qL):=fun o=>by
 constructor
 ·rintro ⟨a,ha,rfl⟩
  obtain ⟨e,he,rfl⟩:=List.mem_map.1 ha
  obtain ⟨g,hg,eg⟩:=(M e.o).1 ⟨e,he,rfl⟩
  exact ⟨qL g,List.mem_map.2 ⟨g,hg,rfl⟩,by rw [Eu,JM e (be e he),eg]⟩
 ·rintro ⟨a,ha,rfl⟩
  obtain ⟨e,he,rfl⟩:=List.mem_map.1 ha
  obtain ⟨g,hg,eg⟩:=(M e.o).2 ⟨e,he,rfl⟩
  exact ⟨iR g,List.mem_map.2 ⟨g,hg,rfl⟩,by rw [Eu,JM g (be g hg),eg]⟩
theorem JJ (o:OpV):(Gb o).x.f_N=o.x.f_N:=by unfold Gb uf; split; rfl; dsimp only; split <;> rfl
theorem Ar.tick (S:Ar L):Ar (L.map qL):=by
 unfold Ar at *
 rw [List.pairwise_map]
 exact S.imp fun {a b} h=>by rw [Eu,Eu,JJ,JJ]; exact h
theorem Ar.set (S:Ar L) {j:Nat} {f f':RE} (hj:L[j]? = some f) (q:f'.o.x.f_N=f.o.x.f_N):Ar (L.set j f'):=by
 unfold Ar at *
 have e:(L.set j f').map (fun a=>a.o.x.f_N)=L.map (fun a=>a.o.x.f_N):=by
  rw [List.map_set,Di (by rw [List.getElem?_map,hj,q]; rfl)]
 have h1:(L.map fun a=>a.o.x.f_N).Pairwise (· < ·):=List.pairwise_map.2 S
 rw [← e] at h1
 exact List.pairwise_map.1 h1
theorem Ar.ins (S:Ar L) {f:RE} (kL:∀ e∈L,e.x.f_N=e.o.x.f_N) (ne:∀ e∈L,e.x.f_N≠f.o.x.f_N):Ar (Bf L f.o.x.f_N f):=by
 have key:∀ (L:List RE),Ar L->(∀ e∈L,e.x.f_N=e.o.x.f_N)->(∀ e∈L,e.x.f_N≠f.o.x.f_N)->Ar (Bf L f.o.x.f_N f):=by
  intro L
  induction L with
  | nil=>intro _ _ _; exact List.pairwise_singleton _ _
  | cons a r ih =>
   intro S kL ne
   obtain ⟨s1,s2⟩:=List.pairwise_cons.1 S
   have ka:=kL a (by simp)
   have na:=ne a (by simp)
   by_cases c:a.x.f_N < f.o.x.f_N
   ·have:Bf (a :: r) f.o.x.f_N f=a :: Bf r f.o.x.f_N f:=by
     unfold Bf; rw [List.takeWhile_cons_of_pos (by simpa using c),List.dropWhile_cons_of_pos (by simpa using c)]; rfl
    rw [this]
    refine List.pairwise_cons.2 ⟨fun b hb=>?_,ih s2 (fun e he=>kL e (by simp [he])) (fun e he=>ne e (by simp [he]))⟩
    rcases CU.1 hb with hb | rfl
    ·exact s1 b hb
    ·omega
   ·have:Bf (a :: r) f.o.x.f_N f=f :: a :: r:=by
     unfold Bf; rw [List.takeWhile_cons_of_neg (by simpa using c),List.dropWhile_cons_of_neg (by simpa using c)]; rfl
    rw [this]
    refine List.pairwise_cons.2 ⟨fun b hb=>?_,S⟩
    rcases List.mem_cons.1 hb with rfl | hb
    ·omega
    ·have:=s1 b hb; omega
 exact key L S kL ne
theorem Oh:∀ {a b:List Int},a.Pairwise (· < ·)->b.Pairwise (· < ·)->(∀ z,z∈a ↔ z∈b)->a=b
 | [],[],_,_,_=>rfl
 | [],y :: b,_,_,h=>by have:=(h y).2 List.mem_cons_self; cases this
 | x :: a,[],_,_,h=>by have:=(h x).1 List.mem_cons_self; cases this
 | x :: a,y :: b,ha,hb,h=>by
  obtain ⟨a1,a2⟩:=List.pairwise_cons.1 ha
  obtain ⟨b1,b2⟩:=List.pairwise_cons.1 hb
  have e:x=y:=by
   rcases List.mem_cons.1 ((h x).1 List.mem_cons_self) with e | hx
   ·exact e
   ·rcases List.mem_cons.1 ((h y).2 List.mem_cons_self) with e | hy
    ·exact e.symm
    ·have:=b1 x hx; have:=a1 y hy; omega
  subst e
  congr 1
  refine Oh a2 b2 fun z=>⟨fun hz=>?_,fun hz=>?_⟩
  ·rcases List.mem_cons.1 ((h z).1 (List.mem_cons_of_mem _ hz)) with e | hz2
   ·subst e; have:=a1 z hz; omega
   ·exact hz2
  ·rcases List.mem_cons.1 ((h z).2 (List.mem_cons_of_mem _ hz)) with e | hz2
   ·subst e; have:=b1 z hz; omega
   ·exact hz2
theorem PE (M:Mt E L) (nd:(E.map (·.n)).Nodup) (kE:∀ e∈E,e.o.x.f_N=e.n) (S:Ar L) {nums:List Int} (hp:nums.Perm (E.map (·.n))) (pw:nums.Pairwise (·<=·)):nums.flatMap (mK E)=L.flatMap fun f=>wants f.o:=by
 have hn:nums.Nodup:=(hp.nodup_iff).2 nd
 have lt:nums.Pairwise (· < ·):=by
  have:=List.nodup_iff_pairwise_ne.1 hn
  exact (pw.and this).imp fun {a b} ⟨h1,h2⟩=>by omega
 have e:nums=L.map fun f=>f.o.x.f_N:=by
  refine Oh lt (List.pairwise_map.2 S) fun z=>⟨fun hz=>?_,fun hz=>?_⟩
  ·obtain ⟨e,he,rfl⟩:=List.mem_map.1 (hp.subset hz)
   obtain ⟨g,hg,eg⟩:=(M e.o).1 ⟨e,he,rfl⟩
   exact List.mem_map.2 ⟨g,hg,by rw [eg]; exact kE e he⟩
  ·obtain ⟨g,hg,rfl⟩:=List.mem_map.1 hz
   obtain ⟨e,he,eg⟩:=(M g.o).2 ⟨g,hg,rfl⟩
   exact hp.symm.subset (List.mem_map.2 ⟨e,he,by rw [← eg]; exact (kE e he).symm⟩)
 rw [e,List.flatMap_map]
 unfold List.flatMap
 congr 1
 refine List.map_congr_left fun f hf=>?_
 obtain ⟨e,he,eg⟩:=(M f.o).2 ⟨f,hf,rfl⟩
 obtain ⟨j,hj⟩:=List.getElem?_of_mem he
 have:look E f.o.x.f_N=some e:=by rw [← eg,kE e he]; exact Ev nd hj
 unfold mK
 rw [this]; dsimp only; rw [eg]
end
end Go.Q.Yq
end
section
/- QuorumPlays: what is known of both desks; one act. -/
namespace Go.Q.Yq
open Go.Q.Rw
structure PS (h0 h:Heap) (r m d c:Nat) (s:Slc) (E:List Ent) (L:List RE):Prop where
 D:gW h r m E
 X:Ext h0.size h0 h
 o:∀ b,fG r m E b->h0.size<=b
 l:E.length<=c
 p:∀ e∈E,EP c e
 R:fP (fG r m E) h d s L
 off:∀ b,(b=d∨s.blk=some b)->h0.size<=b/\¬ fG r m E b
 sl:∀ e∈E,∀ b,Slo e.x e.o b->¬ (b=d∨s.blk=some b)
 mt:Mt E L
 srt:Ar L
/-- an act that came in -/
structure OG (h:Heap) (a:S_quaestorlaw31_Act) (l:List ae) (o:OpV):Prop where
 L:Pcs h a.f_L l
 O:OpM h a.f_O o
 Z:OpZ o
 lk:∀ p∈l,bJ p.f_V/\bJ p.f_T
 pk:∀ p∈o.ps,bJ p.f_V/\bJ p.f_T
 t:bJ a.f_O.f_Q.aX
theorem KZ {e:Ent} {b:Nat} (h:(iR e).own b):e.own b:=by
 unfold Ent.own iR uf at *
 split at h
 ·exact h
 ·dsimp only at h
  split at h <;> exact h
theorem Ow {e:Ent} {b:Nat} (h:Slo (iR e).x (iR e).o b):Slo e.x e.o b:=by
 unfold Slo iR uf at *
 split at h
 ·exact h
 ·dsimp only at h
  split at h <;> exact h
section
variable {h0 h:Heap} {r m d c:Nat} {s:Slc} {E:List Ent} {L:List RE}
theorem PS.kE (S:PS h0 h r m d c s E L):∀ e∈E,e.o.x.f_N=e.n:=fun e he=>by have K:=S.D.ok e he; rw [← K.be]; exact K.n
theorem PS.kL (S:PS h0 h r m d c s E L):∀ f∈L,f.x.f_N=f.o.x.f_N:=fun f hf=>by rw [← (S.R.m hf).e]; rfl
theorem PS.bL (S:PS h0 h r m d c s E L) {f:RE} (hf:f∈L):∃ e∈E,e.o=f.o:=(S.mt f.o).2 ⟨f,hf,rfl⟩
theorem PS.len (S:PS h0 h r m d c s E L):L.length<=E.length:=by
 have h1:(L.map fun f=>f.o.x.f_N).Nodup:=by
  rw [List.nodup_iff_pairwise_ne]
  exact (List.pairwise_map.2 S.srt:(L.map fun f=>f.o.x.f_N).Pairwise (· < ·)).imp fun {a b} h=>by omega
 have:=BL (l:=E.map (·.n)) h1 fun z hz=>by
  obtain ⟨f,hf,rfl⟩:=List.mem_map.1 hz
  obtain ⟨e,he,q⟩:=S.bL hf
  exact List.mem_map.2 ⟨e,he,by rw [← q]; exact (S.kE e he).symm⟩
 simpa using this
theorem PS.find (S:PS h0 h r m d c s E L) {e:Ent} (he:e∈E):look E e.o.x.f_N=some e:=by
 obtain ⟨j,hj⟩:=List.getElem?_of_mem he
 rw [S.kE e he]; exact Ev S.D.nd hj
theorem PS.grow {h':Heap} (S:PS h0 h r m d c s E L) (X:Ext h.size h h'):PS h0 h' r m d c s E L :=
 ⟨S.D.ext X,S.X.trans (X.mono S.X.size),S.o,S.l,S.p,S.R.ext X,S.off,S.sl,S.mt,S.srt⟩
theorem PS.more (S:PS h0 h r m d c s E L):PS h0 h r m d (c + 1) s E L :=
 ⟨S.D,S.X,S.o,Nat.le_succ_of_le S.l,fun e he=>(S.p e he).mono (Nat.le_succ _),S.R,S.off,S.sl,S.mt,S.srt⟩
/-- the document's desk, behind a step of the other one -/
theorem PS.Nz {h':Heap} {E':List Ent} (S:PS h0 h r m d c s E L) (st:Stp (fG r m E) h h') (sub:∀ b,fG r m E' b->fG r m E b∨h.size<=b):fP (fG r m E') h' d s L :=
 S.R.stp st (fun q=>(S.off d (.inl rfl)).2 q) (fun b hb q=>(S.off b (.inr hb)).2 q) sub
/-- all is as before, but for one op of both -/
theorem PS.turn {h1 h2:Heap} {i j:Nat} {e e':Ent} {f f':RE} (S:PS h0 h r m d c s E L) (hi:E[i]? = some e) (hj:L[j]? = some f) (q:e.o=f.o) (q':e'.o=f'.o) (en:e'.n=e.n) (D1:gW h1 r m (E.set i e')) (s1:Stp e.own h h1) (eo:∀ b,e'.own b->e.own b∨h.size<=b) (sl':∀ b,Slo e'.x e'.o b->Slo e.x e.o b∨h.size<=b) (pe:EP (c + 1) e')
  (R2:fP (fG r m (E.set i e')) h2 d s (L.set j f')) (s2:Stp (fun b=>s.blk=some b) h1 h2):PS h0 h2 r m d (c + 1) s (E.set i e') (L.set j f'):=by
 have he:=List.mem_of_getElem? hi
 have il:=(List.getElem?_eq_some_iff.1 hi).1
 have sub:=BG (r:=r) (m:=m) hi eo
 have zs:∀ b,(b=d∨s.blk=some b)->b < h.size:=fun b hb=>S.R.lt hb
 have z1:=s1.size
 have off':∀ b,(b=d∨s.blk=some b)->h0.size<=b/\¬ fG r m (E.set i e') b:=fun b hb=>⟨(S.off b hb).1,fun q=>(sub b q).elim (S.off b hb).2 fun q=>by have:=zs b hb; omega⟩
 have slA:∀ a∈E.set i e',∀ b,Slo a.x a.o b->¬ (b=d∨s.blk=some b):=fun a ha b hb hc=>by
  rcases List.mem_or_eq_of_mem_set ha with ha | rfl
  ·exact S.sl a ha b hb hc
  ·rcases sl' b hb with q | q
   ·exact S.sl e he b q hc
   ·have:=zs b hc; omega
 have st1:Stp (fG r m E) h h1:=s1.mono fun b hb=>.inl (.inr (.inr ⟨e,he,hb⟩))
 have X1:Ext h0.size h0 h1:=S.X.trans (st1.ext S.o S.X.size)
 have kN:e'.o.x.f_N=e.n:=by
  have K:=D1.ok e' (List.mem_of_getElem? (List.getElem?_set_self il))
  rw [← K.be,← en]; exact K.n
 refine ⟨D1.Gz s2 (fun b hb q=>(off' b (.inr q)).2 hb) (fun a ha b hb q=>slA a ha b hb (.inr q)),X1.trans (s2.ext (fun b hb=>(S.off b (.inr hb)).1) X1.size),fun b hb=>?_,by rw [List.length_set]; exact Nat.le_succ_of_le S.l,fun a ha=>?_,R2,off',slA,S.mt.set S.D.nd S.kE S.srt hi hj q q',S.srt.set hj ?_⟩
 ·rcases sub b hb with q | q
  ·exact S.o b q
  ·have:=S.X.size; omega
 ·rcases List.mem_or_eq_of_mem_set ha with ha | rfl
  ·exact (S.p a ha).mono (Nat.le_succ _)
  ·exact pe
 ·rw [← q',kN,← S.kE e he,q]
end
end Go.Q.Yq
end
section
/- QuorumPlays: one act of both desks. -/
namespace Go.Q.Yq
open Go.Q.Rw
theorem OX {e:Ent} (be:bare e.x=e.o.x) (er:Int):(Kw e er).o=Mv e.o er:=by
 unfold Kw Mv
 dsimp only
 rw [← be]; rfl
section
variable {h0 h:Heap} {r m d c:Nat} {s:Slc} {E:List Ent} {L:List RE}
theorem PS.at' (S:PS h0 h r m d c s E L) {e:Ent} (he:e∈E):∃ (j:Nat) (f:RE),L[j]? = some f/\f.o=e.o:=by
 obtain ⟨f,hf,q⟩:=(S.mt e.o).1 ⟨e,he,rfl⟩
 obtain ⟨j,hj⟩:=List.getElem?_of_mem hf
 exact ⟨j,f,hj,q⟩
theorem PS.same (S:PS h0 h r m d c s E L) {e:Ent} (he:e∈E) {f:RE} (hf:f∈L) (q:f.x.f_N=e.n):f.o=e.o:=by
 obtain ⟨j,g,hj,eg⟩:=S.at' he
 obtain ⟨i,hi⟩:=List.getElem?_of_mem hf
 have:=S.srt.uniq hi hj (by rw [eg,S.kE e he,← S.kL f hf,q])
 subst this
 rw [hi] at hj; cases hj; exact eg
/-- what none of the document's ops is, none is -/
theorem PS.no (S:PS h0 h r m d c s E L) {n:Int} {P:OpV->Prop} {e:Ent} (he:e∈E) (en:e.n=n) (h:NoR L n P):P e.o:=by
 rcases h with h | ⟨f,hf,q,p⟩
 ·obtain ⟨j,f,hj,q⟩:=S.at' he
  have hf:=List.mem_of_getElem? hj
  exact absurd (by rw [S.kL f hf,q,S.kE e he,en]) (h f hf)
 ·rw [← S.same he hf (q.trans en.symm)]; exact p
theorem PS.Ho (S:PS h0 h r m d c s E L) {f:RE} (hf:f∈L):∃ e,e∈E/\look E f.x.f_N=some e/\e.o=f.o:=by
 obtain ⟨e,he,q⟩:=S.bL hf
 exact ⟨e,he,by rw [S.kL f hf,← q]; exact S.find he,q⟩
theorem PS.pL (S:PS h0 h r m d c s E L) {f:RE} (hf:f∈L):f.o.ns.length<=40/\f.o.ys.length<=c/\f.o.ps.length<=20 * c:=by
 obtain ⟨e,he,q⟩:=S.bL hf
 have P:=S.p e he
 rw [← q]; exact ⟨P.ns,P.ys,P.ps⟩
theorem PS.tick {h1 h2:Heap} (S:PS h0 h r m d c s E L) (D1:gW h1 r m (E.map iR)) (s1:Stp (fG r m E) h h1) (R2:fP (fG r m (E.map iR)) h2 d s (L.map qL)) (s2:Stp (fun b=>s.blk=some b) h1 h2):PS h0 h2 r m d c s (E.map iR) (L.map qL):=by
 have sub:∀ b,fG r m (E.map iR) b->fG r m E b:=fun b hb=>by
  rcases hb with hb | hb | ⟨e,he,hb⟩
  ·exact .inl hb
  ·exact .inr (.inl hb)
  ·obtain ⟨e1,h1,rfl⟩:=List.mem_map.1 he
   exact .inr (.inr ⟨e1,h1,KZ hb⟩)
 have slA:∀ a∈E.map iR,∀ b,Slo a.x a.o b->¬ (b=d∨s.blk=some b):=fun a ha b hb hc=>by
  obtain ⟨e1,h1,rfl⟩:=List.mem_map.1 ha
  exact S.sl e1 h1 b (Ow hb) hc
 have off':∀ b,(b=d∨s.blk=some b)->h0.size<=b/\¬ fG r m (E.map iR) b:=fun b hb=>⟨(S.off b hb).1,fun q=>(S.off b hb).2 (sub b q)⟩
 have X1:Ext h0.size h0 h1:=S.X.trans (s1.ext S.o S.X.size)
 exact ⟨D1.Gz s2 (fun b hb q=>(off' b (.inr q)).2 hb) (fun a ha b hb q=>slA a ha b hb (.inr q)),X1.trans (s2.ext (fun b hb=>(S.off b (.inr hb)).1) X1.size),fun b hb=>S.o b (sub b hb),by rw [List.length_map]; exact S.l,fun e he=>by
  obtain ⟨e1,h1,rfl⟩:=List.mem_map.1 he
  exact (S.p e1 h1).tick (S.D.ok e1 h1).be,R2,off',slA,S.mt.tick fun e he=>(S.D.ok e he).be,S.srt.tick⟩
theorem PS.start {h1 h2:Heap} {g:Nat} {x' x'':aj} {o:OpV} {s':Slc} (S:PS h0 h r m d c s E L) (D1:gW h1 r m (E ++ [⟨o.x.f_N,g,x',eU o⟩])) (s1:Stp (fun b=>b=m) h h1) (w:∀ b,Ent.own ⟨o.x.f_N,g,x',eU o⟩ b->h.size<=b) (sl':∀ b,Slo x' (eU o) b->h.size<=b) (pe:EP (c + 1) ⟨o.x.f_N,g,x',eU o⟩)
  (R2:fP (fG r m (E ++ [⟨o.x.f_N,g,x',eU o⟩])) h2 d s' (Bf L o.x.f_N ⟨x'',eU o⟩)) (nn:∀ e∈L,e.x.f_N≠o.x.f_N) (s2:Stp (fun b=>b=d) h1 h2) (sb:∀ b,s'.blk=some b->h1.size<=b):PS h0 h2 r m d (c + 1) s' (E ++ [⟨o.x.f_N,g,x',eU o⟩]) (Bf L o.x.f_N ⟨x'',eU o⟩):=by
 have sub:∀ b,fG r m (E ++ [⟨o.x.f_N,g,x',eU o⟩]) b->fG r m E b∨h.size<=b:=fun b hb=>by
  rcases hb with hb | hb | ⟨e,he,hb⟩
  ·exact .inl (.inl hb)
  ·exact .inl (.inr (.inl hb))
  ·rcases List.mem_append.1 he with he | he
   ·exact .inl (.inr (.inr ⟨e,he,hb⟩))
   ·simp at he; subst he; exact .inr (w b hb)
 have z1:=s1.size
 have dl:d < h.size:=S.R.lt (.inl rfl)
 have st1:Stp (fG r m E) h h1:=s1.mono fun b hb=>.inl (.inr (.inl hb))
 have X1:Ext h0.size h0 h1:=S.X.trans (st1.ext S.o S.X.size)
 have x1:=X1.size
 have z0:=S.X.size
 have off':∀ b,(b=d∨s'.blk=some b)->h0.size<=b/\¬ fG r m (E ++ [⟨o.x.f_N,g,x',eU o⟩]) b:=fun b hb=>by
  rcases hb with rfl | hb
  ·exact ⟨(S.off b (.inl rfl)).1,fun q=>(sub b q).elim (S.off b (.inl rfl)).2 fun q=>by omega⟩
  ·have:=sb b hb
   exact ⟨by omega,fun q=>by have:=D1.lt q; omega⟩
 have slA:∀ a∈E ++ [⟨o.x.f_N,g,x',eU o⟩],∀ b,Slo a.x a.o b->¬ (b=d∨s'.blk=some b):=fun a ha b hb hc=>by
  have lt:b < h1.size:=(D1.ok a ha).slo hb
  rcases hc with rfl | hc
  ·rcases List.mem_append.1 ha with ha | ha
   ·exact S.sl a ha b hb (.inl rfl)
   ·simp at ha; subst ha
    have:=sl' b hb; omega
  ·have:=sb b hc; omega
 have srt:=S.srt.ins (f:=⟨x'',eU o⟩) S.kL nn
 exact ⟨D1.Gz s2 (fun b hb q=>(off' b (.inl q)).2 hb) (fun a ha b hb q=>slA a ha b hb (.inl q)),X1.trans (s2.ext (fun b hb=>by subst hb; exact (S.off b (.inl rfl)).1) X1.size),fun b hb=>(sub b hb).elim (S.o b) fun q=>by omega,by rw [List.length_append]; have:=S.l; simp; omega,fun e he=>by
  rcases List.mem_append.1 he with he | he
  ·exact (S.p e he).mono (Nat.le_succ _)
  ·simp at he; subst he; exact pe,R2,off',slA,S.mt.ins rfl,srt⟩
end
end Go.Q.Yq
end
section
/- QuorumPlays: one act is done to both desks, and answered the same. -/
namespace Go.Q.Yq
open Go.Q.Rw
theorem OE {h0 h:Heap} {r m d c b5:Nat} {s:Slc} {E:List Ent} {L:List RE} {a:S_quaestorlaw31_Act} {l:List ae} {o:OpV} {t0:Slc} {t5 t38:Int} {t57:Bool} {k:KP Bool} {nx1:KP Int}
  (S:PS h0 h r m d c s E L) (hc:c < 30) (A:OG h0 a l o) (B:QA l o.ps a.f_O.aQ a.f_O.f_Q.dF) (P:Blk h b5 (S_quaestorlaw31_Act.cs a) 41) (b5O:¬ fG r m E b5) (b5R:¬ (b5=d∨s.blk=some b5))
  (K:∀ s' E' L' h',PS h0 h' r m d (c + 1) s' E' L'->Blk h' b5 (S_quaestorlaw31_Act.cs a) 41->bV t0 (some ⟨r,0,none⟩) ⟨d,0,none⟩ t5 ⟨b5,0,none⟩ true k nx1 h') :
  fK t0 (some ⟨r,0,none⟩) ⟨d,0,none⟩ t5 ⟨b5,0,none⟩ true t38 t57 k nx1 h:=by
 have bl:=P.lt
 have sl:=S.l
 have Ll:=S.len
 have nzE:∀ e∈E,e.o.ns.length<=1000000:=fun e he=>by have:=(S.p e he).ns; omega
 have nzL:∀ f∈L,f.o.ns.length<=1000000:=fun f hf=>by have:=(S.pL hf).1; omega
 have yzL:∀ f∈L,f.o.ys.length<=1000000:=fun f hf=>by have:=(S.pL hf).2.1; omega
 have pzL:∀ f∈L,f.o.ps.length<=900:=fun f hf=>by have:=(S.pL hf).2.2; omega
 have tk:∀ p∈l,p.ak.size<=400/\bJ p.f_V/\bJ p.f_T:=fun p hp=>⟨B.l2 p hp,A.lk p hp⟩
 have oW:∀ W:kQ,(∀ b,W b->h0.size<=b)->∀ g,uD W d s g->h0.size<=g:=fun W hW g hg=>by
  rcases hg with q | q | q
  ·exact (S.off g (.inl q)).1
  ·exact (S.off g (.inr q)).1
  ·exact hW g q
 have keep2:∀ {hx hy:Heap},Stp (fun b=>s.blk=some b) hx hy->Blk hx b5 (S_quaestorlaw31_Act.cs a) 41->Blk hy b5 (S_quaestorlaw31_Act.cs a) 41:=fun st P=>st.blk P fun q=>b5R (.inr q)
 have TR:∀ (W:kQ) (h':Heap),(∀ b,W b->h0.size<=b)->Ext h0.size h0 h'->Imm (uD W d s) h' fun h'=>Pcs h' a.f_L l:=fun W h' hW X=>Imm.Im (fun h' X=>A.L.ext X) X (oW W hW)
 have RH:∀ {e:Ent},e∈E->∀ {o':OpV},e.o=o'->Jb o'.x.f_Q (fT (o'.ps ++ l)):=fun {e} he {o'} q=>by subst q; exact (S.p e he).run (by omega) B.l1 tk (u7 _)
 unfold fK
 cases t57 with
 | true =>
  rw [if_pos rfl]
  refine ⟨a.f_N,P.cl rfl,a.aR,P.cl rfl,a.f_L,P.cl rfl,a.f_N,P.cl rfl,a.aR,P.cl rfl,a.f_L,P.cl rfl,?_⟩
  refine Jh (told:=l) S.D nzE (fun e he=>by have:=(S.p e he).ys; omega) (fun e he=>by have:=(S.p e he).ps; omega) (by have:=B.l1; omega) (Imm.Im (fun h' X=>A.L.ext X) S.X S.o)
   (fun e he _ _ ps M=>(S.p e he).run (by omega) B.l1 tk M) (fun N=>?_) fun i e x' o' h1 hi en hl hd hn hy Y D1 st w slo=>?_
  ·refine ⟨P.cl rfl,P.cl rfl,P.cl rfl,Jt S.R (fun g hg=>S.D.lt hg) (by omega) nzL yzL pzL (by have:=B.l1; omega) (TR _ h S.o S.X) (fun f hf _ _=>by obtain ⟨e,he,q⟩:=S.bL hf; exact RH he q) (fun _=>K s E L h S.more P) fun j f x' h' hj fn fd fns fys _ _=>?_⟩
   obtain ⟨e,he,q1,q2⟩:=S.Ho (List.mem_of_getElem? hj)
   rw [fn] at q1
   rw [← q2] at fd fns fys
   exact absurd (N e q1 fd fns) fys
  ·have he:=List.mem_of_getElem? hi
   have stO:Stp (fG r m E) h h1:=st.mono fun b hb=>.inl (.inr (.inr ⟨e,he,hb⟩))
   have P1:=stO.blk P b5O
   have sub:=BG (r:=r) (m:=m) hi w
   have R1:=S.Nz stO sub
   have X1:Ext h0.size h0 h1:=S.X.trans (stO.ext S.o S.X.size)
   have hW:∀ b,fG r m (E.set i { e with x:=x',o:=o' }) b->h0.size<=b:=fun b hb=>(sub b hb).elim (S.o b) fun q=>by have:=S.X.size; omega
   refine ⟨P1.cl rfl,P1.cl rfl,P1.cl rfl,Jt R1 (fun g hg=>D1.lt hg) (by omega) nzL yzL pzL (by have:=B.l1; omega) (TR _ h1 hW X1) (fun f hf _ _=>by obtain ⟨e,he,q⟩:=S.bL hf; exact RH he q) (fun N=>?_) fun j f x'' h2 hj fn fd fns fys R2 s2=>?_⟩
   ·rcases S.no he en N with q | q | q
    ·rw [hd] at q; cases q
    ·exact absurd hn q
    ·exact absurd q hy
   ·have q:f.o=e.o:=S.same he (List.mem_of_getElem? hj) (fn.trans en.symm)
    exact K s _ _ h2 (S.turn (e':={ e with x:=x',o:=o' }) hi hj q.symm (by rw [q]; exact KU Y) rfl D1 st w slo ((S.p e he).yes Y B.l1 tk) R2 s2) (keep2 s2 P1)
 | false =>
  rw [if_neg (by simp)]
  by_cases c4:t38=4
  ·rw [if_pos (by simpa using c4)]
   refine ⟨a.f_N,P.cl rfl,a.aR,P.cl rfl,a.f_E,P.cl rfl,a.f_N,P.cl rfl,a.aR,P.cl rfl,a.f_E,P.cl rfl,?_⟩
   refine QG S.D nzE (fun N=>?_) fun i e h1 hi en hl hd hn hb D1 st=>?_
   ·refine ⟨P.cl rfl,P.cl rfl,P.cl rfl,Lb S.R (by omega) nzL (fun _=>K s E L h S.more P) fun j f x' h' hj fn fd fns fb _ _=>?_⟩
    obtain ⟨e,he,q1,q2⟩:=S.Ho (List.mem_of_getElem? hj)
    rw [fn] at q1
    rw [← q2] at fd fns fb
    rw [N e q1 fd fns] at fb; cases fb
   ·have he:=List.mem_of_getElem? hi
    have be:=(S.D.ok e he).be
    have stO:Stp (fG r m E) h h1:=st.mono fun b hb=>.inl (.inr (.inr ⟨e,he,hb⟩))
    have P1:=stO.blk P b5O
    have w:∀ b,(Kw e a.f_E).own b->e.own b∨h.size<=b:=fun b hb=>.inl hb
    have R1:=S.Nz stO (BG (r:=r) (m:=m) hi w)
    have pe:=S.p e he
    have q:(Kw e a.f_E).o.x.f_Q=e.o.x.f_Q:=by rw [← be]; rfl
    refine ⟨P1.cl rfl,P1.cl rfl,P1.cl rfl,Lb R1 (by omega) nzL (fun N=>?_) fun j f x'' h2 hj fn fd fns fb R2 s2=>?_⟩
    ·rcases S.no he en N with q | q | q
     ·rw [hd] at q; cases q
     ·exact absurd hn q
     ·rw [hb] at q; cases q
    ·have p':=pe.mono (Nat.le_succ c)
     have qf:f.o=e.o:=S.same he (List.mem_of_getElem? hj) (fn.trans en.symm)
     exact K s _ _ h2 (S.turn (e':=Kw e a.f_E) hi hj qf.symm (by rw [qf]; exact OX be _) rfl D1 st w (fun b hb=>.inl hb) ⟨p'.ns,p'.ys,p'.ps,p'.pk,by rw [q]; exact p'.s,by rw [q]; exact p'.t⟩ R2 s2) (keep2 s2 P1)
  rw [if_neg (by simpa using c4)]
  by_cases c5:t38=5
  ·rw [if_pos (by simpa using c5)]
   unfold tX
   refine ⟨fun i h'=>0<=i/\i<=70/\∃ E' L',PS h0 h' r m d c s E' L'/\Blk h' b5 (S_quaestorlaw31_Act.cs a) 41/\¬ fG r m E' b5,fun i _=>(70 - i).toNat,⟨Int.le_refl _,by omega,E,L,S,P,b5O⟩,?_⟩
   rintro i h1 ⟨i0,i1,E1,L1,S1,P1,b1⟩
   unfold rZ
   refine ⟨a.f_N,P1.cl rfl,?_⟩
   have hm:-70 < a.f_N.tmod 70/\a.f_N.tmod 70 < 70:=by
    refine ⟨?_,Int.tmod_lt_of_pos a.f_N (by omega)⟩
    have:=Int.tmod_lt_of_pos (-a.f_N) (b:=70) (by omega)
    rw [Int.neg_tmod] at this; omega
   rw [aA (x:=Int.tmod a.f_N 70) (by omega) (by omega)]
   by_cases ci:i < a.f_N.tmod 70
   ·rw [if_pos (by simpa using ci)]
    have s1l:=S1.l
    have l1l:=S1.len
    refine Nk S1.D (by omega) fun h2 D2 st2=>?_
    have P2:=st2.blk P1 b1
    have sub:∀ b,fG r m (E1.map iR) b->fG r m E1 b∨h1.size<=b:=fun b hb=>by
     rcases hb with hb | hb | ⟨e,he,hb⟩
     ·exact .inl (.inl hb)
     ·exact .inl (.inr (.inl hb))
     ·obtain ⟨e1,h1,rfl⟩:=List.mem_map.1 he
      exact .inl (.inr (.inr ⟨e1,h1,KZ hb⟩))
    have R2:=S1.Nz st2 sub
    refine KS R2 (by omega) fun h3 R3 st3=>⟨_,rfl,?_⟩
    rw [aA (x:=i + 1) (by omega) (by omega)]
    refine ⟨⟨by omega,by omega,_,_,S1.tick D2 st2 R3 st3,keep2 st3 P2,fun q=>(sub b5 q).elim b1 fun q=>by have:=P1.lt; omega⟩,by show (70 - (i + 1)).toNat < (70 - i).toNat; omega⟩
   ·rw [if_neg (by simpa using ci)]
    exact K s E1 L1 h1 S1.more P1
  rw [if_neg (by simpa using c5)]
  have M:=A.O.ext S.X
  have nl:=A.O.nl
  have n1:=B.n1
  have p1:=B.p1
  have tail:∀ s' E' L' h',PS h0 h' r m d (c + 1) s' E' L'->Blk h' b5 (S_quaestorlaw31_Act.cs a) 41 ->
    ∃ v115:aj,ai h' ((⟨b5,0,none⟩:Addr).add 1) (aj.cs v115)/\(∃ v116:aj,ai h' ((⟨b5,0,none⟩:Addr).add 1) (aj.cs v116)/\(nU v115 (fun (r117:Int) h118=>ai h118 ((⟨b5,0,none⟩:Addr).add 1) (aj.cs v116)/\(qM v116 (fun (r120:Int) h121=>bV t0 (some ⟨r,0,none⟩) ⟨d,0,none⟩ t5 ⟨b5,0,none⟩ (r117 == r120) k nx1 h121) h118)) h')):=fun s' E' L' h' S' P'=>by
   refine ⟨a.f_O,P'.cls rfl,a.f_O,P'.cls rfl,EN (by simp only [maxLen]; omega) fun h1 X1=>?_⟩
   have P1:=P'.ext X1 P'.lt
   refine ⟨P1.cls rfl,Ga (by omega) fun h2 X2=>?_⟩
   rw [show (needs a.f_O.aJ a.f_O.aQ.len == needs a.f_O.aJ a.f_O.aQ.len)=true from by simp]
   exact K s' E' L' h2 ((S'.grow X1).grow X2) (P1.ext X2 P1.lt)
  have AR:∀ (W:kQ) (h':Heap),(∀ b,W b->h0.size<=b)->Ext h0.size h0 h'->Imm (uD W d s) h' fun h'=>OpM h' a.f_O o:=fun W h' hW X=>Imm.Im (fun h' X=>A.O.ext X) X (oW W hW)
  refine ⟨a.f_O,P.cls rfl,a.f_O,P.cls rfl,?_⟩
  refine Hm S.D M A.Z (by omega) (fun b h1 X1=>?_) (fun nb hl h1 X1=>?_) fun nb hl g x' h1 D1 hg st w slo=>?_
  ·have P1:=P.ext X1 bl
   have S1:=S.grow X1
   refine ⟨P1.cls rfl,DU S1.R (AR _ h1 S.o S1.X) A.Z (by omega) (by omega) (fun _ h2 X2=>?_) (fun nb=>absurd b nb) fun nb=>absurd b nb⟩
   rw [if_pos (by rfl)]
   exact tail s E L h2 (S1.grow X2).more (P1.ext X2 P1.lt)
  ·have P1:=P.ext X1 bl
   have S1:=S.grow X1
   refine ⟨P1.cls rfl,DU S1.R (AR _ h1 S.o S1.X) A.Z (by omega) (by omega) (fun b=>absurd b nb) (fun _ _ h2 X2=>?_) fun _ nn=>?_⟩
   ·rw [if_pos (by rfl)]
    exact tail s E L h2 (S1.grow X2).more (P1.ext X2 P1.lt)
   ·exfalso
    cases hk:look E o.x.f_N with
    | none=>exact hl hk
    | some e =>
     obtain ⟨i,hi,en⟩:=Dl hk
     obtain ⟨j,f,hj,q⟩:=S.at' (List.mem_of_getElem? hi)
     have hf:=List.mem_of_getElem? hj
     exact nn f hf (by rw [S.kL f hf,q,S.kE e (List.mem_of_getElem? hi),en])
  ·have stO:Stp (fG r m E) h h1:=st.mono fun b hb=>.inl (.inr (.inl hb))
   have P1:=stO.blk P b5O
   have X1:Ext h0.size h0 h1:=S.X.trans (stO.ext S.o S.X.size)
   have sub:∀ b,fG r m (E ++ [⟨o.x.f_N,g,x',eU o⟩]) b->fG r m E b∨h.size<=b:=fun b hb=>by
    rcases hb with hb | hb | ⟨e,he,hb⟩
    ·exact .inl (.inl hb)
    ·exact .inl (.inr (.inl hb))
    ·rcases List.mem_append.1 he with he | he
     ·exact .inl (.inr (.inr ⟨e,he,hb⟩))
     ·simp at he; subst he; exact .inr (w b hb)
   have hW:∀ b,fG r m (E ++ [⟨o.x.f_N,g,x',eU o⟩]) b->h0.size<=b:=fun b hb=>(sub b hb).elim (S.o b) fun q=>by have:=S.X.size; omega
   have R1:=S.Nz stO sub
   refine ⟨P1.cls rfl,DU R1 (AR _ h1 hW X1) A.Z (by omega) (by omega) (fun b=>absurd b nb) (fun _ ⟨f,hf,fn⟩=>?_) fun _ nn x'' s' h2 R2 s2 sb=>?_⟩
   ·obtain ⟨e,he,q1,_⟩:=S.Ho hf
    rw [fn,hl] at q1; cases q1
   ·rw [if_pos (by rfl)]
    have q:(eU o).x.f_Q=a.f_O.f_Q:=by show (begun o.x).f_Q=_; rw [← A.O.e]; rfl
    have b5d:b5≠d:=fun q=>b5R (.inl q)
    refine tail s' _ _ h2 (S.start D1 st w slo ?_ R2 nn s2 sb) (s2.blk P1 b5d)
    refine ⟨by show o.ns.length<=40; omega,Nat.zero_le _,?_,?_,by rw [q]; exact B.s1,by rw [q]; exact A.t⟩
    ·show (if o.x.aJ=1 then o.ps else []).length<=_
     split
     ·omega
     ·simp
    ·show ∀ p∈(if o.x.aJ=1 then o.ps else []),_
     split
     ·exact fun p hp=>⟨B.p2 p hp,A.pk p hp⟩
     ·intro p hp; cases hp
end Go.Q.Yq
end

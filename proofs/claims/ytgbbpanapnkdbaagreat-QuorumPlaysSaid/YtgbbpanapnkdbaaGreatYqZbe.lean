/- A part of the proof of statements of this seat: lemmas, no statement of their own. -/
import Derived.Test.YtgbbpanapnkdbaaGreatYqZbd
import Derived.Test.YtgbbpanapnkdbaaGreatYqZas
import Derived.Test.YtgbbpanapnkdbaaGreatYqZau
import Derived.Test.YtgbbpanapnkdbaaGreatYqZay
import Derived.Test.YtgbbpanapnkdbaaGreatYqZat
set_option linter.unusedVariables false
set_option linter.unusedSimpArgs false
set_option maxRecDepth 100000
section
/- The document's desk: Start. -/
namespace Go.Q.Yq
open Go.Q.Rw
theorem O0 {h':Heap} {a:aj} {o:OpV} (M:OpM h' a o):OpM h' (begun a) (eU o):=by
 have xk:a.aJ=o.x.aJ:=by rw [← M.e]; rfl
 have en:∀ {vs:List Value},vs=[]->SlcAt h' uh vs:=fun e=>by subst e; exact ⟨fun _=>rfl,fun a ha=>by cases ha⟩
 refine ⟨?_,?_,?_,M.n,M.nl,M.nc,en rfl,rfl,en rfl,rfl,M.w,M.wl⟩
 ·show bare (begun a)=begun o.x
  rw [← M.e]; unfold begun bare; dsimp only; split <;> rfl
 ·show SlcAt h' (begun a).aP (pcv (if o.x.aJ=1 then o.ps else []))
  unfold begun
  dsimp only
  rw [xk]
  split
  ·exact M.p
  ·exact en rfl
 ·show (begun a).aP.len=(if o.x.aJ=1 then o.ps else []).length
  unfold begun
  dsimp only
  rw [xk]
  split
  ·exact M.pl
  ·rfl
theorem Pz {o:OpV} (Z:OpZ o):OpZ (eU o):=by
 refine ⟨?_,Z.n,by simp [eU],by simp [eU],Z.w⟩
 show (if o.x.aJ=1 then o.ps else []).length * 48<=_
 split
 ·exact Z.p
 ·simp
theorem ME {h:Heap} {p0:Slc} {l:List Int} (S:SlcAt h p0 (ints l)) {i c:Nat}:SlcAt h (rY p0 1 (0:Int).toNat i c) (ints (l.take i)):=by
 refine ⟨fun hn=>?_,fun b hb j v hj=>?_⟩
 ·unfold rY at hn
  have:p0.a=none:=by
   simp only at hn
   split at hn
   ·exact hn
   ·cases ha:p0.a with
    | none=>rfl
    | some a=>rw [ha] at hn; cases hn
  have:=S.1 this
  rw [List.map_eq_nil_iff] at this
  subst this; simp
 ·have eb:p0.a=some b:=by
   unfold rY at hb
   simp only at hb
   split at hb
   ·exact hb
   ·cases ha:p0.a with
    | none=>rw [ha] at hb; cases hb
    | some a =>
     rw [ha] at hb
     simp only [Option.map_some,Int.toNat_zero,Nat.zero_mul,Option.some.injEq] at hb
     rw [← hb]; rfl
  refine S.2 b eb j v ?_
  simp only [ints,List.map_take,List.getElem?_take] at hj
  split at hj
  ·exact hj
  ·cases hj
section
variable {W:kQ} {h:Heap} {d:Nat} {s:Slc} {L:List RE}
theorem DU {a:aj} {o:OpV} {k:KP Int} (D:fP W h d s L) (A:Imm (uD W d s) h fun h'=>OpM h' a o) (Z:OpZ o) (nz:o.ns.length<=1000000) (m:L.length<=1000)
  (B1:wm o->∀ h',Ext h.size h h'->k 1 h') (B7:¬ wm o->(∃ e∈L,e.x.f_N=o.x.f_N)->∀ h',Ext h.size h h'->k 7 h')
  (H:¬ wm o->(∀ e∈L,e.x.f_N≠o.x.f_N)->∀ x' s' h',fP W h' d s' (Bf L o.x.f_N ⟨x',eU o⟩)->Stp (fun b=>b=d) h h'->(∀ g,s'.blk=some g->h.size<=g)->k 0 h') :
  pU (some ⟨d,0,none⟩) a k h:=by
 have M:=A.now
 have xk:a.aJ=o.x.aJ:=by rw [← M.e]; rfl
 have xN:a.f_N=o.x.f_N:=by rw [← M.e]; rfl
 have nl:=M.nl
 have nc:=M.nc
 unfold pU
 refine bx0 fun h2 P2 X2=>⟨a.aJ,P2.cl rfl,?_⟩
 have z2:=X2.size
 have p2:=P2.lt
 have D2:=D.ext X2
 have M2:=M.ext X2
 have two:wm o->gM (some ⟨d,0,none⟩) ⟨h.size,0,none⟩ true k h2:=fun b=>by unfold gM; rw [if_pos rfl]; exact B1 b h2 X2
 by_cases c1:a.aJ < 1
 ·rw [if_pos (by simpa using c1)]
  unfold jU
  rw [if_pos rfl]
  exact two (.inl (by unfold needs; rw [if_neg (by omega),if_neg (by omega),if_neg (by omega)]))
 rw [if_neg (by simpa using c1)]
 refine ⟨a.aJ,P2.cl rfl,?_⟩
 unfold jU
 by_cases c3:a.aJ > 3
 ·rw [if_pos (by simpa using c3)]
  exact two (.inl (by unfold needs; rw [if_neg (by omega),if_neg (by omega),if_neg (by omega)]))
 rw [if_neg (by simpa using c3)]
 refine ⟨a.aQ,P2.cl rfl,?_⟩
 by_cases c0:o.ns=[]
 ·rw [show ((a.aQ.len:Int) == 0)=true from by rw [nl,c0]; rfl]
  exact two (.inr (.inl c0))
 have l0:0 < o.ns.length:=List.length_pos_iff.2 c0
 rw [show ((a.aQ.len:Int) == 0)=false from by simp; omega]
 unfold gM uW
 rw [if_neg (by simp)]
 refine ⟨fun i h'=>h'=h2/\0<=i/\i<=o.ns.length/\(o.ns.take i.toNat).Nodup,fun i _=>(o.ns.length - i.toNat),⟨rfl,by omega,by omega,by simp⟩,?_⟩
 rintro i h' ⟨rfl,i0,i1,nx⟩
 unfold ug
 refine ⟨a.aQ,P2.cl rfl,?_⟩
 rw [nl]
 by_cases c:i < (o.ns.length:Int)
 ·rw [if_pos (by simpa using c)]
  have hi:i.toNat < o.ns.length:=by omega
  obtain ⟨b,hb,hc⟩:=M2.n.get (i:=i.toNat) (v:=.int .i64 o.ns[i.toNat]) (by simp [hi])
  refine ⟨a.aQ,P2.cl rfl,_,Int.le_refl _,i0,by omega,Int.le_refl _,rfl,a.aQ,P2.cl rfl,b,hb,i0,by omega,o.ns[i.toNat],by rw [Nat.mul_one]; exact hc,?_⟩
  refine ET (l:=o.ns.take i.toNat) (ME M2.n) (by show i.toNat - (0:Int).toNat=_; rw [List.length_take]; simp only [Int.toNat_zero]; omega) (by rw [List.length_take]; omega) ?_
  by_cases e:o.ns[i.toNat]∈o.ns.take i.toNat
  ·rw [decide_eq_true e,if_pos rfl]
   refine B1 (.inr (.inr fun nd=>?_)) h' X2
   have h1:=List.nodup_iff_pairwise_ne.1 nd
   obtain ⟨j,hj,ej⟩:=List.mem_iff_getElem.1 e
   rw [List.length_take] at hj
   rw [List.getElem_take] at ej
   exact (List.pairwise_iff_getElem.1 h1) j i.toNat (by omega) hi (by omega) ej
  ·rw [decide_eq_false e,if_neg (by simp)]
   refine ⟨_,rfl,?_⟩
   rw [aA (by omega) (by omega)]
   refine ⟨⟨rfl,by omega,by omega,?_⟩,by dsimp only; omega⟩
   rw [show (i + 1).toNat=i.toNat + 1 from by omega,List.take_add_one,List.getElem?_eq_getElem hi,Option.toList_some,List.nodup_append]
   exact ⟨nx,by simp,fun x hx y hy=>by rw [List.mem_singleton] at hy; rw [hy]; exact fun e2=>e (e2 ▸ hx)⟩
 ·rw [if_neg (by simpa using c)]
  rw [List.take_of_length_le (by omega)] at nx
  have good:¬ wm o:=by
   rintro (q | q | q)
   ·unfold needs at q
    rw [xk] at c1 c3
    split at q
    ·split at q
     ·omega
     ·cases q
    ·split at q
     ·split at q
      ·omega
      ·cases q
     ·split at q
      ·cases q
      ·omega
   ·exact c0 q
   ·exact q nx
  refine ⟨a.f_N,P2.cl0 rfl,Ez D2 (by omega) (fun nn=>?_) fun j e hj en=>?_⟩
  rotate_left
  ·rw [if_pos (by simp)]
   exact B7 good ⟨e,List.mem_of_getElem? hj,by rw [en,xN]⟩ h' X2
  rw [if_neg (by decide)]
  refine jI P2 (by show 28 < 33; decide) fun h3 P3 U3=>jI P3 (by rw [List.length_set]; show 32 < 33; decide) fun h4 P4 U4=>jI P4 (by simp only [List.length_set]; show 29 < 33; decide) fun h5 P5 U5=>jI P5 (by simp only [List.length_set]; show 30 < 33; decide) fun h6 P6 U6=>jI P6 (by simp only [List.length_set]; show 31 < 33; decide) fun h7 P7 U7=>?_
  have U:Upd h.size h' h7:=(((U3.trans U4).trans U5).trans U6).trans U7
  have fin:∀ h8,Blk h8 h.size (aj.cs (begun a)) 39->Upd h.size h' h8->∀ nx3,gJ (some ⟨d,0,none⟩) ⟨h.size,0,none⟩ k nx3 h8:=fun h8 P8 U8 nx3=>by
   have X8:Ext h.size h h8:=X2.trans (U8.ext (Nat.le_refl _) z2)
   refine MO (D.ext X8) P8 ((A.ext X8).imp fun _ q=>O0 q) (Pz Z) m fun s' h9 D9 S9 sb=>?_
   have z8:=X8.size
   refine H good (fun f hf=>by rw [← xN]; exact nn f hf) (begun a) s' h9 (by rw [← xN]; exact D9) ((Stp.oL X8).trans' S9) fun g hg=>by have:=sb g hg; omega
  refine ⟨a.aJ,P7.cl rfl,?_⟩
  by_cases ck:a.aJ=1
  ·rw [if_neg (by simp [ck])]
   refine fin h7 ?_ U _
   have:aj.cs (begun a)=aj.cs { a with eD:=uh,dV:=uh,cZ:=0,aI:=false,f_E:=0 }:=by unfold begun; rw [if_pos ck]
   rw [this]; exact P7
  ·rw [if_pos (by simpa using ck)]
   refine jI P7 (by simp only [List.length_set]; show 3 < 33; decide) fun h8 P8 U8=>fin h8 (by
    have:aj.cs (begun a)=aj.cs { a with eD:=uh,dV:=uh,cZ:=0,aI:=false,f_E:=0,aP:=uh }:=by unfold begun; rw [if_neg ck]
    rw [this]; exact P8) (U.trans U8) _
end
end Go.Q.Yq
end
section
/- The document's desk: Yes. -/
namespace Go.Q.Yq
open Go.Q.Rw
/-- what becomes of an op whose nodes are enough -/
def jO (o:OpV):OpV :=
 if (o.ys.length:Int) < needs o.x.aJ o.ns.length then o
 else if o.x.aJ=2 then { o with x:={ o.x with aI:=true,f_E:=(oh o.x.f_Q o.x.kX (fT o.ps)).2 },rs:=(oh o.x.f_Q o.x.kX (fT o.ps)).1.map rC }
 else { o with x:={ o.x with aI:=true } }
def MX (o:OpV) (node:Int) (told:List ae):OpV:=jO { o with ys:=o.ys ++ [node],ps:=if o.x.aJ=2 then fT (o.ps ++ told) else o.ps }
theorem KU {o o':OpV} {node:Int} {told:List ae} (Y:OT o node told o'):o'=MX o node told:=by
 have hps:o'.ps=if o.x.aJ=2 then fT (o.ps ++ told) else o.ps:=by
  have:=Y.ps
  split at this
  ·rename_i k2; rw [if_pos k2]; exact this.uniq (u7 _) fun _=>Iff.rfl
  ·rename_i k2; rw [if_neg k2]; exact this
 have e:∀ (a b:OpV),a.x=b.x->a.ps=b.ps->a.ns=b.ns->a.ys=b.ys->a.rs=b.rs->a.wr=b.wr->a=b:=fun a b h1 h2 h3 h4 h5 h6=>by cases a; cases b; simp at *; exact ⟨h1,h2,h3,h4,h5,h6⟩
 unfold MX jO
 dsimp only
 rw [List.length_append,List.length_singleton,← hps]
 rcases Y.x with ⟨c,hx,hr⟩ | ⟨c,k2,hx,hr⟩ | ⟨c,k2,zs,hm,hx,hr⟩
 ·rw [if_pos c]; exact e _ _ hx rfl Y.ns Y.ys hr Y.wr
 ·rw [if_neg c,if_neg k2]; exact e _ _ hx rfl Y.ns Y.ys hr Y.wr
 ·rw [if_neg c,if_pos k2]
  have er:=Ni (q:=o.x.f_Q) (hz:=o.x.kX) hm (.inl (u7 o'.ps)) fun _=>Iff.rfl
  rw [er] at hx hr
  exact e _ _ hx rfl Y.ns Y.ys hr Y.wr
section
variable {W:kQ} {h:Heap} {d:Nat} {s:Slc} {L:List RE}
theorem OJ {x:aj} {o:OpV} {b i:Nat} {e0:RE} {k:KP Bool} (D:fP W h d s L) (hi:L[i]? = some e0) (P:Blk h b (aj.cs x) 39) (M:Imm (uD W d s) h fun h'=>OpM h' x o) (Z:OpZ o)
  (H:∀ h',fP W h' d s (L.set i ⟨x,o⟩)->Stp (fun g=>s.blk=some g) h h'->k true h'):fV (some ⟨d,0,none⟩) (i:Int) ⟨b,0,none⟩ k h:=by
 have il:=(List.getElem?_eq_some_iff.1 hi).1
 unfold fV
 obtain ⟨a,f,ha,g0,g1,_,_⟩:=D.ls.it (i:=(i:Int)) (by omega) (by omega)
 obtain ⟨w,R',_⟩:=He Eb D.R D.l il ⟨x,o⟩ ha
 have sb:s.blk=some a.block:=by unfold Slc.blk; rw [ha]
 have st:Stp (fun g=>s.blk=some g) h (aM h (a.add (i * 33)) 0 (recs ⟨x,o⟩)):=Stp.sets (.inl (by rw [add_block]; exact sb))
 have st':=st.mono (O':=uD W d s) fun b hb=>.inl (.inr (.inl hb))
 refine ⟨_,rfl,s,D.cs,x,ai.aL P,a,ha,g0,g1,_,w,rfl,H _ ⟨st.blk D.P D.ds,R',by rw [List.length_set]; exact D.l,D.ds,fun f hf=>?_,fun f hf=>?_⟩ st⟩
 ·rcases List.mem_or_eq_of_mem_set hf with hf | rfl
  ·exact (D.I f hf).stp st'
  ·exact M.stp st'
 ·rcases List.mem_or_eq_of_mem_set hf with hf | rfl
  ·exact D.z f hf
  ·exact Z
theorem OV {h0:Heap} {x:aj} {o:OpV} {b i:Nat} {e0:RE} {k:KP Bool} (D:fP W h0 d s L) (wl:∀ g,W g->g < h0.size) (X:Ext h0.size h0 h) (hb:h0.size<=b) (hi:L[i]? = some e0) (P:Blk h b (aj.cs x) 39) (M:Imm (fun g=>g=b∨uD W d s g) h fun h'=>OpM h' x o) (Z:OpZ o) (nz:o.ns.length<=1000000)
  (RH:o.x.aJ=2->Jb o.x.f_Q o.ps)
  (H:∀ x' h',fP W h' d s (L.set i ⟨x',jO o⟩)->Stp (fun g=>s.blk=some g) h0 h'->k true h'):jq (some ⟨d,0,none⟩) (i:Int) ⟨b,0,none⟩ k h:=by
 have bl:=P.lt
 have z0:=X.size
 have M0:=M.now
 have kd:x.aJ=o.x.aJ:=by rw [← M0.e]; rfl
 have qd:x.f_Q=o.x.f_Q:=by rw [← M0.e]; rfl
 have lo:x.kX=o.x.kX:=by rw [← M0.e]; rfl
 have nl:=M0.nl
 have yl:=M0.yl
 have hbd:∀ g,uD W d s g->g < h0.size:=fun g hg=>by
  rcases hg with q | q | q
  ·exact D.lt (.inl q)
  ·exact D.lt (.inr q)
  ·exact wl g q
 unfold jq
 refine ⟨x.eD,P.cl rfl,x,ai.aL P,Ga (by omega) fun h1 X1=>⟨(P.ext X1 bl).cl rfl,?_⟩⟩
 have z1:=X1.size
 have P1:=P.ext X1 bl
 have M1:=M.ext X1
 have X01:Ext h0.size h0 h1:=X.trans (X1.mono z0)
 have sub:∀ {p:Heap->Prop} {h':Heap},Imm (fun g=>g=b∨uD W d s g) h' p->Imm (uD W d s) h' p:=fun I=>I.mono fun g hg=>.inl (.inr hg)
 rw [yl,nl,kd]
 have ev:jO o=if (o.ys.length:Int) < needs o.x.aJ o.ns.length then o
   else if o.x.aJ=2 then { o with x:={ o.x with aI:=true,f_E:=(oh o.x.f_Q o.x.kX (fT o.ps)).2 },rs:=(oh o.x.f_Q o.x.kX (fT o.ps)).1.map rC }
   else { o with x:={ o.x with aI:=true } }:=rfl
 have fin:∀ (x':aj) (h':Heap),Ext h0.size h0 h'->Blk h' b (aj.cs x') 39->Imm (uD W d s) h' (fun h'=>OpM h' x' (jO o))->OpZ (jO o)->fV (some ⟨d,0,none⟩) (i:Int) ⟨b,0,none⟩ k h':=fun x' h' X' P' M' Z' =>
  OJ (D.ext X') hi P' M' Z' fun h2 D2 S2=>H x' h2 D2 ((Stp.oL X').trans' S2)
 by_cases c:(o.ys.length:Int) < needs o.x.aJ o.ns.length
 ·rw [if_neg (by simp; exact c)]
  rw [if_pos c] at ev
  exact fin x h1 X01 P1 (by rw [ev]; exact sub M1) (by rw [ev]; exact Z)
 rw [if_neg c] at ev
 rw [if_pos (by simp; omega)]
 refine jI P1 (by show 30 < 33; decide) fun h2 P2 U2=>⟨x.aJ,P2.cl rfl,?_⟩
 have z2:=U2.size
 have P2':Blk h2 b (aj.cs { x with aI:=true }) 39:=P2
 have X02:Ext h0.size h0 h2:=X01.trans (U2.ext hb (by omega))
 have S2:Stp (fun g=>g=b∨uD W d s g) h1 h2:=Stp.vX U2 (.inl (.inl rfl))
 have M2:=M1.stp S2
 rw [kd]
 by_cases k2:o.x.aJ=2
 ·rw [if_pos (by simpa using k2)]
  rw [if_pos k2] at ev
  have R:=RH k2
  rw [← qd] at R
  refine ⟨x.f_Q,P2'.cls rfl,x.aP,P2'.cl rfl,x.kX,P2'.cl rfl,?_⟩
  refine Nl (Dr M2.now.p M0.pl) R.l R.s R.p R.t fun s3 h3 X3 RV fr=>?_
  have z3:=X3.size
  have P3:=P2'.ext X3 P2'.lt
  refine jI P3 (by show 32 < 33; decide) fun h4 P4 U4=>jI P4 (by rw [List.length_set]; show 31 < 33; decide) fun h5 P5 U5=>?_
  have U:=U4.trans U5
  have S5:Stp (fun g=>g=b∨uD W d s g) h2 h5:=(Stp.oL X3).trans' (Stp.vX U (.inl (.inl rfl)))
  have M5:=M2.stp S5
  have rz:=Hy x.f_Q x.kX (fT o.ps)
  have ml:=(u7 o.ps).len
  have rl:=R.l
  refine fin { x with aI:=true,dV:=s3,f_E:=(oh x.f_Q x.kX (fT o.ps)).2 } h5 (X02.trans ((X3.mono (by omega)).trans (U.ext hb (by omega)))) P5 ?_ ?_
  ·rw [ev]
   intro h'' st
   have q:=sub M5 h'' st
   have sv:SlcAt h5 s3 (rwv ((oh x.f_Q x.kX (fT o.ps)).1.map rC)):=by
    refine xz (O:=fun g=>g=b) RV.1 (fun g hg e=>?_) h5 (Stp.vX U (.inl rfl))
    have:=fr g hg; have:=P2'.lt; omega
   have rw':=xz (O:=uD W d s) sv (fun g hg ob=>by have:=fr g hg; have:=hbd g ob; omega) h'' st
   refine ⟨?_,q.p,q.pl,q.n,q.nl,q.nc,q.y,q.yl,?_,?_,q.w,q.wl⟩
   ·rw [← qd,← lo]
    have:=M0.e
    dsimp only
    rw [← this]; rfl
   ·rw [← qd,← lo]; exact rw'
   ·rw [← qd,← lo]
    show s3.len=_
    rw [RV.2,List.length_map]
  ·rw [ev]
   refine ⟨Z.p,Z.n,Z.y,?_,Z.w⟩
   show (List.map rC _).length * 40<=_
   rw [List.length_map,← qd,← lo]; omega
 ·rw [if_neg (by simpa using k2)]
  rw [if_neg k2] at ev
  refine fin { x with aI:=true } h2 X02 P2' ?_ ?_
  ·rw [ev]
   refine (sub M2).imp fun _ q=>⟨?_,q.p,q.pl,q.n,q.nl,q.nc,q.y,q.yl,q.r,q.rl,q.w,q.wl⟩
   dsimp only
   rw [← M0.e]; rfl
  ·rw [ev]
   exact ⟨Z.p,Z.n,Z.y,Z.r,Z.w⟩
theorem Ju {B b E w:Nat} {h:Heap} (P:Blk h b [] E) (hB:B<=b):Row B h E w ⟨some ⟨b,0,none⟩,0,0⟩ [] :=
 ⟨by simp,by simp [maxLen],.inr ⟨b,[],rfl,hB,P,Nat.le_refl _,by simp,by simp⟩⟩
theorem Jt {n node:Int} {t:Slc} {told:List ae} {k:KP Bool} (D:fP W h d s L) (wl:∀ g,W g->g < h.size) (m:L.length<=1000000) (nz:∀ e∈L,e.o.ns.length<=1000000) (yz:∀ e∈L,e.o.ys.length<=1000000) (pz:∀ e∈L,e.o.ps.length<=900) (tz:told.length<=100)
  (T:Imm (uD W d s) h fun h'=>Pcs h' t told) (RH:∀ e∈L,e.x.f_N=n->e.o.x.aJ=2->Jb e.o.x.f_Q (fT (e.o.ps ++ told)))
  (N:NoR L n (fun o=>o.x.aI=true∨node ∉ o.ns∨node∈o.ys)->k false h)
  (H:∀ (i:Nat) e x' h',L[i]? = some e->e.x.f_N=n->e.o.x.aI=false->node∈e.o.ns->node ∉ e.o.ys->fP W h' d s (L.set i ⟨x',MX e.o node told⟩)->Stp (fun b=>s.blk=some b) h h'->k true h') :
  rF (some ⟨d,0,none⟩) n node t k h:=by
 have no:∀ v,NoR L n (fun o=>o.x.aI=true∨node ∉ o.ns∨node∈o.ys)->jm (some ⟨d,0,none⟩) node t v true k h:=fun v q=>by unfold jm; rw [if_pos rfl]; exact N q
 have no2:∀ v,NoR L n (fun o=>o.x.aI=true∨node ∉ o.ns∨node∈o.ys)->jv (some ⟨d,0,none⟩) node t v true k h:=fun v q=>by unfold jv; rw [if_pos rfl]; exact no v q
 unfold rF
 refine Ez D m (fun q=>?_) fun i e hi en=>?_
 ·rw [if_pos (by decide)]
  unfold lD
  rw [if_pos rfl]; exact no2 _ (.inl q)
 have he:=List.mem_of_getElem? hi
 have M:=D.m he
 have Z:=D.z e he
 have il:=(List.getElem?_eq_some_iff.1 hi).1
 have kd:e.x.aJ=e.o.x.aJ:=by rw [← M.e]; rfl
 have dn:e.x.aI=e.o.x.aI:=by rw [← M.e]; rfl
 have ez:=nz e he; have eyz:=yz e he; have epz:=pz e he
 rw [if_neg (by simp)]
 obtain ⟨a,f,ha,g0,g1,hf,hc⟩:=D.ls.it (i:=(i:Int)) (by omega) (by omega)
 rw [Int.toNat_natCast,hi] at hf; cases hf
 refine ⟨_,rfl,s,D.cs,a,ha,g0,g1,e.x.aI,Ay hc rfl,?_⟩
 unfold lD
 rw [dn]
 cases hd:e.o.x.aI with
 | true=>rw [if_pos rfl]; exact no2 _ (.inr ⟨e,he,en,.inl hd⟩)
 | false =>
  rw [if_neg (by simp)]
  refine ⟨_,rfl,s,D.cs,a,ha,g0,g1,e.x.aQ,Ay hc rfl,ET M.n M.nl ez ?_⟩
  by_cases cn:node∈e.o.ns
  rotate_left
  ·rw [decide_eq_false cn]; exact no2 _ (.inr ⟨e,he,en,.inr (.inl cn)⟩)
  rw [decide_eq_true cn]
  unfold jv
  rw [if_neg (by simp)]
  refine ⟨_,rfl,s,D.cs,a,ha,g0,g1,e.x.eD,Ay hc rfl,ET M.y M.yl eyz ?_⟩
  by_cases cy:node∈e.o.ys
  ·rw [decide_eq_true cy]; exact no _ (.inr ⟨e,he,en,.inr (.inr cy)⟩)
  rw [decide_eq_false cy]
  unfold jm
  rw [if_neg (by simp)]
  refine ⟨_,rfl,s,D.cs,a,ha,g0,g1,e.x,hc,bx rfl (by decide) fun h1 P1 X1=>?_⟩
  have z1:=X1.size
  have p1:=P1.lt
  have hbd:∀ g,uD W d s g->g < h.size:=fun g hg=>by
   rcases hg with q | q | q
   ·exact D.lt (.inl q)
   ·exact D.lt (.inr q)
   ·exact wl g q
  refine bx0 fun h2 P2 X2=>?_
  have z2:=X2.size
  have P12:=P1.ext X2 p1
  have X02:Ext h.size h h2:=X1.trans (X2.mono z1)
  refine ⟨e.x.eD,P12.cl rfl,ints e.o.ys,(M.ext X02).y,?_⟩
  refine app1 (B:=h1.size) (Ju P2 (Nat.le_refl _)) (by omega) rfl (by rw [List.length_map,M.yl,Nat.mul_one]) (Ha _) (by rw [M.yl]; show (0 + e.o.ys.length) * 8<=_; omega) (by rw [M.yl]; show 0 + e.o.ys.length<=_; simp only [maxLen]; omega) fun s3 h3 R3 l3 X3=>bx0 fun h4 P4 X4=>?_
  have z3:=X3.size
  have z4:=X4.size
  refine app1 (R3.keep fun g hg=>X4.block g (R3.bd hg).2) (by omega) rfl rfl (by simp [Value.oneCell']) (by rw [l3,M.yl]; show (0 + e.o.ys.length + 1) * 8<=_; omega) (by rw [l3,M.yl]; show 0 + e.o.ys.length + 1<=_; simp only [maxLen]; omega) fun s5 h5 R5 l5 X5=>?_
  have z5:=X5.size
  have X15:Ext h1.size h1 h5:=(X2.mono (Nat.le_refl _)).trans (X3.trans ((X4.mono (by omega)).trans X5))
  have P15:=P1.ext X15 p1
  have X05:Ext h.size h h5:=X1.trans (X15.mono z1)
  refine jI P15 (by show 28 < 33; decide) fun h6 P6 U6=>?_
  have z6:=U6.size
  have P6':Blk h6 h.size (aj.cs { e.x with eD:=s5 }) 39:=P6
  have X06:Ext h.size h h6:=X05.trans (U6.ext (Nat.le_refl _) (by omega))
  have y5:∀ g,s5.blk=some g->h.size < g:=fun g hg=>by have:=(R5.bd hg).1; omega
  have R6:Row h1.size h6 3 1 s5 (ints (e.o.ys ++ [node])):=by
   have q:ints (e.o.ys ++ [node])=[] ++ ints e.o.ys ++ [.int .i64 node]:=by unfold ints; simp
   rw [q]
   exact R5.keep fun g hg=>U6.block g (R5.bd hg).2 (by have:=y5 g hg; omega)
  have l6:s5.len=(e.o.ys ++ [node]).length:=by rw [l5,l3,M.yl]; simp
  refine ⟨e.x.aJ,P6.cl rfl,?_⟩
  rw [kd]
  -- what follows
  have tail:∀ (sp:Slc) (ps:List ae) (h':Heap),ps=(if e.o.x.aJ=2 then fT (e.o.ps ++ told) else e.o.ps)->ps.length<=1000->Ext h.size h h'->Row h1.size h' 3 1 s5 (ints (e.o.ys ++ [node]))->Blk h' h.size (aj.cs { e.x with eD:=s5,aP:=sp }) 39->sp.len=ps.length ->
    Imm (fun g=>g=h.size∨uD W d s g) h' (fun h'=>SlcAt h' sp (pcv ps))->jq (some ⟨d,0,none⟩) (i:Int) ⟨h.size,0,none⟩ k h':=fun sp ps h' eps pl X' R' P' sl I'=>by
   refine OV (o:={ e.o with ys:=e.o.ys ++ [node],ps:=ps }) D wl X' (Nat.le_refl _) hi P' (fun h'' st=>?_) ⟨by show ps.length * 48<=_; omega,Z.n,by show (e.o.ys ++ [node]).length * 8<=_; rw [← l6,l5,l3,M.yl]; show (0 + e.o.ys.length + 1) * 8<=_; omega,Z.r,Z.w⟩ ez (fun k2=>?_) fun x' h'' D' S'=>?_
   ·have q:=((D.I e he).step (Stp.oL X') (O':=fun g=>g=h.size∨uD W d s g) fun g hg=>hg.elim (fun q=>.inr (by omega)) .inl) h'' st
    have yI:=xz (O:=fun g=>g=h.size∨uD W d s g) R'.slc (fun g hg ob=>by
     have:=y5 g hg
     rcases ob with ob | ob
     ·omega
     ·have:=hbd g ob; omega) h'' st
    exact ⟨q.e,I' h'' st,sl,q.n,q.nl,q.nc,yI,l6,q.r,q.rl,q.w,q.wl⟩
   ·show Jb e.o.x.f_Q ps
    rw [eps,if_pos k2]
    exact RH e he en k2
   ·refine H i e x' h'' hi en hd cn cy ?_ S'
    unfold MX
    rw [← eps]; exact D'
  by_cases k2:e.o.x.aJ=2
  ·rw [if_pos (by simpa using k2)]
   refine bx0 fun h7 P7 X7=>?_
   have z7:=X7.size
   have P67:=P6'.ext X7 P6'.lt
   have X07:Ext h.size h h7:=X06.trans (X7.mono (by omega))
   refine ⟨e.x.aP,P67.cl rfl,pcv e.o.ps,(M.ext X07).p,?_⟩
   have pl:(pcv e.o.ps).length=e.x.aP.len * 5:=by rw [rR (w:=5) (fun _=>rfl),M.pl]
   refine app1 (B:=h6.size) (Ju P7 (Nat.le_refl _)) (by omega) rfl pl (GA _) (by rw [M.pl]; show (0 + e.o.ps.length) * 48<=_; omega) (by rw [M.pl]; show 0 + e.o.ps.length<=_; simp only [maxLen]; omega) fun s8 h8 R8 l8 X8=>?_
   have z8:=X8.size
   have X08:Ext h.size h h8:=X07.trans (X8.mono (by omega))
   have T8:=T h8 (Stp.oL X08)
   have tl:=T8.l
   refine ⟨pcv told,T8.J7 (w:=5) (fun _=>rfl) (by decide),?_⟩
   refine app1 R8 (by omega) rfl (by rw [rR (w:=5) (fun _=>rfl),tl]) (GA _) (by rw [l8,M.pl,tl]; show (0 + e.o.ps.length + told.length) * 48<=_; omega) (by rw [l8,M.pl,tl]; show 0 + e.o.ps.length + told.length<=_; simp only [maxLen]; omega) fun s9 h9 R9 l9 X9=>?_
   have z9:=X9.size
   have X69:Ext h6.size h6 h9:=X7.trans (X8.trans X9)
   have e9:[] ++ pcv e.o.ps ++ pcv told=pcv (e.o.ps ++ told):=by unfold pcv; rw [List.flatMap_append]; rfl
   rw [e9] at R9
   refine Gg (Dr R9.slc (by rw [l9,l8,M.pl,tl,List.length_append]; show 0 + e.o.ps.length + told.length=_; omega)) (by rw [List.length_append]; omega) fun s10 h10 R10 l10 X10=>?_
   have z10:=X10.size
   have X610:Ext h6.size h6 h10:=X69.trans (X10.mono (by omega))
   have P610:=P6'.ext X610 P6'.lt
   refine jI P610 (by show 3 < 33; decide) fun h11 P11 U11=>?_
   have z11:=U11.size
   have ml:=(u7 (e.o.ps ++ told)).len
   rw [List.length_append] at ml
   have p10:∀ g,s10.blk=some g->h9.size<=g:=fun g hg=>(R10.bd hg).1
   refine tail s10 (fT (e.o.ps ++ told)) h11 (by rw [if_pos k2]) (by omega) (X06.trans ((X610.mono (by omega)).trans (U11.ext (Nat.le_refl _) (by omega)))) ?_ P11 l10 (xz ?_ fun g hg ob=>?_)
   ·exact R6.keep fun g hg=>by
     have:=(R6.bd hg).2
     rw [U11.block g (by omega) (by have:=y5 g hg; omega),X610.block g this]
   ·exact xz (O:=fun g=>g=h.size) R10.slc (fun g hg q=>by have:=p10 g hg; have:=X06.size; omega) h11 (Stp.vX U11 (.inl rfl))
   ·have:=p10 g hg
    rcases ob with ob | ob
    ·omega
    ·have:=hbd g ob; omega
  ·rw [if_neg (by simpa using k2)]
   refine tail e.x.aP e.o.ps h6 (by rw [if_neg k2]) (by omega) X06 R6 P6' M.pl ?_
   exact ((D.I e he).step (Stp.oL X06) fun g hg=>hg.elim (fun q=>.inr (by omega)) .inl).imp fun _ q=>q.p
end
end Go.Q.Yq
end
section
/- Desks: who is still to be asked. -/
namespace Go.Q.Yq
open Go.Q.Rw
abbrev wcs (l:List aY):List Value:=l.flatMap aY.cs
theorem N7 (x:aY):(aY.cs x).length=2:=rfl
theorem GU (x:aY):∀ v∈aY.cs x,v.oneCell'=true:=fun v hv=>by simp [aY.cs] at hv; rcases hv with rfl | rfl <;> rfl
def jf (n:Int) (ys ns:List Int):List aY:=(ns.filter fun a=>decide (a ∉ ys)).map fun a=>⟨n,a⟩
def wants (o:OpV):List aY:=if o.x.aI then [] else jf o.x.f_N o.ys o.ns
theorem nM {n:Int} {ys ns:List Int} {i:Nat} {a:Int} (h:ns[i]? = some a):jf n ys (ns.take (i + 1))=jf n ys (ns.take i) ++ (if a∈ys then [] else [⟨n,a⟩]):=by
 unfold jf
 rw [List.take_add_one,h,Option.toList_some,List.filter_append,List.map_append]
 by_cases c:a∈ys
 ·rw [if_pos c,List.filter_cons_of_neg (by simpa using c)]; rfl
 ·rw [if_neg c,List.filter_cons_of_pos (by simpa using c)]; rfl
theorem wo (n:Int) (ys ns:List Int):(jf n ys ns).length<=ns.length:=by
 unfold jf; rw [List.length_map]; exact List.length_filter_le _ _
theorem JI {α β:Type} {f:α->List β} {c:Nat}:∀ (l:List α),(∀ x∈l,(f x).length<=c)->(l.flatMap f).length<=l.length * c
 | [],_=>by simp
 | x :: r,h=>by
  have h1:=h x (by simp)
  have h2:=JI r fun y hy=>h y (by simp [hy])
  rw [List.flatMap_cons,List.length_append,List.length_cons,Nat.add_mul]; omega
theorem Lu {s t:Slc} {l:List aY} {k:KP Bool} {h:Heap} (A:LsAt aY.cs 2 h s l) (B:LsAt aY.cs 2 h t l) (m:l.length<=1000000) (H:k true h):qC s t k h:=by
 unfold qC
 rw [A.l,B.l,if_neg (by simp)]
 unfold xg
 refine ⟨fun i h'=>h'=h/\0<=i/\i<=(l.length:Int),fun i _=>l.length - i.toNat,⟨rfl,Int.le_refl _,by omega⟩,?_⟩
 rintro i h' ⟨rfl,i0,i1⟩
 unfold uV
 rw [A.l,B.l]
 by_cases hi:i < (l.length:Int)
 ·rw [if_pos (by simpa using hi)]
  obtain ⟨a,x,ha,_,_,hx,hc⟩:=A.it i0 hi
  obtain ⟨b,y,hb,_,_,hy,hd⟩:=B.it i0 hi
  obtain rfl:y=x:=Option.some.inj (hy.symm.trans hx)
  refine ⟨a,ha,i0,hi,y,hc,b,hb,i0,hi,y,hd,?_⟩
  rw [if_neg (by simp)]
  exact ⟨_,rfl,by rw [aA (by omega) (by omega)]; exact ⟨⟨rfl,by omega,by omega⟩,by show l.length - (i + 1).toNat < l.length - i.toNat; omega⟩⟩
 ·rw [if_neg (by simpa using hi)]; exact H
section
variable {W:kQ} {h:Heap} {d:Nat} {s:Slc} {L:List RE}
theorem Nw {k:KP Slc} (D:fP W h d s L) (m:L.length<=1000) (nz:∀ e∈L,e.o.ns.length<=1000) (yz:∀ e∈L,e.o.ys.length<=1000000)
  (H:∀ t h',Row h.size h' 84 2 t (wcs (L.flatMap fun e=>wants e.o))->t.len=(L.flatMap fun e=>wants e.o).length->Ext h.size h h'->k t h'):qR (some ⟨d,0,none⟩) k h:=by
 unfold qR xR
 refine ⟨fun q h'=>∃ i:Nat,q.2=(i:Int)/\i<=L.length/\Ext h.size h h'/\Row h.size h' 84 2 q.1 (wcs ((L.take i).flatMap fun e=>wants e.o))/\q.1.len=((L.take i).flatMap fun e=>wants e.o).length,fun q _=>L.length - q.2.toNat,⟨0,rfl,by omega,Ext.refl _ _,by simpa using Row.nil _ _ _ _,rfl⟩,?_⟩
 rintro t3 ii h1 ⟨i,ei,il,X1,R,rl⟩
 dsimp only at ei R rl
 subst ei
 have z1:=X1.size
 have D1:=D.ext X1
 unfold wR
 refine ⟨_,rfl,s,D1.cs,?_⟩
 by_cases c:(i:Int) < (s.len:Int)
 rotate_left
 ·rw [if_neg (by simpa using c)]
  rw [List.take_of_length_le (by rw [← D.l]; omega)] at R rl
  exact H t3 h1 R rl X1
 rw [if_pos (by simpa using c)]
 have il':i < L.length:=by rw [← D.l]; omega
 obtain ⟨e,he⟩:∃ e,L[i]? = some e:=⟨_,List.getElem?_eq_getElem il'⟩
 have hm:=List.mem_of_getElem? he
 have M:=D.m hm
 have dn:e.x.aI=e.o.x.aI:=by rw [← M.e]; rfl
 have nn:e.x.f_N=e.o.x.f_N:=by rw [← M.e]; rfl
 have ez:=nz e hm
 have bd:((L.take i).flatMap fun e=>wants e.o).length<=1000 * 1000:=by
  have:=JI (f:=fun e:RE=>wants e.o) (c:=1000) (L.take i) fun f hf=>by
   unfold wants; split
   ·simp
   ·exact Nat.le_trans (wo _ _ _) (nz f (List.mem_of_mem_take hf))
  rw [List.length_take] at this
  exact Nat.le_trans this (Nat.mul_le_mul_right _ (by omega))
 have ti:(L.take (i + 1)).flatMap (fun e=>wants e.o)=(L.take i).flatMap (fun e=>wants e.o) ++ wants e.o:=by rw [List.take_add_one,he,Option.toList_some,List.flatMap_append]; simp
 obtain ⟨out,eo⟩:∃ out,out=(L.take i).flatMap fun e=>wants e.o:=⟨_,rfl⟩
 rw [← eo] at R rl bd ti
 unfold xS
 refine ⟨fun q h'=>∃ j:Nat,q.2=(j:Int)/\j<=e.o.ns.length/\(e.o.x.aI=true->j=0)/\Ext h.size h h'/\Row h.size h' 84 2 q.1 (wcs (out ++ jf e.o.x.f_N e.o.ys (e.o.ns.take j)))/\q.1.len=(out ++ jf e.o.x.f_N e.o.ys (e.o.ns.take j)).length,fun q _=>e.o.ns.length - q.2.toNat,⟨0,rfl,by omega,fun _=>rfl,X1,by simpa [jf] using R,by simpa [jf] using rl⟩,?_⟩
 rintro t4 jj h2 ⟨j,ej,jl,dj,X2,R2,rl2⟩
 dsimp only at ej R2 rl2
 subst ej
 have z2:=X2.size
 have D2:=D.ext X2
 have M2:=M.ext X2
 obtain ⟨a,f,ha,g0,g1,hf,hc⟩:=D2.ls.it (i:=(i:Int)) (by omega) (by omega)
 rw [Int.toNat_natCast,he] at hf; cases hf
 have wl:=wo e.o.x.f_N e.o.ys (e.o.ns.take j)
 rw [List.length_take] at wl
 -- the next op
 have nxt:(e.o.x.aI=true∨j=e.o.ns.length)->jG (some ⟨d,0,none⟩) t4 (i:Int) (j:Int) false k (fun q h'=>(∃ i:Nat,q.2=(i:Int)/\i<=L.length/\Ext h.size h h'/\Row h.size h' 84 2 q.1 (wcs ((L.take i).flatMap fun e=>wants e.o))/\q.1.len=((L.take i).flatMap fun e=>wants e.o).length)/\L.length - q.2.toNat < L.length - ((i:Nat):Int).toNat) (fun q h'=>(∃ j:Nat,q.2=(j:Int)/\j<=e.o.ns.length/\(e.o.x.aI=true->j=0)/\Ext h.size h h'/\Row h.size h' 84 2 q.1 (wcs (out ++ jf e.o.x.f_N e.o.ys (e.o.ns.take j)))/\q.1.len=(out ++ jf e.o.x.f_N e.o.ys (e.o.ns.take j)).length)/\e.o.ns.length - q.2.toNat < e.o.ns.length - ((j:Nat):Int).toNat) h2:=fun cc=>by
  unfold jG
  rw [if_neg (by simp)]
  refine ⟨_,rfl,?_⟩
  rw [aA (by omega) (by omega)]
  have ew:jf e.o.x.f_N e.o.ys (e.o.ns.take j)=wants e.o:=by
   unfold wants
   rcases cc with cc | cc
   ·rw [if_pos cc,dj cc]; rfl
   ·split
    ·rename_i q; rw [dj q]; rfl
    ·rw [cc,List.take_length]
  rw [ew,← ti] at R2 rl2
  exact ⟨⟨i + 1,by dsimp only; omega,by omega,X2,R2,rl2⟩,by dsimp only; omega⟩
 unfold vS
 refine ⟨_,rfl,s,D2.cs,a,ha,g0,g1,e.x.aQ,Ay hc rfl,?_⟩
 rw [M.nl]
 by_cases cj:(j:Int) < (e.o.ns.length:Int)
 rotate_left
 ·rw [if_neg (by simpa using cj)]
  exact nxt (.inr (by omega))
 rw [if_pos (by simpa using cj)]
 obtain ⟨dv,hdv⟩:∃ dv,dv=e.o.x.aI:=⟨_,rfl⟩
 refine ⟨s,D2.cs,a,ha,g0,g1,dv,by rw [hdv,← dn]; exact Ay hc rfl,?_⟩
 cases dv with
 | true=>exact nxt (.inl hdv.symm)
 | false =>
  have hd:=hdv.symm
  have jl':j < e.o.ns.length:=by omega
  obtain ⟨n,hn⟩:∃ n,e.o.ns[j]? = some n:=⟨_,List.getElem?_eq_getElem jl'⟩
  obtain ⟨b,hb,hcb⟩:=M2.n.get (i:=j) (v:=.int .i64 n) (by unfold ints; rw [List.getElem?_map,hn]; rfl)
  have nl:=M.nl
  have fin:∀ t' h',Ext h.size h h'->Row h.size h' 84 2 t' (wcs (out ++ jf e.o.x.f_N e.o.ys (e.o.ns.take (j + 1))))->t'.len=(out ++ jf e.o.x.f_N e.o.ys (e.o.ns.take (j + 1))).length->∀ nx1,lS (some ⟨d,0,none⟩) (i:Int) (j:Int) t' k nx1 (fun q h'=>(∃ j:Nat,q.2=(j:Int)/\j<=e.o.ns.length/\(e.o.x.aI=true->j=0)/\Ext h.size h h'/\Row h.size h' 84 2 q.1 (wcs (out ++ jf e.o.x.f_N e.o.ys (e.o.ns.take j)))/\q.1.len=(out ++ jf e.o.x.f_N e.o.ys (e.o.ns.take j)).length)/\e.o.ns.length - q.2.toNat < e.o.ns.length - ((j:Nat):Int).toNat) h':=fun t' h' X' R' l' nx1=>by
   unfold lS
   refine ⟨_,rfl,?_⟩
   rw [aA (by omega) (by omega)]
   exact ⟨⟨j + 1,by dsimp only; omega,by omega,(fun q=>by rw [hd] at q; cases q),X',R',l'⟩,by dsimp only; omega⟩
  unfold jG
  rw [if_pos (by rfl)]
  refine ⟨_,rfl,s,D2.cs,a,ha,g0,g1,e.x.eD,Ay hc rfl,s,D2.cs,a,ha,g0,g1,e.x.aQ,Ay hc rfl,b,hb,by omega,by omega,n,by rw [Nat.mul_one,Int.toNat_natCast]; exact hcb,ET M2.y M2.yl (yz e hm) ?_⟩
  by_cases cy:n∈e.o.ys
  ·rw [decide_eq_true cy,if_neg (by decide)]
   refine fin t4 h2 X2 ?_ ?_ _
   ·rw [nM hn,if_pos cy,List.append_nil]; exact R2
   ·rw [nM hn,if_pos cy,List.append_nil]; exact rl2
  ·rw [decide_eq_false cy,if_pos (by rfl)]
   refine ⟨s,D2.cs,a,ha,g0,g1,e.x.f_N,zx hc rfl,s,D2.cs,a,ha,g0,g1,e.x.aQ,Ay hc rfl,b,hb,by omega,by omega,n,by rw [Nat.mul_one,Int.toNat_natCast]; exact hcb,bx0 fun h3 B3 X3=>?_⟩
   have z3:=X3.size
   rw [List.length_append] at rl2
   refine app1 (R2.keep fun g hg=>X3.block g (R2.bd hg).2) (by omega) rfl rfl (GU _) (by rw [rl2]; omega) (by rw [rl2]; simp only [maxLen]; omega) fun s4 h4 R4 l4 X4=>?_
   refine fin s4 h4 ((X2.trans (X3.mono z2)).trans X4) ?_ ?_ _
   ·rw [nM hn,if_neg cy,← List.append_assoc]
    unfold wcs
    rw [List.flatMap_append]
    rw [nn] at R4
    simpa using R4
   ·rw [nM hn,if_neg cy,l4,rl2]; simp; omega
end
end Go.Q.Yq
end
section
/- The desk: who is still to be asked. -/
namespace Go.Q.Yq
open Go.Q.Rw
def mK (E:List Ent) (n:Int):List aY:=match look E n with | some e=>wants e.o | none=>[]
section
variable {h:Heap} {r m:Nat} {E:List Ent}
theorem MR {k:KP Slc} (D:gW h r m E) (hz:E.length<=30) (nz:∀ e∈E,e.o.ns.length<=1000) (yz:∀ e∈E,e.o.ys.length<=1000000)
  (H:∀ (nums:List Int) t h',nums.Perm (E.map (·.n))->nums.Pairwise (·<=·)->Row h.size h' 84 2 t (wcs (nums.flatMap (mK E)))->t.len=(nums.flatMap (mK E)).length->Ext h.size h h'->k t h'):qA (some ⟨r,0,none⟩) k h:=by
 unfold qA
 refine E8 D hz fun s d h0 hp mono Rs X0=>?_
 have z0:=X0.size
 have sl:s.len=d.size:=by have:=Rs.len; unfold u8s at this; simpa using this
 have dl:d.size=E.length:=by have:=hp.length_eq; simpa using this
 obtain ⟨nums,en⟩:∃ nums,nums=d.toList:=⟨_,rfl⟩
 have nl:nums.length=d.size:=by rw [en]; simp
 rw [← en] at hp Rs
 have pw:nums.Pairwise (·<=·):=by
  rw [List.pairwise_iff_getElem]
  intro i j hi hj lt
  have:=mono i j (by omega) (by omega)
  subst en
  simpa [getElem!_def,show i < d.size from by omega,show j < d.size from by omega] using this
 have wbd:∀ n,(mK E n).length<=1000:=fun n=>by
  unfold mK
  cases hl:look E n with
  | none=>simp
  | some e =>
   obtain ⟨i,hi,_⟩:=Dl hl
   dsimp only
   unfold wants
   split
   ·simp
   ·exact Nat.le_trans (wo _ _ _) (nz e (List.mem_of_getElem? hi))
 unfold wU
 refine ⟨fun q h'=>∃ i:Nat,q.2=(i:Int)/\i<=nums.length/\Ext h.size h h'/\Ext h0.size h0 h'/\Row h0.size h' 84 2 q.1 (wcs ((nums.take i).flatMap (mK E)))/\q.1.len=((nums.take i).flatMap (mK E)).length,fun q _=>nums.length - q.2.toNat,⟨0,rfl,by omega,X0,Ext.refl _ _,by simpa using Row.nil _ _ _ _,rfl⟩,?_⟩
 rintro t3 ii h1 ⟨i,ei,il,X1,X01,R,rl⟩
 dsimp only at ei R rl
 subst ei
 have z1:=X01.size
 unfold uY
 rw [sl]
 by_cases c:(i:Int) < (d.size:Int)
 rotate_left
 ·rw [if_neg (by simpa using c)]
  rw [List.take_of_length_le (by omega)] at R rl
  exact H nums t3 h1 hp pw (R.mono z0) rl X1
 rw [if_pos (by simpa using c)]
 obtain ⟨v,hv⟩:∃ v,nums[i]? = some v:=⟨_,List.getElem?_eq_getElem (by omega)⟩
 obtain ⟨e,he,en2⟩:=List.mem_map.1 (hp.subset (List.mem_of_getElem? hv))
 obtain ⟨j0,hj0⟩:=List.getElem?_of_mem he
 have lk:look E v=some e:=by rw [← en2]; exact Ev D.nd hj0
 have D1:=D.ext X1
 have K:=D1.ok e he
 have M:=K.m
 have be:=K.be
 have dn:e.x.aI=e.o.x.aI:=by rw [← be]; rfl
 have nn:e.o.x.f_N=v:=by rw [← be,← en2]; exact K.n
 obtain ⟨a,ha,hc⟩:=Rs.slc.get (i:=i) (v:=.int .u64 v) (by unfold u8s; rw [List.getElem?_map,hv]; rfl)
 have ti:(nums.take (i + 1)).flatMap (mK E)=(nums.take i).flatMap (mK E) ++ wants e.o:=by
  rw [List.take_add_one,hv,Option.toList_some,List.flatMap_append]
  simp [mK,lk]
 have bd:((nums.take i).flatMap (mK E)).length<=1000 * 1000:=by
  have:=JI (f:=mK E) (c:=1000) (nums.take i) fun f hf=>wbd f
  rw [List.length_take] at this
  exact Nat.le_trans this (Nat.mul_le_mul_right _ (by omega))
 obtain ⟨out,eo⟩:∃ out,out=(nums.take i).flatMap (mK E):=⟨_,rfl⟩
 rw [← eo] at R rl bd ti
 have ez:=nz e he
 have nxt:∀ t' h',Ext h.size h h'->Ext h0.size h0 h'->Row h0.size h' 84 2 t' (wcs (out ++ wants e.o))->t'.len=(out ++ wants e.o).length->kK (some ⟨r,0,none⟩) s (d.size:Int) (i:Int) t' k (fun q h'=>(∃ i:Nat,q.2=(i:Int)/\i<=nums.length/\Ext h.size h h'/\Ext h0.size h0 h'/\Row h0.size h' 84 2 q.1 (wcs ((nums.take i).flatMap (mK E)))/\q.1.len=((nums.take i).flatMap (mK E)).length)/\nums.length - q.2.toNat < nums.length - ((i:Nat):Int).toNat) h':=fun t' h' X' Y' R' l'=>by
  unfold kK
  rw [aA (by omega) (by omega)]
  rw [← ti] at R' l'
  exact ⟨⟨i + 1,by dsimp only; omega,by omega,X',Y',R',l'⟩,by dsimp only; omega⟩
 obtain ⟨dv,hdv⟩:∃ dv,dv=e.o.x.aI:=⟨_,rfl⟩
 have hc1:ah h1 (a.add (((i:Nat):Int).toNat * 1))=some (.int .u64 v):=by rw [Nat.mul_one,Int.toNat_natCast]; exact X01.cellAt hc
 refine ⟨a,ha,by omega,by omega,v,hc1,_,rfl,some m,D1.P.cl0 rfl,_,D1.M,?_⟩
 rw [za,lk]
 refine ⟨⟨e.g,0,none⟩,rfl,dv,by rw [hdv,← dn]; exact K.B.cl rfl,?_⟩
 cases dv with
 | true =>
  rw [if_pos rfl]
  have:wants e.o=[]:=by unfold wants; rw [← hdv,if_pos rfl]
  exact nxt t3 h1 X1 X01 (by rw [this,List.append_nil]; exact R) (by rw [this,List.append_nil]; exact rl)
 | false =>
  rw [if_neg (by simp)]
  have we:wants e.o=jf v e.o.ys e.o.ns:=by unfold wants; rw [← hdv,if_neg (by simp),nn]
  rw [we] at nxt
  refine ⟨e.x.aQ,K.B.cl rfl,?_⟩
  unfold vZ
  refine ⟨fun q h'=>∃ j:Nat,q.2=(j:Int)/\j<=e.o.ns.length/\Ext h.size h h'/\Ext h0.size h0 h'/\Row h0.size h' 84 2 q.1 (wcs (out ++ jf v e.o.ys (e.o.ns.take j)))/\q.1.len=(out ++ jf v e.o.ys (e.o.ns.take j)).length,fun q _=>e.o.ns.length - q.2.toNat,⟨0,rfl,by omega,X1,X01,by simpa [jf] using R,by simpa [jf] using rl⟩,?_⟩
  rintro t4 jj h2 ⟨j,ej,jl,X2,X02,R2,rl2⟩
  dsimp only at ej R2 rl2
  subst ej
  have z2:=X02.size
  have K2:=(D.ext X2).ok e he
  have M2:=K2.m
  have nl2:=K2.nl
  have wl:=wo v e.o.ys (e.o.ns.take j)
  rw [List.length_take] at wl
  unfold uN
  rw [nl2]
  by_cases cj:(j:Int) < (e.o.ns.length:Int)
  rotate_left
  ·rw [if_neg (by simpa using cj)]
   rw [List.take_of_length_le (by omega)] at R2 rl2
   exact nxt t4 h2 X2 X02 R2 rl2
  rw [if_pos (by simpa using cj)]
  obtain ⟨n,hn⟩:∃ n,e.o.ns[j]? = some n:=⟨_,List.getElem?_eq_getElem (by omega)⟩
  obtain ⟨b,hb,hcb⟩:=M2.n.get (i:=j) (v:=.int .i64 n) (by unfold ints; rw [List.getElem?_map,hn]; rfl)
  have fin:∀ t' h',Ext h.size h h'->Ext h0.size h0 h'->Row h0.size h' 84 2 t' (wcs (out ++ jf v e.o.ys (e.o.ns.take (j + 1))))->t'.len=(out ++ jf v e.o.ys (e.o.ns.take (j + 1))).length->∀ nx1 t6 t29 t30,ky (some ⟨r,0,none⟩) v t6 s (d.size:Int) (i:Int) t29 t30 (j:Int) t' k nx1 (fun q h'=>(∃ j:Nat,q.2=(j:Int)/\j<=e.o.ns.length/\Ext h.size h h'/\Ext h0.size h0 h'/\Row h0.size h' 84 2 q.1 (wcs (out ++ jf v e.o.ys (e.o.ns.take j)))/\q.1.len=(out ++ jf v e.o.ys (e.o.ns.take j)).length)/\e.o.ns.length - q.2.toNat < e.o.ns.length - ((j:Nat):Int).toNat) h':=fun t' h' X' Y' R' l' nx1 t6 t29 t30=>by
   unfold ky
   rw [aA (by omega) (by omega)]
   exact ⟨⟨j + 1,by dsimp only; omega,by omega,X',Y',R',l'⟩,by dsimp only; omega⟩
  refine ⟨b,hb,by omega,by omega,n,by rw [Nat.mul_one,Int.toNat_natCast]; exact hcb,⟨e.g,0,none⟩,rfl,e.x.eD,K2.B.cl rfl,Gj ⟨M2.y,M2.yl,K2.Y.cap⟩ (yz e he) ?_⟩
  by_cases cy:n∈e.o.ys
  ·rw [decide_eq_true cy,if_neg (by decide)]
   refine fin t4 h2 X2 X02 ?_ ?_ _ _ _ _
   ·rw [nM hn,if_pos cy,List.append_nil]; exact R2
   ·rw [nM hn,if_pos cy,List.append_nil]; exact rl2
  ·rw [decide_eq_false cy,if_pos (by rfl)]
   refine bx0 fun h3 B3 X3=>?_
   have z3:=X3.size
   rw [List.length_append] at rl2
   refine app1 (R2.keep fun g hg=>X3.block g (R2.bd hg).2) (by omega) rfl rfl (GU _) (by rw [rl2]; omega) (by rw [rl2]; simp only [maxLen]; omega) fun s4 h4 R4 l4 X4=>?_
   have X24:Ext h0.size h2 h4:=(X3.mono z2).trans X4
   refine fin s4 h4 (X2.trans (X24.mono z0)) (X02.trans X24) ?_ ?_ _ _ _ _
   ·rw [nM hn,if_neg cy,← List.append_assoc]
    unfold wcs
    rw [List.flatMap_append]
    simpa using R4
   ·rw [nM hn,if_neg cy,l4,rl2]; simp; omega
end
end Go.Q.Yq
end
section
/- Quorum: what is looked at, what is picked. -/
namespace Go.Q.Yq
open Go.Q.Rw
theorem FP {p0:Slc} {l:List Pc} {n:Nat} {k:KP Bool} {h:Heap} (L:Pcs h p0 l) (n1:n<=1000) (H0:k true h) (H1:l.length<=n->(∀ p∈l,p.ak.size<=400)->k false h):uz p0 n k h:=by
 unfold uz Bj
 refine ⟨fun i h'=>h'=h/\0<=i/\i<=(n:Int)/\∀ p∈l.take i.toNat,p.ak.size<=400,fun i _=>n - i.toNat,⟨rfl,Int.le_refl _,by omega,by simp⟩,?_⟩
 rintro i h' ⟨rfl,i0,i1,al⟩
 unfold Ao
 rw [L.l]
 by_cases hi:i < (l.length:Int)/\i < (n:Int)
 ·rw [if_pos (by simpa using hi)]
  obtain ⟨a,x,ha,g0,g1,hx,hc⟩:=L.it i0 hi.1
  rw [L.l] at g1
  refine ⟨a,ha,g0,g1,x.ak,zx hc rfl,?_⟩
  by_cases hs:x.ak.size<=400
  ·rw [if_neg (by simp; omega)]
   refine ⟨_,rfl,?_⟩
   rw [aA (by omega) (by omega)]
   refine ⟨⟨rfl,by omega,by omega,?_⟩,by dsimp only; omega⟩
   rw [take1 i0 hx]
   intro p hp
   rcases List.mem_append.1 hp with hp | hp
   ·exact al p hp
   ·simp only [List.mem_singleton] at hp; subst hp; exact hs
  ·rw [if_pos (by simp; omega)]
   exact H0
 ·rw [if_neg (by simpa using hi)]
  by_cases hl:l.length<=n
  ·rw [show decide ((l.length:Int) > (n:Int))=false from by simp; omega]
   rw [oV (by omega)] at al
   exact H1 hl al
  ·rw [show decide ((l.length:Int) > (n:Int))=true from by simp; omega]
   exact H0
theorem MQ {x:Int} {n:Nat} {k:KP Int} {h:Heap} (n0:1<=n) (n1:n<=1000000) (H:∀ r:Int,0<=r->r < n->k r h):zw x n k h:=by
 unfold zw tq
 rw [if_neg (by simp; omega)]
 have h1:-(n:Int) < x.tmod n/\x.tmod n < n:=by
  refine ⟨?_,Int.tmod_lt_of_pos x (by omega)⟩
  have:=Int.tmod_lt_of_pos (-x) (b:=n) (by omega)
  rw [Int.neg_tmod] at this; omega
 refine ⟨by omega,_,rfl,?_⟩
 by_cases hx:x.tmod n < 0
 ·rw [if_pos (by simpa using hx)]
  refine ⟨_,rfl,?_⟩
  rw [aA (by omega) (by omega)]
  exact H _ (by omega) (by omega)
 ·rw [if_neg (by simpa using hx)]
  exact H _ (by omega) (by omega)
/-- what of an act is no more than is looked at -/
structure QA (l ps:List ae) (ns:Slc) (s:ByteArray):Prop where
 l1:l.length<=20
 l2:∀ p∈l,p.ak.size<=400
 p1:ps.length<=20
 p2:∀ p∈ps,p.ak.size<=400
 n1:ns.len<=40
 s1:s.size<=300
theorem K5 {a:S_quaestorlaw31_Act} {l ps:List ae} {k:KP Bool} {h:Heap} (L:Pcs h a.f_L l) (P:Pcs h a.f_O.aP ps)
  (H:∀ b h',Ext h.size h h'->(b=false->QA l ps a.f_O.aQ a.f_O.f_Q.dF)->k b h'):xM a k h:=by
 unfold xM
 refine bx0 fun h2 P2 X2=>⟨a.f_L,P2.cl rfl,?_⟩
 have yes:∀ {g},mM g true k h2:=fun {g}=>by
  unfold mM; rw [if_pos rfl]
  unfold pI; rw [if_pos rfl]
  unfold mU
  exact H true h2 X2 fun q=>by cases q
 refine FP (n:=20) (L.ext X2) (by decide) (by rw [if_pos rfl]; exact yes) fun l1 l2=>?_
 rw [if_neg (by simp)]
 refine ⟨a.f_O.aP,by rw [kG]; exact P2.cl rfl,FP (n:=20) (P.ext X2) (by decide) yes fun p1 p2=>?_⟩
 unfold mM
 rw [if_neg (by simp)]
 refine ⟨a.f_O.aQ,by rw [kG]; exact P2.cl rfl,?_⟩
 unfold pI
 by_cases c:(a.f_O.aQ.len:Int) > 40
 ·rw [if_pos (by simpa using c)]
  unfold mU
  exact H true h2 X2 fun q=>by cases q
 ·rw [if_neg (by simpa using c)]
  refine ⟨a.f_O.f_Q.dF,by rw [kG]; exact P2.cl rfl,?_⟩
  unfold mU
  exact H _ h2 X2 fun q=>⟨l1,l2,p1,p2,by omega,by simp at q; omega⟩
end Go.Q.Yq
end

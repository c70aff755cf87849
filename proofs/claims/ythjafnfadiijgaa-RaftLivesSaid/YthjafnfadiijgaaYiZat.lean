/- A part of the proof of statements of this seat: lemmas, no statement of their own. -/
import Derived.Test.YthjafnfadiijgaaYiZas
set_option linter.unusedVariables false
set_option linter.unusedSimpArgs false
set_option maxRecDepth 100000
section
/- Letters. -/
namespace Go.Q.Yi
open Rf
theorem EB (vs:List aG):(vs.flatMap aG.cs).length=vs.length * 9:=rW (w:=9) (fun _=>rfl) vs
structure aP (O:bz) (h:Heap) (s:Slc) (l:List gQ):Prop where
 m:∃ ms:List aG,Row 0 h 45 9 s (ms.flatMap aG.cs)/\ms.length=l.length/\∀ (i:Nat) m x,ms[i]? = some m->l[i]? = some x->m.uz=x.1/\Imm (OB O s) h fun h=>uE h m.f_M x.2
 n:∀ g,s.blk=some g->¬ O g
def Cv (O:bz) (h:Heap) (v:ah) (x:Msg):Prop:=∀ S:bz,(∀ g,S g->O g∨∃ cs E,Blk h g cs E/\E≠65/\E≠5)->Imm S h fun h=>uE h v x
section
variable {O:bz} {h:Heap} {L:RLy} {r:RS}
theorem aP.len {s:Slc} {l:List gQ} (M:aP O h s l):s.len=l.length:=by
 obtain ⟨ms,R,e,_⟩:=M.m
 have:=R.1; rw [EB,e] at this; omega
theorem aP.nil (O:bz) (h:Heap):aP O h ⟨none,0,0⟩ []:=⟨⟨[],Row.nil _ _ _ _,rfl,by simp⟩,fun g hg=>by simp [Slc.blk] at hg⟩
theorem aP.ext {s:Slc} {l:List gQ} {h':Heap} (M:aP O h s l) (X:Ext h.size h h'):aP O h' s l:=by
 obtain ⟨ms,R,e,I⟩:=M.m
 exact ⟨⟨ms,R.ext X fun g hg=>(R.bd hg).2,e,fun i m x hm hx=>⟨(I i m x hm hx).1,(I i m x hm hx).2.ext X⟩⟩,M.n⟩
theorem aP.sub {O':bz} {s:Slc} {l:List gQ} (M:aP O h s l) (hO:∀ g,O' g->O g):aP O' h s l:=by
 obtain ⟨ms,R,e,I⟩:=M.m
 exact ⟨⟨ms,R,e,fun i m x hm hx=>⟨(I i m x hm hx).1,(I i m x hm hx).2.mono fun g hg=>.inl (hg.elim (fun h=>.inl (hO g h)) .inr)⟩⟩,fun g hg h=>M.n g hg (hO g h)⟩
/-- behind a step of a member -/
theorem aP.step {O' S:bz} {s:Slc} {l:List gQ} {h':Heap} (M:aP O h s l) (p:Stp S h h') (hS:∀ g,S g->O g∨h.size<=g) (hO:∀ g,O' g->O g∨h.size<=g):aP O' h' s l:=by
 obtain ⟨ms,R,e,I⟩:=M.m
 refine ⟨⟨ms,p.row R fun g hg h=>(hS g h).elim (M.n g hg) fun h2=>by have:=(R.bd hg).2; omega,e,fun i m x hm hx=>⟨(I i m x hm hx).1,(I i m x hm hx).2.step (p.mono fun g hg=>(hS g hg).elim (fun h=>.inl (.inl h)) .inr) fun g hg=>?_⟩⟩,fun g hg h=>(hO g h).elim (M.n g hg) fun h2=>by have:=(R.bd hg).2; omega⟩
 rcases hg with hg | hg
 ·exact (hO g hg).elim (fun h=>.inl (.inl h)) .inr
 ·exact .inl (.inr hg)
theorem AZ {out:Slc} {l:List gQ} {v:ah} {x:Msg} {node:Int} {k:KP Slc} (M:aP O h out l) (D:Cv O h v x) (ob:∀ g,O g->g < h.size) (hl:l.length < 100000)
  (H:∀ s h',aP O h' s (l ++ [(node,x)])->Stp (fun g=>out.blk=some g) h h'->(∀ g,s.blk=some g->out.blk=some g∨h.size<=g)->k s h') :
  App 45 9 104 [.int .i64 0,.int .i64 0,.int .u64 0,.int .u64 0,.int .u64 0,.int .u64 0,.bool false,.slice none 0 0,.slice none 0 0] h out 1 (aG.cs ⟨node,v⟩) k:=by
 have ol:=M.len
 obtain ⟨ms,R,e,I⟩:=M.m
 refine App.BR R (Nat.zero_le _) rfl rfl (uu (by kernel_rfl)) (by omega) (by simp only [maxLen]; omega) fun s h1 R1 l1 z1 o1 b1 _=>?_
 have S1:Stp (fun g=>out.blk=some g) h h1:=⟨z1,fun g hg hn=>o1 g hg hn⟩
 have sb:∀ g,s.blk=some g->out.blk=some g∨h.size<=g:=fun g hg=>by
  rcases b1 with ⟨b1,_⟩ | b1
  ·exact .inl (by rw [← b1]; exact hg)
  ·rw [b1] at hg; cases hg; exact .inr (Nat.le_refl _)
 refine H s h1 ⟨⟨ms ++ [⟨node,v⟩],?_,by simp [e],fun i m y hm hy=>?_⟩,fun g hg h2=>?_⟩ S1 sb
 ·have:(ms ++ [(⟨node,v⟩:aG)]).flatMap aG.cs=ms.flatMap aG.cs ++ aG.cs ⟨node,v⟩:=by simp
  rw [this]; exact R1
 ·rcases Nat.lt_or_ge i ms.length with hi | hi
  ·rw [List.getElem?_append_left hi] at hm
   rw [List.getElem?_append_left (by rw [← e]; exact hi)] at hy
   refine ⟨(I i m y hm hy).1,(I i m y hm hy).2.step (S1.mono fun g hg=>.inl (.inr hg)) fun g hg=>?_⟩
   rcases hg with hg | hg
   ·exact .inl (.inl hg)
   ·exact (sb g hg).elim (fun h=>.inl (.inr h)) .inr
  ·rw [List.getElem?_append_right hi] at hm
   rw [List.getElem?_append_right (by rw [← e]; exact hi),← e] at hy
   have:i - ms.length=0:=by have:=(List.getElem?_eq_some_iff.1 hm).1; simp at this; omega
   rw [this] at hm hy
   simp at hm hy
   subst hm; subst hy
   refine ⟨rfl,(D (OB O out) fun g hg=>hg.elim .inl fun h=>.inr (by obtain ⟨c,K⟩:=R.Cw h; exact ⟨c,_,K,by decide⟩)).step (S1.mono fun g hg=>.inl (.inr hg)) fun g hg=>?_⟩
   rcases hg with hg | hg
   ·exact .inl (.inl hg)
   ·exact (sb g hg).elim (fun h=>.inl (.inr h)) .inr
 ·exact (sb g hg).elim (fun h=>M.n g h h2) fun h3=>by have:=ob g h2; omega
theorem Ct {v:ah} {x:Msg} {node:Int} (D:Cv O h v x) (ob:∀ g,O g->g < h.size):aP O (h.push (.cells (aG.cs ⟨node,v⟩).toArray 45)) ⟨some ⟨h.size,0,none⟩,1,1⟩ [(node,x)]:=by
 have X:=Ext.push h (.cells (aG.cs ⟨node,v⟩).toArray 45) (Nat.le_refl _)
 refine ⟨⟨[⟨node,v⟩],?_,rfl,fun i m y hm hy=>?_⟩,fun g hg h2=>?_⟩
 ·exact (Row.rz (E:=45) (w:=9) h (aG.cs ⟨node,v⟩) 1 rfl (by decide)).mono (Nat.zero_le _)
 ·have:i=0:=by have:=(List.getElem?_eq_some_iff.1 hm).1; simp at this; omega
  rw [this] at hm hy
  simp at hm hy
  subst hm; subst hy
  exact ⟨rfl,(D O fun g hg=>.inl hg).step (.bu X) fun g hg=>hg.elim .inl fun h=>.inr (by simp [Slc.blk] at h; omega)⟩
 ·simp [Slc.blk] at hg; have:=ob g h2; omega
theorem Ia {v:ah} {x:Msg} (k:v.oZ=x.kind/\v.cZ=x.term/\v.mg=x.index/\v.sw=x.logTerm/\v.sH=x.commit/\v.Db=x.yes) (e1:v.dR=⟨none,0,0⟩) (e2:v.nK=⟨none,0,0⟩) (e3:x.aM=[]) (e4:x.aQ=[]):Cv O h v x:=fun S _ h' _=>⟨k,by rw [e1,e3]; exact dB.nil _,by rw [e2,e4]; exact pJ _,by rw [e2,e4]; rfl⟩
theorem sN {B:Nat} {h:Heap} {s:Slc} {xs:List Int} (R:Row B h 22 1 s (u8s xs)) {i:Int} (i0:0<=i) (i1:i < xs.length):∃ a:Addr,s.a=some a/\(0:Int)<=i/\i < (s.len:Int)/\af h (a.add (i.toNat * 1))=some (.int .u64 (xs.getD i.toNat 0)):=by
 have hl:=R.1
 have e:(u8s xs).length=xs.length:=by simp [u8s]
 rw [e] at hl
 obtain ⟨v,hv⟩:∃ v,xs[i.toNat]? = some v:=⟨_,List.getElem?_eq_getElem (by omega)⟩
 obtain ⟨a,ha,_,h2,hc⟩:=KQ (s:=s) (zs:=xs) R.slc (by omega) i0 hv
 exact ⟨a,ha,i0,h2,by rw [List.getD_eq_getElem?_getD,hv]; exact hc⟩
/-- what a node is to have -/
theorem HZ {node:Int} {k:KP ah} (R:aC O h L r) (n0:0<=node) (n1:node < r.next.length) (H:∀ v h',Cv O h' v (r.due node)->Ext h.size h h'->k v h'):kM (some ⟨L.b,0,none⟩) node k h:=by
 unfold kM
 refine ⟨_,_,rfl,rfl,?_⟩
 have X:=Ext.push h (.cells (ah.cs ⟨0,0,0,0,0,false,⟨none,0,0⟩,⟨none,0,0⟩⟩).toArray 26) (Nat.le_refl _)
 have P0:=Blk.push h (ah.cs ⟨0,0,0,0,0,false,⟨none,0,0⟩,⟨none,0,0⟩⟩) 26
 obtain ⟨b1,eb⟩:∃ y,y=h.size:=⟨_,rfl⟩
 obtain ⟨h2,e2⟩:∃ y,y=h.push (.cells (ah.cs ⟨0,0,0,0,0,false,⟨none,0,0⟩,⟨none,0,0⟩⟩).toArray 26):=⟨_,rfl⟩
 rw [← eb,← e2] at P0 ⊢
 rw [← e2] at X
 have R2:=R.ext X
 have z2:=X.size
 have bl2:=P0.lt
 obtain ⟨a5,ha5,i0,i1,hc⟩:=sN R2.p.nx n0 n1
 have nb:=R.wf.nx
 have vb:0<=r.next.getD node.toNat 0/\r.next.getD node.toNat 0 < 18446744073709551616:=by
  obtain ⟨v,hv⟩:∃ v,r.next[node.toNat]? = some v:=⟨_,List.getElem?_eq_getElem (by omega)⟩
  rw [List.getD_eq_getElem?_getD,hv]; exact nb v (List.mem_of_getElem? hv)
 refine ⟨_,rfl,L.next,R2.c 11,a5,ha5,i0,i1,_,hc,_,R2.c 4,xX R2.p.l ?_⟩
 unfold RS.due at H
 generalize r.next.getD node.toNat 0=v6 at *
 have tail:∀ {v:ah} {h5:Heap},Ext h2.size h2 h5->Cv O h5 v (if v6<=r.log.ix then ⟨5,r.term,r.log.ix,r.log.tm,r.commit,false,[],r.aQ⟩ else ⟨3,r.term,W (v6 - 1),(r.log.aF (W (v6 - 1))).1,r.commit,false,(r.log.frm v6 4).1,[]⟩) ->
   ∃ h27:Heap,dE h5 (⟨b1,0,none⟩:Addr) 8/\h27=aU h5 (⟨b1,0,none⟩:Addr) 0 (ah.cs v)/\(∃ v28:ah,aJ h27 (⟨b1,0,none⟩:Addr) (ah.cs v28)/\k v28 h27):=fun {v h5} X5 D=>by
  have P5:=P0.ext X5 bl2
  refine ⟨_,dE.eQ P5 (by show 8<=8; omega),rfl,?_⟩
  have P6:=P5.jZ (vs:=ah.cs v) rfl
  have z5:=X5.size
  have X6:Ext h.size h5 (aU h5 ⟨b1,0,none⟩ 0 (ah.cs v)):=Ext.sets _ _ _ (by show h.size<=b1; omega)
  have old:∀ g,g≠b1->(aU h5 ⟨b1,0,none⟩ 0 (ah.cs v))[g]? = h5[g]?:=fun g hg=>lD _ _ hg
  generalize aU h5 ⟨b1,0,none⟩ 0 (ah.cs v)=h6 at *
  refine ⟨v,aJ.eQ P6,H v h6 (fun S hS=>?_) (X.trans ((X5.mono z2).trans X6))⟩
  refine (D (fun g=>S g∨g=b1) fun g hg=>?_).step ⟨X6.size,fun g hg hn=>old g fun e=>hn (.inr e)⟩ fun g hg=>.inl (.inl hg)
  by_cases e:g=b1
  ·subst e; exact .inr ⟨_,_,P5,by decide⟩
  ·exact (hg.resolve_right e |> hS g).imp id fun ⟨cs,E,K,hE⟩=>⟨cs,E,K.old (old g e).symm,hE⟩
 have ob2:=R2.ob
 by_cases hv:v6<=r.log.ix
 ·rw [if_pos (by simpa using hv)]
  simp only [if_pos hv] at H tail
  have wf:=R.wf
  refine ⟨_,R2.c 2,_,R2.c 6,L.aQ,R2.c 5,sG (l:=r.aQ) R2.p.sl R2.p.sn.now (by have:=wf.sn.2; omega) fun s h3 R3 X3=>?_⟩
  have R4:=R2.ext X3
  refine ⟨R4.c 6,R4.c 2,tail X3 fun S hS h' p=>?_⟩
  have R5:=p.row R3 fun g hg h5=>by
   rcases hS g h5 with h6 | ⟨cs,E,K,hE⟩
   ·have:=(R3.bd hg).1; have:=ob2 g h6; omega
   ·exact R3.aZ K hE.2.symm hg
  exact ⟨⟨rfl,rfl,rfl,rfl,rfl,rfl⟩,dB.nil h',R5.slc,by simpa using R5.len⟩
 ·rw [if_neg (by simpa using hv)]
  simp only [if_neg hv] at H tail
  have ln:=R.p.l.x0
  refine ⟨_,R2.c 4,Eg R2.p.l vb.1 vb.2 (by omega) (by omega) fun s h3 vs F3 X3=>?_⟩
  have R3:=R2.ext X3
  have ew:IntKind.u64.wrap (v6 - 1)=W (v6 - 1):=rfl
  obtain ⟨w0,w1⟩:=xI (v6 - 1)
  refine ⟨_,R3.c 4,rP R3.p.l w0 w1 ⟨_,R3.c 2,_,R3.c 6,tail X3 fun S hS h' p=>?_⟩⟩
  have hn:∀ {B E w:Nat} {s:Slc} {xs:List Value},Row B h3 E w s xs->(E=65∨E=5)->h2.size<=B->∀ g,s.blk=some g->¬ S g:=fun Rw hE hB g hg h5=>by
   rcases hS g h5 with h6 | ⟨cs,E',K,hE'⟩
   ·have:=(Rw.bd hg).1; have:=ob2 g h6; omega
   ·rcases hE with rfl | rfl
    ·exact Rw.aZ K hE'.1.symm hg
    ·exact Rw.aZ K hE'.2.symm hg
  have F5:nD h2.size h' s (r.log.frm v6 4).1 vs:=⟨p.row F3.r (hn F3.r (.inl rfl) (Nat.le_refl _)),F3.l,fun i v e hv he=>⟨(F3.e i v e hv he).1,p.row (F3.e i v e hv he).2 (hn (F3.e i v e hv he).2 (.inr rfl) (Nat.le_refl _))⟩⟩
  exact ⟨⟨rfl,rfl,rfl,rfl,rfl,rfl⟩,F5.aM,pJ h',rfl⟩
/-! ### to all others -/
def oQ (me:Int) (i:Nat):List Int:=((List.range i).map (fun (j:Nat)=>(j:Int))).filter fun j=>j != me
theorem vZ (me:Int) (i:Nat):oQ me (i + 1)=oQ me i ++ if (i:Int)=me then [] else [(i:Int)]:=by
 unfold oQ
 rw [List.range_succ,List.map_append,List.filter_append]
 congr 1
 by_cases h:(i:Int)=me <;> simp [h]
theorem uK (me:Int) (i:Nat):(oQ me i).length<=i:=by
 unfold oQ
 exact Nat.le_trans (List.length_filter_le _ _) (by simp)
theorem vB {k:KP Slc} (R:aC O h L r) (hn:r.next.length=r.n.toNat) (H:∀ s h',aP O h' s (r.others r.due)->Ext h.size h h'->(∀ g,s.blk=some g->h.size<=g)->k s h'):bV (some ⟨L.b,0,none⟩) (some ⟨L.b,0,none⟩) k h:=by
 have wf:=R.wf
 have nb:=wf.n
 unfold bV
 refine ⟨_,rfl,_,R.c 1,?_⟩
 unfold jo
 refine ⟨fun q h'=>0<=q.2/\q.2<=r.n/\aP O h' q.1 ((oQ r.me q.2.toNat).map fun i=>(i,r.due i))/\Ext h.size h h'/\(∀ g,q.1.blk=some g->h.size<=g),fun q _=>(r.n - q.2).toNat,⟨Int.le_refl _,by omega,aP.nil _ _,Ext.refl _ _,fun g hg=>by simp [Slc.blk] at hg⟩,?_⟩
 rintro out i h1 ⟨i0,i1,M,X,ob⟩
 dsimp only at i0 i1 M ob
 have R1:=R.ext X
 have z1:=X.size
 unfold jb
 have nx:∀ {s:Slc} {h2:Heap},i < r.n->aP O h2 s ((oQ r.me (i.toNat + 1)).map fun i=>(i,r.due i))->Ext h.size h h2->(∀ g,s.blk=some g->h.size<=g)->bI (some ⟨L.b,0,none⟩) (some ⟨L.b,0,none⟩) r.n i s k (fun q h'=>(0<=q.2/\q.2<=r.n/\aP O h' q.1 ((oQ r.me q.2.toNat).map fun i=>(i,r.due i))/\Ext h.size h h'/\(∀ g,q.1.blk=some g->h.size<=g))/\(r.n - q.2).toNat < (r.n - i).toNat) h2:=fun {s h2} hi M2 X2 ob2=>by
  unfold bI
  rw [az (by omega) (by omega)]
  exact ⟨⟨by dsimp only; omega,by dsimp only; omega,by dsimp only; rw [show (i + 1).toNat=i.toNat + 1 from by omega]; exact M2,X2,ob2⟩,by dsimp only; omega⟩
 by_cases hi:i < r.n
 ·rw [if_pos (by simpa using hi)]
  refine ⟨_,rfl,_,R1.c0,?_⟩
  have es:=vZ r.me i.toNat
  rw [Int.toNat_of_nonneg i0] at es
  by_cases hm:i=r.me
  ·rw [if_neg (by simpa using hm)]
   rw [if_pos hm,List.append_nil] at es
   exact nx hi (by rw [es]; exact M) X ob
  ·rw [if_pos (by simpa using hm)]
   rw [if_neg hm] at es
   refine HZ R1 i0 (by omega) fun v h2 D X2=>?_
   have z2:=X2.size
   refine ⟨_,_,rfl,rfl,?_⟩
   have X3:=Ext.push h2 (.cells (aG.cs ⟨i,v⟩).toArray 45) (Nat.le_refl _)
   have K3:=Blk.push h2 (aG.cs ⟨i,v⟩) 45
   have D3:Cv O (h2.push (.cells (aG.cs ⟨i,v⟩).toArray 45)) v (r.due i):=fun S hS=>by
    refine (D (fun g=>S g/\g < h2.size) fun g hg=>(hS g hg.1).imp id fun ⟨cs,E,K,hE⟩=>⟨cs,E,K.old (X3.block g hg.2).symm,hE⟩).step (.bu X3) fun g hg=>?_
    by_cases hz:g < h2.size
    ·exact .inl ⟨hg,hz⟩
    ·exact .inr (by omega)
   have M3:=(M.ext X2).ext X3
   have R3:=(R1.ext X2).ext X3
   generalize h2.push (.cells (aG.cs ⟨i,v⟩).toArray 45)=h3 at *
   have z3:=X3.size
   refine AZ M3 D3 R3.ob (by rw [List.length_map]; have:=uK r.me i.toNat; omega) fun s h4 M4 S4 f4=>nx hi ?_ (X.trans ((X2.mono z1).trans ((X3.mono (by omega)).trans (S4.ext (fun g hg=>ob g hg) (by omega))))) fun g hg=>(f4 g hg).elim (ob g) fun h=>by omega
   rw [es,List.map_append]; exact M4
 ·rw [if_neg (by simpa using hi)]
  have:i.toNat=r.n.toNat:=by omega
  rw [this] at M
  exact H out h1 M X ob
theorem KG {c0 c1 c2:Nat} {node ix tm:Int} {E0:Nat} {k:KP ah} (R:aC O h L r) (K0:Blk h c0 [.pointer (some ⟨L.b,0,none⟩)] E0) (K1:Blk h c1 [.int .u64 ix] 22) (K2:Blk h c2 [.int .u64 tm] 22)
  (H:∀ v h',Cv O h' v ⟨1,r.term,ix,tm,0,false,[],[]⟩->Ext h.size h h'->k v h'):kg node ⟨c0,0,none⟩ ⟨c1,0,none⟩ ⟨c2,0,none⟩ k h:=by
 unfold kg
 refine ⟨_,_,rfl,rfl,?_⟩
 have X:=Ext.push h (.cells (ah.cs ⟨0,0,0,0,0,false,⟨none,0,0⟩,⟨none,0,0⟩⟩).toArray 26) (Nat.le_refl _)
 have P0:=Blk.push h (ah.cs ⟨0,0,0,0,0,false,⟨none,0,0⟩,⟨none,0,0⟩⟩) 26
 have R2:=R.ext X
 have k0:=K0.ext X K0.lt
 have k1:=K1.ext X K1.lt
 have k2:=K2.ext X K2.lt
 generalize h.push (.cells (ah.cs ⟨0,0,0,0,0,false,⟨none,0,0⟩,⟨none,0,0⟩⟩).toArray 26)=h2 at *
 refine ⟨_,by rw [k0.cell]; rfl,_,rfl,_,R2.c 2,_,by rw [k1.cell]; rfl,_,by rw [k2.cell]; rfl,_,dE.eQ P0 (by show 8<=8; omega),rfl,?_⟩
 have P6:=P0.jZ (vs:=ah.cs ⟨1,r.term,ix,tm,0,false,⟨none,0,0⟩,⟨none,0,0⟩⟩) rfl
 have X6:Ext h.size h2 (aU h2 ⟨h.size,0,none⟩ 0 (ah.cs ⟨1,r.term,ix,tm,0,false,⟨none,0,0⟩,⟨none,0,0⟩⟩)):=Ext.sets _ _ _ (Nat.le_refl _)
 exact ⟨_,aJ.eQ P6,H _ _ (Ia ⟨rfl,rfl,rfl,rfl,rfl,rfl⟩ rfl rfl rfl rfl) (X.trans X6)⟩
theorem Ac {c0 c1 c2:Nat} {ix tm:Int} {E0:Nat} {k:KP Slc} (R:aC O h L r) (K0:Blk h c0 [.pointer (some ⟨L.b,0,none⟩)] E0) (K1:Blk h c1 [.int .u64 ix] 22) (K2:Blk h c2 [.int .u64 tm] 22)
  (H:∀ s h',aP O h' s (r.others fun _=>⟨1,r.term,ix,tm,0,false,[],[]⟩)->Ext h.size h h'->(∀ g,s.blk=some g->h.size<=g)->k s h'):bN (some ⟨L.b,0,none⟩) ⟨c0,0,none⟩ ⟨c1,0,none⟩ ⟨c2,0,none⟩ k h:=by
 have wf:=R.wf
 have nb:=wf.n
 obtain ⟨m,em⟩:∃ m:Msg,m=⟨1,r.term,ix,tm,0,false,[],[]⟩:=⟨_,rfl⟩
 unfold bN
 refine ⟨_,rfl,_,R.c 1,?_⟩
 unfold gu
 refine ⟨fun q h'=>0<=q.2/\q.2<=r.n/\aP O h' q.1 ((oQ r.me q.2.toNat).map fun i=>(i,m))/\Ext h.size h h'/\(∀ g,q.1.blk=some g->h.size<=g),fun q _=>(r.n - q.2).toNat,⟨Int.le_refl _,by omega,aP.nil _ _,Ext.refl _ _,fun g hg=>by simp [Slc.blk] at hg⟩,?_⟩
 rintro out i h1 ⟨i0,i1,M,X,ob⟩
 dsimp only at i0 i1 M ob
 have R1:=R.ext X
 have z1:=X.size
 unfold fK
 have nx:∀ {s:Slc} {h2:Heap},i < r.n->aP O h2 s ((oQ r.me (i.toNat + 1)).map fun i=>(i,m))->Ext h.size h h2->(∀ g,s.blk=some g->h.size<=g)->aV (some ⟨L.b,0,none⟩) ⟨c0,0,none⟩ ⟨c1,0,none⟩ ⟨c2,0,none⟩ r.n i s k (fun q h'=>(0<=q.2/\q.2<=r.n/\aP O h' q.1 ((oQ r.me q.2.toNat).map fun i=>(i,m))/\Ext h.size h h'/\(∀ g,q.1.blk=some g->h.size<=g))/\(r.n - q.2).toNat < (r.n - i).toNat) h2:=fun {s h2} hi M2 X2 ob2=>by
  unfold aV
  rw [az (by omega) (by omega)]
  exact ⟨⟨by dsimp only; omega,by dsimp only; omega,by dsimp only; rw [show (i + 1).toNat=i.toNat + 1 from by omega]; exact M2,X2,ob2⟩,by dsimp only; omega⟩
 by_cases hi:i < r.n
 ·rw [if_pos (by simpa using hi)]
  refine ⟨_,rfl,_,R1.c0,?_⟩
  have es:=vZ r.me i.toNat
  rw [Int.toNat_of_nonneg i0] at es
  by_cases hm:i=r.me
  ·rw [if_neg (by simpa using hm)]
   rw [if_pos hm,List.append_nil] at es
   exact nx hi (by rw [es]; exact M) X ob
  ·rw [if_pos (by simpa using hm)]
   rw [if_neg hm] at es
   refine KG R1 (K0.ext X K0.lt) (K1.ext X K1.lt) (K2.ext X K2.lt) fun v h2 D X2=>?_
   rw [← em] at D
   have z2:=X2.size
   refine ⟨_,_,rfl,rfl,?_⟩
   have X3:=Ext.push h2 (.cells (aG.cs ⟨i,v⟩).toArray 45) (Nat.le_refl _)
   have D3:Cv O (h2.push (.cells (aG.cs ⟨i,v⟩).toArray 45)) v m:=fun S hS=>by
    refine (D (fun g=>S g/\g < h2.size) fun g hg=>(hS g hg.1).imp id fun ⟨cs,E,K,hE⟩=>⟨cs,E,K.old (X3.block g hg.2).symm,hE⟩).step (.bu X3) fun g hg=>?_
    by_cases hz:g < h2.size
    ·exact .inl ⟨hg,hz⟩
    ·exact .inr (by omega)
   have M3:=(M.ext X2).ext X3
   have R3:=(R1.ext X2).ext X3
   generalize h2.push (.cells (aG.cs ⟨i,v⟩).toArray 45)=h3 at *
   have z3:=X3.size
   refine AZ M3 D3 R3.ob (by rw [List.length_map]; have:=uK r.me i.toNat; omega) fun s h4 M4 S4 f4=>nx hi ?_ (X.trans ((X2.mono z1).trans ((X3.mono (by omega)).trans (S4.ext (fun g hg=>ob g hg) (by omega))))) fun g hg=>(f4 g hg).elim (ob g) fun h=>by omega
   rw [es,List.map_append]; exact M4
 ·rw [if_neg (by simpa using hi)]
  have:i.toNat=r.n.toNat:=by omega
  rw [this,em] at M
  exact H out h1 M X ob
end
end Go.Q.Yi
end
section
/- A member: what is committed, what is put, who wins. -/
namespace Go.Q.Yi
open Rf
/-! ### a number, again and again -/
theorem Ji {n:Int} {k:KP (Int × Int)} {h:Heap} (n0:0<=n) (n1:n<=32) (H:k (0,n) h):qd 1 n k h:=by
 unfold qd
 rw [if_neg (by simp)]
 unfold qF
 have key:(List.range 33).all (fun m:Nat=>decide ((IntKind.u64.wrap ((IntKind.u64.wrap ((IntKind.u64.wrap ((shr .u64 1 (32:Int).toNat) * (shr .u64 (m:Int) (32:Int).toNat))) + (shr .u64 (IntKind.u64.wrap ((IntKind.u64.wrap ((shr .u64 1 (32:Int).toNat) * (kE .u64 (m:Int) 4294967295))) + (shr .u64 (IntKind.u64.wrap ((kE .u64 1 4294967295) * (kE .u64 (m:Int) 4294967295))) (32:Int).toNat))) (32:Int).toNat))) + (shr .u64 (IntKind.u64.wrap ((kE .u64 (IntKind.u64.wrap ((IntKind.u64.wrap ((shr .u64 1 (32:Int).toNat) * (kE .u64 (m:Int) 4294967295))) + (shr .u64 (IntKind.u64.wrap ((kE .u64 1 4294967295) * (kE .u64 (m:Int) 4294967295))) (32:Int).toNat))) 4294967295) + (IntKind.u64.wrap ((kE .u64 1 4294967295) * (shr .u64 (m:Int) (32:Int).toNat))))) (32:Int).toNat)))=0/\IntKind.u64.wrap (1 * (m:Int))=m))=true:=by decide +kernel
 have:=List.all_eq_true.1 key n.toNat (by simp; omega)
 rw [decide_eq_true_eq,Int.toNat_of_nonneg n0] at this
 obtain ⟨e1,e2⟩:=this
 refine ⟨_,rfl,_,rfl,_,rfl,_,rfl,_,rfl,_,rfl,_,rfl,_,rfl,_,rfl,_,rfl,_,rfl,?_⟩
 rw [e1,e2]; exact H
theorem xH {b E:Nat} {x n:Int} {k:KP Slc} {h:Heap} (B:Blk h b [.int .u64 x] E) (n0:1<=n) (n1:n<=32) (H:∀ s' h',Row h.size h' 22 1 s' (u8s (List.replicate n.toNat x))->Ext h.size h h'->k s' h'):bQ ⟨some ⟨b,0,none⟩,1,1⟩ n k h:=by
 unfold bQ
 rw [if_neg (by simp; omega)]
 unfold ik
 rw [aY (x:=n) (by omega) (by omega),show IntKind.u64.wrap ((1:Nat):Int)=1 from by decide]
 refine Ji (by omega) n1 ?_
 rw [if_neg (by simp; omega)]
 unfold gU
 rw [az (x:=n) (by omega) (by omega)]
 refine ⟨_,_,by omega,Int.le_refl _,by omega,by omega,rfl,rfl,[.int .u64 x],?_⟩
 have X:=Ext.push h (.cells (lY [.int .u64 0] n.toNat).toArray 22) (Nat.le_refl _)
 have zl:(lY [.int .u64 0] n.toNat).length=n.toNat:=by simp [lY]
 have K:=Blk.push h (lY [.int .u64 0] n.toNat) 22
 have B2:=B.ext X B.lt
 generalize h.push (.cells (lY [.int .u64 0] n.toNat).toArray 22)=h2 at *
 obtain ⟨b3,e3⟩:∃ y,y=h.size:=⟨_,rfl⟩
 rw [← e3] at K ⊢
 refine ⟨⟨[.int .u64 x],B2.slc (o:=0) (n:=1) rfl,rfl,by simp [show min 1 n.toNat=1 from by omega]⟩,uu (by kernel_rfl),(fun h=>by cases h),fun a ha=>by cases ha; exact dE.eQ K (by rw [zl]; simp; omega),?_⟩
 dsimp only
 have K3:=K.sets [.int .u64 x] 0 0 (by rw [zl]; simp; omega)
 have X3:Ext h.size h2 (aU h2 ⟨b3,0,none⟩ 0 [.int .u64 x]):=Ext.sets _ _ _ (by show h.size<=b3; omega)
 generalize aU h2 ⟨b3,0,none⟩ 0 [.int .u64 x]=h3 at *
 refine ⟨_,rfl,?_⟩
 rw [show ((min 1 n.toNat:Nat):Int)=((1:Nat):Int) from by rw [show min 1 n.toNat=1 from by omega]]
 unfold lh
 refine ⟨fun i h'=>∃ m:Nat,i=m/\1<=m/\m<=n.toNat/\(∃ cur,Blk h' b3 cur 22/\cur.length=n.toNat/\cur.take m=u8s (List.replicate m x))/\Ext h.size h h',fun i _=>(n - i).toNat,⟨1,rfl,Nat.le_refl _,by omega,⟨_,K3,by simp [zl]; omega,by simp [u8s]⟩,X.trans X3⟩,?_⟩
 rintro i h4 ⟨m,rfl,m1,m2,⟨cur,Kc,cl,ct⟩,X4⟩
 unfold kQ
 dsimp only
 by_cases hm:m < n.toNat
 ·rw [if_pos (by simp; omega)]
  refine ⟨_,by omega,by omega,Int.le_refl _,Int.le_refl _,rfl,_,by omega,by omega,by omega,Int.le_refl _,rfl,?_⟩
  have e1:dS ⟨some ⟨b3,0,none⟩,n.toNat,n.toNat⟩ 1 (m:Int).toNat ((n.toNat:Nat):Int).toNat ((n.toNat:Nat):Int).toNat=⟨some ⟨b3,m,none⟩,n.toNat - m,n.toNat - m⟩:=by
   simp only [dS,Int.toNat_natCast]
   rw [if_neg (by omega)]
   simp
  have e2:dS ⟨some ⟨b3,0,none⟩,n.toNat,n.toNat⟩ 1 (0:Int).toNat (m:Int).toNat ((n.toNat:Nat):Int).toNat=⟨some ⟨b3,0,none⟩,m,n.toNat⟩:=by
   simp only [dS,Int.toNat_natCast,show (0:Int).toNat=0 from rfl]
   split <;> simp
  rw [e1,e2]
  have tk:∀ j,j<=m->cur.take j=u8s (List.replicate j x):=fun j hj=>by
   have:=congrArg (List.take j) ct
   rw [List.take_take,Nat.min_eq_left hj] at this
   rw [this]; simp [u8s,Nat.min_eq_left hj]
  obtain ⟨q,eq⟩:∃ q,q=min m (n.toNat - m):=⟨_,rfl⟩
  have wl:(cur.take q).length=q:=by rw [List.length_take]; omega
  refine ⟨cur.take q,⟨cur.take m,Kc.slc (o:=0) (n:=m) rfl,(by rw [List.length_take]; show min m cur.length=m * 1; omega),by rw [List.take_take,Nat.mul_one,← eq]; congr 1; omega⟩,?_,(fun h=>by cases h),fun a ha=>?_,?_⟩
  ·rw [tk q (by omega)]
   intro v hv
   simp [u8s] at hv
   rw [hv.2]; rfl
  ·cases ha
   rw [wl]
   intro j hj
   rw [add_mk]
   exact Kc.wr (by omega)
  ·dsimp only
   rw [← eq,az (by omega) (by omega)]
   have K5:=Kc.sets (cur.take q) m 0 (by rw [wl]; omega)
   have X5:Ext h.size h4 (aU h4 ⟨b3,m,none⟩ 0 (cur.take q)):=Ext.sets _ _ _ (by show h.size<=b3; omega)
   generalize aU h4 ⟨b3,m,none⟩ 0 (cur.take q)=h5 at *
   refine ⟨⟨m + q,by omega,by omega,by omega,⟨_,K5,by simp only [List.length_append,List.length_take,List.length_drop,wl]; omega,?_⟩,X4.trans X5⟩,by omega⟩
   have l1:(cur.take (m + 0) ++ cur.take q).length=m + q:=by rw [List.length_append,wl,List.length_take]; omega
   rw [List.take_append_of_le_length (by omega),List.take_of_length_le (by omega),Nat.add_zero,ct,tk q (by omega)]
   simp [u8s]
 ·rw [if_neg (by simp; omega)]
  have em:m=n.toNat:=by omega
  subst em
  exact H _ h4 ⟨by simp [u8s],by simp only [maxLen]; omega,.inr ⟨b3,cur,rfl,by omega,Kc,Nat.le_refl _,by rw [cl]; simp,by rw [Nat.mul_one]; exact ct⟩⟩ X4
section
variable {O:bz} {h:Heap} {L:RLy} {r:RS}
theorem Le (R:aC O h L r):∀ x∈r.has,0<=x:=fun x hx=>(R.wf.hs x hx).1
theorem Ld (R:aC O h L r):0<=cmt r.has/\cmt r.has < 18446744073709551616:=by
 obtain ⟨a,b,c⟩:=zV (r.has.filter fun v=>decide (r.has.length / 2 + 1<=Rf.cnt r.has v)) 0
 have e:cmt r.has=(r.has.filter fun v=>decide (r.has.length / 2 + 1<=Rf.cnt r.has v)).foldl max 0:=rfl
 rw [← e] at a c
 refine ⟨a,?_⟩
 rcases c with c | c
 ·omega
 ·exact (R.wf.hs _ (List.mem_filter.1 c).1).2
theorem Ak {k:KP Unit} (R:aC O h L r) (hh:r.has.length=r.n.toNat) (H:∀ h',aC O h' L r.settle->Stp (own L) h h'->k () h'):lC (some ⟨L.b,0,none⟩) k h:=by
 have wf:=R.wf
 have nb:=wf.n
 unfold lC
 have hl:L.has.len=r.has.length:=by have:=R.p.hs.1; simp [u8s] at this; omega
 refine ⟨_,rfl,L.has,R.c 12,FU R.p.hs.slc hl (by omega) fun c h2 C X=>?_⟩
 have ec:=C.cmt (Le R)
 subst ec
 obtain ⟨c0,c1⟩:=Ld R
 have R2:=R.ext X
 have S2:Stp (own L) h h2:=.bu X
 refine ⟨_,R2.c 4,rP R2.p.l c0 c1 ⟨_,R2.c 6,?_⟩⟩
 unfold RS.settle at H
 have no:¬ (cmt r.has > r.commit/\(r.log.aF (cmt r.has)).2=0/\(r.log.aF (cmt r.has)).1=r.term)->fT (some ⟨L.b,0,none⟩) (cmt r.has) false k h2:=fun hn=>by
  unfold fT
  rw [if_neg (by simp)]
  rw [if_neg hn] at H
  exact H h2 R2 S2
 by_cases h1:cmt r.has > r.commit/\(r.log.aF (cmt r.has)).2=0
 ·rw [if_pos (by simp [h1.1,h1.2])]
  refine ⟨_,R2.c 2,?_⟩
  by_cases h2:(r.log.aF (cmt r.has)).1=r.term
  ·rw [show ((r.log.aF (cmt r.has)).1 == r.term)=true from by simpa using h2]
   unfold fT
   rw [if_pos rfl]
   rw [if_pos ⟨h1.1,h1.2,h2⟩] at H
   obtain ⟨w,f⟩:=R2.k.put (i:=6) (v:=.int .u64 (cmt r.has)) (by show 6 < 14; omega)
   refine ⟨_,rfl,_,w,rfl,?_⟩
   obtain ⟨K3,U3⟩:=f _ rfl
   exact H _ (R2.Cc K3 U3 ⟨wf.n,wf.me,wf.tm,wf.vt,⟨c0,c1⟩,wf.tk,wf.ld,wf.nx,wf.hs,wf.bl,wf.sn,wf.kp⟩ ⟨rfl,rfl,rfl,rfl,rfl,rfl,rfl⟩) (S2.trans' (.dQ U3 (.inl (.inl rfl))))
  ·rw [show ((r.log.aF (cmt r.has)).1 == r.term)=false from by simpa using h2]
   exact no fun h=>h2 h.2.2
 ·rw [if_neg (by simpa using h1)]
  exact no fun h=>h1 ⟨h.1,h.2.1⟩
theorem Cz {l:List Int} {i:Nat} {v x:Int} (h:x∈l.set i v):x∈l∨x=v:=(List.mem_or_eq_of_mem_set h)
theorem EZ (l:List Int) (i:Nat) (v:Int):u8s (l.set i v)=(u8s l).set i (.int .u64 v):=by simp [u8s,List.map_set]
/-- a number of a row of a member's own is written -/
theorem zn {i v:Int} (R:aC O h L r) (i0:0<=i) (i1:i < r.has.length) (v0:0<=v/\v < 18446744073709551616):∃ a:Addr,L.has.a=some a/\(0:Int)<=i/\i < (L.has.len:Int)/\WrH h (a.add (i.toNat * 1))/\aC O (setH h (a.add (i.toNat * 1)) (.int .u64 v)) L { r with has:=r.has.set i.toNat v }/\Stp (own L) h (setH h (a.add (i.toNat * 1)) (.int .u64 v)):=by
 have P:=R.p
 have wf:=R.wf
 obtain ⟨a,ha,_,h1,_⟩:=sN P.hs i0 i1
 have hb:L.has.blk=some a.block:=by simp [Slc.blk,ha]
 obtain ⟨vs,Re,_⟩:=P.l.r
 obtain ⟨ks,Kk,Ik⟩:=P.kp
 have ag:a=⟨a.block,0,none⟩:=by
  rcases P.hs.2.2 with ⟨k,_⟩ | ⟨g,cur,a1,_⟩
  ·rw [k] at ha; cases ha
  ·rw [ha] at a1; cases a1; rfl
 generalize a.block=g at *
 subst ag
 refine ⟨_,ha,i0,h1,?_⟩
 rw [add_mk,Nat.zero_add,Nat.mul_one]
 obtain ⟨w,R2,_⟩:=Rw.wI (v:=.int .u64 v) P.hs ha (j:=i.toNat) (by omega)
 have U:Upd g h (setH h ⟨g,i.toNat,none⟩ (.int .u64 v)):=⟨by rw [jQ]; exact Nat.le_refl _,fun j _ hne=>jg hne⟩
 generalize setH h ⟨g,i.toNat,none⟩ (.int .u64 v)=h2 at *
 have og:own L g:=.inr (.inr (.inr (.inr (.inl hb))))
 have S:Stp (fun x=>x=g) h h2:=.dQ U (.inl rfl)
 have SO:Stp O h h2:=S.mono fun x hx=>.inl (by subst hx; exact R.ow _ og)
 refine ⟨w,⟨S.blk R.k fun e=>P.hs.aZ R.k (by decide) (by rw [hb,← e]),⟨P.l.stp S (fun x hx=>.inl (by subst hx; exact R.ow _ og)) (fun e=>P.hs.aZ P.l.k (by decide) (by rw [hb,← e])) fun x hx e=>by subst e; exact Re.rA P.hs (by decide) hx hb,P.sn.stp SO,P.sl,S.row P.nx fun x hx e=>by subst e; exact P.dj _ hx hb,by rw [EZ]; exact R2,P.dj,⟨ks,S.row Kk fun x hx e=>by subst e; exact Kk.rA P.hs (by decide) hx hb,?_⟩,P.bl.old fun x hx=>S.block x (P.bl.lt x hx) fun e=>?_⟩,R.ow,fun x hx=>Nat.lt_of_lt_of_le (R.ob x hx) S.size,?_⟩,S.mono fun x hx=>.inl (by subst hx; exact og)⟩
 ·exact Ik.stp SO
 ·subst e
  obtain ⟨cs,Kb⟩:=P.bl.blk _ hx
  exact P.hs.aZ Kb (by decide) hb
 ·exact ⟨wf.n,wf.me,wf.tm,wf.vt,wf.cm,wf.tk,fun e=>⟨(wf.ld e).1,by simp; exact (wf.ld e).2⟩,wf.nx,fun x hx=>(Cz hx).elim (wf.hs x) fun e=>by subst e; exact v0,wf.bl,wf.sn,wf.kp⟩
/-- a number of a row of a member's own is written -/
theorem Am {i v:Int} (R:aC O h L r) (i0:0<=i) (i1:i < r.next.length) (v0:0<=v/\v < 18446744073709551616):∃ a:Addr,L.next.a=some a/\(0:Int)<=i/\i < (L.next.len:Int)/\WrH h (a.add (i.toNat * 1))/\aC O (setH h (a.add (i.toNat * 1)) (.int .u64 v)) L { r with next:=r.next.set i.toNat v }/\Stp (own L) h (setH h (a.add (i.toNat * 1)) (.int .u64 v)):=by
 have P:=R.p
 have wf:=R.wf
 obtain ⟨a,ha,_,h1,_⟩:=sN P.nx i0 i1
 have hb:L.next.blk=some a.block:=by simp [Slc.blk,ha]
 obtain ⟨vs,Re,_⟩:=P.l.r
 obtain ⟨ks,Kk,Ik⟩:=P.kp
 have ag:a=⟨a.block,0,none⟩:=by
  rcases P.nx.2.2 with ⟨k,_⟩ | ⟨g,cur,a1,_⟩
  ·rw [k] at ha; cases ha
  ·rw [ha] at a1; cases a1; rfl
 generalize a.block=g at *
 subst ag
 refine ⟨_,ha,i0,h1,?_⟩
 rw [add_mk,Nat.zero_add,Nat.mul_one]
 obtain ⟨w,R2,_⟩:=Rw.wI (v:=.int .u64 v) P.nx ha (j:=i.toNat) (by omega)
 have U:Upd g h (setH h ⟨g,i.toNat,none⟩ (.int .u64 v)):=⟨by rw [jQ]; exact Nat.le_refl _,fun j _ hne=>jg hne⟩
 generalize setH h ⟨g,i.toNat,none⟩ (.int .u64 v)=h2 at *
 have og:own L g:=.inr (.inr (.inr (.inl hb)))
 have S:Stp (fun x=>x=g) h h2:=.dQ U (.inl rfl)
 have SO:Stp O h h2:=S.mono fun x hx=>.inl (by subst hx; exact R.ow _ og)
 refine ⟨w,⟨S.blk R.k fun e=>P.nx.aZ R.k (by decide) (by rw [hb,← e]),⟨P.l.stp S (fun x hx=>.inl (by subst hx; exact R.ow _ og)) (fun e=>P.nx.aZ P.l.k (by decide) (by rw [hb,← e])) fun x hx e=>by subst e; exact Re.rA P.nx (by decide) hx hb,P.sn.stp SO,P.sl,(by rw [EZ]; exact R2),S.row P.hs (fun x hx e=>by subst e; exact P.dj _ hb hx),P.dj,⟨ks,S.row Kk fun x hx e=>by subst e; exact Kk.rA P.nx (by decide) hx hb,?_⟩,P.bl.old fun x hx=>S.block x (P.bl.lt x hx) fun e=>?_⟩,R.ow,fun x hx=>Nat.lt_of_lt_of_le (R.ob x hx) S.size,?_⟩,S.mono fun x hx=>.inl (by subst hx; exact og)⟩
 ·exact Ik.stp SO
 ·subst e
  obtain ⟨cs,Kb⟩:=P.bl.blk _ hx
  exact P.nx.aZ Kb (by decide) hb
 ·exact ⟨wf.n,wf.me,wf.tm,wf.vt,wf.cm,wf.tk,fun e=>⟨by simp; exact (wf.ld e).1,(wf.ld e).2⟩,fun x hx=>(Cz hx).elim (wf.nx x) fun e=>by subst e; exact v0,wf.hs,wf.bl,wf.sn,wf.kp⟩
end
end Go.Q.Yi
end

/- A part of the proof of statements of this seat: lemmas, no statement of their own. -/
import Derived.Test.YthjafnfadiijgaaYiZar
import Derived.Test.YthjafnfadiijgaaYiZal
import Derived.Test.YthjafnfadiijgaaYiZaq
set_option linter.unusedVariables false
set_option linter.unusedSimpArgs false
set_option maxRecDepth 100000
section
/- Logs: what is appended, what is cut. -/
namespace Go.Q.Yi
open Rf (Lg)
def OB (O:bz) (s:Slc):bz:=fun g=>O g∨s.blk=some g
section
variable {O:bz} {h:Heap} {b:Nat} {s:Slc} {l:Lg} {p t:Int}
theorem FO {t0:Option Addr} {t1 x3 i:Int} {c:Nat} {p3 t:Slc} {n:Int} {cur:List Ent} {vt:List ae} {e:Ent} {v:ae} {k:KP (Int × Int)} {nx:KP (Slc × Int)}
  (R:Row 0 h 65 2 t (ecs vt)) (I:Imm (OB O t) h fun h'=>Each h' vt cur) (C:Blk h c (ae.cs v) 65) (E:ry h v e) (ok:qU [e]) (ob:∀ g,O g->g < h.size) (sz:cur.length<=1000000)
  (H:∀ s' h' vs',Row 0 h' 65 2 s' (ecs vs')->Imm (OB O s') h' (fun h'=>Each h' vs' (cur ++ [e]))->h.size<=h'.size->(∀ g,g < h.size->t.blk≠some g->h'[g]? = h[g]?)->((s'.blk=t.blk/\t.len + 1<=t.cap)∨∃ g,s'.blk=some g/\h.size<=g) ->
   (∀ D w ys,Row D h 65 2 w ys->(w.len<=t.len∨w.blk≠t.blk∨t.cap < t.len + 1)->Row D h' 65 2 w ys)->dN t0 t1 x3 p3 n i s' k nx h'):gV t0 t1 x3 ⟨c,0,none⟩ p3 n i t k nx h:=by
 have tl:t.len=cur.length:=by have:=R.1; rw [jV,I.now.1] at this; omega
 unfold gV
 refine ⟨v,aJ.eQ C,_,_,rfl,rfl,?_⟩
 have X1:=Ext.push h (.cells (ae.cs v).toArray 65) (Nat.le_refl _)
 have A:dB (h.push (.cells (ae.cs v).toArray 65)) ⟨some ⟨h.size,0,none⟩,1,1⟩ [e] :=
  ⟨rfl,Nat.le_refl _,[v],(Row.rz (E:=65) (w:=2) h (ae.cs v) 1 rfl (by decide)).slc,(Each.one E).ext X1⟩
 have R1:=R.pushed (.cells (ae.cs v).toArray 65)
 generalize h.push (.cells (ae.cs v).toArray 65)=h1 at *
 have z1:=X1.size
 refine uT A ok (by simp) fun r h2 us F X2=>?_
 have z2:=X2.size
 have X02:Ext h.size h h2:=X1.trans (X2.mono z1)
 have rl:=F.len
 have ul:=F.l
 simp at rl ul
 obtain ⟨u,rfl⟩:=List.length_eq_one_iff.1 ul
 refine ⟨ecs [u],F.r.slc,?_⟩
 rw [rl]
 have R2:=R1.ext X2 fun g hg=>(R1.bd hg).2
 refine App.BR R2 (Nat.zero_le _) rfl rfl (Bz _) (by omega) (by simp only [maxLen]; omega) fun s' h3 R3 l3 z3 o3 b3 w3=>?_
 have R3':Row 0 h3 65 2 s' (ecs (vt ++ [u])):=by
  have:ecs (vt ++ [u])=ecs vt ++ ecs [u]:=by simp [ecs]
  rw [this]; exact R3
 obtain ⟨u1,u2⟩:=F.e 0 u e rfl rfl
 have S3:Stp (fun g=>t.blk=some g) h2 h3:=⟨z3,fun g hg hn=>o3 g hg hn⟩
 have rb:∀ g,u.oH.blk=some g->t.blk≠some g:=fun g hg e1=>u2.yu R2 (by decide) hg e1
 refine H s' h3 (vt ++ [u]) R3' ?_ (by omega) (fun g hg hn=>(o3 g (by omega) hn).trans (X02.block g hg)) ?_ fun D w ys Rw hw=>w3 D w ys (Rw.ext X02 fun g hg=>(Rw.bd hg).2) hw
 ·have U3:=u2.keep fun g hg=>o3 g (u2.bd hg).2 (rb g hg)
  have I3:Imm (OB O s') h3 fun h'=>Each h' vt cur:=(I.ext X02).step (S3.mono fun g hg=>.inl (.inr hg)) fun g hg=>by
   rcases hg with hg | hg
   ·exact .inl (.inl hg)
   ·rcases b3 with ⟨b3,_⟩ | b3
    ·exact .inl (.inr (by rw [← b3]; exact hg))
    ·rw [b3] at hg; cases hg; exact .inr (Nat.le_refl _)
  intro h4 S4
  refine (I3 h4 S4).app (Each.one ?_)
  have:=S4.row U3 fun g hg hO=>by
   rcases hO with hO | hO
   ·have:=(U3.bd hg).1; have:=ob g hO; omega
   ·exact U3.yu R3' (by decide) hg hO
  exact ⟨u1,this.slc,by simpa using this.len⟩
 ·rcases b3 with ⟨b3,b4⟩ | b3
  ·exact .inl ⟨b3,b4⟩
  ·exact .inr ⟨_,b3,by omega⟩
theorem CF (s:Slc) (n:Nat):(dS s 2 0 n n).blk=s.blk:=by
 have:(dS s 2 0 n n).a=s.a:=by
  simp only [dS]
  split
  ·rfl
  ·cases s.a <;> simp [Addr.add]
 simp only [Slc.blk,this]
theorem Row.take2 {B:Nat} {h:Heap} {s:Slc} {vs:List ae} (R:Row B h 65 2 s (ecs vs)) {n:Nat} (hn:n<=s.len):Row B h 65 2 (dS s 2 0 n n) (ecs (vs.take n)):=by
 have hl:=R.1
 have ea:(dS s 2 0 n n).a=s.a:=by
  simp only [dS]
  split
  ·rfl
  ·cases s.a <;> simp [Addr.add]
 have hm:=R.2.1
 rw [jV] at hl
 refine ⟨by rw [jV,List.length_take]; simp [dS]; omega,by simp [dS]; have:=R.cap; omega,?_⟩
 rcases R.2.2 with ⟨k1,k2,k3⟩ | ⟨g,cur,a1,a2,a3,a4,a5,a6⟩
 ·exact .inl ⟨by rw [ea]; exact k1,by simp [dS]; omega,by simp [dS]; omega⟩
 ·refine .inr ⟨g,cur,by rw [ea]; exact a1,a2,a3,by simp [dS],by simp [dS]; omega,?_⟩
  rw [← vY,← a6,List.take_take]
  congr 1
  simp [dS]; omega
/-- the turns over the entries that come in -/
def KT (O:bz) (b:Nat) (p:Int) (more:List Ent) (s:Slc) (l:Lg) (vs:List ae) (h:Heap) (q:Slc × Int) (h':Heap):Prop :=
 ∃ vsn,0<=q.2/\q.2<=more.length/\Row 0 h' 65 2 q.1 (ecs vsn)/\Imm (OB O q.1) h' (fun h'=>Each h' vsn (Lg.fD l.ix p l.es more q.2.toNat))/\Row 0 h' 65 2 s (ecs vs)/\Stp (fun g=>s.blk=some g) h h'/\(q.1.blk=s.blk∨∃ g,q.1.blk=some g/\h.size<=g)/\(q.1.blk=s.blk->s.len<=q.1.len∨q.1.cap<=q.1.len) /\
  qU (Lg.fD l.ix p l.es more q.2.toNat)/\l.ix + (Lg.fD l.ix p l.es more q.2.toNat).length < 18446744073709551616/\(Lg.fD l.ix p l.es more q.2.toNat).length<=1000 + q.2.toNat
theorem dV.back {h':Heap} {vs:List ae} (L:dV O h b s l) (I:Imm O h fun h'=>Each h' vs l.es) (R:Row 0 h' 65 2 s (ecs vs)) (F:Stp (fun g=>s.blk=some g) h h'):dV O h' b s l:=by
 obtain ⟨vs0,R0,_⟩:=L.r
 exact ⟨F.blk L.k fun e=>R0.aZ L.k (by decide) e,⟨vs,R,I.stp (F.mono fun g hg=>.inl (L.os g hg))⟩,L.ob,L.os,L.x0,L.x1,L.t0,L.ok,L.sz⟩
theorem vS {B:Nat} {h:Heap} {s:Slc} {vs:List ae} {es:List Ent} (R:Row B h 65 2 s (ecs vs)) (E:Each h vs es):s.len=es.length:=by
 have:=R.1; rw [jV,E.1] at this; omega
theorem Dj {B:Nat} {h:Heap} {s:Slc} {vs:List ae} {es:List Ent} (R:Row B h 65 2 s (ecs vs)) (E:Each h vs es) {i:Nat} {e:Ent} (he:es[i]? = some e):∃ a,s.a=some a/\af h (a.add (i * 2))=some (.int .u64 e.1):=by
 have A:dB h s es:=⟨vS R E,R.cap,vs,R.slc,E⟩
 obtain ⟨a,v,ha,C,E⟩:=A.get he
 refine ⟨a,ha,?_⟩
 have:=C 0 (.int .u64 v.cZ) rfl
 rwa [fI,Nat.add_zero,E.t] at this
theorem xI (x:Int):0<=Rf.W x/\Rf.W x < 18446744073709551616:=by
 unfold Rf.W IntKind.wrap
 simp [IntKind.signed,IntKind.bits]
 omega
theorem FV {x3:Int} {p3:Slc} {more:List Ent} {k:KP (Int × Int)} (L:dV O h b s l) (ob:∀ g,O g->g < h.size) (A0:Imm O h fun h'=>dB h' p3 more) (okm:qU more)
  (p0:0<=p) (p1:p < 18446744073709551616) (hm:more.length<=1000) (hp:p<=l.ix + 1000)
  (H:∀ h' s',dV (OB O s') h' b s' (if (Lg.fD l.ix p l.es more more.length).length > 64 then l else { l with es:=Lg.fD l.ix p l.es more more.length })->Stp (fun g=>g=b∨s.blk=some g) h h'->(∀ g,s'.blk=some g->s.blk=some g∨h.size<=g)->k (if (Lg.fD l.ix p l.es more more.length).length > 64 then (0,8) else (x3,0)) h') :
  rJ (some ⟨b,0,none⟩) p x3 p3 (more.length:Int) s 0 k h:=by
 have x0:=L.x0
 obtain ⟨vs,R0,I0⟩:=L.r
 refine ⟨KT O b p more s l vs h,fun q _=>(more.length - q.2).toNat,?_,?_⟩
 ·exact ⟨vs,by simp,by simp,R0,I0.mono (fun g hg=>hg.elim .inl fun e=>.inl (L.os g e)),R0,Stp.refl _ _,.inl rfl,fun _=>.inl (Nat.le_refl _),L.ok,L.x1,by have:=L.sz; simp [Lg.fD]; omega⟩
 rintro now i h1 ⟨vsn,i0,i1,R,I,Rs,F,nb,nc,okc,xc,lc⟩
 simp only at i0 i1 R I nb nc okc xc lc
 have L1:=L.back I0 Rs F
 have z1:=F.size
 unfold qK
 by_cases hi:i < more.length
 ·rw [if_pos (by simpa using hi)]
  have hie:i.toNat < more.length:=by omega
  have he:more[i.toNat]? = some more[i.toNat]:=by simp [hie]
  have hstep:Lg.fD l.ix p l.es more (i + 1).toNat=Lg.dG l.ix p (Lg.fD l.ix p l.es more i.toNat) i.toNat more[i.toNat]:=by
   rw [show (i + 1).toNat=i.toNat + 1 from by omega]; simp only [Lg.fD,he]
  generalize more[i.toNat]=e at he hstep
  generalize Lg.fD l.ix p l.es more i.toNat=cur at *
  have A:dB h1 p3 more:=A0 h1 (F.mono fun g hg=>.inl (L.os g hg))
  have oke:=okm _ (List.mem_of_getElem? he)
  have okE:qU [e]:=fun f hf=>by simp at hf; subst hf; exact oke
  obtain ⟨a,v,ha,c1,c2⟩:=A.get he
  refine ⟨a,ha,i0,by rw [A.l]; exact hi,v,c1,_,_,rfl,rfl,?_⟩
  have P0:=Blk.push h1 (ae.cs ⟨0,⟨none,0,0⟩⟩) 65
  have P1:=P0.jZ (vs:=ae.cs v) (by simp [ae.cs])
  have X2:Ext h1.size h1 (aU (h1.push (.cells (ae.cs ⟨0,⟨none,0,0⟩⟩).toArray 65)) ⟨h1.size,0,none⟩ 0 (ae.cs v)):=(Ext.push h1 _ (Nat.le_refl _)).trans (Ext.sets _ _ _ (Nat.le_refl _))
  refine ⟨_,dE.eQ P0 (by simp [ae.cs]),rfl,?_⟩
  generalize aU (h1.push (.cells (ae.cs ⟨0,⟨none,0,0⟩⟩).toArray 65)) ⟨h1.size,0,none⟩ 0 (ae.cs v)=h2 at *
  have L2:=L1.ext X2
  have Rs2:=Rs.ext X2 fun g hg=>(Rs.bd hg).2
  have R2:=R.ext X2 fun g hg=>(R.bd hg).2
  have I2:=I.ext X2
  have F2:=F.trans (Stp.bu (O:=fun _=>False) X2) fun _ h=>h.elim
  have z2:=X2.size
  rw [aY (x:=i) (by omega) (by omega)]
  have ewp:IntKind.u64.wrap (IntKind.u64.wrap (p + i) + 1)=Rf.W (p + (i.toNat:Int) + 1):=by
   unfold Rf.W IntKind.wrap
   simp [IntKind.signed,IntKind.bits]
   omega
  rw [ewp]
  obtain ⟨w0,w1⟩:=xI (p + (i.toNat:Int) + 1)
  have hw:Rf.W (p + (i.toNat:Int) + 1)<=p + i + 1:=by
   unfold Rf.W IntKind.wrap
   simp [IntKind.signed,IntKind.bits]
   omega
  have stay:Lg.dG l.ix p cur i.toNat e=cur->dN (some ⟨b,0,none⟩) p x3 p3 (more.length:Int) i now k (fun q h'=>KT O b p more s l vs h q h'/\(more.length - q.2).toNat < (more.length - i).toNat) h2:=fun hs=>by
   unfold dN
   rw [az (by omega) (by omega)]
   exact ⟨⟨vsn,by dsimp only; omega,by dsimp only; omega,R2,by dsimp only; rw [hstep,hs]; exact I2,Rs2,F2,nb,nc,by dsimp only; rw [hstep,hs]; exact okc,by dsimp only; rw [hstep,hs]; exact xc,by dsimp only; rw [hstep,hs]; omega⟩,by dsimp only; omega⟩
  have more':∀ {t:Slc} {cur':List Ent} {vt:List ae},Row 0 h2 65 2 t (ecs vt)->Imm (OB O t) h2 (fun h'=>Each h' vt cur')->t.blk=now.blk->cur'.length<=cur.length->(t.blk=s.blk->s.len<=t.len∨t.cap<=t.len)->qU cur'->l.ix + (cur'.length + 1) < 18446744073709551616->Lg.dG l.ix p cur i.toNat e=cur' ++ [e] ->
    gV (some ⟨b,0,none⟩) p x3 ⟨h1.size,0,none⟩ p3 (more.length:Int) i t k (fun q h'=>KT O b p more s l vs h q h'/\(more.length - q.2).toNat < (more.length - i).toNat) h2:=fun {t cur' vt} Rt It tb tl tc okt xt hs=>by
   have nb':t.blk=s.blk∨∃ g,t.blk=some g/\h.size<=g:=by rw [tb]; exact nb
   refine FO Rt It P1 (c2.ext X2) okE (fun g hg=>by have:=ob g hg; omega) (by omega) fun s' h3 vs' R3 I3 z3 o3 b3 w3=>?_
   unfold dN
   rw [az (by omega) (by omega)]
   have tO:∀ g,t.blk=some g->s.blk=some g∨h.size<=g:=fun g hg=>by
    rcases nb' with h4 | ⟨g',h4,h5⟩
    ·exact .inl (by rw [← h4]; exact hg)
    ·rw [h4] at hg; cases hg; exact .inr h5
   have S3:Stp (fun g=>t.blk=some g) h2 h3:=⟨z3,fun g hg hn=>o3 g hg hn⟩
   have Rs3:Row 0 h3 65 2 s (ecs vs):=w3 0 s _ Rs2 (by
    by_cases hbb:s.blk=t.blk
    ·rcases tc hbb.symm with h | h
     ·exact .inl h
     ·exact .inr (.inr (by omega))
    ·exact .inr (.inl hbb))
   have F3:Stp (fun g=>s.blk=some g) h h3:=F2.trans S3 tO
   have l3:=vS R3 I3.now
   have lt:=vS Rt It.now
   simp at l3
   refine ⟨⟨vs',by dsimp only; omega,by dsimp only; omega,R3,by dsimp only; rw [hstep,hs]; exact I3,Rs3,F3,?_,fun hsb=>?_,by dsimp only; rw [hstep,hs]; exact okt.app okE,by dsimp only; rw [hstep,hs,List.length_append]; simp; omega,by dsimp only; rw [hstep,hs,List.length_append]; simp; omega⟩,by dsimp only; omega⟩
   ·dsimp only
    rcases b3 with ⟨h4,_⟩ | ⟨g,h4,h5⟩
    ·rw [h4]; exact nb'
    ·exact .inr ⟨g,h4,by omega⟩
   ·dsimp only at hsb ⊢
    rcases b3 with ⟨h4,hr⟩ | ⟨g,h4,h5⟩
    ·rcases tc (by rw [← h4]; exact hsb) with h5 | h5
     ·left; omega
     ·omega
    ·rw [hsb] at h4
     have:=(Rs2.bd h4).2
     omega
  refine ⟨_,rfl,_,rfl,_,L2.c0,?_⟩
  have ln:=vS R2 I2.now
  by_cases hle:Rf.W (p + (i.toNat:Int) + 1)<=l.ix
  ·rw [if_pos (by simpa using hle)]
   exact stay (by unfold Lg.dG; rw [if_pos hle])
  rw [if_neg (by simpa using hle)]
  refine ⟨l.ix,L2.c0,_,rfl,?_⟩
  have hwx:Rf.W (p + (i.toNat:Int) + 1) - l.ix - 1<=3000:=by omega
  generalize hK:Rf.W (p + (i.toNat:Int) + 1)=K at *
  rw [aY (x:=K - l.ix) (by omega) (by omega),aY (x:=K - l.ix - 1) (by omega) (by omega),az (x:=K - l.ix - 1) (by omega) (by omega)]
  by_cases hk:K - l.ix - 1 < (now.len:Int)
  ·rw [if_pos (by simpa using hk)]
   have hkc:(K - l.ix - 1).toNat < cur.length:=by omega
   obtain ⟨f,hf⟩:∃ f,cur[(K - l.ix - 1).toNat]? = some f:=⟨_,List.getElem?_eq_getElem hkc⟩
   have hgd:cur.getD (K - l.ix - 1).toNat (0,[])=f:=by rw [List.getD_eq_getElem?_getD,hf]; rfl
   obtain ⟨a',d1,d2⟩:=Dj R2 I2.now hf
   refine ⟨a',d1,by omega,hk,_,d2,v.cZ,by rw [P1.cell]; rfl,?_⟩
   rw [c2.t]
   by_cases ht:f.1=e.1
   ·rw [if_pos (by simpa using ht)]
    exact stay (by unfold Lg.dG; rw [hK,if_neg hle,if_pos hkc,hgd,if_pos ht])
   ·rw [if_neg (by simpa using ht)]
    have cp:=R2.cap
    refine ⟨_,by decide,by omega,Int.le_refl _,by omega,rfl,?_⟩
    rw [show (0:Int).toNat=0 from rfl]
    refine more' (Row.take2 R2 (by omega)) ((I2.mono fun g hg=>by rw [OB,CF] at hg; exact .inl hg).imp fun _ E=>E.take _) (CF _ _) (by rw [List.length_take]; omega) (fun _=>.inr (by simp [dS])) (okc.take _) (by rw [List.length_take]; omega) ?_
    unfold Lg.dG; rw [hK,if_neg hle,if_pos hkc,hgd,if_neg ht]
  ·rw [if_neg (by simpa using hk)]
   refine more' R2 I2 rfl (Nat.le_refl _) nc okc (by omega) ?_
   unfold Lg.dG; rw [hK,if_neg hle,if_neg (by omega)]
 ·rw [if_neg (by simpa using hi)]
  have hin:i.toNat=more.length:=by omega
  rw [hin] at I okc xc lc
  have ln:=vS R I.now
  have nO:∀ g,now.blk=some g->s.blk=some g∨h.size<=g:=fun g hg=>by
   rcases nb with h4 | ⟨g',h4,h5⟩
   ·exact .inl (by rw [← h4]; exact hg)
   ·rw [h4] at hg; cases hg; exact .inr h5
  by_cases h64:(Lg.fD l.ix p l.es more more.length).length > 64
  ·rw [if_pos (by simp; omega)]
   simp only [if_pos h64] at H
   refine H h1 s (L1.sub (fun g hg=>hg.elim .inl fun e=>.inl (L.os g e)) (.inl L.ob) fun g hg=>.inr hg) (F.mono fun g hg=>.inl (.inr hg)) fun g hg=>.inl hg
  ·rw [if_neg (by simp; omega)]
   obtain ⟨w1,w2⟩:=L1.k.put (i:=2) (v:=Slc.v now) (by show 2 < 3; omega)
   refine ⟨_,rfl,_,w1,rfl,?_⟩
   obtain ⟨K,U⟩:=w2 _ rfl
   generalize setH h1 ((⟨b,0,none⟩:Addr).add 2) (Slc.v now)=h2 at *
   have nb2:∀ g,now.blk=some g->g≠b:=fun g hg e=>by subst e; exact R.aZ L1.k (by decide) hg
   have S2:Stp (fun g=>g=b) h1 h2:=Stp.dQ U (.inl rfl)
   have:=H h2 now ?_ ((F.mono (O':=fun g=>g=b∨s.blk=some g) fun g hg=>.inl (.inr hg)).trans S2 fun g hg=>.inl (.inl hg)) nO
   ·simpa only [if_neg h64] using this
   ·simp only [if_neg h64]
    exact ⟨K,⟨vsn,S2.row R fun g hg e=>nb2 g hg e,I.stp (S2.mono fun g hg=>.inl (.inl (by subst hg; exact L.ob)))⟩,   .inl L.ob,fun g hg=>.inr hg,L.x0,xc,L.t0,okc,by show (Lg.fD l.ix p l.es more more.length).length<=1000; omega⟩
theorem JV {l:Lg} (h:l.mat p t=true):p<=l.ix + l.es.length:=by
 unfold Lg.mat at h
 rw [Bool.and_eq_true,beq_iff_eq] at h
 exact (ve h.1).2
theorem AY {p3:Slc} {more:List Ent} {k:KP (Int × Int)} (L:dV O h b s l) (ob:∀ g,O g->g < h.size) (A0:Imm O h fun h'=>dB h' p3 more) (okm:qU more)
  (p0:0<=p) (p1:p < 18446744073709551616) (hm:more.length<=1000)
  (H:∀ h' s',dV (OB O s') h' b s' (l.append p t more).1->Stp (fun g=>g=b∨s.blk=some g) h h'->(∀ g,s'.blk=some g->s.blk=some g∨h.size<=g)->k (l.append p t more).2 h'):lT (some ⟨b,0,none⟩) p t p3 k h:=by
 have sz:=L.sz
 have lO:=L.sub (O':=OB O s) (fun g hg=>hg.elim .inl fun e=>.inl (L.os g e)) (.inl L.ob) fun g hg=>.inr hg
 have go:¬ (p>=l.ix/\l.mat p t=false)->eD (some ⟨b,0,none⟩) p p3 false k h:=fun hn=>by
  have hp:p<=l.ix + 1000:=by
   by_cases h1:p>=l.ix
   ·have:l.mat p t=true:=by cases hm:l.mat p t with | true=>rfl | false=>exact absurd ⟨h1,hm⟩ hn
    have:=JV this; omega
   ·omega
  unfold eD
  rw [if_neg (by simp),A0.now.l,aY (x:=(more.length:Int)) (by omega) (by omega)]
  refine ⟨_,rfl,_,rfl,_,L.c2,FV L ob A0 okm p0 p1 hm hp fun h' s' L' F hb=>?_⟩
  have:=H h' s'
  unfold Lg.append at this
  rw [if_neg hn] at this
  by_cases h64:(Lg.fD l.ix p l.es more more.length).length > 64
  ·simp only [if_pos h64] at this L' ⊢
   exact this L' F hb
  ·simp only [if_neg h64] at this L' ⊢
   exact this L' F hb
 have bad:(p>=l.ix/\l.mat p t=false)->k (0,6) h:=fun hn=>by
  have e:l.append p t more=(l,0,6):=by unfold Lg.append; rw [if_pos hn]
  rw [e] at H
  exact H h s lO (Stp.refl _ _) fun g hg=>.inl hg
 unfold lT
 rw [if_neg (by simp)]
 refine ⟨_,rfl,_,L.c0,?_⟩
 by_cases hp:p>=l.ix
 ·rw [if_pos (by simpa using hp)]
  refine yl L p0 p1 ?_
  cases hm:l.mat p t with
  | true=>exact go fun hn=>by rw [hm] at hn; cases hn.2
  | false =>
   show eD _ _ _ true _ _
   unfold eD
   rw [if_pos rfl]
   exact bad ⟨hp,hm⟩
 ·rw [if_neg (by simpa using hp)]
  exact go fun hn=>hp hn.1
theorem FE {p0:Slc} {vs:List ae} {k:KP Slc} {h:Heap} (hl:p0.len=vs.length) (hs:SlcAt h p0 (ecs vs)) (hsz:vs.length<=1099511627776)
  (H:∀ s' h',Row h.size h' 65 2 s' (ecs vs)->Ext h.size h h'->k s' h'):dH p0 k h:=by
 unfold dH
 cases ha:p0.a with
 | none =>
  rw [if_pos (by simp)]
  have hn:=hs.1 ha
  rw [hn] at H
  exact H _ _ (Row.nil _ _ _ _) (Ext.refl _ _)
 | some a =>
  rw [if_neg (by simp)]
  have hp:∀ o:Obj,Ext h.size h (h.push o):=fun o=>Ext.push h o (Nat.le_refl _)
  refine ⟨_,_,rfl,rfl,ecs vs,hs.ext (hp _),?_⟩
  have R:Row h.size (h.push (.cells ([]:List Value).toArray 65)) 65 2 ⟨some ⟨h.size,0,none⟩,0,0⟩ [] :=
   ⟨by simp,by simp [maxLen],.inr ⟨h.size,[],rfl,Nat.le_refl _,Blk.push _ _ _,Nat.le_refl _,by simp,by simp⟩⟩
  refine App.row R (by simp) rfl (by rw [jV,hl]) (Bz vs) (by simp only; omega) (by simp only [maxLen]; omega) fun s' h' R' _ hsz' ho _=>?_
  refine H s' h' (by simpa using R') ⟨by simp at hsz'; omega,fun i hi=>?_⟩
  rw [ho i (by simp; omega) (by simp [Slc.blk]; omega),(hp _).block i hi]
theorem Kv {k:KP Int} (L:dV O h b s l) (ob:∀ g,O g->g < h.size) (p0:0<=p) (p1:p < 18446744073709551616)
  (H:∀ h' s',dV (OB O s') h' b s' (l.cut p).1->Stp (fun g=>g=b) h h'->(∀ g,s'.blk=some g->s.blk=some g∨h.size<=g)->k (l.cut p).2 h'):qV (some ⟨b,0,none⟩) p k h:=by
 have lO:=L.sub (O':=OB O s) (fun g hg=>hg.elim .inl fun e=>.inl (L.os g e)) (.inl L.ob) fun g hg=>.inr hg
 have x0:=L.x0; have x1:=L.x1; have sz:=L.sz
 unfold qV
 rw [if_neg (by simp)]
 refine rP L p0 p1 ?_
 unfold Lg.cut at H
 by_cases ht:(l.aF p).2=0
 ·rw [if_neg (by simpa using ht)]; rw [if_neg (by simpa using ht)] at H
  obtain ⟨h1,h2⟩:=ve ht
  have hl:=L.len
  obtain ⟨vs,R,I⟩:=L.r
  have hc:=R.cap
  have vl:=I.now.1
  refine ⟨_,rfl,s,L.c2,_,L.c0,?_⟩
  rw [aY (x:=p - l.ix) (by omega) (by omega)]
  refine ⟨_,by omega,by omega,by omega,by omega,rfl,?_⟩
  have A1:=(dB.sub ⟨hl,hc,vs,R.slc,I.now⟩ (l:=(p - l.ix).toNat) (u:=(s.len:Int).toNat) (m:=(s.cap:Int).toNat) (by omega) (by omega) (by omega) (by omega))
  have hA:SlcAt h (dS s 2 (p - l.ix).toNat (s.len:Int).toNat (s.cap:Int).toNat) (ecs (vs.drop (p - l.ix).toNat))/\(dS s 2 (p - l.ix).toNat (s.len:Int).toNat (s.cap:Int).toNat).len=(vs.drop (p - l.ix).toNat).length:=by
   refine ⟨⟨fun hn=>?_,fun a ha j v hj=>?_⟩,by simp [dS]; omega⟩
   ·have:s.a=none:=by simp only [dS] at hn; split at hn <;> simpa using hn
    have h0:=R.slc.1 this
    have:=jV vs
    rw [h0] at this
    simp at this
    have:vs=[]:=List.eq_nil_of_length_eq_zero (by omega)
    simp [this]
   ·rw [← yP,List.getElem?_drop] at hj
    by_cases hm:(s.cap:Int).toNat=(p - l.ix).toNat
    ·have:=(List.getElem?_eq_some_iff.1 hj).1
     rw [jV] at this; omega
    cases hs:s.a with
    | none=>simp [dS,hs] at ha
    | some a0 =>
     have hm':¬ s.cap=(p - l.ix).toNat:=fun e=>hm (by omega)
     simp [dS,hs,hm'] at ha
     subst ha
     rw [fI]
     exact R.slc.2 a0 hs _ v hj
  generalize dS s 2 (p - l.ix).toNat (s.len:Int).toNat (s.cap:Int).toNat=s6 at hA ⊢
  refine FE hA.2 hA.1 (by rw [List.length_drop]; omega) fun s' h' R' X=>?_
  have z1:=X.size
  have K1:=L.k.ext X L.k.lt
  obtain ⟨w1,f1⟩:=K1.put (i:=2) (v:=Slc.v s') (by show 2 < 3; omega)
  refine ⟨_,w1,rfl,?_⟩
  obtain ⟨K2,U2⟩:=f1 _ rfl
  generalize setH h' ((⟨b,0,none⟩:Addr).add 2) (Slc.v s')=h2 at *
  obtain ⟨w3,f3⟩:=K2.put (i:=0) (v:=.int .u64 p) (by show 0 < 3; omega)
  rw [show (⟨b,0,none⟩:Addr).add 0=⟨b,0,none⟩ from rfl] at w3 f3
  refine ⟨_,w3,rfl,?_⟩
  obtain ⟨K3,U3⟩:=f3 _ rfl
  generalize setH h2 (⟨b,0,none⟩:Addr) (.int .u64 p)=h3 at *
  obtain ⟨w4,f4⟩:=K3.put (i:=1) (v:=.int .u64 (l.aF p).1) (by show 1 < 3; omega)
  refine ⟨_,w4,rfl,?_⟩
  obtain ⟨K4,U4⟩:=f4 _ rfl
  generalize setH h3 ((⟨b,0,none⟩:Addr).add 1) (.int .u64 (l.aF p).1)=h4 at *
  have U:=(U2.trans U3).trans U4
  have S:Stp (fun g=>g=b) h' h4:=Stp.dQ U (.inl rfl)
  have S0:Stp (fun g=>g=b) h h4:=(Stp.bu (O:=fun g=>g=b) X).trans' S
  have sb:∀ g,s'.blk=some g->h.size<=g:=fun g hg=>(R'.bd hg).1
  have tb:0<=(l.aF p).1/\(l.aF p).1 < 18446744073709551616:=by
   have:=L.t0
   unfold Lg.aF
   split
   ·decide
   ·split
    ·decide
    ·split
     ·exact this
     ·rename_i h5 h6 h7
      have hlast:l.last=l.ix + l.es.length:=rfl
      obtain ⟨e,he⟩:∃ e,l.es[(p - l.ix - 1).toNat]? = some e:=⟨_,List.getElem?_eq_getElem (by omega)⟩
      rw [List.getD_eq_getElem?_getD,he]
      exact (L.ok _ (List.mem_of_getElem? he)).1
  refine H h4 s' ⟨K4,⟨vs.drop (p - l.ix).toNat,S.row (R'.mono (Nat.zero_le _)) fun g hg e=>by have:=sb g hg; have:=L.k.lt; omega,?_⟩,.inl L.ob,fun g hg=>.inr hg,p0,?_,tb,L.ok.drop _,by show (l.es.drop _).length<=1000; rw [List.length_drop]; omega⟩ S0 fun g hg=>.inr (sb g hg)
  ·exact ((I.step (S0.mono fun g hg=>.inl (by subst hg; exact L.ob)) fun g hg=>hg.elim .inl fun e=>.inr (sb g e)).imp fun _ E=>E.drop _)
  ·show p + ((l.es.drop _).length:Int) < _
   rw [List.length_drop]; omega
 ·rw [if_pos (by simpa using ht)]; rw [if_pos (by simpa using ht)] at H
  exact H _ _ lO (Stp.refl _ _) fun g hg=>.inl hg
end
end Go.Q.Yi
end
section
/- A member in memory. -/
namespace Go.Q.Yi
open Rf
theorem _root_.Go.Q.Row.rA {B B' E E' w w':Nat} {h:Heap} {s t:Slc} {xs ys:List Value} (R:Row B h E w s xs) (L:Row B' h E' w' t ys) (hE:E≠E') {g:Nat} (hs:s.blk=some g) (ht:t.blk=some g):False:=R.yu L hE hs ht
/-! ### ballots -/
def bits (l:List Int):Nat:=(l.map fun x=>2 ^ x.toNat).sum
theorem FN (l:List Int) (v:Int):bits (l ++ [v])=bits l + 2 ^ v.toNat:=by simp [bits]
theorem BS {n:Nat} (hn:n<=32):∀ {l:List Int},l.Nodup->(∀ x∈l,0<=x/\x < n)->bits l < 2 ^ n/\pcR 32 (bits l)=l.length/\∀ i:Nat,bits l / 2 ^ i % 2=if (i:Int)∈l then 1 else 0
 | [],_,_=>⟨by simp [bits]; exact Nat.pos_of_ne_zero (by simp),by simp only [bits,List.map_nil,List.sum_nil,List.length_nil]; decide +kernel,fun i=>by simp [bits]⟩
 | x :: l,hd,hb=>by
  obtain ⟨h1,h2⟩:=List.nodup_cons.1 hd
  obtain ⟨a,b,c⟩:=BS hn (l:=l) h2 fun y hy=>hb y (List.mem_cons_of_mem _ hy)
  obtain ⟨x0,x1⟩:=hb x List.mem_cons_self
  have ex:bits (x :: l)=bits l + 2 ^ x.toNat:=by simp [bits,Nat.add_comm]
  have cx:bits l / 2 ^ x.toNat % 2=0:=by rw [c x.toNat,if_neg (by rw [Int.toNat_of_nonneg x0]; exact h1)]
  rw [ex]
  refine ⟨LF (by omega) a cx,by rw [El 32 _ _ (by omega) cx,b]; simp,fun i=>?_⟩
  rw [JI cx,c i]
  by_cases hi:i=x.toNat
  ·rw [if_pos hi,if_pos (by rw [hi,Int.toNat_of_nonneg x0]; exact List.mem_cons_self)]
  ·rw [if_neg hi]
   by_cases hm:(i:Int)∈l
   ·rw [if_pos hm,if_pos (List.mem_cons_of_mem _ hm)]
   ·rw [if_neg hm,if_neg (fun h=>(List.mem_cons.1 h).elim (fun e=>hi (by omega)) hm)]
/-! ### the greatest number that more than half have -/
theorem zV:∀ (l:List Int) (a:Int),a<=l.foldl max a/\(∀ x∈l,x<=l.foldl max a)/\(l.foldl max a=a∨l.foldl max a∈l)
 | [],a=>⟨Int.le_refl _,by simp,.inl rfl⟩
 | y :: l,a=>by
  obtain ⟨h1,h2,h3⟩:=zV l (max a y)
  refine ⟨by simp only [List.foldl_cons]; omega,fun x hx=>?_,?_⟩
  ·simp only [List.foldl_cons]
   rcases List.mem_cons.1 hx with rfl | hx
   ·omega
   ·exact h2 x hx
  ·simp only [List.foldl_cons]
   rcases h3 with h3 | h3
   ·rcases Int.le_total a y with h | h
    ·right; rw [h3,Int.max_eq_right h]; exact List.mem_cons_self
    ·left; rw [h3,Int.max_eq_left h]
   ·exact .inr (List.mem_cons_of_mem _ h3)
theorem Cm.cmt {l:List Int} {c:Int} (h:Cm l c) (nn:∀ x∈l,0<=x):Rf.cmt l=c:=by
 unfold Rf.cmt
 have ec:∀ v,Rf.cnt l v=cnt l v:=fun v=>rfl
 rcases h with ⟨rfl,rfl⟩ | ⟨h1,h2,h3⟩
 ·rfl
 ·obtain ⟨a,b,d⟩:=zV (l.filter fun v=>decide (l.length / 2 + 1<=Rf.cnt l v)) 0
  have hc:c∈l.filter fun v=>decide (l.length / 2 + 1<=Rf.cnt l v):=List.mem_filter.2 ⟨h1,by rw [decide_eq_true_eq,ec]; exact h2⟩
  have k1:=b c hc
  rcases d with d | d
  ·have:=nn c h1; omega
  ·have:=List.mem_filter.1 d
   rw [decide_eq_true_eq,ec] at this
   have:=h3 _ this.2
   omega
/-! ### messages, letters, what is to be kept -/
structure uE (h:Heap) (v:ah) (x:Msg):Prop where
 k:v.oZ=x.kind/\v.cZ=x.term/\v.mg=x.index/\v.sw=x.logTerm/\v.sH=x.commit/\v.Db=x.yes
 e:dB h v.dR x.aM
 s:SlcAt h v.nK (b8 x.aQ)
 sl:v.nK.len=x.aQ.length
theorem uE.ext {h h':Heap} {v:ah} {x:Msg} (m:uE h v x) (X:Ext h.size h h'):uE h' v x:=⟨m.k,m.e.ext X,m.s.ext X,m.sl⟩
structure zP (h:Heap) (v:aj) (x:rZ):Prop where
 k:v.oZ=x.kind/\v.cZ=x.term/\v.za=x.aN/\v.mg=x.index
 e:dB h v.dR x.aM
 s:SlcAt h v.nK (b8 x.aQ)
 sl:v.nK.len=x.aQ.length
def yx (h:Heap) (vs:List aj) (xs:List rZ):Prop:=vs.length=xs.length/\∀ (i:Nat) v x,vs[i]? = some v->xs[i]? = some x->zP h v x
theorem yx.snoc {h:Heap} {vs:List aj} {xs:List rZ} {v:aj} {x:rZ} (a:yx h vs xs) (k:zP h v x):yx h (vs ++ [v]) (xs ++ [x]):=by
 refine ⟨by simp [a.1],fun i w f hw hf=>?_⟩
 rcases Nat.lt_or_ge i vs.length with hi | hi
 ·rw [List.getElem?_append_left hi] at hw
  rw [List.getElem?_append_left (by rw [← a.1]; exact hi)] at hf
  exact a.2 i w f hw hf
 ·rw [List.getElem?_append_right hi] at hw
  rw [List.getElem?_append_right (by rw [← a.1]; exact hi),← a.1] at hf
  have:i - vs.length=0:=by have:=(List.getElem?_eq_some_iff.1 hw).1; simp at this; omega
  rw [this] at hw hf
  simp at hw hf
  subst hw; subst hf; exact k
theorem Bf (vs:List aj):(vs.flatMap aj.cs).length=vs.length * 6:=rW (w:=6) (fun _=>rfl) vs
theorem pJ (h:Heap):SlcAt h ⟨none,0,0⟩ []:=⟨fun _=>rfl,fun a ha=>by cases ha⟩
/-! ### a member -/
structure RLy where
 b:Nat
 lb:Nat
 es:Slc
 aQ:Slc
 next:Slc
 has:Slc
 keeps:Slc
 bal:Option Nat
def own (L:RLy):bz:=fun g=>g=L.b∨g=L.lb∨L.es.blk=some g∨L.next.blk=some g∨L.has.blk=some g∨L.keeps.blk=some g∨L.bal=some g
def rcs (L:RLy) (r:RS):List Value:=ja.cs ⟨r.me,r.n,r.term,r.aN,some ⟨L.lb,0,none⟩,L.aQ,r.commit,r.role,r.leader,r.ticks,L.bal.map fun c=>⟨c,0,none⟩,L.next,L.has,L.keeps⟩
def Da (h:Heap) (n:Int):Option Nat->Option (List Int)->Prop
 | some c,some l=>Blk h c (iZ.cs ⟨n,(bits l:Int)⟩) 123
 | none,none=>True
 | _,_=>False
structure Parts (O:bz) (h:Heap) (L:RLy) (log:Lg) (aQ next has:List Int) (keeps:List rZ) (ballot:Option (List Int)) (n:Int):Prop where
 l:dV O h L.lb L.es log
 sn:Imm O h fun h=>SlcAt h L.aQ (b8 aQ)
 sl:L.aQ.len=aQ.length
 nx:Row 0 h 22 1 L.next (u8s next)
 hs:Row 0 h 22 1 L.has (u8s has)
 dj:∀ g,L.next.blk=some g->L.has.blk=some g->False
 kp:∃ ks,Row 0 h 107 6 L.keeps (ks.flatMap aj.cs)/\Imm O h fun h=>yx h ks keeps
 bl:Da h n L.bal ballot
structure WFr (r:RS):Prop where
 n:1<=r.n/\r.n<=32
 me:0<=r.me/\r.me < r.n
 tm:0<=r.term/\r.term < 18446744073709551616
 vt:-9223372036854775808<=r.aN/\r.aN < 9223372036854775808
 cm:0<=r.commit/\r.commit < 18446744073709551616
 tk:0<=r.ticks/\r.ticks<=1000000000
 ld:r.role=2->r.next.length=r.n.toNat/\r.has.length=r.n.toNat
 nx:∀ x∈r.next,0<=x/\x < 18446744073709551616
 hs:∀ x∈r.has,0<=x/\x < 18446744073709551616
 bl:∀ l,r.ballot=some l->l.Nodup/\∀ x∈l,0<=x/\x < r.n
 sn:isB r.aQ/\r.aQ.length<=1099511627776
 kp:r.keeps.length<=1000000
structure aC (O:bz) (h:Heap) (L:RLy) (r:RS):Prop where
 k:Blk h L.b (rcs L r) 94
 p:Parts O h L r.log r.aQ r.next r.has r.keeps r.ballot r.n
 ow:∀ g,own L g->O g
 ob:∀ g,O g->g < h.size
 wf:WFr r
section
variable {O O' S:bz} {h h':Heap} {L:RLy} {r:RS} {log:Lg} {aQ next has:List Int} {keeps:List rZ} {ballot:Option (List Int)} {n:Int}
theorem Da.old {h h':Heap} {n:Int}:∀ {c:Option Nat} {b:Option (List Int)},Da h n c b->(∀ g,c=some g->h'[g]? = h[g]?)->Da h' n c b
 | some c,some l,H,e=>Blk.old H (e c rfl)
 | none,none,_,_=>trivial
 | some _,none,H,_=>H.elim
 | none,some _,H,_=>H.elim
theorem Da.lt {h:Heap} {n:Int}:∀ {c:Option Nat} {b:Option (List Int)},Da h n c b->∀ g,c=some g->g < h.size
 | some c,some l,H,g,e=>by cases e; exact Blk.lt H
 | some _,none,H,_,_=>H.elim
theorem Da.blk {h:Heap} {n:Int}:∀ {c:Option Nat} {b:Option (List Int)},Da h n c b->∀ g,c=some g->∃ cs,Blk h g cs 123
 | some c,some l,H,g,e=>by cases e; exact ⟨_,H⟩
 | some _,none,H,_,_=>H.elim
/-- what was done elsewhere leaves the parts -/
theorem Parts.stp (P:Parts O h L log aQ next has keeps ballot n) (p:Stp S h h') (hS:∀ g,S g->O g∨h.size<=g)
  (h1:¬ S L.lb) (h2:∀ g,L.es.blk=some g->¬ S g) (h3:∀ g,L.next.blk=some g->¬ S g) (h4:∀ g,L.has.blk=some g->¬ S g) (h5:∀ g,L.keeps.blk=some g->¬ S g) (h6:∀ g,L.bal=some g->¬ S g):Parts O h' L log aQ next has keeps ballot n:=by
 obtain ⟨ks,K,I⟩:=P.kp
 exact ⟨P.l.stp p hS h1 h2,P.sn.stp (p.mono hS),P.sl,p.row P.nx h3,p.row P.hs h4,P.dj,⟨ks,p.row K h5,I.stp (p.mono hS)⟩,P.bl.old fun g e=>p.block g (P.bl.lt g e) (h6 g e)⟩
theorem Parts.sub (P:Parts O h L log aQ next has keeps ballot n) (hO:∀ g,O' g->O g∨h.size<=g) (h1:O' L.lb) (h2:∀ g,L.es.blk=some g->O' g):Parts O' h L log aQ next has keeps ballot n:=by
 obtain ⟨ks,K,I⟩:=P.kp
 exact ⟨P.l.sub hO h1 h2,P.sn.mono hO,P.sl,P.nx,P.hs,P.dj,⟨ks,K,I.mono hO⟩,P.bl⟩
/-- what was done to a block of another type leaves the parts -/
theorem Parts.upd {b E:Nat} {cs:List Value} (P:Parts O h L log aQ next has keeps ballot n) (K:Blk h b cs E) (U:Upd b h h') (hb:O b) (hE:E≠117/\E≠65/\E≠22/\E≠107/\E≠123):Parts O h' L log aQ next has keeps ballot n:=by
 obtain ⟨e1,e2,e3,e4,e5⟩:=hE
 obtain ⟨ks,Kr,I⟩:=P.kp
 obtain ⟨vs,R,_⟩:=P.l.r
 refine P.stp (S:=fun g=>g=b) (.dQ U (.inl rfl)) (fun g hg=>.inl (by subst hg; exact hb)) (fun e=>?_) (fun g hg e=>?_) (fun g hg e=>?_) (fun g hg e=>?_) (fun g hg e=>?_) fun g hg e=>?_
 ·subst e; exact e1 (K.inj P.l.k).2
 ·subst e; exact R.aZ K (Ne.symm e2) hg
 ·subst e; exact P.nx.aZ K (Ne.symm e3) hg
 ·subst e; exact P.hs.aZ K (Ne.symm e3) hg
 ·subst e; exact Kr.aZ K (Ne.symm e4) hg
 ·subst e
  obtain ⟨cs',K'⟩:=P.bl.blk _ hg
  exact e5 (K.inj K').2
theorem aC.ob' (R:aC O h L r) {g:Nat} (hg:own L g):g < h.size:=R.ob g (R.ow g hg)
theorem aC.Ob (R:aC O h L r):O L.b:=R.ow _ (.inl rfl)
/-- the same blocks, one field or more of the member's block written -/
theorem aC.Cc {r':RS} (R:aC O h L r) (K:Blk h' L.b (rcs L r') 94) (U:Upd L.b h h') (w:WFr r') (e:r'.log=r.log/\r'.aQ=r.aQ/\r'.next=r.next/\r'.has=r.has/\r'.keeps=r.keeps/\r'.ballot=r.ballot/\r'.n=r.n):aC O h' L r':=by
 obtain ⟨e1,e2,e3,e4,e5,e6,e7⟩:=e
 refine ⟨K,?_,R.ow,fun g hg=>Nat.lt_of_lt_of_le (R.ob g hg) U.size,w⟩
 rw [e1,e2,e3,e4,e5,e6,e7]
 exact R.p.upd R.k U R.Ob (by decide)
theorem aC.ext (R:aC O h L r) (X:Ext h.size h h'):aC O h' L r :=
 ⟨R.k.ext X R.k.lt,R.p.stp (S:=fun _=>False) (.bu X) (fun _ h=>h.elim) (fun h=>h) (fun _ _ h=>h) (fun _ _ h=>h) (fun _ _ h=>h) (fun _ _ h=>h) (fun _ _ h=>h),R.ow,fun g hg=>Nat.lt_of_lt_of_le (R.ob g hg) X.size,R.wf⟩
theorem aC.sub (R:aC O h L r) (hO:∀ g,O' g->O g) (hw:∀ g,own L g->O' g):aC O' h L r :=
 ⟨R.k,R.p.sub (fun g hg=>.inl (hO g hg)) (hw _ (.inr (.inl rfl))) fun g hg=>hw g (.inr (.inr (.inl hg))),hw,fun g hg=>R.ob g (hO g hg),R.wf⟩
/-- what is done elsewhere leaves a member -/
theorem aC.stp (R:aC O h L r) (p:Stp S h h') (hS:∀ g,S g->O g∨h.size<=g) (hd:∀ g,own L g->¬ S g):aC O h' L r :=
 ⟨p.blk R.k (hd _ (.inl rfl)),R.p.stp p hS (hd _ (.inr (.inl rfl))) (fun g hg=>hd g (.inr (.inr (.inl hg)))) (fun g hg=>hd g (.inr (.inr (.inr (.inl hg))))) (fun g hg=>hd g (.inr (.inr (.inr (.inr (.inl hg)))))) (fun g hg=>hd g (.inr (.inr (.inr (.inr (.inr (.inl hg))))))) fun g hg=>hd g (.inr (.inr (.inr (.inr (.inr (.inr hg)))))),R.ow,fun g hg=>Nat.lt_of_lt_of_le (R.ob g hg) p.size,R.wf⟩
def G (O:bz) (L:RLy):bz:=fun g=>O g∨own L g
/-- what a call leaves of a member -/
structure Res (O:bz) (h:Heap) (L:RLy) (r':RS) (h':Heap) (L':RLy):Prop where
 R:aC (G O L') h' L' r'
 S:Stp (own L) h h'
 F:∀ g,own L' g->own L g∨h.size<=g
 b:L'.b=L.b
theorem aC.g (R:aC O h L r):aC (G O L) h L r:=R.sub (fun g hg=>hg.elim (fun h=>h) (R.ow g)) fun g hg=>.inr hg
theorem Res.of {r':RS} (R:aC O h' L r') (S:Stp (own L) h h'):Res O h L r' h' L:=⟨R.g,S,fun g hg=>.inl hg,rfl⟩
theorem Res.trans {r1 r2:RS} {h1 h2:Heap} {L1 L2:RLy} (p:Res O h L r1 h1 L1) (q:Res (G O L1) h1 L1 r2 h2 L2):Res O h L r2 h2 L2 :=
 ⟨q.R.sub (fun g hg=>hg.elim (fun h=>.inl (.inl h)) .inr) fun g hg=>.inr hg,p.S.trans q.S p.F,fun g hg=>(q.F g hg).elim (p.F g) fun h2=>.inr (Nat.le_trans p.S.size h2),q.b.trans p.b⟩
theorem Res.ext {r':RS} {h2:Heap} {L':RLy} (p:Res O h L r' h' L') (X:Ext h'.size h' h2):Res O h L r' h2 L':=⟨p.R.ext X,p.S.trans (O':=fun _=>False) (.bu X) fun _ h=>h.elim,p.F,p.b⟩
/-- behind new blocks -/
theorem Res.pre {r':RS} {h0:Heap} {L':RLy} (p:Res O h L r' h' L') (X:Ext h0.size h0 h) (ow:∀ g,own L g->g < h0.size):Res O h0 L r' h' L' :=
 ⟨p.R,(Stp.bu (O:=own L) X).trans' p.S,fun g hg=>(p.F g hg).elim .inl fun h2=>.inr (Nat.le_trans X.size h2),p.b⟩
theorem Res.imm {r':RS} {L':RLy} {p:Heap->Prop} (q:Res O h L r' h' L') (R:aC O h L r) (I:Imm O h p):Imm (G O L') h' p :=
 I.step (q.S.mono fun g hg=>.inl (R.ow g hg)) fun g hg=>hg.elim .inl fun h2=>(q.F g h2).elim (fun h3=>.inl (R.ow g h3)) .inr
/-- a block of another type isn't a member's own -/
theorem aC.nH {E b:Nat} {cs:List Value} (R:aC O h L r) (K:Blk h b cs E) (hE:E≠94/\E≠117/\E≠65/\E≠22/\E≠107/\E≠123):¬ own L b:=by
 obtain ⟨e0,e1,e2,e3,e4,e5⟩:=hE
 obtain ⟨ks,Kr,I⟩:=R.p.kp
 obtain ⟨vs,Rr,_⟩:=R.p.l.r
 rintro (h | h | h | h | h | h | h)
 ·subst h; exact e0 (K.inj R.k).2
 ·subst h; exact e1 (K.inj R.p.l.k).2
 ·exact Rr.aZ K (Ne.symm e2) h
 ·exact R.p.nx.aZ K (Ne.symm e3) h
 ·exact R.p.hs.aZ K (Ne.symm e3) h
 ·exact Kr.aZ K (Ne.symm e4) h
 ·obtain ⟨cs',K'⟩:=R.p.bl.blk _ h
  exact e5 (K.inj K').2
/-! fields -/
theorem aC.c (R:aC O h L r) (i:Nat):af h ((⟨L.b,0,none⟩:Addr).add i)=(rcs L r)[i]?:=R.k.get i
theorem aC.c0 (R:aC O h L r):af h ⟨L.b,0,none⟩=some (.int .i64 r.me):=R.k.cell
end
end Go.Q.Yi
end
section
/- A member's small calls. -/
namespace Go.Q.Yi
open Rf
section
variable {O:bz} {h:Heap} {L:RLy} {r:RS}
theorem uX {v:aj} {x:rZ} {k:Heap->Prop} (R:aC O h L r) (hk:r.keeps.length < 1000000) (V:Imm O h fun h=>zP h v x)
  (H:∀ h' L',Res O h L { r with keeps:=r.keeps ++ [x] } h' L'->k h') :
  App 107 6 80 [.int .i64 0,.int .u64 0,.int .i64 0,.int .u64 0,.slice none 0 0,.slice none 0 0] h L.keeps 1 (aj.cs v) (fun s8 h9=>∃ h10:Heap,WrH h9 ((⟨L.b,0,none⟩:Addr).add 13)/\h10=setH h9 ((⟨L.b,0,none⟩:Addr).add 13) (Slc.v s8)/\(k h10)):=by
 have P:=R.p
 obtain ⟨ks,K,I⟩:=P.kp
 obtain ⟨vs,Re,_⟩:=P.l.r
 have kl:=K.1
 rw [Bf,I.now.1] at kl
 refine App.BR K (Nat.zero_le _) rfl rfl (uu (by kernel_rfl)) (by omega) (by simp only [maxLen]; omega) fun s h1 R1 l1 z1 o1 b1 _=>?_
 have S1:Stp (fun g=>L.keeps.blk=some g) h h1:=⟨z1,fun g hg hn=>o1 g hg hn⟩
 have nkb:∀ {b E:Nat} {cs:List Value},Blk h b cs E->E≠107->¬ L.keeps.blk=some b:=fun Kb hE e=>K.aZ Kb (Ne.symm hE) e
 have K1:=S1.blk R.k (nkb R.k (by decide))
 obtain ⟨w,f⟩:=K1.put (i:=13) (v:=Slc.v s) (by show 13 < 14; omega)
 refine ⟨_,w,rfl,?_⟩
 obtain ⟨K2,U2⟩:=f _ rfl
 generalize setH h1 ((⟨L.b,0,none⟩:Addr).add 13) (Slc.v s)=h2 at *
 have sb:∀ g,s.blk=some g->L.keeps.blk=some g∨h.size<=g:=fun g hg=>by
  rcases b1 with ⟨b1,_⟩ | b1
  ·exact .inl (by rw [← b1]; exact hg)
  ·rw [b1] at hg; cases hg; exact .inr (Nat.le_refl _)
 have hO':∀ g,G O { L with keeps:=s } g->O g∨h.size<=g:=fun g hg=>by
  rcases hg with hg | hg | hg | hg | hg | hg | hg | hg
  ·exact .inl hg
  ·exact .inl (R.ow _ (.inl hg))
  ·exact .inl (R.ow _ (.inr (.inl hg)))
  ·exact .inl (R.ow _ (.inr (.inr (.inl hg))))
  ·exact .inl (R.ow _ (.inr (.inr (.inr (.inl hg)))))
  ·exact .inl (R.ow _ (.inr (.inr (.inr (.inr (.inl hg))))))
  ·exact (sb g hg).elim (fun h3=>.inl (R.ow _ (.inr (.inr (.inr (.inr (.inr (.inl h3)))))))) .inr
  ·exact .inl (R.ow _ (.inr (.inr (.inr (.inr (.inr (.inr hg)))))))
 have kO:∀ g,L.keeps.blk=some g->O g:=fun g hg=>R.ow g (.inr (.inr (.inr (.inr (.inr (.inl hg))))))
 have SO:Stp O h h1:=S1.mono fun g hg=>.inl (kO g hg)
 have P1:Parts (G O { L with keeps:=s }) h1 { L with keeps:=s } r.log r.aQ r.next r.has (r.keeps ++ [x]) r.ballot r.n:=by
  refine ⟨?_,P.sn.step SO hO',P.sl,S1.row P.nx fun g hg e=>P.nx.rA K (by decide) hg e,S1.row P.hs fun g hg e=>P.hs.rA K (by decide) hg e,P.dj,⟨ks ++ [v],?_,fun h3 S3=>((I.step SO hO') h3 S3).snoc ((V.step SO hO') h3 S3)⟩,P.bl.old fun g hg=>?_⟩
  ·exact (P.l.sub hO' (.inr (.inr (.inl rfl))) fun g hg=>.inr (.inr (.inr (.inl hg)))).stp S1 (fun g hg=>.inl (.inl (kO g hg))) (nkb P.l.k (by decide)) fun g hg e=>Re.rA K (by decide) hg e
  ·have:(ks ++ [v]).flatMap aj.cs=ks.flatMap aj.cs ++ aj.cs v:=by simp
   rw [this]; exact R1
  ·refine o1 g (P.bl.lt g hg) fun e=>?_
   obtain ⟨cs,Kb⟩:=P.bl.blk g hg
   exact nkb Kb (by decide) e
 have w0:=R.wf
 have ow:∀ g,own { L with keeps:=s } g->own L g∨h.size<=g:=fun g hg=>by
  rcases hg with hg | hg | hg | hg | hg | hg | hg
  ·exact .inl (.inl hg)
  ·exact .inl (.inr (.inl hg))
  ·exact .inl (.inr (.inr (.inl hg)))
  ·exact .inl (.inr (.inr (.inr (.inl hg))))
  ·exact .inl (.inr (.inr (.inr (.inr (.inl hg)))))
  ·exact (sb g hg).elim (fun h3=>.inl (.inr (.inr (.inr (.inr (.inr (.inl h3))))))) .inr
  ·exact .inl (.inr (.inr (.inr (.inr (.inr (.inr hg))))))
 have P2:=P1.upd (L:={ L with keeps:=s }) K1 U2 (.inl R.Ob) (by decide)
 refine H h2 { L with keeps:=s } ⟨⟨K2,P2,fun g hg=>.inr hg,fun g hg=>?_,?_⟩,?_,ow,rfl⟩
 ·rcases hO' g hg with h3 | h3
  ·have:=R.ob g h3; have:=U2.size; omega
  ·rcases hg with hg | hg | hg | hg | hg | hg | hg | hg
   ·have:=R.ob g hg; have:=U2.size; omega
   ·have:=R.ob' (g:=g) (.inl hg); have:=U2.size; omega
   ·have:=R.ob' (g:=g) (.inr (.inl hg)); have:=U2.size; omega
   ·have:=R.ob' (g:=g) (.inr (.inr (.inl hg))); have:=U2.size; omega
   ·have:=R.ob' (g:=g) (.inr (.inr (.inr (.inl hg)))); have:=U2.size; omega
   ·have:=R.ob' (g:=g) (.inr (.inr (.inr (.inr (.inl hg))))); have:=U2.size; omega
   ·have:=(R1.bd hg).2; have:=U2.size; omega
   ·have:=R.ob' (g:=g) (.inr (.inr (.inr (.inr (.inr (.inr hg)))))); have:=U2.size; omega
 ·exact ⟨w0.n,w0.me,w0.tm,w0.vt,w0.cm,w0.tk,w0.ld,w0.nx,w0.hs,w0.bl,w0.sn,by simp; omega⟩
 ·exact (S1.mono (O':=own L) fun g hg=>.inl (.inr (.inr (.inr (.inr (.inr (.inl hg))))))).trans (Stp.dQ (O:=own L) U2 (.inl (.inl rfl))) fun g hg=>.inl hg
theorem uJ {k:KP Unit} (R:aC O h L r) (hk:r.keeps.length < 1000000) (H:∀ h' L',Res O h L r.fq h' L'->k () h'):gM (some ⟨L.b,0,none⟩) k h:=by
 unfold gM
 refine ⟨_,rfl,L.keeps,R.c 13,_,R.c 2,_,R.c 3,_,_,rfl,rfl,?_⟩
 have X:=Ext.push h (.cells (aj.cs ⟨1,r.term,r.aN,0,⟨none,0,0⟩,⟨none,0,0⟩⟩).toArray 107) (Nat.le_refl _)
 have R1:=R.ext X
 generalize h.push (.cells (aj.cs ⟨1,r.term,r.aN,0,⟨none,0,0⟩,⟨none,0,0⟩⟩).toArray 107)=h1 at *
 refine ⟨R1.c 13,uX (x:=⟨1,r.term,r.aN,0,[],[]⟩) R1 hk (fun h' _=>⟨⟨rfl,rfl,rfl,rfl⟩,dB.nil h',pJ h',rfl⟩) fun h' L' q=>H h' L' (q.pre X fun g hg=>R.ob' hg)⟩
theorem xC {term leader:Int} {k:KP Unit} (R:aC O h L r) (hk:r.keeps.length < 1000000) (t0:0<=term/\term < 18446744073709551616) (H:∀ h' L',Res O h L (r.follow term leader) h' L'->k () h'):je (some ⟨L.b,0,none⟩) term leader k h:=by
 have w0:=R.wf
 have j1:∀ {h1:Heap} {L1:RLy},Res O h L (r.aK term) h1 L1->iQ (some ⟨L.b,0,none⟩) leader k h1:=fun {h1 L1} q=>by
  have R1:=q.R
  have w1:=R1.wf
  rw [← q.b]
  unfold iQ
  obtain ⟨w,f⟩:=R1.k.put (i:=7) (v:=.int .i64 0) (by show 7 < 14; omega)
  refine ⟨_,rfl,_,w,rfl,?_⟩
  obtain ⟨K2,U2⟩:=f _ rfl
  generalize setH h1 ((⟨L1.b,0,none⟩:Addr).add 7) (.int .i64 0)=h2 at *
  obtain ⟨w,f⟩:=K2.put (i:=8) (v:=.int .i64 leader) (by show 8 < 14; omega)
  refine ⟨_,w,rfl,?_⟩
  obtain ⟨K3,U3⟩:=f _ rfl
  generalize setH h2 ((⟨L1.b,0,none⟩:Addr).add 8) (.int .i64 leader)=h3 at *
  obtain ⟨w,f⟩:=K3.put (i:=10) (v:=.pointer none) (by show 10 < 14; omega)
  refine ⟨_,w,rfl,?_⟩
  obtain ⟨K4,U4⟩:=f _ rfl
  generalize setH h3 ((⟨L1.b,0,none⟩:Addr).add 10) (.pointer none)=h4 at *
  have U:=(U2.trans U3).trans U4
  have P4:=R1.p.upd R1.k U R1.Ob (by decide)
  have ow:∀ g,own { L1 with bal:=none } g->own L1 g:=fun g hg=>by
   rcases hg with hg | hg | hg | hg | hg | hg | hg
   ·exact .inl hg
   ·exact .inr (.inl hg)
   ·exact .inr (.inr (.inl hg))
   ·exact .inr (.inr (.inr (.inl hg)))
   ·exact .inr (.inr (.inr (.inr (.inl hg))))
   ·exact .inr (.inr (.inr (.inr (.inr (.inl hg)))))
   ·cases hg
  have R4:aC (G O L1) h4 { L1 with bal:=none } (r.follow term leader) :=
   ⟨K4,⟨P4.l,P4.sn,P4.sl,P4.nx,P4.hs,P4.dj,P4.kp,trivial⟩,fun g hg=>R1.ow g (ow g hg),fun g hg=>Nat.lt_of_lt_of_le (R1.ob g hg) U.size,
    ⟨w1.n,w1.me,w1.tm,w1.vt,w1.cm,w1.tk,(fun e=>by cases e),w1.nx,w1.hs,(fun l e=>by cases e),w1.sn,w1.kp⟩⟩
  exact H h4 _ (q.trans ⟨R4.sub (fun g hg=>hg.elim (fun h=>h) fun h=>R1.ow g (ow g h)) fun g hg=>.inr hg,(Stp.dQ U (.inl (.inl rfl))),fun g hg=>.inl (ow g hg),rfl⟩)
 unfold je
 refine ⟨_,rfl,_,R.c 2,?_⟩
 unfold RS.aK at j1
 by_cases ht:term > r.term
 ·rw [if_pos (by simpa using ht)]
  rw [if_pos ht] at j1
  obtain ⟨w,f⟩:=R.k.put (i:=2) (v:=.int .u64 term) (by show 2 < 14; omega)
  refine ⟨_,w,rfl,?_⟩
  obtain ⟨K2,U2⟩:=f _ rfl
  generalize setH h ((⟨L.b,0,none⟩:Addr).add 2) (.int .u64 term)=h2 at *
  obtain ⟨w,f⟩:=K2.put (i:=3) (v:=.int .i64 0) (by show 3 < 14; omega)
  refine ⟨_,w,rfl,?_⟩
  obtain ⟨K3,U3⟩:=f _ rfl
  generalize setH h2 ((⟨L.b,0,none⟩:Addr).add 3) (.int .i64 0)=h3 at *
  have R3:aC O h3 L { r with term:=term,aN:=0 }:=R.Cc K3 (U2.trans U3) ⟨w0.n,w0.me,t0,by simp,w0.cm,w0.tk,w0.ld,w0.nx,w0.hs,w0.bl,w0.sn,w0.kp⟩ ⟨rfl,rfl,rfl,rfl,rfl,rfl,rfl⟩
  have q0:Res O h L { r with term:=term,aN:=0 } h3 L:=Res.of R3 (Stp.dQ (U2.trans U3) (.inl (.inl rfl)))
  exact uJ q0.R hk fun h' L' q=>j1 (q0.trans q)
 ·rw [if_neg (by simpa using ht)]
  rw [if_neg ht] at j1
  exact j1 (Res.of R (Stp.refl _ _))
end
end Go.Q.Yi
end

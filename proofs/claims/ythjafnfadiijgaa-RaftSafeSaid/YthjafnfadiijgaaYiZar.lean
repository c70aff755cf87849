/- A part of the proof of statements of this seat: lemmas, no statement of their own. -/
import Derived.Test.YthjafnfadiijgaaYiZaf
import Derived.Test.YthjafnfadiijgaaYiZaq
set_option linter.unusedVariables false
set_option linter.unusedSimpArgs false
set_option maxRecDepth 100000
section
/- Entries and logs in memory. -/
namespace Go.Q
theorem SlcAt.Ev {O:bz} {B E w:Nat} {s:Slc} {xs:List Value} {h:Heap} (R:Row B h E w s xs) (hb:∀ g,s.blk=some g->¬ O g):Imm O h fun h'=>SlcAt h' s xs:=fun h' p=>(p.row R hb).slc
theorem Blk.put {h:Heap} {b E i:Nat} {cs:List Value} {v:Value} (K:Blk h b cs E) (hi:i < cs.length):WrH h ((⟨b,0,none⟩:Addr).add i)/\∀ h2,h2=setH h ((⟨b,0,none⟩:Addr).add i) v->Blk h2 b (cs.set i v) E/\Upd b h h2:=by
 rw [add_mk,Nat.zero_add]
 refine ⟨K.wr hi,fun h2 e=>?_⟩
 subst e
 exact ⟨K.set,⟨by rw [jh]; exact Nat.le_refl _,fun j _ hne=>iK (by simpa using hne)⟩⟩
theorem Blk.get {h:Heap} {b E:Nat} {cs:List Value} (K:Blk h b cs E) (i:Nat):af h ((⟨b,0,none⟩:Addr).add i)=cs[i]?:=by
 rw [add_mk,Nat.zero_add,K.cell]
theorem Row.y5 {B E w g:Nat} {h:Heap} {s:Slc} {xs:List Value} (r:Row B h E w s xs) (hg:s.blk=some g):∃ cur,Blk h g cur E:=by
 rcases r.2.2 with ⟨k,_⟩ | ⟨g',cur,a1,a2,a3,_⟩
 ·simp [Slc.blk,k] at hg
 ·simp [Slc.blk,a1] at hg; subst hg
  exact ⟨cur,a3⟩
theorem Row.pI {E w:Nat} (h:Heap) (cs:List Value) (n:Nat) (hn:n * w=cs.length) (hm:n<=maxLen):Row h.size (h.push (.cells cs.toArray E)) E w ⟨some ⟨h.size,0,none⟩,n,n⟩ cs :=
 ⟨hn.symm,hm,.inr ⟨h.size,cs,rfl,Nat.le_refl _,Blk.push _ _ _,Nat.le_refl _,by show n * w<=_; omega,by show cs.take (n * w)=cs; rw [hn,List.take_length]⟩⟩
namespace Yi
open Rf (Lg)
def o9 (es:List Ent):Prop:=∀ e∈es,(0<=e.1/\e.1 < 18446744073709551616)/\isB e.2/\e.2.length<=1099511627776
theorem o9.app {x y:List Ent} (h:o9 x) (k:o9 y):o9 (x ++ y):=fun e he=>(List.mem_append.1 he).elim (h e) (k e)
theorem o9.take {x:List Ent} (h:o9 x) (n:Nat):o9 (x.take n):=fun e he=>h e (List.mem_of_mem_take he)
theorem o9.drop {x:List Ent} (h:o9 x) (n:Nat):o9 (x.drop n):=fun e he=>h e (List.mem_of_mem_drop he)
abbrev ecs (vs:List ae):List Value:=vs.flatMap ae.cs
theorem ji (vs:List ae):(ecs vs).length=vs.length * 2:=qg (w:=2) (fun _=>rfl) vs
theorem xq (vs:List ae) (i j:Nat) (hj:j < 2):(ecs vs)[i * 2 + j]? = (vs[i]?).bind fun v=>(ae.cs v)[j]?:=si (w:=2) (fun _=>rfl) vs i j hj
theorem uM (vs:List ae) (v:ae):ecs (vs ++ [v])=ecs vs ++ ae.cs v:=by simp [ecs]
theorem sQ (vs:List ae) (n:Nat):(ecs vs).take (n * 2)=ecs (vs.take n):=Rw.AV (w:=2) (fun _=>rfl) vs n
theorem ve (vs:List ae) (n:Nat):(ecs vs).drop (n * 2)=ecs (vs.drop n):=by
 have h:=List.take_append_drop (n * 2) (ecs vs)
 have k:ecs vs=ecs (vs.take n) ++ ecs (vs.drop n):=by rw [← List.flatMap_append,List.take_append_drop]
 rw [sQ] at h
 exact List.append_cancel_left (h.trans k)
theorem xG (vs:List ae):∀ x∈ecs vs,x.oneCell'=true:=by
 intro x hx
 obtain ⟨v,_,hv⟩:=List.mem_flatMap.1 hx
 exact qX (l:=ae.cs v) (by simp [ae.cs,Value.oneCell']) x hv
/-- an entry that may be read -/
structure oD (h:Heap) (v:ae) (e:Ent):Prop where
 t:v.bP=e.1
 c:SlcAt h v.lS (b8 e.2)
 l:v.lS.len=e.2.length
theorem oD.ext {h h':Heap} {v:ae} {e:Ent} (a:oD h v e) (X:Ext h.size h h'):oD h' v e:=⟨a.t,a.c.ext X,a.l⟩
def Each (h:Heap) (vs:List ae) (es:List Ent):Prop:=vs.length=es.length/\∀ (i:Nat) v e,vs[i]? = some v->es[i]? = some e->oD h v e
theorem Each.nil (h:Heap):Each h [] []:=⟨rfl,by simp⟩
theorem Each.ext {h h':Heap} {vs:List ae} {es:List Ent} (a:Each h vs es) (X:Ext h.size h h'):Each h' vs es:=⟨a.1,fun i v e hv he=>(a.2 i v e hv he).ext X⟩
theorem Each.take {h:Heap} {vs:List ae} {es:List Ent} (a:Each h vs es) (n:Nat):Each h (vs.take n) (es.take n) :=
 ⟨by simp [a.1],fun i v e hv he=>by
  rw [List.getElem?_take] at hv he
  split at hv
  ·rename_i hi; rw [if_pos hi] at he; exact a.2 i v e hv he
  ·cases hv⟩
theorem Each.drop {h:Heap} {vs:List ae} {es:List Ent} (a:Each h vs es) (n:Nat):Each h (vs.drop n) (es.drop n) :=
 ⟨by simp [a.1],fun i v e hv he=>by rw [List.getElem?_drop] at hv he; exact a.2 _ v e hv he⟩
theorem Each.app {h:Heap} {vs us:List ae} {es fs:List Ent} (a:Each h vs es) (b:Each h us fs):Each h (vs ++ us) (es ++ fs):=by
 refine ⟨by simp [a.1,b.1],fun i v e hv he=>?_⟩
 rcases Nat.lt_or_ge i vs.length with hi | hi
 ·rw [List.getElem?_append_left hi] at hv
  rw [List.getElem?_append_left (by rw [← a.1]; exact hi)] at he
  exact a.2 i v e hv he
 ·rw [List.getElem?_append_right hi] at hv
  rw [List.getElem?_append_right (by rw [← a.1]; exact hi),← a.1] at he
  exact b.2 _ v e hv he
theorem Each.one {h:Heap} {v:ae} {e:Ent} (a:oD h v e):Each h [v] [e]:=⟨rfl,fun i w f hw hf=>by
 cases i with
 | zero=>simp at hw hf; subst hw; subst hf; exact a
 | succ i=>simp at hw⟩
/-- entries that may be read -/
structure cZ (h:Heap) (s:Slc) (es:List Ent):Prop where
 l:s.len=es.length
 c:s.len<=s.cap
 e:∃ vs,SlcAt h s (ecs vs)/\Each h vs es
theorem cZ.ext {h h':Heap} {s:Slc} {es:List Ent} (a:cZ h s es) (X:Ext h.size h h'):cZ h' s es:=by
 obtain ⟨vs,S,E⟩:=a.e
 exact ⟨a.l,a.c,vs,S.ext X,E.ext X⟩
theorem cZ.nil (h:Heap):cZ h ⟨none,0,0⟩ []:=⟨rfl,Nat.le_refl _,[],⟨fun _=>rfl,fun a ha=>by cases ha⟩,Each.nil h⟩
theorem cZ.get {h:Heap} {s:Slc} {es:List Ent} (A:cZ h s es) {i:Nat} {e:Ent} (he:es[i]? = some e):∃ a v,s.a=some a/\aD h (a.add (i * 2)) (ae.cs v)/\oD h v e:=by
 obtain ⟨vs,S,E⟩:=A.e
 have hi:i < vs.length:=by rw [E.1]; exact (List.getElem?_eq_some_iff.1 he).1
 obtain ⟨v,hv⟩:∃ v,vs[i]? = some v:=⟨_,List.getElem?_eq_getElem hi⟩
 have L:=LsAt.qh (w:=2) (fun x=>rfl) S (by rw [A.l,E.1]) (by decide)
 obtain ⟨a,ha,C⟩:=L.at' i v hv
 exact ⟨a,v,ha,C,E.2 i v e hv he⟩
/-- a part of entries -/
theorem cZ.sub {h:Heap} {s:Slc} {es:List Ent} (A:cZ h s es) {l u m:Nat} (h1:l<=u) (h2:u<=es.length) (h3:u<=m) (h4:m<=s.cap):cZ h (dC s 2 l u m) ((es.drop l).take (u - l)):=by
 obtain ⟨vs,S,E⟩:=A.e
 have hl:=E.1
 refine ⟨by simp [dC]; omega,by simp [dC]; omega,(vs.drop l).take (u - l),⟨fun hn=>?_,fun a ha j v hj=>?_⟩,(E.drop l).take (u - l)⟩
 ·have:s.a=none:=by simp only [dC] at hn; split at hn <;> simpa using hn
  have h0:=S.1 this
  have:=ji vs
  rw [h0] at this
  simp at this
  have:vs=[]:=List.eq_nil_of_length_eq_zero (by omega)
  simp [this]
 ·cases hs:s.a with
  | none=>simp [dC,hs] at ha
  | some b =>
   by_cases hm:m=l
   ·rw [show u - l=0 from by omega] at hj; simp at hj
   simp [dC,hs,hm] at ha
   subst ha
   rw [← sQ,← ve,List.getElem?_take] at hj
   split at hj
   ·rw [List.getElem?_drop] at hj
    rw [dI]
    exact S.2 b hs _ v hj
   ·cases hj
/-- entries in new memory -/
structure lT (B:Nat) (h:Heap) (s:Slc) (es:List Ent) (vs:List ae):Prop where
 r:Row B h 65 2 s (ecs vs)
 l:vs.length=es.length
 e:∀ (i:Nat) v e,vs[i]? = some v->es[i]? = some e->v.bP=e.1/\Row B h 5 1 v.lS (b8 e.2)
theorem lT.len {B:Nat} {h:Heap} {s:Slc} {es:List Ent} {vs:List ae} (o:lT B h s es vs):s.len=es.length:=by
 have:=o.r.1; rw [ji,o.l] at this; omega
theorem lT.each {B:Nat} {h:Heap} {s:Slc} {es:List Ent} {vs:List ae} (o:lT B h s es vs):Each h vs es :=
 ⟨o.l,fun i v e hv he=>⟨(o.e i v e hv he).1,(o.e i v e hv he).2.slc,by simpa using (o.e i v e hv he).2.len⟩⟩
theorem lT.aK {B:Nat} {h:Heap} {s:Slc} {es:List Ent} {vs:List ae} (o:lT B h s es vs):cZ h s es:=⟨o.len,o.r.cap,vs,o.r.slc,o.each⟩
theorem lT.keep {B:Nat} {h h':Heap} {s:Slc} {es:List Ent} {vs:List ae} (o:lT B h s es vs) (k:∀ g,B<=g->g < h.size->h'[g]? = h[g]?):lT B h' s es vs :=
 ⟨o.r.keep fun g hg=>k g (o.r.bd hg).1 (o.r.bd hg).2,o.l,fun i v e hv he=>⟨(o.e i v e hv he).1,(o.e i v e hv he).2.keep fun g hg=>k g ((o.e i v e hv he).2.bd hg).1 ((o.e i v e hv he).2.bd hg).2⟩⟩
theorem lT.ext {B:Nat} {h h':Heap} {s:Slc} {es:List Ent} {vs:List ae} (o:lT B h s es vs) (X:Ext h.size h h'):lT B h' s es vs:=o.keep fun g _ hg=>X.block g hg
theorem lT.imm {O:bz} {B:Nat} {h:Heap} {s:Slc} {es:List Ent} {vs:List ae} (o:lT B h s es vs) (hO:∀ g,O g->g < B):Imm O h fun h'=>cZ h' s es :=
 fun h' p=>(o.keep fun g hB hg=>p.block g hg fun hg'=>by have:=hO g hg'; omega).aK
theorem rQ {p0:Slc} {es:List Ent} {k:KP Slc} {h:Heap} (A:cZ h p0 es) (ok:o9 es) (hl:es.length<=1099511627776)
  (H:∀ s' h' vs,lT h.size h' s' es vs->Ext h.size h h'->k s' h'):lI p0 k h:=by
 unfold lI
 rw [A.l]
 refine ⟨fun q h'=>∃ vs,0<=q.2/\q.2<=es.length/\lT h.size h' q.1 (es.take q.2.toNat) vs/\Ext h.size h h',fun q _=>(es.length - q.2).toNat,⟨[],by simp,by simp,⟨Row.nil _ _ _ _,by simp,by simp⟩,Ext.refl _ _⟩,?_⟩
 rintro out i h1 ⟨vs,i0,i1,O,X⟩
 simp only at i0 i1 O
 unfold qN
 by_cases hi:i < es.length
 ·rw [if_pos (by simpa using hi)]
  have hie:i.toNat < es.length:=by omega
  have he:es[i.toNat]? = some es[i.toNat]:=by simp [hie]
  generalize es[i.toNat]=e at he
  obtain ⟨a,v,ha,c1,c2⟩:=(A.ext X).get he
  have oke:=ok e (List.mem_of_getElem? he)
  refine ⟨a,ha,i0,by rw [A.l]; exact hi,v,c1,_,_,rfl,rfl,?_⟩
  have P0:=Blk.push h1 (ae.cs ⟨0,⟨none,0,0⟩⟩) 65
  have P1:=P0.jN (vs:=ae.cs v) (by simp [ae.cs])
  have X2:Ext h1.size h1 (aO (h1.push (.cells (ae.cs ⟨0,⟨none,0,0⟩⟩).toArray 65)) ⟨h1.size,0,none⟩ 0 (ae.cs v)):=(Ext.push h1 _ (Nat.le_refl _)).trans (Ext.sets _ _ _ (Nat.le_refl _))
  refine ⟨_,bZ.dL P0 (by simp [ae.cs]),rfl,?_⟩
  have z2:=X2.size
  have zp:h1.size < (aO (h1.push (.cells (ae.cs ⟨0,⟨none,0,0⟩⟩).toArray 65)) ⟨h1.size,0,none⟩ 0 (ae.cs v)).size:=P1.lt
  generalize aO (h1.push (.cells (ae.cs ⟨0,⟨none,0,0⟩⟩).toArray 65)) ⟨h1.size,0,none⟩ 0 (ae.cs v)=h2 at *
  refine ⟨v.bP,by rw [P1.cell]; rfl,v.lS,by rw [add_mk,P1.cell]; rfl,pQ c2.l (c2.c.ext X2) (by omega) fun r h3 R3 X3=>?_⟩
  have z3:=X3.size
  refine ⟨by rw [(P1.ext X3 zp).cell]; rfl,_,_,rfl,rfl,?_⟩
  have O2:=(O.ext X2).ext X3
  have ol:=O.len
  simp at ol
  have z1:=X.size
  refine App.row (O2.r.pushed _) (by simp; omega) rfl rfl (qX (by kernel_rfl)) (by omega) (by simp only [maxLen]; omega) fun s' h4 R4 _ z4 ho _=>?_
  have z4':h3.size + 1<=h4.size:=by simpa using z4
  have old:∀ g,g < h3.size->out.blk≠some g->h4[g]? = h3[g]?:=fun g hg hne=>by
   rw [ho g (by simp; omega) hne,Array.getElem?_push,if_neg (by omega)]
  have kr:∀ {s:Slc} {xs:List Value} {C:Nat},Row C h3 5 1 s xs->Row C h4 5 1 s xs:=fun R=>R.keep fun g hg=>old g (R.bd hg).2 fun e=>R.vP O2.r (by decide) hg e
  rw [ay (by omega) (by omega)]
  refine ⟨⟨vs ++ [⟨v.bP,r⟩],by dsimp only; omega,by dsimp only; omega,?_,?_⟩,by dsimp only; omega⟩
  ·dsimp only
   rw [show (i + 1).toNat=i.toNat + 1 from by omega,List.take_add_one,he]
   refine ⟨by rw [uM]; exact R4,by simp [O2.l],fun j w f hw hf=>?_⟩
   rcases Nat.lt_or_ge j vs.length with hj | hj
   ·rw [List.getElem?_append_left hj] at hw
    rw [List.getElem?_append_left (by rw [← O2.l]; exact hj)] at hf
    obtain ⟨k1,k2⟩:=O2.e j w f hw hf
    exact ⟨k1,kr k2⟩
   ·rw [List.getElem?_append_right hj] at hw
    rw [List.getElem?_append_right (by rw [← O2.l]; exact hj)] at hf
    have hi2:j=vs.length:=by
     have:=(List.getElem?_eq_some_iff.1 hw).1
     simp at this; omega
    rw [hi2] at hw
    rw [hi2,← O2.l] at hf
    simp at hw hf
    subst hw; subst hf
    exact ⟨c2.t,kr (R3.mono (by omega))⟩
  ·exact X.trans ((X2.mono (by omega)).trans ((X3.mono (by omega)).trans ⟨by omega,fun j hj=>old j (by omega) fun e=>by have:=(O2.r.bd e).1; omega⟩))
 ·rw [if_neg (by simpa using hi)]
  have:i.toNat=es.length:=by omega
  rw [this,List.take_length] at O
  exact H _ _ vs O X
/-- a log in memory: its own blocks are b, and the entries' row -/
structure dM (O:bz) (h:Heap) (b:Nat) (s:Slc) (l:Lg):Prop where
 k:Blk h b (lF.cs ⟨l.ix,l.tm,s⟩) 117
 r:∃ vs,Row 0 h 65 2 s (ecs vs)/\Imm O h fun h'=>Each h' vs l.es
 ob:O b
 os:∀ g,s.blk=some g->O g
 x0:0<=l.ix
 x1:l.ix + l.es.length < 18446744073709551616
 t0:0<=l.tm/\l.tm < 18446744073709551616
 ok:o9 l.es
 sz:l.es.length<=1000
section
variable {O O' S:bz} {h h':Heap} {b:Nat} {s:Slc} {l:Lg} {p t:Int}
theorem dM.len (L:dM O h b s l):s.len=l.es.length:=by
 obtain ⟨vs,R,I⟩:=L.r
 have:=R.1; rw [ji,I.now.1] at this; omega
theorem dM.aK (L:dM O h b s l):cZ h s l.es:=by
 obtain ⟨vs,R,I⟩:=L.r
 exact ⟨L.len,R.cap,vs,R.slc,I.now⟩
theorem dM.stp (L:dM O h b s l) (p:Stp S h h') (hS:∀ g,S g->O g∨h.size<=g) (hb:¬ S b) (hs:∀ g,s.blk=some g->¬ S g):dM O h' b s l:=by
 obtain ⟨vs,R,I⟩:=L.r
 exact ⟨p.blk L.k hb,⟨vs,p.row R hs,I.stp (p.mono hS)⟩,L.ob,L.os,L.x0,L.x1,L.t0,L.ok,L.sz⟩
theorem dM.ext (L:dM O h b s l) (X:Ext h.size h h'):dM O h' b s l:=L.stp (S:=fun _=>False) (.bi X) (fun _ h=>h.elim) (fun h=>h) (fun _ _ h=>h)
theorem dM.sub (L:dM O h b s l) (hO:∀ g,O' g->O g∨h.size<=g) (hb:O' b) (hs:∀ g,s.blk=some g->O' g):dM O' h b s l:=by
 obtain ⟨vs,R,I⟩:=L.r
 exact ⟨L.k,⟨vs,R,I.mono hO⟩,hb,hs,L.x0,L.x1,L.t0,L.ok,L.sz⟩
theorem dM.c0 (L:dM O h b s l):af h ⟨b,0,none⟩=some (.int .u64 l.ix):=by rw [L.k.cell]; rfl
theorem dM.c1 (L:dM O h b s l):af h ((⟨b,0,none⟩:Addr).add 1)=some (.int .u64 l.tm):=by rw [add_mk,L.k.cell]; rfl
theorem dM.c2 (L:dM O h b s l):af h ((⟨b,0,none⟩:Addr).add 2)=some (Slc.v s):=by rw [add_mk,L.k.cell]; rfl
theorem sK {k:KP (Int × Int)} (L:dM O h b s l) (H:k (l.ix,l.tm) h):eB (some ⟨b,0,none⟩) k h:=by
 unfold eB
 rw [if_neg (by simp)]
 exact ⟨_,rfl,_,L.c0,_,L.c1,H⟩
theorem dM.term (L:dM O h b s l) {i:Nat} {e:Ent} (he:l.es[i]? = some e):∃ a,s.a=some a/\af h (a.add (i * 2))=some (.int .u64 e.1):=by
 obtain ⟨a,v,ha,C,E⟩:=L.aK.get he
 refine ⟨a,ha,?_⟩
 have:=C 0 (.int .u64 v.bP) rfl
 rwa [dI,Nat.add_zero,E.t] at this
theorem qB {k:KP (Int × Int)} (L:dM O h b s l) (H:k (l.last,l.lastT) h):eD (some ⟨b,0,none⟩) k h:=by
 have hl:=L.len
 have x0:=L.x0; have x1:=L.x1; have sz:=L.sz
 unfold eD
 rw [if_neg (by simp)]
 refine ⟨_,rfl,s,L.c2,_,rfl,?_⟩
 rw [hl]
 by_cases hz:l.es.length=0
 ·rw [if_neg (by simpa using hz)]
  refine ⟨_,L.c0,_,L.c1,?_⟩
  have e0:l.es=[]:=List.eq_nil_of_length_eq_zero hz
  have:l.last=l.ix/\l.lastT=l.tm:=by unfold Lg.last Lg.lastT; rw [e0]; simp
  rw [this.1,this.2] at H; exact H
 ·rw [if_pos (by simp; omega)]
  obtain ⟨e,he⟩:∃ e,l.es[l.es.length - 1]? = some e:=⟨_,List.getElem?_eq_getElem (by omega)⟩
  obtain ⟨a,ha,hc⟩:=L.term he
  rw [ay (by omega) (by omega),show ((l.es.length:Int) - 1).toNat=l.es.length - 1 from by omega,aL (x:=(l.es.length:Int)) (by omega) (by omega)]
  refine ⟨_,L.c0,s,L.c2,a,ha,by omega,by omega,_,hc,?_⟩
  rw [aL (by omega) (by omega)]
  have:l.last=l.ix + l.es.length/\l.lastT=e.1:=⟨rfl,by unfold Lg.lastT; rw [List.getLast?_eq_getElem?,he]⟩
  rw [this.1,this.2] at H; exact H
theorem dM.xS (L:dM O h b s l):0<=l.last/\l.last < 18446744073709551616:=by
 have:=L.x0; have:=L.x1; unfold Lg.last; omega
theorem p9 {k:KP (Int × Int)} (L:dM O h b s l) (p0:0<=p) (p1:p < 18446744073709551616) (H:k (l.aH p) h):dP (some ⟨b,0,none⟩) p k h:=by
 have x0:=L.x0; have x1:=L.x1; have sz:=L.sz
 unfold dP
 refine sK L (qB L ?_)
 unfold Lg.aH at H
 by_cases h1:p < l.ix
 ·rw [if_pos (by simpa using h1)]; rw [if_pos h1] at H; exact H
 rw [if_neg (by simpa using h1)]; rw [if_neg h1] at H
 by_cases h2:p > l.last
 ·rw [if_pos (by simpa using h2)]; rw [if_pos h2] at H; exact H
 rw [if_neg (by simpa using h2)]; rw [if_neg h2] at H
 by_cases h3:p=l.ix
 ·rw [if_pos (by simpa using h3)]; rw [if_pos h3] at H; exact H
 rw [if_neg (by simpa using h3)]; rw [if_neg h3] at H
 have hlast:l.last=l.ix + l.es.length:=rfl
 obtain ⟨e,he⟩:∃ e,l.es[(p - l.ix - 1).toNat]? = some e:=⟨_,List.getElem?_eq_getElem (by omega)⟩
 obtain ⟨a,ha,hc⟩:=L.term he
 rw [aL (x:=p - l.ix) (by omega) (by omega),aL (x:=p - l.ix - 1) (by omega) (by omega)]
 refine ⟨_,rfl,s,L.c2,a,ha,by omega,by rw [L.len]; omega,_,hc,?_⟩
 rw [List.getD_eq_getElem?_getD,he] at H
 exact H
theorem vN {k:KP Bool} (L:dM O h b s l) (p0:0<=p) (p1:p < 18446744073709551616) (H:k (l.mat p t) h):kw (some ⟨b,0,none⟩) p t k h:=by
 unfold kw
 exact p9 L p0 p1 H
theorem yz {k:KP Bool} (L:dM O h b s l) (H:k (l.newer p t) h):lv (some ⟨b,0,none⟩) p t k h:=by
 unfold lv
 exact qB L H
theorem rP {l:Lg} (h:(l.aH p).2=0):l.ix<=p/\p<=l.ix + l.es.length:=by
 unfold Lg.aH Lg.last at h
 split at h
 ·simp at h
 ·split at h
  ·simp at h
  ·omega
theorem Aq {most:Int} {k:KP (Slc × Int)} (L:dM O h b s l) (p0:0<=p) (p1:p < 18446744073709551616) (m0:0<=most) (m1:most<=64)
  (H:∀ s' h' vs,lT h.size h' s' (l.frm p most).1 vs->Ext h.size h h'->k (s',(l.frm p most).2) h'):l8 (some ⟨b,0,none⟩) p most k h:=by
 have x0:=L.x0; have x1:=L.x1; have sz:=L.sz
 have nl:lT h.size h ⟨none,0,0⟩ [] []:=⟨Row.nil _ _ _ _,rfl,by simp⟩
 unfold l8
 unfold Lg.frm at H
 by_cases hp:p=0
 ·rw [if_pos (by simpa using hp)]; rw [if_pos hp] at H
  exact H _ _ [] nl (Ext.refl _ _)
 rw [if_neg (by simpa using hp),aL (x:=p - 1) (by omega) (by omega)]; rw [if_neg hp] at H
 refine p9 L (by omega) (by omega) ?_
 by_cases ht:(l.aH (p - 1)).2=0
 ·rw [if_neg (by simpa using ht)]; rw [if_neg (by simpa using ht)] at H
  obtain ⟨h1,h2⟩:=rP ht
  have hl:=L.len
  have hc:=L.aK.c
  rw [if_neg (by simp)]
  refine ⟨_,rfl,s,L.c2,_,L.c0,?_⟩
  rw [aL (x:=p - 1 - l.ix) (by omega) (by omega)]
  refine ⟨_,by omega,by omega,by omega,by omega,rfl,?_⟩
  have A1:=L.aK.sub (l:=(p - 1 - l.ix).toNat) (u:=(s.len:Int).toNat) (m:=(s.cap:Int).toNat) (by omega) (by omega) (by omega) (by omega)
  generalize dC s 2 (p - 1 - l.ix).toNat (s.len:Int).toNat (s.cap:Int).toNat=s6 at A1 ⊢
  have hA1:=A1.l
  rw [List.take_of_length_le (by simp; omega)] at A1 hA1
  have hc1:=A1.c
  have e:(if (if (s6.len:Int) < most then (s6.len:Int) else most) > 0 then (if (s6.len:Int) < most then (s6.len:Int) else most) else 0)=((min s6.len most.toNat:Nat):Int):=by
   split <;> split <;> omega
  rw [e]
  refine ⟨_,by omega,by omega,by omega,by omega,rfl,?_⟩
  have A2:=A1.sub (l:=0) (u:=((min s6.len most.toNat:Nat):Int).toNat) (m:=(s6.cap:Int).toNat) (by omega) (by omega) (by omega) (by omega)
  rw [List.drop_zero] at A2
  have e2:(l.es.drop (p - 1 - l.ix).toNat).take (((min s6.len most.toNat:Nat):Int).toNat - 0)=(l.es.drop (p - 1 - l.ix).toNat).take most.toNat:=by
   rcases Nat.le_total s6.len most.toNat with hm | hm
   ·rw [Nat.min_eq_left hm,List.take_of_length_le (by omega),List.take_of_length_le (by omega)]
   ·rw [Nat.min_eq_right hm]; congr 1
  rw [e2] at A2
  exact rQ A2 ((L.ok.drop _).take _) (by simp; omega) fun s' h' vs F X=>H s' h' vs F X
 ·rw [if_pos (by simpa using ht)]; rw [if_pos (by simpa using ht)] at H
  exact H _ _ [] nl (Ext.refl _ _)
theorem uL {k:KP Slc} (L:dM O h b s l) (H:∀ s' h' vs,lT h.size h' s' l.es vs->Ext h.size h h'->k s' h'):dY (some ⟨b,0,none⟩) k h:=by
 unfold dY
 rw [if_neg (by simp)]
 exact ⟨_,rfl,s,L.c2,rQ L.aK L.ok (by have:=L.sz; omega) H⟩
/-- a new log -/
theorem xw {ix tm:Int} {p2:Slc} {es:List Ent} {k:KP (Option Addr)} (A:cZ h p2 es) (ok:o9 es) (sz:es.length<=1000) (x0:0<=ix) (x1:ix + es.length < 18446744073709551616) (t0:0<=tm/\tm < 18446744073709551616)
  (H:∀ b s' h',(∀ O:bz,(∀ g,O g->g < h.size)->dM (fun g=>O g∨g=b∨s'.blk=some g) h' b s' ⟨ix,tm,es⟩)->h.size<=b->(∀ g,s'.blk=some g->h.size<=g)->Ext h.size h h'->k (some ⟨b,0,none⟩) h'):pU ix tm p2 k h:=by
 unfold pU
 refine rQ A ok (by omega) fun s1 h1 vs F X=>?_
 refine ⟨_,_,rfl,rfl,?_⟩
 have X2:=Ext.push h1 (.cells (lF.cs ⟨ix,tm,s1⟩).toArray 117) (Nat.le_refl _)
 have z1:=X.size
 have F2:=F.ext X2
 have K:=Blk.push h1 (lF.cs ⟨ix,tm,s1⟩) 117
 generalize h1.push (.cells (lF.cs ⟨ix,tm,s1⟩).toArray 117)=h2 at *
 refine H h1.size s1 h2 (fun O hO=>⟨K,⟨vs,F2.r.mono (Nat.zero_le _),fun h' p=>⟨F2.l,fun i v e hv he=>?_⟩⟩,.inr (.inl rfl),fun g hg=>.inr (.inr hg),x0,x1,t0,ok,sz⟩) z1 (fun g hg=>(F2.r.bd hg).1) (X.trans (X2.mono z1))
 obtain ⟨k1,k2⟩:=F2.e i v e hv he
 have:=p.row k2 fun g hg hO'=>by
  rcases hO' with h3 | h3 | h3
  ·have:=(k2.bd hg).1; have:=hO g h3; omega
  ·subst h3; exact k2.aW K (by decide) hg
  ·exact k2.vP F2.r (by decide) hg h3
 exact ⟨k1,this.slc,by simpa using this.len⟩
end
end Yi
end Go.Q
end
section
/- Logs: what is appended, what is cut. -/
namespace Go.Q.Yi
open Rf (Lg)
def OB (O:bz) (s:Slc):bz:=fun g=>O g∨s.blk=some g
section
variable {O:bz} {h:Heap} {b:Nat} {s:Slc} {l:Lg} {p t:Int}
theorem Bf {t0:Option Addr} {t1 x3 i:Int} {c:Nat} {p3 t:Slc} {n:Int} {cur:List Ent} {vt:List ae} {e:Ent} {v:ae} {k:KP (Int × Int)} {nx:KP (Slc × Int)}
  (R:Row 0 h 65 2 t (ecs vt)) (I:Imm (OB O t) h fun h'=>Each h' vt cur) (C:Blk h c (ae.cs v) 65) (E:oD h v e) (ok:o9 [e]) (ob:∀ g,O g->g < h.size) (sz:cur.length<=1000000)
  (H:∀ s' h' vs',Row 0 h' 65 2 s' (ecs vs')->Imm (OB O s') h' (fun h'=>Each h' vs' (cur ++ [e]))->h.size<=h'.size->(∀ g,g < h.size->t.blk≠some g->h'[g]? = h[g]?)->((s'.blk=t.blk/\t.len + 1<=t.cap)∨∃ g,s'.blk=some g/\h.size<=g) ->
   (∀ D w ys,Row D h 65 2 w ys->(w.len<=t.len∨w.blk≠t.blk∨t.cap < t.len + 1)->Row D h' 65 2 w ys)->dx t0 t1 x3 p3 n i s' k nx h'):fM t0 t1 x3 ⟨c,0,none⟩ p3 n i t k nx h:=by
 have tl:t.len=cur.length:=by have:=R.1; rw [ji,I.now.1] at this; omega
 unfold fM
 refine ⟨v,aD.dL C,_,_,rfl,rfl,?_⟩
 have X1:=Ext.push h (.cells (ae.cs v).toArray 65) (Nat.le_refl _)
 have A:cZ (h.push (.cells (ae.cs v).toArray 65)) ⟨some ⟨h.size,0,none⟩,1,1⟩ [e] :=
  ⟨rfl,Nat.le_refl _,[v],(Row.pI (E:=65) (w:=2) h (ae.cs v) 1 rfl (by decide)).slc,(Each.one E).ext X1⟩
 have R1:=R.pushed (.cells (ae.cs v).toArray 65)
 generalize h.push (.cells (ae.cs v).toArray 65)=h1 at *
 have z1:=X1.size
 refine rQ A ok (by simp) fun r h2 us F X2=>?_
 have z2:=X2.size
 have X02:Ext h.size h h2:=X1.trans (X2.mono z1)
 have rl:=F.len
 have ul:=F.l
 simp at rl ul
 obtain ⟨u,rfl⟩:=List.length_eq_one_iff.1 ul
 refine ⟨ecs [u],F.r.slc,?_⟩
 rw [rl]
 have R2:=R1.ext X2 fun g hg=>(R1.bd hg).2
 refine App.xI R2 (Nat.zero_le _) rfl rfl (xG _) (by omega) (by simp only [maxLen]; omega) fun s' h3 R3 l3 z3 o3 b3 w3=>?_
 have R3':Row 0 h3 65 2 s' (ecs (vt ++ [u])):=by
  have:ecs (vt ++ [u])=ecs vt ++ ecs [u]:=by simp [ecs]
  rw [this]; exact R3
 obtain ⟨u1,u2⟩:=F.e 0 u e rfl rfl
 have S3:Stp (fun g=>t.blk=some g) h2 h3:=⟨z3,fun g hg hn=>o3 g hg hn⟩
 have rb:∀ g,u.lS.blk=some g->t.blk≠some g:=fun g hg e1=>u2.vP R2 (by decide) hg e1
 refine H s' h3 (vt ++ [u]) R3' ?_ (by omega) (fun g hg hn=>(o3 g (by omega) hn).trans (X02.block g hg)) ?_ fun D w ys Rw hw=>w3 D w ys (Rw.ext X02 fun g hg=>(Rw.bd hg).2) hw
 ·have U3:=u2.keep fun g hg=>o3 g (u2.bd hg).2 (rb g hg)
  have I3:Imm (OB O s') h3 fun h'=>Each h' vt cur:=(I.ext X02).step (S3.mono fun g hg=>.inl (.inr hg)) fun g hg=>by
   rcases hg with hg | hg
   ·exact .inl (.inl hg)
   ·rcases b3 with ⟨b3,_⟩ | b3
    ·exact .inl (.inr (by rw [← b3]; exact hg))
    ·rw [b3] at hg; cases hg; exact .inr (Nat.le_refl _)
  intro h4 S4
  refine (I3 h4 S4).app (Each.one ?_)
  have:=S4.row U3 fun g hg hO=>by
   rcases hO with hO | hO
   ·have:=(U3.bd hg).1; have:=ob g hO; omega
   ·exact U3.vP R3' (by decide) hg hO
  exact ⟨u1,this.slc,by simpa using this.len⟩
 ·rcases b3 with ⟨b3,b4⟩ | b3
  ·exact .inl ⟨b3,b4⟩
  ·exact .inr ⟨_,b3,by omega⟩
theorem xX (s:Slc) (n:Nat):(dC s 2 0 n n).blk=s.blk:=by
 have:(dC s 2 0 n n).a=s.a:=by
  simp only [dC]
  split
  ·rfl
  ·cases s.a <;> simp [Addr.add]
 simp only [Slc.blk,this]
theorem Row.take2 {B:Nat} {h:Heap} {s:Slc} {vs:List ae} (R:Row B h 65 2 s (ecs vs)) {n:Nat} (hn:n<=s.len):Row B h 65 2 (dC s 2 0 n n) (ecs (vs.take n)):=by
 have hl:=R.1
 have ea:(dC s 2 0 n n).a=s.a:=by
  simp only [dC]
  split
  ·rfl
  ·cases s.a <;> simp [Addr.add]
 have hm:=R.2.1
 rw [ji] at hl
 refine ⟨by rw [ji,List.length_take]; simp [dC]; omega,by simp [dC]; have:=R.cap; omega,?_⟩
 rcases R.2.2 with ⟨k1,k2,k3⟩ | ⟨g,cur,a1,a2,a3,a4,a5,a6⟩
 ·exact .inl ⟨by rw [ea]; exact k1,by simp [dC]; omega,by simp [dC]; omega⟩
 ·refine .inr ⟨g,cur,by rw [ea]; exact a1,a2,a3,by simp [dC],by simp [dC]; omega,?_⟩
  rw [← sQ,← a6,List.take_take]
  congr 1
  simp [dC]; omega
/-- the turns over the entries that come in -/
def E9 (O:bz) (b:Nat) (p:Int) (more:List Ent) (s:Slc) (l:Lg) (vs:List ae) (h:Heap) (q:Slc × Int) (h':Heap):Prop :=
 ∃ vsn,0<=q.2/\q.2<=more.length/\Row 0 h' 65 2 q.1 (ecs vsn)/\Imm (OB O q.1) h' (fun h'=>Each h' vsn (Lg.fF l.ix p l.es more q.2.toNat))/\Row 0 h' 65 2 s (ecs vs)/\Stp (fun g=>s.blk=some g) h h'/\(q.1.blk=s.blk∨∃ g,q.1.blk=some g/\h.size<=g)/\(q.1.blk=s.blk->s.len<=q.1.len∨q.1.cap<=q.1.len) /\
  o9 (Lg.fF l.ix p l.es more q.2.toNat)/\l.ix + (Lg.fF l.ix p l.es more q.2.toNat).length < 18446744073709551616/\(Lg.fF l.ix p l.es more q.2.toNat).length<=1000 + q.2.toNat
theorem dM.back {h':Heap} {vs:List ae} (L:dM O h b s l) (I:Imm O h fun h'=>Each h' vs l.es) (R:Row 0 h' 65 2 s (ecs vs)) (F:Stp (fun g=>s.blk=some g) h h'):dM O h' b s l:=by
 obtain ⟨vs0,R0,_⟩:=L.r
 exact ⟨F.blk L.k fun e=>R0.aW L.k (by decide) e,⟨vs,R,I.stp (F.mono fun g hg=>.inl (L.os g hg))⟩,L.ob,L.os,L.x0,L.x1,L.t0,L.ok,L.sz⟩
theorem tK {B:Nat} {h:Heap} {s:Slc} {vs:List ae} {es:List Ent} (R:Row B h 65 2 s (ecs vs)) (E:Each h vs es):s.len=es.length:=by
 have:=R.1; rw [ji,E.1] at this; omega
theorem y7 {B:Nat} {h:Heap} {s:Slc} {vs:List ae} {es:List Ent} (R:Row B h 65 2 s (ecs vs)) (E:Each h vs es) {i:Nat} {e:Ent} (he:es[i]? = some e):∃ a,s.a=some a/\af h (a.add (i * 2))=some (.int .u64 e.1):=by
 have A:cZ h s es:=⟨tK R E,R.cap,vs,R.slc,E⟩
 obtain ⟨a,v,ha,C,E⟩:=A.get he
 refine ⟨a,ha,?_⟩
 have:=C 0 (.int .u64 v.bP) rfl
 rwa [dI,Nat.add_zero,E.t] at this
theorem uu (x:Int):0<=Rf.W x/\Rf.W x < 18446744073709551616:=by
 unfold Rf.W IntKind.wrap
 simp [IntKind.signed,IntKind.bits]
 omega
theorem Bo {x3:Int} {p3:Slc} {more:List Ent} {k:KP (Int × Int)} (L:dM O h b s l) (ob:∀ g,O g->g < h.size) (A0:Imm O h fun h'=>cZ h' p3 more) (okm:o9 more)
  (p0:0<=p) (p1:p < 18446744073709551616) (hm:more.length<=1000) (hp:p<=l.ix + 1000)
  (H:∀ h' s',dM (OB O s') h' b s' (if (Lg.fF l.ix p l.es more more.length).length > 64 then l else { l with es:=Lg.fF l.ix p l.es more more.length })->Stp (fun g=>g=b∨s.blk=some g) h h'->(∀ g,s'.blk=some g->s.blk=some g∨h.size<=g)->k (if (Lg.fF l.ix p l.es more more.length).length > 64 then (0,8) else (x3,0)) h') :
  pR (some ⟨b,0,none⟩) p x3 p3 (more.length:Int) s 0 k h:=by
 have x0:=L.x0
 obtain ⟨vs,R0,I0⟩:=L.r
 refine ⟨E9 O b p more s l vs h,fun q _=>(more.length - q.2).toNat,?_,?_⟩
 ·exact ⟨vs,by simp,by simp,R0,I0.mono (fun g hg=>hg.elim .inl fun e=>.inl (L.os g e)),R0,Stp.refl _ _,.inl rfl,fun _=>.inl (Nat.le_refl _),L.ok,L.x1,by have:=L.sz; simp [Lg.fF]; omega⟩
 rintro now i h1 ⟨vsn,i0,i1,R,I,Rs,F,nb,nc,okc,xc,lc⟩
 simp only at i0 i1 R I nb nc okc xc lc
 have L1:=L.back I0 Rs F
 have z1:=F.size
 unfold oP
 by_cases hi:i < more.length
 ·rw [if_pos (by simpa using hi)]
  have hie:i.toNat < more.length:=by omega
  have he:more[i.toNat]? = some more[i.toNat]:=by simp [hie]
  have hstep:Lg.fF l.ix p l.es more (i + 1).toNat=Lg.dR l.ix p (Lg.fF l.ix p l.es more i.toNat) i.toNat more[i.toNat]:=by
   rw [show (i + 1).toNat=i.toNat + 1 from by omega]; simp only [Lg.fF,he]
  generalize more[i.toNat]=e at he hstep
  generalize Lg.fF l.ix p l.es more i.toNat=cur at *
  have A:cZ h1 p3 more:=A0 h1 (F.mono fun g hg=>.inl (L.os g hg))
  have oke:=okm _ (List.mem_of_getElem? he)
  have okE:o9 [e]:=fun f hf=>by simp at hf; subst hf; exact oke
  obtain ⟨a,v,ha,c1,c2⟩:=A.get he
  refine ⟨a,ha,i0,by rw [A.l]; exact hi,v,c1,_,_,rfl,rfl,?_⟩
  have P0:=Blk.push h1 (ae.cs ⟨0,⟨none,0,0⟩⟩) 65
  have P1:=P0.jN (vs:=ae.cs v) (by simp [ae.cs])
  have X2:Ext h1.size h1 (aO (h1.push (.cells (ae.cs ⟨0,⟨none,0,0⟩⟩).toArray 65)) ⟨h1.size,0,none⟩ 0 (ae.cs v)):=(Ext.push h1 _ (Nat.le_refl _)).trans (Ext.sets _ _ _ (Nat.le_refl _))
  refine ⟨_,bZ.dL P0 (by simp [ae.cs]),rfl,?_⟩
  generalize aO (h1.push (.cells (ae.cs ⟨0,⟨none,0,0⟩⟩).toArray 65)) ⟨h1.size,0,none⟩ 0 (ae.cs v)=h2 at *
  have L2:=L1.ext X2
  have Rs2:=Rs.ext X2 fun g hg=>(Rs.bd hg).2
  have R2:=R.ext X2 fun g hg=>(R.bd hg).2
  have I2:=I.ext X2
  have F2:=F.trans (Stp.bi (O:=fun _=>False) X2) fun _ h=>h.elim
  have z2:=X2.size
  rw [aL (x:=i) (by omega) (by omega)]
  have ewp:IntKind.u64.wrap (IntKind.u64.wrap (p + i) + 1)=Rf.W (p + (i.toNat:Int) + 1):=by
   unfold Rf.W IntKind.wrap
   simp [IntKind.signed,IntKind.bits]
   omega
  rw [ewp]
  obtain ⟨w0,w1⟩:=uu (p + (i.toNat:Int) + 1)
  have hw:Rf.W (p + (i.toNat:Int) + 1)<=p + i + 1:=by
   unfold Rf.W IntKind.wrap
   simp [IntKind.signed,IntKind.bits]
   omega
  have stay:Lg.dR l.ix p cur i.toNat e=cur->dx (some ⟨b,0,none⟩) p x3 p3 (more.length:Int) i now k (fun q h'=>E9 O b p more s l vs h q h'/\(more.length - q.2).toNat < (more.length - i).toNat) h2:=fun hs=>by
   unfold dx
   rw [ay (by omega) (by omega)]
   exact ⟨⟨vsn,by dsimp only; omega,by dsimp only; omega,R2,by dsimp only; rw [hstep,hs]; exact I2,Rs2,F2,nb,nc,by dsimp only; rw [hstep,hs]; exact okc,by dsimp only; rw [hstep,hs]; exact xc,by dsimp only; rw [hstep,hs]; omega⟩,by dsimp only; omega⟩
  have more':∀ {t:Slc} {cur':List Ent} {vt:List ae},Row 0 h2 65 2 t (ecs vt)->Imm (OB O t) h2 (fun h'=>Each h' vt cur')->t.blk=now.blk->cur'.length<=cur.length->(t.blk=s.blk->s.len<=t.len∨t.cap<=t.len)->o9 cur'->l.ix + (cur'.length + 1) < 18446744073709551616->Lg.dR l.ix p cur i.toNat e=cur' ++ [e] ->
    fM (some ⟨b,0,none⟩) p x3 ⟨h1.size,0,none⟩ p3 (more.length:Int) i t k (fun q h'=>E9 O b p more s l vs h q h'/\(more.length - q.2).toNat < (more.length - i).toNat) h2:=fun {t cur' vt} Rt It tb tl tc okt xt hs=>by
   have nb':t.blk=s.blk∨∃ g,t.blk=some g/\h.size<=g:=by rw [tb]; exact nb
   refine Bf Rt It P1 (c2.ext X2) okE (fun g hg=>by have:=ob g hg; omega) (by omega) fun s' h3 vs' R3 I3 z3 o3 b3 w3=>?_
   unfold dx
   rw [ay (by omega) (by omega)]
   have tO:∀ g,t.blk=some g->s.blk=some g∨h.size<=g:=fun g hg=>by
    rcases nb' with h4 | ⟨g',h4,h5⟩
    ·exact .inl (by rw [← h4]; exact hg)
    ·rw [h4] at hg; cases hg; exact .inr h5
   have S3:Stp (fun g=>t.blk=some g) h2 h3:=⟨z3,fun g hg hn=>o3 g hg hn⟩
   have Rs3:Row 0 h3 65 2 s (ecs vs):=w3 0 s _ Rs2 (by
    by_cases hbb:s.blk=t.blk
    ·rcases tc hbb.symm with h | h
     ·exact .inl h
     ·exact .inr (.inr (by omega))
    ·exact .inr (.inl hbb))
   have F3:Stp (fun g=>s.blk=some g) h h3:=F2.trans S3 tO
   have l3:=tK R3 I3.now
   have lt:=tK Rt It.now
   simp at l3
   refine ⟨⟨vs',by dsimp only; omega,by dsimp only; omega,R3,by dsimp only; rw [hstep,hs]; exact I3,Rs3,F3,?_,fun hsb=>?_,by dsimp only; rw [hstep,hs]; exact okt.app okE,by dsimp only; rw [hstep,hs,List.length_append]; simp; omega,by dsimp only; rw [hstep,hs,List.length_append]; simp; omega⟩,by dsimp only; omega⟩
   ·dsimp only
    rcases b3 with ⟨h4,_⟩ | ⟨g,h4,h5⟩
    ·rw [h4]; exact nb'
    ·exact .inr ⟨g,h4,by omega⟩
   ·dsimp only at hsb ⊢
    rcases b3 with ⟨h4,hr⟩ | ⟨g,h4,h5⟩
    ·rcases tc (by rw [← h4]; exact hsb) with h5 | h5
     ·left; omega
     ·omega
    ·rw [hsb] at h4
     have:=(Rs2.bd h4).2
     omega
  refine ⟨_,rfl,_,rfl,_,L2.c0,?_⟩
  have ln:=tK R2 I2.now
  by_cases hle:Rf.W (p + (i.toNat:Int) + 1)<=l.ix
  ·rw [if_pos (by simpa using hle)]
   exact stay (by unfold Lg.dR; rw [if_pos hle])
  rw [if_neg (by simpa using hle)]
  refine ⟨l.ix,L2.c0,_,rfl,?_⟩
  have hwx:Rf.W (p + (i.toNat:Int) + 1) - l.ix - 1<=3000:=by omega
  generalize hK:Rf.W (p + (i.toNat:Int) + 1)=K at *
  rw [aL (x:=K - l.ix) (by omega) (by omega),aL (x:=K - l.ix - 1) (by omega) (by omega),ay (x:=K - l.ix - 1) (by omega) (by omega)]
  by_cases hk:K - l.ix - 1 < (now.len:Int)
  ·rw [if_pos (by simpa using hk)]
   have hkc:(K - l.ix - 1).toNat < cur.length:=by omega
   obtain ⟨f,hf⟩:∃ f,cur[(K - l.ix - 1).toNat]? = some f:=⟨_,List.getElem?_eq_getElem hkc⟩
   have hgd:cur.getD (K - l.ix - 1).toNat (0,[])=f:=by rw [List.getD_eq_getElem?_getD,hf]; rfl
   obtain ⟨a',d1,d2⟩:=y7 R2 I2.now hf
   refine ⟨a',d1,by omega,hk,_,d2,v.bP,by rw [P1.cell]; rfl,?_⟩
   rw [c2.t]
   by_cases ht:f.1=e.1
   ·rw [if_pos (by simpa using ht)]
    exact stay (by unfold Lg.dR; rw [hK,if_neg hle,if_pos hkc,hgd,if_pos ht])
   ·rw [if_neg (by simpa using ht)]
    have cp:=R2.cap
    refine ⟨_,by decide,by omega,Int.le_refl _,by omega,rfl,?_⟩
    rw [show (0:Int).toNat=0 from rfl]
    refine more' (Row.take2 R2 (by omega)) ((I2.mono fun g hg=>by rw [OB,xX] at hg; exact .inl hg).imp fun _ E=>E.take _) (xX _ _) (by rw [List.length_take]; omega) (fun _=>.inr (by simp [dC])) (okc.take _) (by rw [List.length_take]; omega) ?_
    unfold Lg.dR; rw [hK,if_neg hle,if_pos hkc,hgd,if_neg ht]
  ·rw [if_neg (by simpa using hk)]
   refine more' R2 I2 rfl (Nat.le_refl _) nc okc (by omega) ?_
   unfold Lg.dR; rw [hK,if_neg hle,if_neg (by omega)]
 ·rw [if_neg (by simpa using hi)]
  have hin:i.toNat=more.length:=by omega
  rw [hin] at I okc xc lc
  have ln:=tK R I.now
  have nO:∀ g,now.blk=some g->s.blk=some g∨h.size<=g:=fun g hg=>by
   rcases nb with h4 | ⟨g',h4,h5⟩
   ·exact .inl (by rw [← h4]; exact hg)
   ·rw [h4] at hg; cases hg; exact .inr h5
  by_cases h64:(Lg.fF l.ix p l.es more more.length).length > 64
  ·rw [if_pos (by simp; omega)]
   simp only [if_pos h64] at H
   refine H h1 s (L1.sub (fun g hg=>hg.elim .inl fun e=>.inl (L.os g e)) (.inl L.ob) fun g hg=>.inr hg) (F.mono fun g hg=>.inl (.inr hg)) fun g hg=>.inl hg
  ·rw [if_neg (by simp; omega)]
   obtain ⟨w1,w2⟩:=L1.k.put (i:=2) (v:=Slc.v now) (by show 2 < 3; omega)
   refine ⟨_,rfl,_,w1,rfl,?_⟩
   obtain ⟨K,U⟩:=w2 _ rfl
   generalize setH h1 ((⟨b,0,none⟩:Addr).add 2) (Slc.v now)=h2 at *
   have nb2:∀ g,now.blk=some g->g≠b:=fun g hg e=>by subst e; exact R.aW L1.k (by decide) hg
   have S2:Stp (fun g=>g=b) h1 h2:=Stp.dD U (.inl rfl)
   have:=H h2 now ?_ ((F.mono (O':=fun g=>g=b∨s.blk=some g) fun g hg=>.inl (.inr hg)).trans S2 fun g hg=>.inl (.inl hg)) nO
   ·simpa only [if_neg h64] using this
   ·simp only [if_neg h64]
    exact ⟨K,⟨vsn,S2.row R fun g hg e=>nb2 g hg e,I.stp (S2.mono fun g hg=>.inl (.inl (by subst hg; exact L.ob)))⟩,   .inl L.ob,fun g hg=>.inr hg,L.x0,xc,L.t0,okc,by show (Lg.fF l.ix p l.es more more.length).length<=1000; omega⟩
theorem EQ {l:Lg} (h:l.mat p t=true):p<=l.ix + l.es.length:=by
 unfold Lg.mat at h
 rw [Bool.and_eq_true,beq_iff_eq] at h
 exact (rP h.1).2
theorem wz {p3:Slc} {more:List Ent} {k:KP (Int × Int)} (L:dM O h b s l) (ob:∀ g,O g->g < h.size) (A0:Imm O h fun h'=>cZ h' p3 more) (okm:o9 more)
  (p0:0<=p) (p1:p < 18446744073709551616) (hm:more.length<=1000)
  (H:∀ h' s',dM (OB O s') h' b s' (l.append p t more).1->Stp (fun g=>g=b∨s.blk=some g) h h'->(∀ g,s'.blk=some g->s.blk=some g∨h.size<=g)->k (l.append p t more).2 h'):kR (some ⟨b,0,none⟩) p t p3 k h:=by
 have sz:=L.sz
 have lO:=L.sub (O':=OB O s) (fun g hg=>hg.elim .inl fun e=>.inl (L.os g e)) (.inl L.ob) fun g hg=>.inr hg
 have go:¬ (p>=l.ix/\l.mat p t=false)->dV (some ⟨b,0,none⟩) p p3 false k h:=fun hn=>by
  have hp:p<=l.ix + 1000:=by
   by_cases h1:p>=l.ix
   ·have:l.mat p t=true:=by cases hm:l.mat p t with | true=>rfl | false=>exact absurd ⟨h1,hm⟩ hn
    have:=EQ this; omega
   ·omega
  unfold dV
  rw [if_neg (by simp),A0.now.l,aL (x:=(more.length:Int)) (by omega) (by omega)]
  refine ⟨_,rfl,_,rfl,_,L.c2,Bo L ob A0 okm p0 p1 hm hp fun h' s' L' F hb=>?_⟩
  have:=H h' s'
  unfold Lg.append at this
  rw [if_neg hn] at this
  by_cases h64:(Lg.fF l.ix p l.es more more.length).length > 64
  ·simp only [if_pos h64] at this L' ⊢
   exact this L' F hb
  ·simp only [if_neg h64] at this L' ⊢
   exact this L' F hb
 have bad:(p>=l.ix/\l.mat p t=false)->k (0,6) h:=fun hn=>by
  have e:l.append p t more=(l,0,6):=by unfold Lg.append; rw [if_pos hn]
  rw [e] at H
  exact H h s lO (Stp.refl _ _) fun g hg=>.inl hg
 unfold kR
 rw [if_neg (by simp)]
 refine ⟨_,rfl,_,L.c0,?_⟩
 by_cases hp:p>=l.ix
 ·rw [if_pos (by simpa using hp)]
  refine vN L p0 p1 ?_
  cases hm:l.mat p t with
  | true=>exact go fun hn=>by rw [hm] at hn; cases hn.2
  | false =>
   show dV _ _ _ true _ _
   unfold dV
   rw [if_pos rfl]
   exact bad ⟨hp,hm⟩
 ·rw [if_neg (by simpa using hp)]
  exact go fun hn=>hp hn.1
theorem Bv {p0:Slc} {vs:List ae} {k:KP Slc} {h:Heap} (hl:p0.len=vs.length) (hs:SlcAt h p0 (ecs vs)) (hsz:vs.length<=1099511627776)
  (H:∀ s' h',Row h.size h' 65 2 s' (ecs vs)->Ext h.size h h'->k s' h'):df p0 k h:=by
 unfold df
 cases ha:p0.a with
 | none =>
  rw [if_pos (by simp)]
  have hn:=hs.1 ha
  rw [hn] at H
  exact H _ _ (Row.nil _ _ _ _) (Ext.refl _ _)
 | some a =>
  rw [if_neg (by simp)]
  have hp:∀ o:Obj,Ext h.size h (h.push o):=fun o=>Ext.push h o (Nat.le_refl _)
  refine ⟨_,_,rfl,rfl,ecs vs,hs.ext (hp _),?_⟩
  have R:Row h.size (h.push (.cells ([]:List Value).toArray 65)) 65 2 ⟨some ⟨h.size,0,none⟩,0,0⟩ [] :=
   ⟨by simp,by simp [maxLen],.inr ⟨h.size,[],rfl,Nat.le_refl _,Blk.push _ _ _,Nat.le_refl _,by simp,by simp⟩⟩
  refine App.row R (by simp) rfl (by rw [ji,hl]) (xG vs) (by simp only; omega) (by simp only [maxLen]; omega) fun s' h' R' _ hsz' ho _=>?_
  refine H s' h' (by simpa using R') ⟨by simp at hsz'; omega,fun i hi=>?_⟩
  rw [ho i (by simp; omega) (by simp [Slc.blk]; omega),(hp _).block i hi]
theorem FH {k:KP Int} (L:dM O h b s l) (ob:∀ g,O g->g < h.size) (p0:0<=p) (p1:p < 18446744073709551616)
  (H:∀ h' s',dM (OB O s') h' b s' (l.cut p).1->Stp (fun g=>g=b) h h'->(∀ g,s'.blk=some g->s.blk=some g∨h.size<=g)->k (l.cut p).2 h'):o8 (some ⟨b,0,none⟩) p k h:=by
 have lO:=L.sub (O':=OB O s) (fun g hg=>hg.elim .inl fun e=>.inl (L.os g e)) (.inl L.ob) fun g hg=>.inr hg
 have x0:=L.x0; have x1:=L.x1; have sz:=L.sz
 unfold o8
 rw [if_neg (by simp)]
 refine p9 L p0 p1 ?_
 unfold Lg.cut at H
 by_cases ht:(l.aH p).2=0
 ·rw [if_neg (by simpa using ht)]; rw [if_neg (by simpa using ht)] at H
  obtain ⟨h1,h2⟩:=rP ht
  have hl:=L.len
  obtain ⟨vs,R,I⟩:=L.r
  have hc:=R.cap
  have vl:=I.now.1
  refine ⟨_,rfl,s,L.c2,_,L.c0,?_⟩
  rw [aL (x:=p - l.ix) (by omega) (by omega)]
  refine ⟨_,by omega,by omega,by omega,by omega,rfl,?_⟩
  have A1:=(cZ.sub ⟨hl,hc,vs,R.slc,I.now⟩ (l:=(p - l.ix).toNat) (u:=(s.len:Int).toNat) (m:=(s.cap:Int).toNat) (by omega) (by omega) (by omega) (by omega))
  have hA:SlcAt h (dC s 2 (p - l.ix).toNat (s.len:Int).toNat (s.cap:Int).toNat) (ecs (vs.drop (p - l.ix).toNat))/\(dC s 2 (p - l.ix).toNat (s.len:Int).toNat (s.cap:Int).toNat).len=(vs.drop (p - l.ix).toNat).length:=by
   refine ⟨⟨fun hn=>?_,fun a ha j v hj=>?_⟩,by simp [dC]; omega⟩
   ·have:s.a=none:=by simp only [dC] at hn; split at hn <;> simpa using hn
    have h0:=R.slc.1 this
    have:=ji vs
    rw [h0] at this
    simp at this
    have:vs=[]:=List.eq_nil_of_length_eq_zero (by omega)
    simp [this]
   ·rw [← ve,List.getElem?_drop] at hj
    by_cases hm:(s.cap:Int).toNat=(p - l.ix).toNat
    ·have:=(List.getElem?_eq_some_iff.1 hj).1
     rw [ji] at this; omega
    cases hs:s.a with
    | none=>simp [dC,hs] at ha
    | some a0 =>
     have hm':¬ s.cap=(p - l.ix).toNat:=fun e=>hm (by omega)
     simp [dC,hs,hm'] at ha
     subst ha
     rw [dI]
     exact R.slc.2 a0 hs _ v hj
  generalize dC s 2 (p - l.ix).toNat (s.len:Int).toNat (s.cap:Int).toNat=s6 at hA ⊢
  refine Bv hA.2 hA.1 (by rw [List.length_drop]; omega) fun s' h' R' X=>?_
  have z1:=X.size
  have K1:=L.k.ext X L.k.lt
  obtain ⟨w1,f1⟩:=K1.put (i:=2) (v:=Slc.v s') (by show 2 < 3; omega)
  refine ⟨_,w1,rfl,?_⟩
  obtain ⟨K2,U2⟩:=f1 _ rfl
  generalize setH h' ((⟨b,0,none⟩:Addr).add 2) (Slc.v s')=h2 at *
  obtain ⟨w3,f3⟩:=K2.put (i:=0) (v:=.int .u64 p) (by show 0 < 3; omega)
  rw [show (⟨b,0,none⟩:Addr).add 0=⟨b,0,none⟩ from rfl] at w3 f3
  refine ⟨_,w3,rfl,?_⟩
  obtain ⟨K3,U3⟩:=f3 _ rfl
  generalize setH h2 (⟨b,0,none⟩:Addr) (.int .u64 p)=h3 at *
  obtain ⟨w4,f4⟩:=K3.put (i:=1) (v:=.int .u64 (l.aH p).1) (by show 1 < 3; omega)
  refine ⟨_,w4,rfl,?_⟩
  obtain ⟨K4,U4⟩:=f4 _ rfl
  generalize setH h3 ((⟨b,0,none⟩:Addr).add 1) (.int .u64 (l.aH p).1)=h4 at *
  have U:=(U2.trans U3).trans U4
  have S:Stp (fun g=>g=b) h' h4:=Stp.dD U (.inl rfl)
  have S0:Stp (fun g=>g=b) h h4:=(Stp.bi (O:=fun g=>g=b) X).trans' S
  have sb:∀ g,s'.blk=some g->h.size<=g:=fun g hg=>(R'.bd hg).1
  have tb:0<=(l.aH p).1/\(l.aH p).1 < 18446744073709551616:=by
   have:=L.t0
   unfold Lg.aH
   split
   ·decide
   ·split
    ·decide
    ·split
     ·exact this
     ·rename_i h5 h6 h7
      have hlast:l.last=l.ix + l.es.length:=rfl
      obtain ⟨e,he⟩:∃ e,l.es[(p - l.ix - 1).toNat]? = some e:=⟨_,List.getElem?_eq_getElem (by omega)⟩
      rw [List.getD_eq_getElem?_getD,he]
      exact (L.ok _ (List.mem_of_getElem? he)).1
  refine H h4 s' ⟨K4,⟨vs.drop (p - l.ix).toNat,S.row (R'.mono (Nat.zero_le _)) fun g hg e=>by have:=sb g hg; have:=L.k.lt; omega,?_⟩,.inl L.ob,fun g hg=>.inr hg,p0,?_,tb,L.ok.drop _,by show (l.es.drop _).length<=1000; rw [List.length_drop]; omega⟩ S0 fun g hg=>.inr (sb g hg)
  ·exact ((I.step (S0.mono fun g hg=>.inl (by subst hg; exact L.ob)) fun g hg=>hg.elim .inl fun e=>.inr (sb g e)).imp fun _ E=>E.drop _)
  ·show p + ((l.es.drop _).length:Int) < _
   rw [List.length_drop]; omega
 ·rw [if_pos (by simpa using ht)]; rw [if_pos (by simpa using ht)] at H
  exact H _ _ lO (Stp.refl _ _) fun g hg=>.inl hg
end
end Go.Q.Yi
end

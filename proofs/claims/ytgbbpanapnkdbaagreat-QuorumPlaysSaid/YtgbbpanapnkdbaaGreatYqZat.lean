/- A part of the proof of statements of this seat: lemmas, no statement of their own. -/
import Derived.Test.YtgbbpanapnkdbaaGreatYqZak
import Derived.Test.YtgbbpanapnkdbaaGreatYqZag
import Derived.Test.YtgbbpanapnkdbaaGreatYqZal
import Derived.Test.YtgbbpanapnkdbaaGreatYqZas
import Derived.Test.YtgbbpanapnkdbaaGreatYqZad
import Derived.Test.YtgbbpanapnkdbaaGreatYqZaf
set_option linter.unusedVariables false
set_option linter.unusedSimpArgs false
set_option maxRecDepth 100000
section
/- What is one's own, and what stays. -/
namespace Go.Q
abbrev kQ:=Nat->Prop
/-- but for the blocks of O all is as it was -/
structure Stp (O:kQ) (h h':Heap):Prop where
 size:h.size<=h'.size
 block:∀ g,g < h.size->¬ O g->h'[g]? = h[g]?
theorem Stp.refl (O:kQ) (h:Heap):Stp O h h:=⟨Nat.le_refl _,fun _ _ _=>rfl⟩
theorem Stp.trans {O O':kQ} {a b c:Heap} (p:Stp O a b) (q:Stp O' b c) (hO:∀ g,O' g->O g∨a.size<=g):Stp O a c :=
 ⟨Nat.le_trans p.size q.size,fun g hg hn=>(q.block g (Nat.lt_of_lt_of_le hg p.size) fun h'=>(hO g h').elim hn fun h2=>by omega).trans (p.block g hg hn)⟩
theorem Stp.trans' {O:kQ} {a b c:Heap} (p:Stp O a b) (q:Stp O b c):Stp O a c:=p.trans q fun _ h=>.inl h
theorem Stp.mono {O O':kQ} {h h':Heap} (p:Stp O h h') (hO:∀ g,O g->O' g∨h.size<=g):Stp O' h h' :=
 ⟨p.size,fun g hg hn=>p.block g hg fun h'=>(hO g h').elim hn fun h2=>by omega⟩
theorem Stp.oL {O:kQ} {h h':Heap} (X:Ext h.size h h'):Stp O h h':=⟨X.size,fun g hg _=>X.block g hg⟩
theorem Stp.vX {O:kQ} {b:Nat} {h h':Heap} (U:Upd b h h') (hb:O b∨h.size<=b):Stp O h h':=⟨U.size,fun g hg hn=>U.block g hg fun e=>by subst e; exact hb.elim hn fun h2=>by omega⟩
theorem Stp.set {O:kQ} {h:Heap} {a:Addr} {v:Value} (ha:O a.block∨h.size<=a.block):Stp O h (setH h a v) :=
 ⟨by rw [lv]; exact Nat.le_refl _,fun g hg hn=>jL fun e=>by subst e; exact ha.elim hn fun h2=>by omega⟩
theorem Stp.sets {O:kQ} {h:Heap} {a:Addr} {i:Nat} {vs:List Value} (ha:O a.block∨h.size<=a.block):Stp O h (aM h a i vs) :=
 ⟨by rw [sI]; exact Nat.le_refl _,fun g hg hn=>lV _ _ fun e=>by subst e; exact ha.elim hn fun h2=>by omega⟩
theorem Stp.ext {O:kQ} {B:Nat} {h h':Heap} (p:Stp O h h') (hO:∀ g,O g->B<=g) (hB:B<=h.size):Ext B h h':=⟨p.size,fun g hg=>p.block g (by omega) fun h'=>by have:=hO g h'; omega⟩
theorem Stp.blk {O:kQ} {b E:Nat} {cs:List Value} {h h':Heap} (p:Stp O h h') (k:Blk h b cs E) (hb:¬ O b):Blk h' b cs E:=k.old (p.block b k.lt hb)
theorem Stp.row {O:kQ} {B E w:Nat} {s:Slc} {xs:List Value} {h h':Heap} (p:Stp O h h') (R:Row B h E w s xs) (hb:∀ g,s.blk=some g->¬ O g):Row B h' E w s xs:=R.keep fun g hg=>p.block g (R.bd hg).2 (hb g hg)
/-- what holds whatever is done to the blocks of O, and beyond -/
def Imm (O:kQ) (h:Heap) (p:Heap->Prop):Prop:=∀ h',Stp O h h'->p h'
theorem Imm.now {O:kQ} {h:Heap} {p:Heap->Prop} (I:Imm O h p):p h:=I h (Stp.refl _ _)
theorem Imm.imp {O:kQ} {h:Heap} {p q:Heap->Prop} (I:Imm O h p) (k:∀ h',p h'->q h'):Imm O h q:=fun h' s=>k h' (I h' s)
theorem Imm.step {O O':kQ} {h h':Heap} {p:Heap->Prop} (I:Imm O h p) (s:Stp O h h') (hO:∀ g,O' g->O g∨h.size<=g):Imm O' h' p :=
 fun h2 s2=>I h2 (s.trans s2 hO)
theorem Imm.stp {O:kQ} {h h':Heap} {p:Heap->Prop} (I:Imm O h p) (s:Stp O h h'):Imm O h' p:=I.step s fun _ h=>.inl h
theorem Imm.ext {O:kQ} {h h':Heap} {p:Heap->Prop} (I:Imm O h p) (X:Ext h.size h h'):Imm O h' p:=I.stp (.oL X)
theorem Imm.mono {O O':kQ} {h:Heap} {p:Heap->Prop} (I:Imm O h p) (hO:∀ g,O' g->O g∨h.size<=g):Imm O' h p:=I.step (Stp.refl _ _) hO
theorem Imm.and {O:kQ} {h:Heap} {p q:Heap->Prop} (I:Imm O h p) (J:Imm O h q):Imm O h fun h=>p h/\q h:=fun h' s=>⟨I h' s,J h' s⟩
/-- what stood when the heap was h0, and nothing of it may be written since -/
theorem Imm.Im {O:kQ} {h0 h:Heap} {p:Heap->Prop} (I:∀ h',Ext h0.size h0 h'->p h') (X:Ext h0.size h0 h) (hO:∀ g,O g->h0.size<=g):Imm O h p :=
 fun h' s=>I h' (X.trans ⟨s.size,fun g hg=>s.block g (Nat.lt_of_lt_of_le hg X.size) fun h2=>by have:=hO g h2; omega⟩)
end Go.Q
end
section
/- Quorum: an op in memory, and its copy. -/
namespace Go.Q.Yq
abbrev uh:Slc:=⟨none,0,0⟩
abbrev ints (l:List Int):List Value:=l.map (Value.int .i64)
abbrev pcv (l:List ae):List Value:=l.flatMap ae.cs
abbrev rwv (l:List aH):List Value:=l.flatMap aH.cs
/-- an op but for its slices -/
def bare (x:aj):aj:={ x with aP:=uh,aQ:=uh,eD:=uh,dV:=uh,oM:={ x.oM with dD:=uh } }
/-- an op, plainly -/
structure OpV where
 x:aj
 ps:List ae
 ns:List Int
 ys:List Int
 rs:List aH
 wr:List Int
/-- an op in memory -/
structure OpM (h:Heap) (x:aj) (o:OpV):Prop where
 e:bare x=o.x
 p:SlcAt h x.aP (pcv o.ps)
 pl:x.aP.len=o.ps.length
 n:SlcAt h x.aQ (ints o.ns)
 nl:x.aQ.len=o.ns.length
 nc:x.aQ.len<=x.aQ.cap
 y:SlcAt h x.eD (ints o.ys)
 yl:x.eD.len=o.ys.length
 r:SlcAt h x.dV (rwv o.rs)
 rl:x.dV.len=o.rs.length
 w:SlcAt h x.oM.dD (b8 o.wr)
 wl:x.oM.dD.len=o.wr.length
theorem OpM.ext {h h':Heap} {x:aj} {o:OpV} (M:OpM h x o) (X:Ext h.size h h'):OpM h' x o :=
 { M with p:=M.p.ext X,n:=M.n.ext X,y:=M.y.ext X,r:=M.r.ext X,w:=M.w.ext X }
/-- what an op has is no more than a machine bears -/
structure OpZ (o:OpV):Prop where
 p:o.ps.length * 48<=140737488355328
 n:o.ns.length * 8<=140737488355328
 y:o.ys.length * 8<=140737488355328
 r:o.rs.length * 40<=140737488355328
 w:o.wr.length * 1<=140737488355328
/-- an op's slices lie in blocks from B on -/
structure OpF (B:Nat) (x:aj):Prop where
 p:∀ g,x.aP.blk=some g->B<=g
 n:∀ g,x.aQ.blk=some g->B<=g
 y:∀ g,x.eD.blk=some g->B<=g
 r:∀ g,x.dV.blk=some g->B<=g
 w:∀ g,x.oM.dD.blk=some g->B<=g
theorem Ha (l:List Int):∀ v∈ints l,v.oneCell'=true:=fun v hv=>by obtain ⟨a,_,rfl⟩:=List.mem_map.1 hv; rfl
theorem NP (l:List Int):∀ v∈b8 l,v.oneCell'=true:=fun v hv=>by obtain ⟨a,_,rfl⟩:=List.mem_map.1 hv; rfl
theorem GA (l:List ae):∀ v∈pcv l,v.oneCell'=true:=fun v hv=>by
 obtain ⟨p,_,hp⟩:=List.mem_flatMap.1 hv
 simp [ae.cs,aG.cs] at hp
 rcases hp with rfl | rfl | rfl | rfl | rfl <;> rfl
theorem NU (l:List aH):∀ v∈rwv l,v.oneCell'=true:=fun v hv=>by
 obtain ⟨p,_,hp⟩:=List.mem_flatMap.1 hv
 simp [aH.cs,au.cs] at hp
 rcases hp with rfl | rfl | rfl | rfl <;> rfl
section
variable {p0:Slc} {k:KP Slc} {h:Heap}
theorem Ke {l:List ae} (hs:SlcAt h p0 (pcv l)) (hl:p0.len=l.length) (hb:l.length * 48<=140737488355328)
  (H:∀ s h',Row h.size h' 89 5 s (pcv l)->s.len=p0.len->Ext h.size h h'->k s h'):gF p0 k h :=
 GK rfl (by decide) hs (by rw [rR (w:=5) (fun _=>rfl),hl]) (GA l) (by rw [hl]; exact hb) (by simp only [maxLen]; omega) H
theorem Kr {l:List aH} (hs:SlcAt h p0 (rwv l)) (hl:p0.len=l.length) (hb:l.length * 40<=140737488355328)
  (H:∀ s h',Row h.size h' 118 4 s (rwv l)->s.len=p0.len->Ext h.size h h'->k s h'):jM p0 k h :=
 GK rfl (by decide) hs (by rw [rR (w:=4) (fun _=>rfl),hl]) (NU l) (by rw [hl]; exact hb) (by simp only [maxLen]; omega) H
theorem FT {l:List Int} (hs:SlcAt h p0 (ints l)) (hl:p0.len=l.length) (hb:l.length * 8<=140737488355328)
  (H:∀ s h',Row h.size h' 3 1 s (ints l)->s.len=p0.len->Ext h.size h h'->k s h'):mr p0 k h :=
 GK rfl (by decide) hs (by rw [List.length_map,hl,Nat.mul_one]) (Ha l) (by rw [hl]; exact hb) (by simp only [maxLen]; omega) H
theorem J9 {l:List Int} (hs:SlcAt h p0 (b8 l)) (hl:p0.len=l.length) (hb:l.length * 1<=140737488355328)
  (H:∀ s h',Row h.size h' 5 1 s (b8 l)->s.len=p0.len->Ext h.size h h'->k s h'):nV p0 k h :=
 GK rfl (by decide) hs (by rw [List.length_map,hl,Nat.mul_one]) (NP l) (by rw [hl]; exact hb) (by simp only [maxLen]; omega) H
end
theorem Gf {x:aj} {o:OpV} {k:KP aj} {h:Heap} (M:OpM h x o) (Z:OpZ o) (H:∀ x' h',OpM h' x' o->OpF h.size x'->Ext h.size h h'->k x' h'):qh x k h:=by
 have c0:=M.pl; have c1:=M.nl; have c2:=M.yl; have c3:=M.rl; have c4:=M.wl
 unfold qh
 refine bx0 fun h2 P2 X2=>bx0 fun h4 P4 X4=>?_
 have z2:=X2.size; have z4:=X4.size; have p2:=P2.lt; have p4:=P4.lt
 obtain ⟨b3,e3⟩:∃ b3,b3=h2.size:=⟨_,rfl⟩
 rw [← e3] at P4 p4 z4 X4 ⊢
 obtain ⟨b1,e1⟩:∃ b1,b1=h.size:=⟨_,rfl⟩
 rw [← e1] at P2 p2 z2 X2 H ⊢
 have Q4:=P2.ext X4 (by omega)
 have X04:Ext b1 h h4:=X2.trans (X4.mono (by omega))
 have M4:=M.ext (e1 ▸ X04)
 refine ⟨x.aP,Q4.cl rfl,x.aQ,Q4.cl rfl,x.eD,Q4.cl rfl,x.dV,Q4.cl rfl,Ke M4.p M4.pl Z.p fun p h5 Rp lp X5=>?_⟩
 have z5:=X5.size
 have Q5:=Q4.ext X5 (by omega)
 have M5:=M4.ext X5
 refine ⟨Q5.cl rfl,Q5.cl rfl,Q5.cl rfl,FT M5.n M5.nl Z.n fun n h6 Rn ln X6=>?_⟩
 have z6:=X6.size
 have Q6:=Q5.ext X6 (by omega)
 have M6:=M5.ext X6
 refine ⟨Q6.cl rfl,Q6.cl rfl,FT M6.y M6.yl Z.y fun y h7 Ry ly X7=>?_⟩
 have z7:=X7.size
 have Q7:=Q6.ext X7 (by omega)
 have M7:=M6.ext X7
 refine ⟨Q7.cl rfl,Kr M7.r M7.rl Z.r fun r h8 Rr lr X8=>?_⟩
 have z8:=X8.size
 have Q8:=Q7.ext X8 (by omega)
 have M8:=M7.ext X8
 refine jI Q8 (by show 3 < 33; decide) fun h9 Q9 U9=>jI Q9 (by rw [List.length_set]; show 27 < 33; decide) fun h10 Q10 U10=>jI Q10 (by rw [List.length_set,List.length_set]; show 28 < 33; decide) fun h11 Q11 U11=>jI Q11 (by rw [List.length_set,List.length_set,List.length_set]; show 32 < 33; decide) fun h12 Q12 U12=>?_
 have X08:Ext b1 h h8:=X04.trans ((((X5.mono (by omega)).trans (X6.mono (by omega))).trans (X7.mono (by omega))).trans (X8.mono (by omega)))
 have U:Upd b1 h8 h12:=((U9.trans U10).trans U11).trans U12
 have zu:=U.size
 have X012:Ext b1 h h12:=X08.trans (U.ext (Nat.le_refl _) (by omega))
 have M12:=M.ext (e1 ▸ X012)
 refine ⟨x.oM.dD,by rw [kG]; exact Q12.cl rfl,J9 M12.w M12.wl Z.w fun w h13 Rw lw X13=>?_⟩
 have z13:=X13.size
 have Q13:=Q12.ext X13 (by have:=Q12.lt; exact this)
 rw [kG]
 refine jI Q13 (by simp only [List.length_set]; show 24 < 33; decide) fun h14 Q14 U14=>?_
 have z14:=U14.size
 let x':aj:={ x with aP:=p,aQ:=n,eD:=y,dV:=r,oM:={ x.oM with dD:=w } }
 have Q15:Blk h14 b1 (aj.cs x') 39:=Q14
 have A1:∀ {g:Nat} {cs:List Value},Blk h4 g cs 39->g≠b1->g < h4.size->Blk h14 g cs 39:=fun {g cs} B hg hl=>by
  have B8:=(((B.ext X5 hl).ext X6 (by omega)).ext X7 (by omega)).ext X8 (by omega)
  exact (((B8.old (U.block g (by omega) hg)).ext X13 (by omega))).old (U14.block g (by omega) hg)
 refine ⟨x',ai.aL Q15,pY (cs:=aj.cs x') (A1 P4 (by omega) p4) rfl (by show 33<=33; decide) fun h16 P16 U16=>⟨x',ai.aL P16,?_⟩⟩
 have z16:=U16.size
 have fin:∀ {E w:Nat} {s:Slc} {vs:List Value} {hx hy:Heap},Row hx.size hy E w s vs->h4.size<=hx.size->(∀ g,hx.size<=g->g < hy.size->h16[g]? = hy[g]?)->Row b1 h16 E w s vs:=fun R q1 q2 =>
  (R.mono (by omega)).keep fun g hg=>q2 g (R.bd hg).1 (R.bd hg).2
 have o8:∀ g,h4.size<=g->g < h8.size->h16[g]? = h8[g]?:=fun g h1 h2=>by
  rw [U16.block g (by omega) (by omega),U14.block g (by omega) (by omega),X13.block g (by omega),U.block g (by omega) (by omega)]
 have r1:=fin Rp (Nat.le_refl _) fun g h1 h2=>by rw [o8 g h1 (by omega),X8.block g (by omega),X7.block g (by omega),X6.block g (by omega)]
 have r2:=fin Rn z5 fun g h1 h2=>by rw [o8 g (by omega) (by omega),X8.block g (by omega),X7.block g (by omega)]
 have r3:=fin Ry (by omega) fun g h1 h2=>by rw [o8 g (by omega) (by omega),X8.block g (by omega)]
 have r4:=fin Rr (by omega) fun g h1 h2=>o8 g (by omega) h2
 have r5:=fin Rw (by omega) fun g h1 h2=>by rw [U16.block g (by omega) (by omega),U14.block g (by omega) (by omega)]
 refine H x' h16 ⟨M.e,r1.slc,by show p.len=_; omega,r2.slc,by show n.len=_; omega,r2.cap,r3.slc,by show y.len=_; omega,r4.slc,by show r.len=_; omega,r5.slc,by show w.len=_; omega⟩ ⟨fun g hg=>(r1.bd hg).1,fun g hg=>(r2.bd hg).1,fun g hg=>(r3.bd hg).1,fun g hg=>(r4.bd hg).1,fun g hg=>(r5.bd hg).1⟩ ?_
 exact ((X012.trans (X13.mono (by omega))).trans (U14.ext (Nat.le_refl _) (by omega))).trans (U16.ext (by omega) (by omega))
end Go.Q.Yq
end
section
/- Quorum: who stands in a row of numbers. -/
namespace Go.Q.Yq
theorem u6 {h:Heap} {s:Slc} {vs:List Value} (S:SlcAt h s vs) {i:Nat} {v:Value} (hv:vs[i]? = some v):∃ a,s.a=some a/\ah h (a.add i)=some v:=by
 cases ha:s.a with
 | none=>have:=S.1 ha; subst this; simp at hv
 | some a=>exact ⟨a,rfl,S.2 a ha i v hv⟩
/-- a row of numbers, in memory -/
def Ints (h:Heap) (s:Slc) (l:List Int):Prop:=SlcAt h s (ints l)/\s.len=l.length/\s.len<=s.cap
theorem MC {p0:Slc} {l:List Int} {x:Int} {k:KP Int} {h:Heap} (A:Ints h p0 l) (m:l.length<=1000000) (H:∀ r:Int,(decide (r>=0))=decide (x∈l)->k r h):lH p0 x k h:=by
 obtain ⟨S,n,_⟩:=A
 unfold lH qI
 refine ⟨fun i h'=>h'=h/\0<=i/\i<=l.length/\x ∉ l.take i.toNat,fun i _=>(l.length - i.toNat),⟨rfl,by omega,by omega,by simp⟩,?_⟩
 rintro i h' ⟨rfl,i0,i1,nx⟩
 unfold qb
 by_cases c:i < l.length
 ·rw [if_pos (by rw [decide_eq_true_eq]; omega)]
  have hi:i.toNat < l.length:=by omega
  obtain ⟨a,ha,hc⟩:=u6 S (i:=i.toNat) (v:=.int .i64 l[i.toNat]) (by simp [hi])
  refine ⟨a,ha,i0,by omega,l[i.toNat],by rw [Nat.mul_one]; exact hc,?_⟩
  by_cases e:x=l[i.toNat]
  ·rw [if_pos (by simpa using e)]
   exact H i (by rw [decide_eq_true (show i>=0 from i0),decide_eq_true]; rw [e]; exact List.getElem_mem _)
  ·rw [if_neg (by simpa using e),aA (by omega) (by omega)]
   refine ⟨⟨rfl,by omega,by omega,?_⟩,by dsimp only; omega⟩
   rw [show (i + 1).toNat=i.toNat + 1 from by omega,List.take_add_one,List.getElem?_eq_getElem hi]
   simp only [Option.toList_some,List.mem_append,List.mem_singleton]
   rintro (h1 | h1)
   ·exact nx h1
   ·exact e h1
 ·rw [if_neg (by rw [decide_eq_true_eq]; omega)]
  have e:i.toNat=l.length:=by omega
  rw [e,List.take_length] at nx
  exact ⟨_,rfl,H _ (by rw [decide_eq_false nx]; rfl)⟩
theorem Gj {p0:Slc} {l:List Int} {x:Int} {k:KP Bool} {h:Heap} (A:Ints h p0 l) (m:l.length<=1000000) (H:k (decide (x∈l)) h):dJ p0 x k h:=by
 unfold dJ
 exact MC A m fun r hr=>by rw [hr]; exact H
theorem K6 {p0:Slc} {l:List Int} {k:KP Bool} {h:Heap} (A:Ints h p0 l) (m:l.length<=1000000) (H:k (decide ¬ l.Nodup) h):vo p0 k h:=by
 obtain ⟨S,n,nc⟩:=A
 unfold vo Af
 refine ⟨fun i h'=>h'=h/\0<=i/\i<=l.length/\(l.take i.toNat).Nodup,fun i _=>(l.length - i.toNat),⟨rfl,by omega,by omega,by simp⟩,?_⟩
 rintro i h' ⟨rfl,i0,i1,nx⟩
 unfold yM
 by_cases c:i < l.length
 ·rw [if_pos (by rw [decide_eq_true_eq]; omega)]
  have hi:i.toNat < l.length:=by omega
  obtain ⟨a,ha,hc⟩:=u6 S (i:=i.toNat) (v:=.int .i64 l[i.toNat]) (by simp [hi])
  refine ⟨a,ha,i0,by omega,l[i.toNat],by rw [Nat.mul_one]; exact hc,_,by omega,i0,by omega,by omega,rfl,?_⟩
  have S3:Ints h' (rY p0 1 (0:Int).toNat i.toNat ((p0.cap:Int)).toNat) (l.take i.toNat):=by
   refine ⟨⟨fun hn=>?_,fun b hb j v hj=>?_⟩,?_,?_⟩
   ·unfold rY at hn
    have:p0.a=none:=by
     simp only at hn
     split at hn
     ·exact hn
     ·rw [ha] at hn; cases hn
    rw [ha] at this; cases this
   ·have eb:b=a:=by
     unfold rY at hb
     simp only at hb
     split at hb
     ·rw [ha] at hb; exact (Option.some.inj hb).symm
     ·rw [ha] at hb; simp only [Option.map_some,Int.toNat_zero,Nat.zero_mul,Option.some.injEq] at hb; rw [← hb]; rfl
    rw [eb]
    refine S.2 a ha j v ?_
    simp only [ints,List.map_take,List.getElem?_take] at hj
    split at hj
    ·exact hj
    ·cases hj
   ·show i.toNat - (0:Int).toNat=(l.take i.toNat).length
    rw [List.length_take]; simp only [Int.toNat_zero]; omega
   ·show i.toNat - (0:Int).toNat<=((p0.cap:Int)).toNat - (0:Int).toNat
    simp only [Int.toNat_zero,Int.toNat_natCast]; omega
  refine Gj S3 (by rw [List.length_take]; omega) ?_
  by_cases e:l[i.toNat]∈l.take i.toNat
  ·rw [decide_eq_true e,if_pos rfl]
   rw [show (decide ¬ l.Nodup)=true from decide_eq_true fun nd=>?_] at H
   ·exact H
   ·have h1:=List.nodup_iff_pairwise_ne.1 nd
    obtain ⟨j,hj,ej⟩:=List.mem_iff_getElem.1 e
    rw [List.length_take] at hj
    rw [List.getElem_take] at ej
    have h2:=(List.pairwise_iff_getElem.1 h1) j i.toNat (by omega) hi (by omega)
    exact h2 ej
  ·rw [decide_eq_false e,if_neg (by simp),aA (by omega) (by omega)]
   refine ⟨⟨rfl,by omega,by omega,?_⟩,by dsimp only; omega⟩
   rw [show (i + 1).toNat=i.toNat + 1 from by omega,List.take_add_one,List.getElem?_eq_getElem hi,Option.toList_some,List.nodup_append]
   exact ⟨nx,by simp,fun x hx y hy=>by rw [List.mem_singleton] at hy; rw [hy]; exact fun e2=>e (e2 ▸ hx)⟩
 ·rw [if_neg (by rw [decide_eq_true_eq]; omega)]
  have e:i.toNat=l.length:=by omega
  rw [e,List.take_length] at nx
  rw [show (decide ¬ l.Nodup)=false from decide_eq_false fun h=>h nx] at H
  exact H
/-- how many nodes an op needs -/
def needs (kind n:Int):Int:=if kind=1 then (if n < 2 then n else 2) else if kind=2 then (if n - 1 > 1 then n - 1 else 1) else if kind=3 then 1 else 0
theorem EN {x:aj} {k:KP Int} {h:Heap} (m:x.aQ.len<=maxLen) (H:∀ h',Ext h.size h h'->k (needs x.aJ x.aQ.len) h'):nU x k h:=by
 unfold nU
 refine ⟨_,_,rfl,rfl,x.aJ,?_⟩
 have P:=Blk.push h (aj.cs x) 39
 have H':=H _ (Ext.push h (.cells (aj.cs x).toArray 39) (Nat.le_refl _))
 unfold needs at H'
 simp only [maxLen] at m
 refine ⟨by rw [add_mk,P.cell]; rfl,?_⟩
 have c27:ah (h.push (.cells (aj.cs x).toArray 39)) ((⟨h.size,0,none⟩:Addr).add 27)=some (Slc.v x.aQ):=by rw [add_mk,P.cell]; rfl
 by_cases k1:x.aJ=1
 ·rw [if_pos (by simpa using k1)]; rw [if_pos k1] at H'
  exact ⟨_,c27,_,rfl,H'⟩
 rw [if_neg (by simpa using k1)]; rw [if_neg k1] at H'
 by_cases k2:x.aJ=2
 ·rw [if_pos (by simpa using k2)]; rw [if_pos k2] at H'
  refine ⟨_,c27,_,rfl,?_⟩
  rw [aA (by omega) (by omega)]
  exact H'
 rw [if_neg (by simpa using k2)]; rw [if_neg k2] at H'
 by_cases k3:x.aJ=3
 ·rw [if_pos (by simpa using k3)]; rw [if_pos k3] at H'; exact H'
 rw [if_neg (by simpa using k3)]; rw [if_neg k3] at H'; exact H'
end Go.Q.Yq
end
section
/- Quorum: a desk in memory. -/
namespace Go.Q.Yq
structure Ent where
 n:Int
 g:Nat
 x:aj
 o:OpV
abbrev MapU (h:Heap) (m:Option Nat) (l:List (Int × Option Addr)):Prop:=MapAt (K:=Int) (V:=Option Addr) (.int .u64) (Value.int .u64) (fun v:Option Addr=>(.pointer v:Value)) h m l
def ptrs (E:List Ent):List (Int × Option Addr):=E.map fun e=>(e.n,some ⟨e.g,0,none⟩)
def Ent.own (e:Ent) (b:Nat):Prop:=b=e.g∨e.x.eD.blk=some b
/-- a block that an op's slices lie in -/
def Slo (x:aj) (o:OpV) (b:Nat):Prop:=x.aP.blk=some b/\o.ps≠[]∨x.aQ.blk=some b/\o.ns≠[]∨x.dV.blk=some b/\o.rs≠[]∨x.oM.dD.blk=some b/\o.wr≠[]
def fG (r m:Nat) (E:List Ent):kQ:=fun b=>b=r∨b=m∨∃ e∈E,e.own b
/-- what of an op is never written in place -/
def Still (e:Ent) (h:Heap):Prop:=SlcAt h e.x.aP (pcv e.o.ps)/\SlcAt h e.x.aQ (ints e.o.ns)/\SlcAt h e.x.dV (rwv e.o.rs)/\SlcAt h e.x.oM.dD (b8 e.o.wr)
structure uP (O:kQ) (h:Heap) (e:Ent):Prop where
 B:Blk h e.g (aj.cs e.x) 39
 be:bare e.x=e.o.x
 n:e.x.f_N=e.n
 Y:Row 0 h 3 1 e.x.eD (ints e.o.ys)
 gy:e.x.eD.blk≠some e.g
 I:Imm O h (Still e)
 pl:e.x.aP.len=e.o.ps.length
 nl:e.x.aQ.len=e.o.ns.length
 nc:e.x.aQ.len<=e.x.aQ.cap
 rl:e.x.dV.len=e.o.rs.length
 wl:e.x.oM.dD.len=e.o.wr.length
 z:OpZ e.o
theorem uP.m {O:kQ} {h:Heap} {e:Ent} (K:uP O h e):OpM h e.x e.o:=by
 obtain ⟨a,b,c,d⟩:=K.I.now
 exact ⟨K.be,a,K.pl,b,K.nl,K.nc,K.Y.slc,by have:=K.Y.len; simpa using this,c,K.rl,d,K.wl⟩
theorem uP.lt {O:kQ} {h:Heap} {e:Ent} (K:uP O h e) {b:Nat} (hb:e.own b):b < h.size:=by
 rcases hb with rfl | hb
 ·exact K.B.lt
 ·exact (K.Y.bd hb).2
/-- an op that nothing touches -/
theorem uP.keep {O O' S:kQ} {h h':Heap} {e:Ent} (K:uP O h e) (s:Stp S h h') (hS:∀ b,S b->O b∨h.size<=b) (hO:∀ b,O' b->O b∨h.size<=b) (no:∀ b,e.own b->¬ S b):uP O' h' e :=
 { K with
  B:=K.B.old (s.block _ K.B.lt (no _ (.inl rfl)))
  Y:=K.Y.keep fun b hb=>s.block b (K.Y.bd hb).2 (no _ (.inr hb))
  I:=K.I.step (s.mono hS) hO }
structure gW (h:Heap) (r m:Nat) (E:List Ent):Prop where
 P:Blk h r [.map (some m)] 63
 M:MapU h (some m) (ptrs E)
 rm:r≠m
 nd:(E.map (·.n)).Nodup
 dis:E.Pairwise fun a b=>∀ c,a.own c->¬ b.own c
 off:∀ e∈E,¬ e.own r/\¬ e.own m
 ok:∀ e∈E,uP (fG r m E) h e
theorem gW.lt {h:Heap} {r m:Nat} {E:List Ent} (D:gW h r m E) {b:Nat} (hb:fG r m E b):b < h.size:=by
 rcases hb with rfl | rfl | ⟨e,he,hb⟩
 ·exact D.P.lt
 ·exact D.M.lt
 ·exact (D.ok e he).lt hb
theorem gW.ext {h h':Heap} {r m:Nat} {E:List Ent} (D:gW h r m E) (X:Ext h.size h h'):gW h' r m E :=
 ⟨D.P.ext X D.P.lt,D.M.ext X D.M.lt,D.rm,D.nd,D.dis,D.off,fun e he=>(D.ok e he).keep (Stp.oL (O:=fun _=>False) X) (fun _ h=>h.elim) (fun _ h=>.inl h) fun _ _ h=>h⟩
theorem Gu {E:List Ent} (d:E.Pairwise fun a b=>∀ c,a.own c->¬ b.own c) {i j:Nat} {a b:Ent} (hi:E[i]? = some a) (hj:E[j]? = some b) (ne:i≠j) (c:Nat):a.own c->¬ b.own c:=by
 have key:∀ {i j:Nat} {a b:Ent},E[i]? = some a->E[j]? = some b->i < j->∀ c,a.own c->¬ b.own c:=fun {i j a b} hi hj lt=>by
  obtain ⟨hi',rfl⟩:=List.getElem?_eq_some_iff.1 hi
  obtain ⟨hj',rfl⟩:=List.getElem?_eq_some_iff.1 hj
  exact List.pairwise_iff_getElem.1 d i j hi' hj' lt
 intro ha hb
 rcases Nat.lt_or_gt_of_ne ne with lt | lt
 ·exact key hi hj lt c ha hb
 ·exact key hj hi lt c hb ha
theorem BG {h:Heap} {r m i:Nat} {E:List Ent} {e e':Ent} (hi:E[i]? = some e) (eo:∀ b,e'.own b->e.own b∨h.size<=b):∀ b,fG r m (E.set i e') b->fG r m E b∨h.size<=b:=fun b hb=>by
 have he:=List.mem_of_getElem? hi
 have il:=(List.getElem?_eq_some_iff.1 hi).1
 rcases hb with hb | hb | ⟨a,ha,hb⟩
 ·exact .inl (.inl hb)
 ·exact .inl (.inr (.inl hb))
 ·obtain ⟨j,hj⟩:=List.getElem?_of_mem ha
  by_cases q:j=i
  ·subst q; rw [List.getElem?_set_self il] at hj; cases hj
   exact (eo b hb).imp (fun h=>.inr (.inr ⟨e,he,h⟩)) id
  ·rw [List.getElem?_set_ne (fun x=>q x.symm)] at hj
   exact .inl (.inr (.inr ⟨a,List.mem_of_getElem? hj,hb⟩))
/-- one op of the desk is turned -/
theorem gW.turn {h h':Heap} {r m i:Nat} {E:List Ent} {e e':Ent} (D:gW h r m E) (hi:E[i]? = some e) (s:Stp e.own h h') (en:e'.n=e.n) (eg:e'.g=e.g) (eo:∀ b,e'.own b->e.own b∨h.size<=b)
  (K:uP (fG r m (E.set i e')) h' e'):gW h' r m (E.set i e'):=by
 have he:=List.mem_of_getElem? hi
 have il:=(List.getElem?_eq_some_iff.1 hi).1
 have offe:=D.off e he
 have at':∀ {a:Ent},a∈E.set i e'->a=e'∨∃ j:Nat,j≠i/\E[j]? = some a:=fun {a} ha=>by
  obtain ⟨j,hj⟩:=List.getElem?_of_mem ha
  by_cases q:j=i
  ·subst q; rw [List.getElem?_set_self il] at hj; exact .inl (Option.some.inj hj).symm
  ·rw [List.getElem?_set_ne (fun x=>q x.symm)] at hj; exact .inr ⟨j,q,hj⟩
 have sub:=BG (r:=r) (m:=m) hi eo
 have up:∀ b,e.own b->fG r m E b∨h.size<=b:=fun b hb=>.inl (.inr (.inr ⟨e,he,hb⟩))
 have pt:ptrs (E.set i e')=ptrs E:=by
  unfold ptrs
  rw [List.map_set]
  apply List.ext_getElem?
  intro j
  by_cases q:j=i
  ·subst q
   rw [List.getElem?_set_self (by simpa using il),List.getElem?_map,hi,en,eg]; rfl
  ·rw [List.getElem?_set_ne (fun x=>q x.symm)]
 have disj:∀ {j:Nat} {a:Ent},j≠i->E[j]? = some a->∀ c,a.own c->¬ e'.own c:=fun {j a} q hj c ha hc=>by
  rcases eo c hc with h1 | h1
  ·exact Gu D.dis hj hi q c ha h1
  ·have:=(D.ok a (List.mem_of_getElem? hj)).lt ha; omega
 refine ⟨D.P.old (s.block r D.P.lt offe.1),by rw [pt]; exact D.M.old (s.block m D.M.lt offe.2),D.rm,?_,?_,fun a ha=>?_,fun a ha=>?_⟩
 ·have:(E.set i e').map (·.n)=E.map (·.n):=by
   have:=congrArg (List.map (·.1)) pt
   unfold ptrs at this
   rw [List.map_map,List.map_map] at this
   exact this
  rw [this]; exact D.nd
 ·rw [List.pairwise_iff_getElem]
  intro p q hp hq lt c
  have g1:=at' (List.getElem_mem hp); have g2:=at' (List.getElem_mem hq)
  by_cases pi:p=i
  ·subst pi
   have qi:q≠p:=by omega
   have e1:(E.set p e')[p]=e':=by simp
   have e2:E[q]? = some (E.set p e')[q]:=by rw [← List.getElem?_set_ne (l:=E) (a:=e') (i:=p) (j:=q) (fun x=>qi x.symm)]; exact List.getElem?_eq_getElem hq
   rw [e1]
   intro h1 h2
   exact disj qi e2 c h2 h1
  ·have e2:E[p]? = some (E.set i e')[p]:=by rw [← List.getElem?_set_ne (l:=E) (a:=e') (i:=i) (j:=p) (fun x=>pi x.symm)]; exact List.getElem?_eq_getElem hp
   by_cases qi:q=i
   ·subst qi
    have e1:(E.set q e')[q]=e':=by simp
    rw [e1]
    exact disj pi e2 c
   ·have e3:E[q]? = some (E.set i e')[q]:=by rw [← List.getElem?_set_ne (l:=E) (a:=e') (i:=i) (j:=q) (fun x=>qi x.symm)]; exact List.getElem?_eq_getElem hq
    exact Gu D.dis e2 e3 (by omega) c
 ·rcases at' ha with rfl | ⟨j,_,hj⟩
  ·have r1:=D.P.lt; have m1:=D.M.lt
   exact ⟨fun hb=>(eo r hb).elim offe.1 fun h=>by omega,fun hb=>(eo m hb).elim offe.2 fun h=>by omega⟩
  ·exact D.off a (List.mem_of_getElem? hj)
 ·rcases at' ha with rfl | ⟨j,q,hj⟩
  ·exact K
  ·exact (D.ok a (List.mem_of_getElem? hj)).keep s up sub fun b hb=>Gu D.dis hj hi q b hb
end Go.Q.Yq
end
section
/- Quorum: a desk is made, an op is looked for, ended, told. -/
namespace Go.Q.Yq
def look (E:List Ent) (n:Int):Option Ent:=E.find? fun e=>decide (e.n=n)
theorem za (E:List Ent) (n:Int):jP (ptrs E) n=(look E n).map fun e=>some ⟨e.g,0,none⟩:=by
 induction E with
 | nil=>rfl
 | cons p r ih =>
  unfold ptrs look at ih ⊢
  rw [List.map_cons,List.find?_cons]
  unfold jP
  dsimp only
  by_cases h:p.n=n
  ·rw [if_pos h,decide_eq_true h]; rfl
  ·rw [if_neg h,decide_eq_false h]; exact ih
theorem Dl {E:List Ent} {n:Int} {e:Ent} (h:look E n=some e):∃ i:Nat,E[i]? = some e/\e.n=n :=
 have ⟨i,hi⟩:=List.getElem?_of_mem (List.mem_of_find?_eq_some h)
 ⟨i,hi,by have:=List.find?_some h; simpa using this⟩
section
variable {h:Heap} {r m:Nat} {E:List Ent}
theorem Lv {k:KP (Option Addr)} {h:Heap} (H:∀ r m h',gW h' r m []->h.size<=r->h.size<=m->Ext h.size h h'->k (some ⟨r,0,none⟩) h'):wV k h:=by
 unfold wV
 have X1:=Ext.push h (.map #[] 0) (Nat.le_refl _)
 have M:MapU (h.push (.map #[] 0)) (some h.size) []:=MapAt.mk0
 refine ⟨_,_,rfl,rfl,?_⟩
 have z1:(h.push (.map #[] 0)).size=h.size + 1:=by simp
 generalize h.push (.map #[] 0)=h2 at *
 refine bx0 fun h3 P3 X3=>H _ h.size h3 ⟨P3,M.ext X3 (by omega),by omega,List.Pairwise.nil,List.Pairwise.nil,(fun _ h=>by cases h),(fun _ h=>by cases h)⟩ (by omega) (Nat.le_refl _) (X1.trans (X3.mono (by omega)))
theorem JB {n node:Int} {k:KP (Option Addr × Bool)} (D:gW h r m E) (nz:∀ e∈E,e.o.ns.length<=1000000)
  (N:look E n=none->k (none,false) h) (H:∀ (i:Nat) e,E[i]? = some e->e.n=n->look E n=some e->k (some ⟨e.g,0,none⟩,decide (e.o.x.aI=false/\node∈e.o.ns)) h):nI (some ⟨r,0,none⟩) n node k h:=by
 unfold nI
 rw [if_neg (by simp)]
 refine ⟨_,rfl,some m,D.P.cl0 rfl,_,D.M,?_⟩
 rw [za]
 cases hl:look E n with
 | none =>
  rw [if_neg (by simp)]
  unfold jQ
  rw [if_neg (by simp)]
  unfold gQ
  exact N hl
 | some e =>
  obtain ⟨i,hi,en⟩:=Dl hl
  have he:=List.mem_of_getElem? hi
  have K:=D.ok e he
  have M:=K.m
  have H':=H i e hi en hl
  rw [if_pos (by simp)]
  have dn:e.x.aI=e.o.x.aI:=by rw [← K.be]; rfl
  refine ⟨⟨e.g,0,none⟩,rfl,e.x.aI,K.B.cl rfl,?_⟩
  unfold jQ
  rw [dn]
  cases hd:e.o.x.aI with
  | false =>
   rw [if_pos (by simp)]
   refine ⟨⟨e.g,0,none⟩,rfl,e.x.aQ,K.B.cl rfl,Gj ⟨M.n,M.nl,M.nc⟩ (nz e he) ?_⟩
   unfold gQ
   rw [hd] at H'
   simpa using H'
  | true =>
   rw [if_neg (by simp)]
   unfold gQ
   rw [hd] at H'
   simpa using H'
/-- whether an error ends an op -/
def xG (kind e:Int):Bool:=if e=1∨e=3∨e=17 then true else if e=0∨e=18∨e=14∨e=11∨e=15 then false else decide (kind=3)
theorem Na {a e:Int} {k:KP Bool} (H:k (xG a e) h):xI a e k h:=by
 unfold xG at H
 unfold xI pq kC
 by_cases h1:e=1
 ·subst h1; simpa using H
 by_cases h3:e=3
 ·subst h3; simpa using H
 by_cases h17:e=17
 ·subst h17; simpa using H
 by_cases h0:e=0
 ·subst h0; simpa using H
 by_cases h18:e=18
 ·subst h18; simpa using H
 by_cases h14:e=14
 ·subst h14; simpa using H
 by_cases h11:e=11
 ·subst h11; simpa using H
 by_cases h15:e=15
 ·subst h15; simpa using H
 rw [if_neg (by omega),if_neg (by omega)] at H
 rw [if_neg (by simpa using h1),if_neg (by simpa using h3),if_neg (by simpa using h17),if_neg (by simpa using h0),if_neg (by simpa using h18),if_neg (by simpa using h14),if_neg (by simpa using h11),if_neg (by simpa using h15)]
 have:(a == 3)=decide (a=3):=by by_cases q:a=3 <;> simp [q]
 rw [this]; exact H
/-- an op whose scalars alone are turned -/
theorem uP.Pb {h':Heap} {i:Nat} {e:Ent} {x:aj} (D:gW h r m E) (hi:E[i]? = some e) (B:Blk h' e.g (aj.cs x) 39) (U:Upd e.g h h')
  (xp:x.aP=e.x.aP) (xn:x.aQ=e.x.aQ) (xy:x.eD=e.x.eD) (xr:x.dV=e.x.dV) (xw:x.oM.dD=e.x.oM.dD) (xN:x.f_N=e.x.f_N) :
  gW h' r m (E.set i { e with x:=x,o:={ e.o with x:=bare x } }):=by
 have K:=D.ok e (List.mem_of_getElem? hi)
 have st:Stp e.own h h':=Stp.vX U (.inl (.inl rfl))
 have eo:∀ b,Ent.own { e with x:=x,o:={ e.o with x:=bare x } } b->e.own b∨h.size<=b:=fun b hb=>.inl (hb.imp id fun q=>by rw [← xy]; exact q)
 refine D.turn hi st rfl rfl eo ⟨B,rfl,xN.trans K.n,?_,?_,?_,by rw [xp]; exact K.pl,by rw [xn]; exact K.nl,by rw [xn]; exact K.nc,by rw [xr]; exact K.rl,by rw [xw]; exact K.wl,⟨K.z.p,K.z.n,K.z.y,K.z.r,K.z.w⟩⟩
 ·show Row 0 h' 3 1 x.eD _
  rw [xy]
  exact K.Y.keep fun b hb=>U.block b (K.Y.bd hb).2 fun q=>K.gy (q ▸ hb)
 ·show x.eD.blk≠_
  rw [xy]; exact K.gy
 ·refine ((K.I.step (st.mono fun b hb=>.inl (.inr (.inr ⟨e,List.mem_of_getElem? hi,hb⟩))) (BG hi eo))).imp fun hx q=>?_
  unfold Still at q ⊢
  dsimp only
  rw [xp,xn,xr,xw]; exact q
def Kw (e:Ent) (er:Int):Ent:={ e with x:={ e.x with aI:=true,f_E:=er },o:={ e.o with x:=bare { e.x with aI:=true,f_E:=er } } }
theorem QG {n node er:Int} {k:KP Bool} (D:gW h r m E) (nz:∀ e∈E,e.o.ns.length<=1000000)
  (N:(∀ e,look E n=some e->e.o.x.aI=false->node∈e.o.ns->xG e.o.x.aJ er=false)->k false h) (H:∀ (i:Nat) e h',E[i]? = some e->e.n=n->look E n=some e->e.o.x.aI=false->node∈e.o.ns->xG e.o.x.aJ er=true->gW h' r m (E.set i (Kw e er))->Stp e.own h h'->k true h'):rH (some ⟨r,0,none⟩) n node er k h:=by
 unfold rH
 refine JB D nz (fun hl=>?_) fun i e hi en hl=>?_
 ·rw [if_pos (by simp)]
  unfold jA
  rw [if_pos rfl]; exact N fun e he=>by rw [hl] at he; cases he
 ·have K:=D.ok e (List.mem_of_getElem? hi)
  by_cases c:e.o.x.aI=false/\node∈e.o.ns
  ·rw [decide_eq_true c,if_neg (by simp)]
   have kd:e.x.aJ=e.o.x.aJ:=by rw [← K.be]; rfl
   refine ⟨⟨e.g,0,none⟩,rfl,e.x.aJ,K.B.cl rfl,Na ?_⟩
   unfold jA
   rw [kd]
   cases hb:xG e.o.x.aJ er with
   | false=>rw [if_pos (by simp)]; exact N fun e' he' _ _=>by rw [hl] at he'; cases he'; exact hb
   | true =>
    rw [if_neg (by simp)]
    refine ⟨⟨e.g,0,none⟩,rfl,jI K.B (by show 30 < 33; decide) fun h2 B2 U2=>jI B2 (by rw [List.length_set]; show 31 < 33; decide) fun h3 B3 U3=>?_⟩
    exact H i e h3 hi en hl c.1 c.2 hb (uP.Pb D hi (x:={ e.x with aI:=true,f_E:=er }) B3 (U2.trans U3) rfl rfl rfl rfl rfl rfl) (Stp.vX (U2.trans U3) (.inl (.inl rfl)))
  ·rw [decide_eq_false c,if_pos (by simp)]
   unfold jA
   rw [if_pos rfl]; exact N fun e' he' d q=>by rw [hl] at he'; cases he'; exact absurd ⟨d,q⟩ c
end
end Go.Q.Yq
end
section
/- Quorum: an op is told. -/
namespace Go.Q.Yq
abbrev zOp:aj:=⟨0,0,ByteArray.empty,uh,⟨ByteArray.empty,0,0,0,0⟩,⟨0,ByteArray.empty,0,([]:List Int),uh,0⟩,0,uh,uh,0,false,0,uh⟩
section
variable {h:Heap} {r m:Nat} {E:List Ent}
theorem Mo {n:Int} {k:KP (aj × Int)} (D:gW h r m E) (N:look E n=none->∀ h',Ext h.size h h'->k (zOp,6) h')
  (H:∀ (i:Nat) e x h',E[i]? = some e->e.n=n->look E n=some e->OpM h' x e.o->OpF h.size x->Ext h.size h h'->k (x,0) h'):mO (some ⟨r,0,none⟩) n k h:=by
 unfold mO
 refine bx0 fun h2 P2 X2=>?_
 have z2:=X2.size; have p2:=P2.lt
 have D2:=D.ext X2
 obtain ⟨b1,e1⟩:∃ b1,b1=h.size:=⟨_,rfl⟩
 rw [← e1] at P2 p2 z2 X2 H N ⊢
 rw [if_neg (by simp)]
 refine ⟨_,rfl,some m,D2.P.cl0 rfl,_,D2.M,?_⟩
 rw [za]
 cases hl:look E n with
 | none =>
  rw [if_pos (by simp)]
  exact pY (cs:=aj.cs zOp) P2 rfl (by show 33<=33; decide) fun h3 P3 U3=>⟨zOp,ai.aL P3,N hl h3 (X2.trans (U3.ext (Nat.le_refl _) (by omega)))⟩
 | some e =>
  obtain ⟨i,hi,en⟩:=Dl hl
  have K:=D2.ok e (List.mem_of_getElem? hi)
  rw [if_neg (by simp)]
  refine ⟨⟨e.g,0,none⟩,rfl,e.x,ai.aL K.B,Gf K.m K.z fun x h4 M4 F4 X4=>?_⟩
  have z4:=X4.size
  refine pY (cs:=aj.cs x) (P2.ext X4 p2) rfl (by show 33<=33; decide) fun h5 P5 U5=>⟨x,ai.aL P5,H i e x h5 hi en hl ?_ ⟨fun g hg=>by have:=F4.p g hg; omega,fun g hg=>by have:=F4.n g hg; omega,fun g hg=>by have:=F4.y g hg; omega,fun g hg=>by have:=F4.r g hg; omega,fun g hg=>by have:=F4.w g hg; omega⟩ ?_⟩
  ·have kp:∀ {s:Slc} {vs:List Value},SlcAt h4 s vs->(∀ g,s.blk=some g->h2.size<=g)->SlcAt h5 s vs:=fun {s vs} S hf=>⟨S.1,fun a ha j v hj=>by
    have c:=S.2 a ha j v hj
    have hb:h2.size<=a.block:=hf a.block (by unfold Slc.blk; rw [ha])
    rw [uw (U5.block _ (om c) (by rw [show (a.add j).block=a.block from by unfold Addr.add; split <;> rfl]; omega))]
    exact c⟩
   exact { M4 with p:=kp M4.p F4.p,n:=kp M4.n F4.n,y:=kp M4.y F4.y,r:=kp M4.r F4.r,w:=kp M4.w F4.w }
  ·exact (X2.trans (X4.mono (by omega))).trans (U5.ext (Nat.le_refl _) (by omega))
/-- what is told of an op, wherever it is kept meanwhile -/
theorem DT {n:Int} {k:KP (aj × Int)} (D:gW h r m E) (N:∀ e h',(e=6∨e=14)->(e=6->look E n=none)->(e=14->∃ a,look E n=some a/\a.o.x.aI=false)->Ext h.size h h'->k (zOp,e) h')
  (H:∀ (i:Nat) e x h',E[i]? = some e->e.n=n->look E n=some e->e.o.x.aI=true->OpM h' x e.o->OpF h.size x->Ext h.size h h'->k (x,0) h'):iC (some ⟨r,0,none⟩) n k h:=by
 unfold iC
 refine bx0 fun h2 P2 X2=>?_
 have z2:=X2.size; have p2:=P2.lt
 have D2:=D.ext X2
 obtain ⟨b1,e1⟩:∃ b1,b1=h.size:=⟨_,rfl⟩
 rw [← e1] at P2 p2 z2 X2 H N ⊢
 refine Mo D2 (fun hl h4 X4=>?_) fun i e x h4 hi en hl M4 F4 X4=>?_
 ·have z4:=X4.size
  refine bx rfl (by decide) fun h7 P7 X7=>?_
  have z7:=X7.size
  rw [if_neg (by simp)]
  unfold iy
  rw [if_neg (by simp)]
  refine ⟨zOp,ai.aL P7,pY (cs:=aj.cs zOp) ((P2.ext X4 p2).ext X7 (by omega)) rfl (by show 33<=33; decide) fun h8 P8 U8=>⟨zOp,ai.aL P8,N 6 h8 (.inl rfl) (fun _=>hl) (fun h=>by cases h) ?_⟩⟩
  exact ((X2.trans (X4.mono (by omega))).trans (X7.mono (by omega))).trans (U8.ext (Nat.le_refl _) (by omega))
 ·have z4:=X4.size
  have dn:x.aI=e.o.x.aI:=by rw [← M4.e]; rfl
  refine bx rfl (by decide) fun h7 P7 X7=>?_
  have z7:=X7.size
  have Q7:=(P2.ext X4 p2).ext X7 (by omega)
  have X07:Ext b1 h h7:=(X2.trans (X4.mono (by omega))).trans (X7.mono (by omega))
  rw [if_pos (by simp)]
  refine ⟨x.aI,P7.cl rfl,?_⟩
  unfold iy
  rw [dn]
  cases hd:e.o.x.aI with
  | false =>
   rw [if_pos (by simp)]
   exact pY (cs:=aj.cs zOp) Q7 rfl (by show 33<=33; decide) fun h8 P8 U8=>⟨zOp,ai.aL P8,N 14 h8 (.inr rfl) (fun h=>by cases h) (fun _=>⟨e,hl,hd⟩) (X07.trans (U8.ext (Nat.le_refl _) (by omega)))⟩
  | true =>
   rw [if_neg (by simp)]
   refine ⟨x,ai.aL P7,pY (cs:=aj.cs x) Q7 rfl (by show 33<=33; decide) fun h8 P8 U8=>⟨x,ai.aL P8,H i e x h8 hi en hl hd ?_ ⟨fun g hg=>by have:=F4.p g hg; omega,fun g hg=>by have:=F4.n g hg; omega,fun g hg=>by have:=F4.y g hg; omega,fun g hg=>by have:=F4.r g hg; omega,fun g hg=>by have:=F4.w g hg; omega⟩ (X07.trans (U8.ext (Nat.le_refl _) (by omega)))⟩⟩
   have M7:=M4.ext X7
   have kp:∀ {s:Slc} {vs:List Value},SlcAt h7 s vs->(∀ g,s.blk=some g->h2.size<=g)->SlcAt h8 s vs:=fun {s vs} S hf=>⟨S.1,fun a ha j v hj=>by
    have c:=S.2 a ha j v hj
    have hb:h2.size<=a.block:=hf a.block (by unfold Slc.blk; rw [ha])
    rw [uw (U8.block _ (om c) (by rw [show (a.add j).block=a.block from by unfold Addr.add; split <;> rfl]; omega))]
    exact c⟩
   exact { M7 with p:=kp M7.p F4.p,n:=kp M7.n F4.n,y:=kp M7.y F4.y,r:=kp M7.r F4.r,w:=kp M7.w F4.w }
end
end Go.Q.Yq
end
section
/- Quorum: two ops of one value are the same to the document. -/
namespace Go.Q.Yq
section
variable {s t:Slc} {k:KP Bool} {h:Heap}
theorem Hz {l:List Int} (A:SlcAt h s (ints l)) (al:s.len=l.length) (B:SlcAt h t (ints l)) (bl:t.len=l.length) (m:l.length<=4611686018427387904) (H:k true h):pJ s t k h:=by
 unfold pJ
 rw [al,bl,if_neg (by simp)]
 unfold xU
 refine ⟨fun i h'=>h'=h/\0<=i/\i<=(l.length:Int),fun i _=>l.length - i.toNat,⟨rfl,Int.le_refl _,by omega⟩,?_⟩
 rintro i h' ⟨rfl,i0,i1⟩
 unfold vT
 rw [al,bl]
 by_cases hi:i < (l.length:Int)
 ·rw [if_pos (by simpa using hi)]
  obtain ⟨v,hv⟩:∃ v,l[i.toNat]? = some v:=⟨_,List.getElem?_eq_getElem (by omega)⟩
  obtain ⟨a,ha,hc⟩:=u6 A (i:=i.toNat) (v:=.int .i64 v) (by rw [List.getElem?_map,hv]; rfl)
  obtain ⟨b,hb,hd⟩:=u6 B (i:=i.toNat) (v:=.int .i64 v) (by rw [List.getElem?_map,hv]; rfl)
  refine ⟨a,ha,i0,hi,v,by rw [Nat.mul_one]; exact hc,b,hb,i0,hi,v,by rw [Nat.mul_one]; exact hd,?_⟩
  rw [if_neg (by simp)]
  exact ⟨_,rfl,by rw [aA (by omega) (by omega)]; exact ⟨⟨rfl,by omega,by omega⟩,by show l.length - (i + 1).toNat < l.length - i.toNat; omega⟩⟩
 ·rw [if_neg (by simpa using hi)]; exact H
theorem LJ {l:List ae} (A:SlcAt h s (pcv l)) (al:s.len=l.length) (B:SlcAt h t (pcv l)) (bl:t.len=l.length) (m:l.length<=4611686018427387904) (H:k true h):zo s t k h:=by
 have LA:LsAt ae.cs 5 h s l:=Rw.iH (cs:=ae.cs) (w:=5) (fun _=>rfl) A al (by decide)
 have LB:LsAt ae.cs 5 h t l:=Rw.iH (cs:=ae.cs) (w:=5) (fun _=>rfl) B bl (by decide)
 unfold zo
 rw [al,bl,if_neg (by simp)]
 unfold BZ
 refine ⟨fun i h'=>h'=h/\0<=i/\i<=(l.length:Int),fun i _=>l.length - i.toNat,⟨rfl,Int.le_refl _,by omega⟩,?_⟩
 rintro i h' ⟨rfl,i0,i1⟩
 unfold Bh
 rw [al,bl]
 by_cases hi:i < (l.length:Int)
 ·rw [if_pos (by simpa using hi)]
  obtain ⟨a,x,ha,_,_,hx,hc⟩:=LA.it i0 hi
  obtain ⟨b,y,hb,_,_,hy,hd⟩:=LB.it i0 hi
  obtain rfl:y=x:=Option.some.inj (hy.symm.trans hx)
  refine ⟨a,ha,i0,hi,y,hc,b,hb,i0,hi,y,hd,?_⟩
  rw [if_neg (by simp)]
  exact ⟨_,rfl,by rw [aA (by omega) (by omega)]; exact ⟨⟨rfl,by omega,by omega⟩,by show l.length - (i + 1).toNat < l.length - i.toNat; omega⟩⟩
 ·rw [if_neg (by simpa using hi)]; exact H
theorem LP {l:List aH} (A:SlcAt h s (rwv l)) (al:s.len=l.length) (B:SlcAt h t (rwv l)) (bl:t.len=l.length) (m:l.length<=4611686018427387904) (H:k true h):qY s t k h:=by
 have LA:LsAt aH.cs 4 h s l:=Rw.iH (cs:=aH.cs) (w:=4) (fun _=>rfl) A al (by decide)
 have LB:LsAt aH.cs 4 h t l:=Rw.iH (cs:=aH.cs) (w:=4) (fun _=>rfl) B bl (by decide)
 unfold qY
 rw [al,bl,if_neg (by simp)]
 unfold xW
 refine ⟨fun i h'=>h'=h/\0<=i/\i<=(l.length:Int),fun i _=>l.length - i.toNat,⟨rfl,Int.le_refl _,by omega⟩,?_⟩
 rintro i h' ⟨rfl,i0,i1⟩
 unfold wF
 rw [al,bl]
 by_cases hi:i < (l.length:Int)
 ·rw [if_pos (by simpa using hi)]
  obtain ⟨a,x,ha,_,_,hx,hc⟩:=LA.it i0 hi
  obtain ⟨b,y,hb,_,_,hy,hd⟩:=LB.it i0 hi
  obtain rfl:y=x:=Option.some.inj (hy.symm.trans hx)
  refine ⟨a,ha,i0,hi,y,hc,b,hb,i0,hi,y,hd,?_⟩
  rw [if_neg (by simp)]
  exact ⟨_,rfl,by rw [aA (by omega) (by omega)]; exact ⟨⟨rfl,by omega,by omega⟩,by show l.length - (i + 1).toNat < l.length - i.toNat; omega⟩⟩
 ·rw [if_neg (by simpa using hi)]; exact H
end
theorem FW {x y:aj} {o:OpV} {k:KP Bool} {h:Heap} (M:OpM h x o) (M':OpM h y o) (Z:OpZ o) (H:∀ h',Ext h.size h h'->k true h'):sF x y k h:=by
 have zp:=Z.p; have zn:=Z.n; have zy:=Z.y; have zr:=Z.r
 have be:bare x=bare y:=M.e.trans M'.e.symm
 have e1:x.f_N=y.f_N:=by have:=congrArg aj.f_N be; exact this
 have e2:x.aJ=y.aJ:=by have:=congrArg aj.aJ be; exact this
 have e3:x.qx=y.qx:=by have:=congrArg aj.qx be; exact this
 have e4:x.cZ=y.cZ:=by have:=congrArg aj.cZ be; exact this
 have e5:x.aI=y.aI:=by have:=congrArg aj.aI be; exact this
 have e6:x.f_E=y.f_E:=by have:=congrArg aj.f_E be; exact this
 unfold sF
 refine bx0 fun h2 P2 X2=>bx0 fun h4 P4 X4=>?_
 have z2:=X2.size
 have Q2:=P2.ext X4 P2.lt
 have X04:Ext h.size h h4:=X2.trans (X4.mono z2)
 have A:=M.ext X04
 have B:=M'.ext X04
 refine ⟨x.f_N,Q2.cl0 rfl,y.f_N,P4.cl0 rfl,?_⟩
 rw [e1,if_pos (by simp)]
 refine ⟨x.aJ,Q2.cl rfl,y.aJ,P4.cl rfl,?_⟩
 unfold sO
 rw [e2,if_pos (by simp)]
 refine ⟨x.qx,Q2.cl rfl,y.qx,P4.cl rfl,?_⟩
 unfold sS
 rw [e3,if_pos (by simp)]
 refine ⟨x.aP,Q2.cl rfl,y.aP,P4.cl rfl,LJ A.p A.pl B.p B.pl (by omega) ?_⟩
 unfold tL
 rw [if_pos rfl]
 refine ⟨x.aQ,Q2.cl rfl,y.aQ,P4.cl rfl,Hz A.n A.nl B.n B.nl (by omega) ?_⟩
 unfold sW
 rw [if_pos rfl]
 refine ⟨x.eD,Q2.cl rfl,y.eD,P4.cl rfl,Hz A.y A.yl B.y B.yl (by omega) ?_⟩
 unfold tK
 rw [if_pos rfl]
 refine ⟨x.cZ,Q2.cl rfl,y.cZ,P4.cl rfl,?_⟩
 unfold sP
 rw [e4,if_pos (by simp)]
 refine ⟨x.aI,Q2.cl rfl,y.aI,P4.cl rfl,?_⟩
 unfold tN
 rw [e5,if_pos (by simp)]
 refine ⟨x.f_E,Q2.cl rfl,y.f_E,P4.cl rfl,?_⟩
 unfold tC
 rw [e6,if_pos (by simp)]
 refine ⟨x.dV,Q2.cl rfl,y.dV,P4.cl rfl,LP A.r A.rl B.r B.rl (by omega) ?_⟩
 unfold sQ
 exact H h4 X04
end Go.Q.Yq
end

/- A part of the proof of statements of this seat: lemmas, no statement of their own. -/
import Derived.Test.YtgbbpanapnkdbaaGreatYqZav
import Derived.Test.YtgbbpanapnkdbaaGreatYqZai
import Derived.Test.YtgbbpanapnkdbaaGreatYqZag
import Derived.Test.YtgbbpanapnkdbaaGreatYqZaj
import Derived.Test.YtgbbpanapnkdbaaGreatYqZas
set_option linter.unusedVariables false
set_option linter.unusedSimpArgs false
set_option maxRecDepth 100000
section
namespace Go.Q.Yq
def CF (ls:List LU) (a b:Tx):Bool:=ls.any fun l=>decide (l.1=a) && decide (l.2=b)
def Du (ls:List LU) (a b:Tx):Bool:=ls.any fun l=>decide (l.1=a) && ut l.2 b
def lG (ls:List LU) (x:QU):Bool:=if x.2.1=0 then CF ls x.1 x.2.2 else if x.2.1=1 then !CF ls x.1 x.2.2 else if x.2.1=2 then Du ls x.1 x.2.2 else false
def yh (qn:Tx) (qs:List QU) (sn:Tx) (ls:List LU):Bool:=if qn≠[]/\qn≠sn then false else !(qs.any fun x=>!lG ls x)
theorem bq (a b:Tx):((ofL a).toList == (ofL b).toList)=decide (a=b):=by
 rw [gz,gz]; by_cases h:a=b <;> simp [h]
theorem yU {α:Type} {p:α->Bool} {l:List α} {i:Nat} {x:α} (hx:l[i]? = some x):(l.take (i + 1)).any p=((l.take i).any p || p x):=by
 rw [List.take_add_one,hx,List.any_append]; simp
theorem Db {α:Type} {p:α->Bool} {l:List α} {i:Nat} (h:(l.take i).any p=true):l.any p=true:=by
 obtain ⟨x,hx,hp⟩:=List.any_eq_true.1 h
 exact List.any_eq_true.2 ⟨x,List.mem_of_mem_take hx,hp⟩
section
variable {s:Slc} {ls:List LU}
theorem JH {a b:Tx} {k:KP Bool} {h:Heap} (L:LsAt aD.cs 2 h s (ls.map lst)) (hm:ls.length<=1000000) (H:∀ h',Ext h.size h h'->k (CF ls a b) h'):bX s ⟨ofL a,ofL b⟩ k h:=by
 have sl:s.len=ls.length:=by have:=L.l; simpa using this
 unfold bX
 refine ⟨_,_,rfl,rfl,?_⟩
 have P:=Blk.push h (aD.cs ⟨ofL a,ofL b⟩) 178
 have W:=Ext.push h (.cells (aD.cs ⟨ofL a,ofL b⟩).toArray 178) (Nat.le_refl _)
 generalize h.push (.cells (aD.cs ⟨ofL a,ofL b⟩).toArray 178)=h2 at *
 have z2:=W.size
 refine ⟨_,ai.aL P,?_⟩
 unfold gD
 refine ⟨_,_,rfl,rfl,?_⟩
 have Q:=Blk.push h2 (aD.cs ⟨ofL a,ofL b⟩) 178
 have W3:=Ext.push h2 (.cells (aD.cs ⟨ofL a,ofL b⟩).toArray 178) (Nat.le_refl _)
 generalize h2.push (.cells (aD.cs ⟨ofL a,ofL b⟩).toArray 178)=h3 at *
 have X03:Ext h.size h h3:=W.trans (W3.mono z2)
 have L3:=(L.ext W).ext W3
 refine ⟨fun i h'=>0<=i/\i<=ls.length/\(CF (ls.take i.toNat) a b)=false/\h'=h3,fun i _=>(ls.length - i).toNat,⟨by omega,by omega,by simp [CF],rfl⟩,?_⟩
 rintro i h' ⟨i0,i1,ha,e⟩
 subst e
 unfold jR
 by_cases hi:i < ls.length
 ·rw [if_pos (by rw [decide_eq_true_eq]; omega)]
  have hx:ls[i.toNat]? = some (ls[i.toNat]'(by omega)):=by simp
  generalize ls[i.toNat]'(by omega)=x at *
  obtain ⟨ad,h1,C⟩:=L3.at' i.toNat (lst x) (by rw [List.getElem?_map,hx]; rfl)
  refine ⟨_,ai.aL Q,ad,h1,i0,by omega,lst x,C,?_⟩
  show (if (((ofL a).toList == (ofL x.1).toList) && ((ofL b).toList == (ofL x.2).toList))=true then _ else _)
  rw [bq,bq]
  have hs:=yU (p:=fun l:LU=>decide (l.1=a) && decide (l.2=b)) hx
  by_cases hb:a=x.1/\b=x.2
  ·rw [if_pos (by simp [hb.1,hb.2])]
   have:CF ls a b=true:=Db (i:=i.toNat + 1) (by rw [hs]; simp [hb.1,hb.2])
   have F:=H h' X03
   rw [this] at F
   dsimp only
   rw [show decide (i>=0)=true from by simpa using i0]; exact F
  ·rw [if_neg (by simpa using hb),aA (by omega) (by omega)]
   refine ⟨⟨by omega,by omega,?_,rfl⟩,by dsimp only; omega⟩
   rw [show (i + 1).toNat=i.toNat + 1 from by omega]
   unfold CF at ha ⊢
   rw [hs,ha]
   have:¬ (x.1=a/\x.2=b):=fun h=>hb ⟨h.1.symm,h.2.symm⟩
   by_cases h1:x.1=a
   ·have:¬ x.2=b:=fun h2=>this ⟨h1,h2⟩
    simp [this]
   ·simp [h1]
 ·rw [if_neg (by rw [decide_eq_true_eq]; omega)]
  rw [List.take_of_length_le (by omega)] at ha
  have F:=H h' X03
  rw [ha] at F
  exact ⟨_,rfl,F⟩
theorem NF {x:QU} {b:Nat} {k:KP Bool} {h:Heap} (L:LsAt aD.cs 2 h s (ls.map lst)) (hm:ls.length<=1000000) (ok:okL ls) (P:Blk h b (qcs x) 174) (H:∀ h',Ext h.size h h'->k (Du ls x.1 x.2.2) h'):aV s ⟨b,0,none⟩ k h:=by
 have sl:s.len=ls.length:=by have:=L.l; simpa using this
 unfold aV bQ
 refine ⟨fun i h'=>0<=i/\i<=ls.length/\(Du (ls.take i.toNat) x.1 x.2.2)=false/\Ext h.size h h',fun i _=>(ls.length - i).toNat,⟨by omega,by omega,by simp [Du],Ext.refl _ _⟩,?_⟩
 rintro i h1 ⟨i0,i1,ha,X⟩
 have z1:=X.size
 unfold dK
 by_cases hi:i < ls.length
 ·rw [if_pos (by rw [decide_eq_true_eq]; omega)]
  have hx:ls[i.toNat]? = some (ls[i.toNat]'(by omega)):=by simp
  generalize ls[i.toNat]'(by omega)=y at *
  obtain ⟨ad,hd,C⟩:=(L.ext X).at' i.toNat (lst y) (by rw [List.getElem?_map,hx]; rfl)
  refine ⟨ad,hd,i0,by omega,lst y,C,?_⟩
  unfold uG
  refine ⟨_,_,rfl,rfl,?_⟩
  have Q:=Blk.push h1 (aD.cs (lst y)) 178
  have W2:=Ext.push h1 (.cells (aD.cs (lst y)).toArray 178) (Nat.le_refl _)
  have P2:=(P.ext X P.lt).ext W2 (by have:=P.lt; omega)
  generalize h1.push (.cells (aD.cs (lst y)).toArray 178)=h2 at *
  have X2:Ext h.size h h2:=X.trans (W2.mono z1)
  have hs:=yU (p:=fun l:LU=>decide (l.1=x.1) && ut l.2 x.2.2) hx
  have step:∀ r,r=(decide (y.1=x.1) && ut y.2 x.2.2)->(if r=true then k (decide (i>=0)) h2 else (0<=IntKind.i64.wrap (i + 1)/\IntKind.i64.wrap (i + 1)<=(ls.length:Int)/\Du (ls.take (IntKind.i64.wrap (i + 1)).toNat) x.1 x.2.2=false/\Ext h.size h h2)/\((ls.length:Int) - IntKind.i64.wrap (i + 1)).toNat < ((ls.length:Int) - i).toNat):=fun r hr=>by
   rw [← hr] at hs
   cases hr2:r with
   | true =>
    rw [if_pos rfl]
    have:Du ls x.1 x.2.2=true:=Db (i:=i.toNat + 1) (by rw [hs,hr2]; simp)
    have F:=H h2 X2
    rw [this] at F
    rw [show decide (i>=0)=true from by simpa using i0]; exact F
   | false =>
    rw [if_neg (by simp),aA (by omega) (by omega)]
    refine ⟨⟨by omega,by omega,?_,X2⟩,by omega⟩
    rw [show (i + 1).toNat=i.toNat + 1 from by omega]
    unfold Du at ha ⊢
    rw [hs,ha,hr2]; rfl
  refine ⟨ofL y.1,by rw [Q.cell]; rfl,ofL x.1,by rw [P2.cell]; rfl,?_⟩
  rw [bq]
  by_cases hn:y.1=x.1
  ·rw [if_pos (by simpa using hn)]
   refine ⟨ofL y.2,by rw [add_mk,Q.cell]; rfl,ofL x.2.2,by rw [add_mk,P2.cell]; rfl,?_⟩
   refine De (ok y (List.mem_of_getElem? hx)).2 ?_
   unfold kH
   exact step _ (by simp [hn])
  ·rw [if_neg (by simpa using hn)]
   unfold kH
   exact step _ (by simp [hn])
 ·rw [if_neg (by rw [decide_eq_true_eq]; omega)]
  rw [List.take_of_length_le (by omega)] at ha
  have F:=H h1 X
  rw [ha] at F
  exact ⟨_,rfl,F⟩
theorem Ir {x:QU} {sn:Tx} {k:KP Bool} {h:Heap} (L:LsAt aD.cs 2 h s (ls.map lst)) (hm:ls.length<=1000000) (ok:okL ls) (H:∀ h',Ext h.size h h'->k (lG ls x) h'):tO (qst x) ⟨ofL sn,s⟩ k h:=by
 unfold tO
 refine ⟨_,_,rfl,rfl,?_⟩
 have P:=Blk.push h (qcs x) 174
 have W:=Ext.push h (.cells (qcs x).toArray 174) (Nat.le_refl _)
 have pl:=P.lt
 rw [show az.cs (qst x)=qcs x from rfl]
 generalize h.push (.cells (qcs x).toArray 174)=h2 at *
 have z2:=W.size
 refine ⟨_,_,rfl,rfl,?_⟩
 have Q:=Blk.push h2 (ay.cs ⟨ofL sn,s⟩) 147
 have W3:=Ext.push h2 (.cells (ay.cs ⟨ofL sn,s⟩).toArray 147) (Nat.le_refl _)
 generalize h2.push (.cells (ay.cs ⟨ofL sn,s⟩).toArray 147)=h3 at *
 have P3:=P.ext W3 pl
 have L3:=(L.ext W).ext W3
 have X3:Ext h.size h h3:=W.trans (W3.mono z2)
 have z3:=X3.size
 have H':∀ h',Ext h3.size h3 h'->k (lG ls x) h':=fun h' X=>H h' (X3.trans (X.mono z3))
 unfold lG at H'
 have cq:∀ i:Nat,ah h3 ((⟨h.size,0,none⟩:Addr).add i)=(qcs x)[i]?:=fun i=>by rw [add_mk,Nat.zero_add,P3.cell]
 have cs:ah h3 ((⟨h2.size,0,none⟩:Addr).add 1)=some (Slc.v s):=by rw [add_mk,Q.cell]; rfl
 refine ⟨x.2.1,by rw [cq]; rfl,?_⟩
 by_cases h0:x.2.1=0
 ·rw [if_pos (by simp [h0])]
  simp only [if_pos h0] at H'
  exact ⟨s,cs,ofL x.1,by rw [P3.cell]; rfl,ofL x.2.2,by rw [cq]; rfl,JH L3 hm H'⟩
 rw [if_neg (by simpa using h0)]
 simp only [if_neg h0] at H'
 by_cases h1:x.2.1=1
 ·rw [if_pos (by simp [h1])]
  simp only [if_pos h1] at H'
  exact ⟨s,cs,ofL x.1,by rw [P3.cell]; rfl,ofL x.2.2,by rw [cq]; rfl,JH L3 hm H'⟩
 rw [if_neg (by simpa using h1)]
 simp only [if_neg h1] at H'
 by_cases h2':x.2.1=2
 ·rw [if_pos (by simp [h2'])]
  simp only [if_pos h2'] at H'
  exact ⟨s,cs,NF L3 hm ok P3 H'⟩
 ·rw [if_neg (by simpa using h2')]
  simp only [if_neg h2'] at H'
  exact H' h3 (Ext.refl _ _)
variable {sq:Slc} {qs:List QU}
theorem Iq {qn sn:Tx} {k:KP Bool} {h:Heap} (Lq:LsAt az.cs 3 h sq (qs.map qst)) (L:LsAt aD.cs 2 h s (ls.map lst)) (hq:qs.length<=1000000) (hm:ls.length<=1000000) (ok:okL ls) (H:∀ h',Ext h.size h h'->k (yh qn qs sn ls) h'):sU ⟨ofL qn,sq⟩ ⟨ofL sn,s⟩ k h:=by
 have ql:sq.len=qs.length:=by have:=Lq.l; simpa using this
 unfold sU
 refine ⟨_,_,rfl,rfl,?_⟩
 have P:=Blk.push h (af.cs ⟨ofL qn,sq⟩) 139
 have W:=Ext.push h (.cells (af.cs ⟨ofL qn,sq⟩).toArray 139) (Nat.le_refl _)
 have pl:=P.lt
 generalize h.push (.cells (af.cs ⟨ofL qn,sq⟩).toArray 139)=h2 at *
 have z2:=W.size
 refine ⟨_,_,rfl,rfl,?_⟩
 have Q:=Blk.push h2 (ay.cs ⟨ofL sn,s⟩) 147
 have W3:=Ext.push h2 (.cells (ay.cs ⟨ofL sn,s⟩).toArray 147) (Nat.le_refl _)
 generalize h2.push (.cells (ay.cs ⟨ofL sn,s⟩).toArray 147)=h3 at *
 have P3:=P.ext W3 pl
 have L3:=(L.ext W).ext W3
 have Lq3:=(Lq.ext W).ext W3
 have X3:Ext h.size h h3:=W.trans (W3.mono z2)
 have z3:=X3.size
 have ql3:=Q.lt
 have H':∀ h',Ext h3.size h3 h'->k (yh qn qs sn ls) h':=fun h' X=>H h' (X3.trans (X.mono z3))
 unfold yh at H'
 have g1:∀ b,b=decide (qn≠[]/\qn≠sn)->ni ⟨h.size,0,none⟩ ⟨h2.size,0,none⟩ b k h3:=fun b hb=>by
  unfold ni
  by_cases hc:qn≠[]/\qn≠sn
  ·rw [hb,if_pos (by simpa using hc)]
   have:=H' h3 (Ext.refl _ _)
   rw [if_pos hc] at this; exact this
  rw [hb,if_neg (by simpa using hc)]
  simp only [if_neg hc] at H'
  refine ⟨sq,by rw [add_mk,P3.cell]; rfl,?_⟩
  unfold bu bC
  refine ⟨fun i h'=>0<=i/\i<=qs.length/\((qs.take i.toNat).any fun x=>!lG ls x)=false/\Ext h3.size h3 h',fun i _=>(qs.length - i).toNat,⟨by omega,by omega,by simp,Ext.refl _ _⟩,?_⟩
  rintro i h4 ⟨i0,i1,ha,X4⟩
  have z4:=X4.size
  unfold df
  by_cases hi:i < qs.length
  ·rw [if_pos (by rw [decide_eq_true_eq]; omega)]
   have hx:qs[i.toNat]? = some (qs[i.toNat]'(by omega)):=by simp
   generalize qs[i.toNat]'(by omega)=x at *
   obtain ⟨ad,hd,C⟩:=(Lq3.ext X4).at' i.toNat (qst x) (by rw [List.getElem?_map,hx]; rfl)
   refine ⟨ad,hd,i0,by omega,qst x,C,?_⟩
   unfold uM
   refine ⟨_,_,rfl,rfl,?_⟩
   have T:=Blk.push h4 (az.cs (qst x)) 174
   have W5:=Ext.push h4 (.cells (az.cs (qst x)).toArray 174) (Nat.le_refl _)
   have Q5:=(Q.ext X4 ql3).ext W5 (by omega)
   generalize h4.push (.cells (az.cs (qst x)).toArray 174)=h5 at *
   have z5:=W5.size
   refine ⟨qst x,ai.aL T,_,ai.aL Q5,Ir ((L3.ext X4).ext W5) hm ok fun h6 X6=>?_⟩
   have X36:Ext h3.size h3 h6:=X4.trans ((W5.trans (X6.mono z5)).mono z4)
   have hs:=yU (p:=fun x:QU=>!lG ls x) hx
   cases hb:lG ls x with
   | true =>
    dsimp only
    rw [if_neg (by simp),aA (by omega) (by omega)]
    refine ⟨⟨by omega,by omega,?_,X36⟩,by omega⟩
    rw [show (i + 1).toNat=i.toNat + 1 from by omega,hs,ha,hb]; rfl
   | false =>
    dsimp only
    rw [if_pos (by simp)]
    have:(qs.any fun x=>!lG ls x)=true:=Db (i:=i.toNat + 1) (by rw [hs,hb]; simp)
    have F:=H' h6 X36
    rw [this] at F
    rw [show decide (i>=0)=true from by simpa using i0]; exact F
  ·rw [if_neg (by rw [decide_eq_true_eq]; omega)]
   rw [List.take_of_length_le (by omega)] at ha
   have F:=H' h4 X4
   rw [ha] at F
   exact ⟨_,rfl,F⟩
 have hne:((ofL qn).toList == (⟨#[]⟩:ByteArray).toList)=decide (qn=[]):=bq qn []
 refine ⟨ofL qn,by rw [P3.cell]; rfl,?_⟩
 rw [hne]
 by_cases hn:qn=[]
 ·rw [if_neg (by simp [hn])]
  exact g1 _ (by simp [hn])
 ·rw [if_pos (by simp [hn])]
  refine ⟨ofL qn,by rw [P3.cell]; rfl,ofL sn,by rw [Q.cell]; rfl,?_⟩
  rw [bq]
  exact g1 _ (by simp [hn])
end
end Go.Q.Yq
end
section
/- What pieces tell, plainly. -/
namespace Go.Q.Yq
abbrev Pc:=ae
/-- may a piece be? -/
def okP (p:Pc):Bool:=decide (1<=p.ak.size) && decide (p.ak.size<=200)
/-- which of two pieces of one place counts -/
def rG (a b:Pc):Int:=orL [vk a.dB b.dB,cI a.f_V b.f_V]
def plc (p:Pc):aK:=⟨p.ak,p.f_T⟩
def ltP (a b:Pc):Prop:=cS a.ak b.ak < 0∨a.ak=b.ak/\a.f_T < b.f_T
/-- of each place the piece that counts, in their order -/
structure nK (l zs:List Pc):Prop where
 srt:zs.Pairwise ltP
 mem:∀ z,z∈zs ↔ z∈l/\okP z=true/\∀ y∈l,okP y=true->plc y=plc z->rG y z<=0
theorem Dv (a:ByteArray):cS a a=0:=by have:=yD.anti a a; omega
theorem Jy {a b:ByteArray} (h:cS a b=0):a=b:=by
 rw [EY] at h
 split at h
 ·omega
 ·split at h
  ·omega
  ·rename_i h1 h2
   exact ES (List.le_antisymm (List.not_lt.1 h2) (List.not_lt.1 h1))
theorem ED (a:Pc):¬ ltP a a:=by
 rintro (h | ⟨_,h⟩)
 ·rw [Dv] at h; omega
 ·omega
theorem Kq {a b:Pc} (h:ltP a b):¬ ltP b a:=by
 have e:=yD.anti a.ak b.ak
 rintro (h2 | ⟨h2,h3⟩)
 ·rcases h with h | ⟨h,_⟩
  ·omega
  ·rw [h,Dv] at h2; omega
 ·rcases h with h | ⟨_,h⟩
  ·rw [h2,Dv] at h; omega
  ·omega
theorem Oc:∀ {a b:List Pc},a.Pairwise ltP->b.Pairwise ltP->(∀ z,z∈a ↔ z∈b)->a=b
 | [],[],_,_,_=>rfl
 | [],y :: b,_,_,h=>by have:=(h y).2 List.mem_cons_self; cases this
 | x :: a,[],_,_,h=>by have:=(h x).1 List.mem_cons_self; cases this
 | x :: a,y :: b,ha,hb,h=>by
  obtain ⟨a1,a2⟩:=List.pairwise_cons.1 ha
  obtain ⟨b1,b2⟩:=List.pairwise_cons.1 hb
  have e:x=y:=by
   rcases List.mem_cons.1 ((h x).1 List.mem_cons_self) with e | hx
   ·exact e
   ·rcases List.mem_cons.1 ((h y).2 List.mem_cons_self) with e | hy
    ·exact e.symm
    ·exact absurd (b1 x hx) (Kq (a1 y hy))
  subst e
  congr 1
  refine Oc a2 b2 fun z=>⟨fun hz=>?_,fun hz=>?_⟩
  ·rcases List.mem_cons.1 ((h z).1 (List.mem_cons_of_mem _ hz)) with e | hz2
   ·subst e; exact absurd (a1 z hz) (ED z)
   ·exact hz2
  ·rcases List.mem_cons.1 ((h z).2 (List.mem_cons_of_mem _ hz)) with e | hz2
   ·subst e; exact absurd (b1 z hz) (ED z)
   ·exact hz2
/-- what is merged doesn't hang on the order -/
theorem nK.uniq {l m a b:List Pc} (A:nK l a) (B:nK m b) (h:∀ z,z∈l ↔ z∈m):a=b :=
 Oc A.srt B.srt fun z=>by
  rw [A.mem,B.mem,h]
  exact ⟨fun ⟨p,q,r⟩=>⟨p,q,fun y hy=>r y ((h y).2 hy)⟩,fun ⟨p,q,r⟩=>⟨p,q,fun y hy=>r y ((h y).1 hy)⟩⟩
theorem nK.sub {l zs:List Pc} (A:nK l zs):∀ z∈zs,z∈l:=fun z hz=>((A.mem z).1 hz).1
theorem BL {α:Type} [DecidableEq α]:∀ {a l:List α},a.Nodup->(∀ z∈a,z∈l)->a.length<=l.length
 | [],l,_,_=>by simp
 | x :: a,l,h,s=>by
  obtain ⟨h1,h2⟩:=List.nodup_cons.1 h
  have hx:=s x List.mem_cons_self
  have:=BL (l:=l.erase x) h2 fun z hz=>(List.mem_erase_of_ne (fun e=>h1 (by rw [← e]; exact hz))).2 (s z (List.mem_cons_of_mem _ hz))
  rw [List.length_erase_of_mem hx] at this
  have:=List.length_pos_of_mem hx
  simp only [List.length_cons]; omega
theorem nK.len {l zs:List Pc} (A:nK l zs):zs.length<=l.length:=by
 classical
 exact BL (A.srt.imp fun {a b} h=>by rintro rfl; exact ED _ h) A.sub
/-! what is asked for -/
def chs (name:Tx) (qs:List QU) (s:ByteArray):Bool:=match p8 (U s) with | none=>false | some (n,ls)=>yh name qs n ls
def Nn (f t hz:Int) (ch:ByteArray->Bool) (zs:List Pc):List Pc:=zs.filter fun p=>decide (max f hz<=p.f_T) && decide (p.f_T<=t) && ch p.ak
/-- the pieces of each series -/
def Fz:Nat->List Pc->List (List Pc)
 | _,[]=>[]
 | 0,_=>[]
 | n + 1,x :: l=>(x :: l.takeWhile fun p=>decide (p.ak=x.ak)) :: Fz n (l.dropWhile fun p=>decide (p.ak=x.ak))
def grp (l:List Pc):List (List Pc):=Fz l.length l
theorem vE {α:Type} (p:α->Bool):∀ l:List α,(l.dropWhile p).length<=l.length
 | []=>by simp
 | a :: l=>by
  rw [List.dropWhile_cons]
  have:=vE p l
  split <;> simp <;> omega
theorem Ed:∀ (n m:Nat) (l:List Pc),l.length<=n->l.length<=m->Fz n l=Fz m l
 | n,m,[],_,_=>by cases n <;> cases m <;> rfl
 | 0,m,x :: l,h,_=>by simp at h
 | n + 1,0,x :: l,_,h=>by simp at h
 | n + 1,m + 1,x :: l,h1,h2=>by
  simp only [Fz]
  have:=vE (fun p:Pc=>decide (p.ak=x.ak)) l
  simp only [List.length_cons] at h1 h2
  rw [Ed n m _ (by omega) (by omega)]
theorem Jw:grp []=[]:=rfl
theorem Ic (x:Pc) (l:List Pc):grp (x :: l)=(x :: l.takeWhile fun p=>decide (p.ak=x.ak)) :: grp (l.dropWhile fun p=>decide (p.ak=x.ak)):=by
 unfold grp
 simp only [List.length_cons,Fz]
 rw [Ed l.length _ _ (vE _ _) (Nat.le_refl _)]
theorem H9:∀ (n:Nat) (l:List Pc),l.length<=n->(grp l).flatten=l
 | _,[],_=>rfl
 | 0,x :: l,h=>by simp at h
 | n + 1,x :: l,h=>by
  rw [Ic,List.flatten_cons,H9 n _ (Nat.le_trans (vE _ _) (by simpa using h)),List.cons_append,List.takeWhile_append_dropWhile]
theorem Fb (l:List Pc):(grp l).flatten=l:=H9 l.length l (Nat.le_refl _)
theorem JW:∀ (n:Nat) (l:List Pc),∀ g∈Fz n l,g≠[]
 | n,[],g,h=>by cases n <;> cases h
 | 0,x :: l,g,h=>by cases h
 | n + 1,x :: l,g,h=>by
  simp only [Fz] at h
  rcases List.mem_cons.1 h with rfl | h
  ·simp
  ·exact JW n _ g h
theorem Gt {l g:List Pc} (h:g∈grp l):g≠[]:=JW _ _ g h
theorem FY:∀ (n:Nat) (l:List Pc),∀ g∈Fz n l,∀ x∈g,∀ y∈g,x.ak=y.ak
 | n,[],g,h=>by cases n <;> cases h
 | 0,x :: l,g,h=>by cases h
 | n + 1,x :: l,g,h=>by
  simp only [Fz] at h
  rcases List.mem_cons.1 h with rfl | h
  ·have key:∀ z∈x :: l.takeWhile (fun p=>decide (p.ak=x.ak)),z.ak=x.ak:=fun z hz=>by
    rcases List.mem_cons.1 hz with rfl | hz
    ·rfl
    ·have:=List.all_eq_true.1 (List.all_takeWhile (p:=fun p:Pc=>decide (p.ak=x.ak)) (l:=l)) z hz; simpa using this
   intro a ha b hb
   rw [key a ha,key b hb]
  ·exact FY n _ g h
theorem Kz {l g:List Pc} (h:g∈grp l):∀ x∈g,∀ y∈g,x.ak=y.ak:=FY _ _ g h
/-! rows -/
def wd (n:Int):au:=⟨n / 18446744073709551616,n % 18446744073709551616⟩
abbrev RI:=ByteArray × Int × Int
def rC (r:RI):aH:=⟨r.1,r.2.1,wd r.2.2⟩
def pR (g:List Pc):Int:=(g.map (·.f_V)).sum
def Dj:List Pc->Int
 | []=>0
 | x :: l=>l.foldl (fun m p=>if p.f_V < m then p.f_V else m) x.f_V
def CO:List Pc->Int
 | []=>0
 | x :: l=>l.foldl (fun m p=>if p.f_V > m then p.f_V else m) x.f_V
def atP (step:Int) (p:Pc):Int:=IntKind.i64.wrap (p.f_T / step * step)
def qJ (step:Int) (out:List RI) (p:Pc):List RI:=match out.getLast? with
 | some r=>if r.2.1=atP step p then out.dropLast ++ [(r.1,r.2.1,r.2.2 + p.f_V)] else out ++ [(p.ak,atP step p,p.f_V)]
 | none=>[(p.ak,atP step p,p.f_V)]
def lQ (step:Int) (g:List Pc):List RI:=g.foldl (qJ step) []
def bJ (n:Int):Prop:=-9223372036854775808<=n/\n < 9223372036854775808
instance (n:Int):Decidable (bJ n):=inferInstanceAs (Decidable (_/\_))
def ser (g:List Pc):ByteArray:=match g with | []=>ByteArray.empty | x :: _=>x.ak
def AP (g:List Pc):Option Int:=match g.head?,g.getLast? with
 | some a,some b=>if bJ (b.f_V - a.f_V)/\bJ (b.f_T - a.f_T) then some ((b.f_V - a.f_V) / (b.f_T - a.f_T)) else none
 | _,_=>none
def gU (agg step:Int) (g:List Pc):Option (List RI) :=
 if agg=0 then some (g.map fun p=>(p.ak,p.f_T,p.f_V))
 else if agg=1 then some [(ser g,0,(g.length:Int))]
 else if agg=2 then some [(ser g,0,pR g)]
 else if agg=3 then some [(ser g,0,Dj g)]
 else if agg=4 then some [(ser g,0,CO g)]
 else if agg=5 then (if g.length < 2 then some [] else (AP g).map fun n=>[(ser g,0,n)])
 else some (lQ step g)
def qX (agg step:Int):List (List Pc)->Option (List RI)
 | []=>some []
 | g :: r=>match gU agg step g with | none=>none | some x=>(qX agg step r).map (x ++ ·)
def tZ (q:aC):Int:=if (sG (U q.dF)).isNone then 4 else if q.aW < 0∨q.aW > 6∨q.aW=6/\q.aX < 1 then 1 else 0
def AJ (q:aC) (hz:Int) (zs:List Pc):List Pc:=match sG (U q.dF) with | none=>[] | some (n,qs)=>Nn q.pK q.FE hz (chs n qs) zs
def oh (q:aC) (hz:Int) (zs:List Pc):List RI × Int :=
 if tZ q≠0 then ([],tZ q) else match qX q.aW q.aX (grp (AJ q hz zs)) with | none=>([],19) | some r=>(r,0)
end Go.Q.Yq
end
section
/- Contracts: numbers, pieces between, sums. -/
namespace Go.Q.Yq
/-! numbers -/
theorem Fe {n:Int} (b:bJ n):shr .i64 n (63:Int).toNat=n / 18446744073709551616:=by
 obtain ⟨b0,b1⟩:=b
 unfold shr
 rw [show min (63:Int).toNat (IntKind.bits .i64)=63 from rfl,Int.fdiv_eq_ediv_of_nonneg _ (by decide)]
 show n / 9223372036854775808=_
 omega
theorem CY (n:Int):IntKind.u64.wrap n=n % 18446744073709551616:=by
 unfold IntKind.wrap; simp [IntKind.signed,IntKind.bits]
theorem FQ (n:Int):IntKind.i64.wrap n=(n + 9223372036854775808) % 18446744073709551616 - 9223372036854775808:=by
 unfold IntKind.wrap; simp [IntKind.signed,IntKind.bits]; split <;> omega
theorem Hr {n:Int} (b0:-2535301200456458802993406410752<=n) (b1:n<=2535301200456458802993406410752):bJ (wd n).mH:=by unfold bJ wd; dsimp only; omega
theorem xP {n:Int} {k:KP au} {h:Heap} (b:bJ n) (H:∀ h',Ext h.size h h'->k (wd n) h'):pE n k h:=by
 unfold pE
 refine bx rfl (by decide) fun h' B X=>⟨_,ai.aL B,?_⟩
 rw [Fe b,CY]
 exact H h' X
abbrev bd2 (n:Int):Prop:=-1267650600228229401496703205376<=n/\n<=1267650600228229401496703205376
theorem MK {a b:Int} {k:KP (au × Int)} {h:Heap} (ba:bd2 a) (bb:bd2 b) (H:∀ h',Ext h.size h h'->k (wd (a + b),0) h'):Dm (wd a) (wd b) k h:=by
 unfold Dm
 refine bx0 fun h2 B1 X1=>bx0 fun h4 B3 X3=>bx0 fun h6 B5 X5=>?_
 have z1:=X1.size
 have z3:=X3.size
 have z5:=X5.size
 have C1:=(B1.ext X3 B1.lt).ext X5 (Nat.lt_of_lt_of_le B1.lt z3)
 have C3:=B3.ext X5 B3.lt
 have l5:=B5.lt
 have ha:0<=(wd a).nA/\(wd a).nA < 18446744073709551616:=by unfold wd; dsimp only; omega
 have hb:0<=(wd b).nA/\(wd b).nA < 18446744073709551616:=by unfold wd; dsimp only; omega
 refine ⟨(wd a).nA,C1.cl rfl,(wd b).nA,C3.cl rfl,⟨ha.1,hb.1,by omega,by omega⟩,_,rfl,_,rfl,(wd a).mH,C1.cl0 rfl,(wd b).mH,C3.cl0 rfl,⟨by rw [CY]; omega,by rw [CY]; omega,by omega,by omega⟩,_,rfl,_,rfl,?_⟩
 have e1:((wd a).nA + (wd b).nA + 0) % 18446744073709551616=(wd (a + b)).nA:=by unfold wd; dsimp only; omega
 have e2:IntKind.i64.wrap ((IntKind.u64.wrap (wd a).mH + IntKind.u64.wrap (wd b).mH + ((wd a).nA + (wd b).nA + 0) / 18446744073709551616) % 18446744073709551616)=(wd (a + b)).mH:=by
  rw [CY,CY,FQ]; unfold wd; dsimp only; omega
 rw [e1,e2]
 refine bx rfl (by decide) fun h9 B9 X9=>?_
 have z9:=X9.size
 have D1:=C1.ext X9 (by omega)
 have D3:=C3.ext X9 (by omega)
 have D5:=B5.ext X9 l5
 have ia:=Hr (n:=a) (by omega) (by omega)
 have ib:=Hr (n:=b) (by omega) (by omega)
 have ic:=Hr (n:=a + b) (by omega) (by omega)
 refine ⟨(wd a).mH,D1.cl0 rfl,(wd b).mH,D3.cl0 rfl,?_⟩
 have fin:wP ⟨h4.size,0,none⟩ ⟨h6.size,0,none⟩ false k h9:=by
  unfold wP
  rw [if_neg (by simp)]
  refine ⟨wd (a + b),ai.aL B9,pY D5 rfl (Nat.le_refl _) fun h10 F U=>⟨_,ai.aL F,H h10 ?_⟩⟩
  exact (X1.trans ((X3.mono z1).trans ((X5.mono (by omega)).trans (X9.mono (by omega))))).trans (U.ext (by omega) (by omega))
 rw [Fe ia,Fe ib]
 by_cases hs:(wd a).mH / 18446744073709551616=(wd b).mH / 18446744073709551616
 ·rw [if_pos (by simpa using hs)]
  refine ⟨(wd (a + b)).mH,B9.cl0 rfl,(wd a).mH,D1.cl0 rfl,?_⟩
  rw [Fe ia,Fe ic]
  rw [show ((wd (a + b)).mH / 18446744073709551616 != (wd a).mH / 18446744073709551616)=false from by
   have:(wd (a + b)).mH / 18446744073709551616=(wd a).mH / 18446744073709551616:=by unfold wd at hs ⊢; dsimp only at hs ⊢; omega
   simpa using this]
  exact fin
 ·rw [if_neg (by simpa using hs)]
  exact fin
theorem JF (a b:Int) (hb:0 < b):a / b=if a.tmod b≠0/\a < 0 then a.tdiv b - 1 else a.tdiv b:=by
 by_cases ha:0<=a
 ·rw [if_neg (by omega),Int.tdiv_eq_ediv_of_nonneg ha]
 ·obtain ⟨m,rfl⟩:∃ m,a = -m:=⟨-a,by omega⟩
  rw [Int.neg_tmod,Int.neg_tdiv,Int.tdiv_eq_ediv_of_nonneg (by omega:0<=m),Int.tmod_eq_emod_of_nonneg (by omega:0<=m)]
  have h1:=Int.emod_nonneg m (by omega:b≠0)
  have h2:=Int.emod_lt_of_pos m hb
  have h3:=Int.emod_add_mul_ediv m b
  by_cases hr:m % b=0
  ·rw [if_neg (by omega)]
   have:-m=b * -(m / b):=by rw [Int.mul_neg]; omega
   rw [this,Int.mul_ediv_cancel_left _ (by omega)]
  ·rw [if_pos (by omega)]
   have:-m=(b - m % b) + b * (-(m / b) - 1):=by rw [Int.mul_sub,Int.mul_neg]; omega
   rw [this,Int.add_mul_ediv_left _ _ (by omega),Int.ediv_eq_zero_of_lt (by omega) (by omega)]
   omega
theorem Jp {a b:Int} (ha:bJ a) (hb:0 < b):bJ (a / b):=by
 obtain ⟨a0,a1⟩:=ha
 constructor
 ·by_cases h:0<=a
  ·have:=Int.ediv_nonneg h (by omega:0<=b); omega
  ·have:a<=a / b:=by
    have h3:=Int.emod_add_mul_ediv a b
    have h2:=Int.emod_lt_of_pos a hb
    rcases Int.lt_or_le (a / b) a with hlt | hle
    ·have:b * (a / b)<=b * (a - 1):=Int.mul_le_mul_of_nonneg_left (by omega) (by omega)
     rw [Int.mul_sub] at this
     have:b * a<=1 * a:=Int.mul_le_mul_of_nonpos_right (by omega) (by omega)
     omega
    ·exact hle
   omega
 ·by_cases h:0<=a
  ·have:=Int.ediv_le_self b h; omega
  ·have:=Int.ediv_neg_of_neg_of_pos (by omega:a < 0) hb; omega
theorem G6 {a b:Int} {k:KP (Int × Int)} {h:Heap} (ia:bJ a) (ib:bJ b) (hb:0 < b) (H:k (a / b,0) h):yY a b k h:=by
 unfold yY vD
 rw [if_neg (by simp; omega),if_neg (by simp; omega)]
 have fi:=Jp ia hb
 have hd:=JF a b hb
 obtain ⟨a0,a1⟩:=ia
 obtain ⟨b0,b1⟩:=ib
 have ti:bJ (a.tdiv b):=by
  unfold bJ at *
  by_cases c:a.tmod b≠0/\a < 0
  ·rw [if_pos c] at hd
   have:a.tdiv b<=0:=by
    obtain ⟨m,rfl⟩:∃ m,a = -m:=⟨-a,by omega⟩
    rw [Int.neg_tdiv,Int.tdiv_eq_ediv_of_nonneg (by omega:0<=m)]
    have:=Int.ediv_nonneg (by omega:0<=m) (by omega:0<=b); omega
   omega
  ·rw [if_neg c] at hd; omega
 refine ⟨by omega,_,rfl,by omega,?_⟩
 rw [Fe ⟨a0,a1⟩,Fe ⟨b0,b1⟩,aA ti.1 ti.2]
 have hbz:b / 18446744073709551616=0:=by omega
 by_cases c:a.tmod b≠0/\a < 0
 ·rw [if_pos c] at hd
  rw [if_pos (by rw [hbz]; simp; exact ⟨c.1,by omega⟩)]
  refine ⟨_,rfl,?_⟩
  rw [← hd,aA fi.1 fi.2]; exact H
 ·rw [if_neg c] at hd
  rw [if_neg (by rw [hbz]; simp only [Bool.and_eq_true,bne_iff_ne]; intro hh; exact c ⟨hh.1,by have:=hh.2; omega⟩)]
  rw [← hd]; exact H
/-! pieces -/
theorem Dc (x:Pc):∀ v∈ae.cs x,v.oneCell'=true:=fun v hv=>by simp [ae.cs,aG.cs] at hv; rcases hv with rfl | rfl | rfl | rfl | rfl <;> rfl
theorem SX (x:aH):(aH.cs x).length=4:=rfl
theorem Eo (x:aH):∀ v∈aH.cs x,v.oneCell'=true:=fun v hv=>by simp [aH.cs,au.cs] at hv; rcases hv with rfl | rfl | rfl | rfl <;> rfl
abbrev Pcs (h:Heap) (s:Slc) (l:List Pc):Prop:=LsAt ae.cs 5 h s l
theorem wI {i:Int} {n:Nat} (h0:0<=i) (h1:i < (n:Int)) (hn:n<=1000000):IntKind.i64.wrap (i + 1)=i + 1:=aA (by omega) (by omega)
theorem take1 {α:Type} {l:List α} {i:Int} {x:α} (h0:0<=i) (hx:l[i.toNat]? = some x):l.take (i + 1).toNat=l.take i.toNat ++ [x]:=by
 obtain ⟨hl,e⟩:=List.getElem?_eq_some_iff.1 hx
 rw [show (i + 1).toNat=i.toNat + 1 from by omega,List.take_succ_eq_append_getElem hl,e]
theorem oV {α:Type} {l:List α} {i:Int} (h:(l.length:Int)<=i):l.take i.toNat=l:=List.take_of_length_le (by omega)
theorem Ik {p0:Slc} {l:List Pc} {f t:Int} {k:KP Slc} {h:Heap} (L:Pcs h p0 l) (m:l.length<=1000000)
  (H:∀ s h',Row h.size h' 89 5 s ((l.filter fun p=>decide (f<=p.f_T) && decide (p.f_T<=t)).flatMap ae.cs)->s.len=(l.filter fun p=>decide (f<=p.f_T) && decide (p.f_T<=t)).length->Ext h.size h h'->k s h'):tu p0 f t k h:=by
 unfold tu yP
 obtain ⟨fl,efl⟩:∃ fl:Pc->Bool,fl=fun p=>decide (f<=p.f_T) && decide (p.f_T<=t):=⟨_,rfl⟩
 rw [← efl] at H
 refine ⟨fun q h'=>0<=q.2/\q.2<=(l.length:Int)/\Ext h.size h h'/\Row h.size h' 89 5 q.1 (((l.take q.2.toNat).filter fl).flatMap ae.cs)/\q.1.len=((l.take q.2.toNat).filter fl).length,fun q _=>l.length - q.2.toNat,⟨by dsimp only; omega,by dsimp only; omega,Ext.refl _ _,by simpa using Row.nil _ _ _ _,by simp⟩,?_⟩
 rintro t7 i h1 ⟨i0,i1,X,R,rl⟩
 dsimp only at i0 i1 R rl ⊢
 unfold yf
 rw [L.l]
 have z1:=X.size
 by_cases hi:i < (l.length:Int)
 ·rw [if_pos (by simpa using hi)]
  obtain ⟨a,x,ha,g0,g1,hx,hc⟩:=(L.ext X).it i0 hi
  rw [L.l] at g1
  refine ⟨a,ha,g0,g1,x,hc,bx rfl (by decide) fun h5 B X5=>?_⟩
  have z5:=X5.size
  have X05:=X.trans (X5.mono z1)
  have fi:fl x=(decide (f<=x.f_T) && decide (x.f_T<=t)):=by rw [efl]
  have tk:=take1 i0 hx
  have ln:((l.take i.toNat).filter fl).length<=1000000:=Nat.le_trans (List.length_filter_le _ _) (by rw [List.length_take]; omega)
  have R5:=R.ext X5 fun g hg=>(R.bd hg).2
  have nxt:∀ s h6,Ext h.size h h6->Row h.size h6 89 5 s (((l.take (i + 1).toNat).filter fl).flatMap ae.cs)->s.len=((l.take (i + 1).toNat).filter fl).length->mQ f t p0 (l.length:Int) i s k (fun s h'=>(0<=s.2/\s.2<=(l.length:Int)/\Ext h.size h h'/\Row h.size h' 89 5 s.1 (((l.take s.2.toNat).filter fl).flatMap ae.cs)/\s.1.len=((l.take s.2.toNat).filter fl).length)/\l.length - s.2.toNat < l.length - i.toNat) h6:=fun s h6 X6 R6 l6=>by
   unfold mQ
   rw [wI i0 hi m]
   exact ⟨⟨by dsimp only; omega,by dsimp only; omega,X6,R6,l6⟩,by dsimp only; omega⟩
  have g3:∀ b,b=fl x->mV f t t7 ⟨h1.size,0,none⟩ p0 (l.length:Int) i b k _ h5:=fun b hb=>by
   unfold mV
   cases hf:b with
   | true =>
    rw [if_pos rfl]
    refine ⟨x,ai.aL B,bx0 fun h9 B9 X9=>app1 (R5.ext X9 fun g hg=>(R5.bd hg).2) (by have:=X9.size; omega) rfl rfl (Dc x) (by omega) (by unfold maxLen; omega) fun s h10 R10 l10 X10=>?_⟩
    have ef:(l.take (i + 1).toNat).filter fl=(l.take i.toNat).filter fl ++ [x]:=by rw [tk,List.filter_append]; simp [← hb,hf]
    refine nxt s h10 ((X05.trans (X9.mono (by omega))).trans X10) ?_ ?_
    ·rw [ef,List.flatMap_append]; simpa using R10
    ·rw [ef,l10,rl]; simp
   | false =>
    rw [if_neg (by simp)]
    have ef:(l.take (i + 1).toNat).filter fl=(l.take i.toNat).filter fl:=by rw [tk,List.filter_append]; simp [← hb,hf]
    refine nxt t7 h5 X05 ?_ ?_
    ·rw [ef]; exact R5
    ·rw [ef]; exact rl
  refine ⟨x.f_T,B.cl rfl,?_⟩
  by_cases hf:f<=x.f_T
  ·rw [if_pos (by simpa using hf)]
   exact ⟨x.f_T,B.cl rfl,g3 _ (by rw [fi]; simp [hf])⟩
  ·rw [if_neg (by simpa using hf)]
   exact g3 _ (by rw [fi]; simp [hf])
 ·rw [if_neg (by simpa using hi)]
  rw [oV (by omega)] at R rl
  exact H t7 h1 R rl X
/-! sums -/
theorem Ko {l:List Pc} {i:Int} {x:Pc} (h0:0<=i) (hx:l[i.toNat]? = some x):pR (l.take (i + 1).toNat)=pR (l.take i.toNat) + x.f_V:=by
 rw [take1 h0 hx]; simp [pR]
theorem CW:∀ {l:List Pc},(∀ p∈l,bJ p.f_V)->-9223372036854775808 * (l.length:Int)<=pR l/\pR l<=9223372036854775808 * (l.length:Int)
 | [],_=>by simp [pR]
 | x :: l,hb=>by
  have ih:=CW (l:=l) fun p hp=>hb p (List.mem_cons_of_mem _ hp)
  have hx:=hb x List.mem_cons_self
  unfold bJ at hx
  simp only [pR,List.map_cons,List.sum_cons,List.length_cons] at *
  omega
theorem Mw {l:List Pc} (hb:∀ p∈l,bJ p.f_V) (m:l.length<=1000000):bd2 (pR l):=by
 have:=CW hb
 unfold bd2; omega
theorem Gx {n:Int} (h:bJ n):bd2 n:=by unfold bJ at h; unfold bd2; omega
theorem Ps {p0:Slc} {l:List Pc} {k:KP au} {h:Heap} (L:Pcs h p0 l) (m:l.length<=1000000) (hb:∀ p∈l,bJ p.f_V) (H:∀ h',Ext h.size h h'->k (wd (pR l)) h'):Bz p0 k h:=by
 unfold Bz Cw
 refine bx0 fun h2 B1 X1=>bx0 fun h4 B3 X3=>?_
 have z1:=X1.size
 have z3:=X3.size
 have l1:=B1.lt
 refine ⟨fun i h'=>0<=i/\i<=(l.length:Int)/\Ext h.size h h'/\h4.size<=h'.size/\Blk h' h.size (au.cs ⟨0,0⟩) 116/\Blk h' h2.size (au.cs (wd (pR (l.take i.toNat)))) 116,fun i _=>l.length - i.toNat,⟨by omega,by omega,X1.trans (X3.mono z1),Nat.le_refl _,B1.ext X3 l1,by simpa [pR,wd] using B3⟩,?_⟩
 rintro i h5 ⟨i0,i1,X,z5,C1,C3⟩
 unfold BQ
 rw [L.l]
 have hz:=X.size
 have hbt:∀ p∈l.take i.toNat,bJ p.f_V:=fun p hp=>hb p (List.mem_of_mem_take hp)
 by_cases hi:i < (l.length:Int)
 ·rw [if_pos (by simpa using hi)]
  obtain ⟨a,x,ha,g0,g1,hx,hc⟩:=(L.ext X).it i0 hi
  rw [L.l] at g1
  refine ⟨a,ha,g0,g1,x,hc,bx rfl (by decide) fun h9 B9 X9=>?_⟩
  have z9:=X9.size
  have D3:=C3.ext X9 C3.lt
  have D1:=C1.ext X9 C1.lt
  have vx:=hb x (List.mem_of_getElem? hx)
  refine ⟨_,ai.aL D3,x.f_V,B9.cl rfl,xP vx fun h13 X13=>⟨(ai.aL D3).ext X13,MK (Mw hbt (by rw [List.length_take]; omega)) (Gx vx) fun h16 X16=>?_⟩⟩
  have z13:=X13.size
  have z16:=X16.size
  have E3:=(D3.ext X13 D3.lt).ext X16 (Nat.lt_of_lt_of_le D3.lt z13)
  have E1:=(D1.ext X13 D1.lt).ext X16 (Nat.lt_of_lt_of_le D1.lt z13)
  refine pY E3 rfl (Nat.le_refl 2) fun h17 F U=>?_
  have z17:=U.size
  rw [wI i0 hi m]
  refine ⟨⟨by omega,by omega,((X.trans (X9.mono hz)).trans ((X13.mono (by omega)).trans (X16.mono (by omega)))).trans (U.ext (by omega) (by omega)),by omega,U.blk E1 (by omega),?_⟩,by dsimp only; omega⟩
  rw [Ko i0 hx]; exact F
 ·rw [if_neg (by simpa using hi)]
  rw [oV (by omega)] at C3
  refine ⟨_,ai.aL C3,pY C1 rfl (Nat.le_refl _) fun h9 F U=>⟨_,ai.aL F,H h9 (X.trans (U.ext (by omega) (by omega)))⟩⟩
end Go.Q.Yq
end
section
/- Contracts: least, greatest, rates, steps, rows. -/
namespace Go.Q.Yq
theorem Ig {x y:Pc} {k:KP Int} {h:Heap} (H:∀ h',Ext h.size h h'->k (cI x.f_V y.f_V) h'):vW x y k h:=by
 unfold vW
 unfold cI at H
 refine bx0 fun h2 B1 X1=>bx0 fun h4 B3 X3=>?_
 have z1:=X1.size
 have C1:=B1.ext X3 B1.lt
 have X:=X1.trans (X3.mono z1)
 refine ⟨x.f_V,C1.cl rfl,y.f_V,B3.cl rfl,?_⟩
 by_cases h1:x.f_V < y.f_V
 ·rw [if_pos (by simpa using h1)]
  rw [if_pos h1] at H; exact ⟨_,rfl,H _ X⟩
 ·rw [if_neg (by simpa using h1)]
  rw [if_neg h1] at H
  refine ⟨x.f_V,C1.cl rfl,y.f_V,B3.cl rfl,?_⟩
  by_cases h2:x.f_V > y.f_V
  ·rw [if_pos (by simpa using h2)]
   rw [if_pos h2] at H; exact H _ X
  ·rw [if_neg (by simpa using h2)]
   rw [if_neg h2] at H; exact H _ X
theorem MJ {a b:Int}:cI a b < 0 ↔ a < b:=by unfold cI; split <;> (try split) <;> omega
theorem KG {a b:Int}:cI a b > 0 ↔ a > b:=by unfold cI; split <;> (try split) <;> omega
theorem J5 {g:List Pc} {x:Pc} (hg:g≠[]):Dj (g ++ [x])=if x.f_V < Dj g then x.f_V else Dj g:=by
 cases g with
 | nil=>exact absurd rfl hg
 | cons a r=>simp only [Dj,List.cons_append,List.foldl_append,List.foldl_cons,List.foldl_nil]; rfl
theorem Km {g:List Pc} {x:Pc} (hg:g≠[]):CO (g ++ [x])=if x.f_V > CO g then x.f_V else CO g:=by
 cases g with
 | nil=>exact absurd rfl hg
 | cons a r=>simp only [CO,List.cons_append,List.foldl_append,List.foldl_cons,List.foldl_nil]; rfl
theorem Py {p0:Slc} {l:List Pc} {k:KP Pc} {h:Heap} (L:Pcs h p0 l) (m:l.length<=1000000) (ne:l≠[]) (H:∀ y h',y∈l->y.f_V=Dj l->Ext h.size h h'->k y h'):bD p0 k h:=by
 unfold bD
 have pos:0 < l.length:=List.length_pos_iff.2 ne
 refine bx0 fun h2 B1 X1=>?_
 rw [if_neg (by rw [L.l]; simp; omega)]
 unfold cB
 have z1:=X1.size
 obtain ⟨a,x,ha,g0,g1,hx,hc⟩:=(L.ext X1).it (i:=0) (Int.le_refl _) (by omega)
 refine ⟨a,ha,g0,g1,x,hc,bx rfl (by decide) fun h7 B5 X5=>?_⟩
 have z5:=X5.size
 unfold eY
 refine ⟨fun i h'=>1<=i/\i<=(l.length:Int)/\Ext h.size h h'/\h7.size<=h'.size/\Blk h' h.size (ae.cs ⟨ByteArray.empty,0,0,⟨0,0⟩⟩) 89/\∃ y,y∈l/\y.f_V=Dj (l.take i.toNat)/\Blk h' h2.size (ae.cs y) 89,fun i _=>l.length - i.toNat,
  ⟨Int.le_refl _,by omega,X1.trans (X5.mono z1),Nat.le_refl _,B1.ext X5 B1.lt,x,List.mem_of_getElem? hx,?_,B5⟩,?_⟩
 ·cases l with
  | nil=>simp at pos
  | cons b r=>simp at hx; subst hx; rfl
 rintro i h8 ⟨i0,i1,X,z8,C1,y,yl,yv,C5⟩
 unfold eQ
 rw [L.l]
 have hz:=X.size
 have l1:=B1.lt
 by_cases hi:i < (l.length:Int)
 ·rw [if_pos (by simpa using hi)]
  obtain ⟨a,x,ha,g0,g1,hx,hc⟩:=(L.ext X).it (i:=i) (by omega) hi
  rw [L.l] at g1
  refine ⟨a,ha,g0,g1,x,hc,y,ai.aL C5,Ig fun h13 X13=>?_⟩
  have z13:=X13.size
  have D5:=C5.ext X13 C5.lt
  have D1:=C1.ext X13 C1.lt
  have X03:=X.trans (X13.mono hz)
  have tk:=take1 (by omega) hx
  have sn:=J5 (g:=l.take i.toNat) (x:=x) (by intro e; have:=congrArg List.length e; rw [List.length_take,List.length_nil] at this; omega)
  rw [← tk,← yv] at sn
  by_cases hv:x.f_V < y.f_V
  ·rw [if_pos (by simpa using MJ.2 hv)]
   rw [if_pos hv] at sn
   refine ⟨a,ha,g0,g1,x,hc.ext X13,pY D5 rfl (Nat.le_refl _) fun h16 F U=>?_⟩
   have z16:=U.size
   refine ⟨_,rfl,?_⟩
   rw [wI (by omega) hi m]
   exact ⟨⟨by omega,by omega,X03.trans (U.ext (by omega) (by omega)),by omega,U.blk D1 (by omega),x,List.mem_of_getElem? hx,sn.symm,F⟩,by dsimp only; omega⟩
  ·rw [if_neg (by simpa using fun h=>hv (MJ.1 h))]
   rw [if_neg hv] at sn
   refine ⟨_,rfl,?_⟩
   rw [wI (by omega) hi m]
   exact ⟨⟨by omega,by omega,X03,by omega,D1,y,yl,sn.symm,D5⟩,by dsimp only; omega⟩
 ·rw [if_neg (by simpa using hi)]
  rw [oV (by omega)] at yv
  exact ⟨y,ai.aL C5,pY C1 rfl (Nat.le_refl _) fun h9 F U=>⟨_,ai.aL F,H y h9 yl yv (X.trans (U.ext (by omega) (by omega)))⟩⟩
theorem OZ {p0:Slc} {l:List Pc} {k:KP Pc} {h:Heap} (L:Pcs h p0 l) (m:l.length<=1000000) (ne:l≠[]) (H:∀ y h',y∈l->y.f_V=CO l->Ext h.size h h'->k y h'):bE p0 k h:=by
 unfold bE
 have pos:0 < l.length:=List.length_pos_iff.2 ne
 refine bx0 fun h2 B1 X1=>?_
 rw [if_neg (by rw [L.l]; simp; omega)]
 unfold cO
 have z1:=X1.size
 obtain ⟨a,x,ha,g0,g1,hx,hc⟩:=(L.ext X1).it (i:=0) (Int.le_refl _) (by omega)
 refine ⟨a,ha,g0,g1,x,hc,bx rfl (by decide) fun h7 B5 X5=>?_⟩
 have z5:=X5.size
 unfold eX
 refine ⟨fun i h'=>1<=i/\i<=(l.length:Int)/\Ext h.size h h'/\h7.size<=h'.size/\Blk h' h.size (ae.cs ⟨ByteArray.empty,0,0,⟨0,0⟩⟩) 89/\∃ y,y∈l/\y.f_V=CO (l.take i.toNat)/\Blk h' h2.size (ae.cs y) 89,fun i _=>l.length - i.toNat,
  ⟨Int.le_refl _,by omega,X1.trans (X5.mono z1),Nat.le_refl _,B1.ext X5 B1.lt,x,List.mem_of_getElem? hx,?_,B5⟩,?_⟩
 ·cases l with
  | nil=>simp at pos
  | cons b r=>simp at hx; subst hx; rfl
 rintro i h8 ⟨i0,i1,X,z8,C1,y,yl,yv,C5⟩
 unfold eO
 rw [L.l]
 have hz:=X.size
 have l1:=B1.lt
 by_cases hi:i < (l.length:Int)
 ·rw [if_pos (by simpa using hi)]
  obtain ⟨a,x,ha,g0,g1,hx,hc⟩:=(L.ext X).it (i:=i) (by omega) hi
  rw [L.l] at g1
  refine ⟨a,ha,g0,g1,x,hc,y,ai.aL C5,Ig fun h13 X13=>?_⟩
  have z13:=X13.size
  have D5:=C5.ext X13 C5.lt
  have D1:=C1.ext X13 C1.lt
  have X03:=X.trans (X13.mono hz)
  have tk:=take1 (by omega) hx
  have sn:=Km (g:=l.take i.toNat) (x:=x) (by intro e; have:=congrArg List.length e; rw [List.length_take,List.length_nil] at this; omega)
  rw [← tk,← yv] at sn
  by_cases hv:x.f_V > y.f_V
  ·rw [if_pos (by simpa using KG.2 hv)]
   rw [if_pos hv] at sn
   refine ⟨a,ha,g0,g1,x,hc.ext X13,pY D5 rfl (Nat.le_refl _) fun h16 F U=>?_⟩
   have z16:=U.size
   refine ⟨_,rfl,?_⟩
   rw [wI (by omega) hi m]
   exact ⟨⟨by omega,by omega,X03.trans (U.ext (by omega) (by omega)),by omega,U.blk D1 (by omega),x,List.mem_of_getElem? hx,sn.symm,F⟩,by dsimp only; omega⟩
  ·rw [if_neg (by simpa using fun h=>hv (KG.1 h))]
   rw [if_neg hv] at sn
   refine ⟨_,rfl,?_⟩
   rw [wI (by omega) hi m]
   exact ⟨⟨by omega,by omega,X03,by omega,D1,y,yl,sn.symm,D5⟩,by dsimp only; omega⟩
 ·rw [if_neg (by simpa using hi)]
  rw [oV (by omega)] at yv
  exact ⟨y,ai.aL C5,pY C1 rfl (Nat.le_refl _) fun h9 F U=>⟨_,ai.aL F,H y h9 yl yv (X.trans (U.ext (by omega) (by omega)))⟩⟩
/-! rates -/
theorem G8 {a b:Int} {k:KP (Int × Bool)} {h:Heap} (ia:bJ a) (ib:bJ b) (H:∀ d,(bJ (a - b)->d=a - b)->k (d,decide (bJ (a - b))) h):uy a b k h:=by
 unfold uy
 refine ⟨_,rfl,?_⟩
 have e:((decide (IntKind.i64.wrap (a - b) < a)) == (decide (b > 0)))=decide (bJ (a - b)):=by
  rw [FQ,Bool.eq_iff_iff]
  simp only [beq_iff_eq,decide_eq_decide,decide_eq_true_eq]
  obtain ⟨a0,a1⟩:=ia
  obtain ⟨b0,b1⟩:=ib
  constructor
  ·intro h; exact ⟨by omega,by omega⟩
  ·rintro ⟨h,h2⟩; omega
 rw [e]
 exact H _ fun hi=>aA hi.1 hi.2
theorem Nh {p0:Slc} {l:List Pc} {k:KP (Int × Int)} {h:Heap} (L:Pcs h p0 l) (m:l.length<=1000000) (hb:∀ p∈l,bJ p.f_V/\bJ p.f_T) {a b:Pc} (ha:l.head? = some a) (hl:l.getLast? = some b) (ht:a.f_T < b.f_T)
  (H0:∀ h',AP l=none->Ext h.size h h'->k (0,19) h') (H1:∀ n h',AP l=some n->bJ n->Ext h.size h h'->k (n,0) h'):zV p0 k h:=by
 have ab:=hb a (List.mem_of_mem_head? ha)
 have bb:=hb b (List.mem_of_getLast? hl)
 have ne:l≠[]:=by rintro rfl; cases ha
 have pos:0 < l.length:=List.length_pos_iff.2 ne
 have ha0:l[(0:Int).toNat]? = some a:=by rw [← ha,List.head?_eq_getElem?]; rfl
 have hlw:IntKind.i64.wrap ((p0.len:Int) - 1)=(l.length:Int) - 1:=by rw [L.l,aA (by omega) (by omega)]
 have hb0:l[((l.length:Int) - 1).toNat]? = some b:=by rw [← hl,List.getLast?_eq_getElem?]; congr 1; omega
 have j1:∀ x y h',Ext h.size h h'->Blk h' x (ae.cs a) 89->Blk h' y (ae.cs b) 89->p9 ⟨x,0,none⟩ ⟨y,0,none⟩ k h':=fun x y h' X A B=>by
  unfold p9
  refine ⟨b.f_V,B.cl rfl,a.f_V,A.cl rfl,G8 bb.1 ab.1 fun dv ev=>⟨b.f_T,B.cl rfl,a.f_T,A.cl rfl,G8 bb.2 ab.2 fun dt et=>?_⟩⟩
  by_cases c:bJ (b.f_V - a.f_V)/\bJ (b.f_T - a.f_T)
  ·rw [if_neg (by simp [c.1,c.2])]
   rw [ev c.1,et c.2]
   refine G6 c.1 c.2 (by omega) (H1 _ h' ?_ (Jp c.1 (by omega)) X)
   unfold AP; rw [ha,hl]; dsimp only; rw [if_pos c]
  ·rw [if_pos (by
    by_cases c1:bJ (b.f_V - a.f_V)
    ·simp [show ¬ bJ (b.f_T - a.f_T) from fun c2=>c ⟨c1,c2⟩]
    ·simp [c1])]
   exact H0 h' (by unfold AP; rw [ha,hl]; dsimp only; rw [if_neg c]) X
 unfold zV
 rw [hlw]
 obtain ⟨x,v,hx,x0,x1,xv,xc⟩:=L.it (i:=0) (Int.le_refl _) (by omega)
 rw [ha0] at xv; cases xv
 obtain ⟨y,w,hy,y0,y1,yv,yc⟩:=L.it (i:=(l.length:Int) - 1) (by omega) (by omega)
 rw [hb0] at yv; cases yv
 refine ⟨x,hx,x0,x1,a,xc,y,hy,y0,y1,b,yc,?_,?_⟩
 ·refine bx0 fun h2 B1 X1=>⟨yc.ext X1,xc.ext X1,bx0 fun h3 B3 X3=>?_⟩
  have z1:=X1.size
  have z3:=X3.size
  have X:=X1.trans (X3.mono z1)
  refine ⟨yc.ext X,xc.ext X,pY (B1.ext X3 B1.lt) rfl (by decide) fun h4 C U=>?_⟩
  have Xu:=X.trans (U.ext (Nat.le_refl _) (by omega))
  have z4:=U.size
  have l1:=B1.lt
  refine ⟨yc.ext Xu,pY (U.blk B3 (by omega)) rfl (by decide) fun h5 D V=>j1 _ _ h5 (Xu.trans (V.ext (by omega) (by omega))) (V.blk C (by omega)) D⟩
 ·refine bx0 fun h2 B1 X1=>⟨yc.ext X1,xc.ext X1,bx0 fun h3 B3 X3=>?_⟩
  have z1:=X1.size
  have z3:=X3.size
  have X:=X1.trans (X3.mono z1)
  have l1:=B1.lt
  refine ⟨yc.ext X,xc.ext X,pY B3 rfl (by decide) fun h4 C U=>?_⟩
  have Xu:=X.trans (U.ext (by omega) (by omega))
  have z4:=U.size
  refine ⟨yc.ext Xu,pY (U.blk (B1.ext X3 l1) (by omega)) rfl (by decide) fun h5 D V=>j1 _ _ h5 (Xu.trans (V.ext (Nat.le_refl _) (by omega))) (V.blk C (by omega)) D⟩
end Go.Q.Yq
end

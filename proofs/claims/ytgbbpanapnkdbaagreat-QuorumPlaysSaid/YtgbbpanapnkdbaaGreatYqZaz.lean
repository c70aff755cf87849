/- A part of the proof of statements of this seat: lemmas, no statement of their own. -/
import Derived.Test.YtgbbpanapnkdbaaGreatYqZam
import Derived.Test.YtgbbpanapnkdbaaGreatYqZay
set_option linter.unusedVariables false
set_option linter.unusedSimpArgs false
set_option maxRecDepth 100000
section
/- What the laws of queries need. -/
namespace Go.Q.Yq
open Go.Q.Rw
theorem Ni {q:aC} {hz:Int} {l m z1 z2:List Pc} (A:nK l z1∨(tZ q≠0/\z1=[])) (B:nK m z2∨(tZ q≠0/\z2=[])) (h:∀ z,z∈l ↔ z∈m):oh q hz z1=oh q hz z2:=by
 by_cases hc:tZ q=0
 ·rcases A with A | A
  ·rcases B with B | B
   ·rw [A.uniq B h]
   ·exact absurd hc B.1
  ·exact absurd hc A.1
 ·unfold oh
  rw [if_pos hc,if_pos hc]
end Go.Q.Yq
end
section
/- The document's labels: letters, words, checks, choices. -/
namespace Go.Q.Yq
theorem JN {l:Tx} {c:UInt8} (h:cu l=true) (hc:aO c=false):c ∉ l:=fun hm=>by
 unfold cu at h
 rw [Bool.and_eq_true] at h
 have:=List.all_eq_true.1 h.1 c hm
 rw [hc] at this; cases this
theorem PG {a b:Tx} {c:UInt8} (h:c ∉ a):jV (a ++ c :: b) c=(a,b,true):=by
 have hp:∀ x∈a,(x != c)=true:=fun x hx=>by simp; exact fun e=>h (e ▸ hx)
 unfold jV
 rw [if_pos (by simp),List.takeWhile_append_of_pos hp,List.dropWhile_append_of_pos hp]
 simp
theorem EQ {a:Tx} {c:UInt8} (h:c ∉ a):jV a c=(a,[],false):=by unfold jV; rw [if_neg h]
theorem EI:∀ a b:Tx,(Op.bytesLess a b || a == b) = !(Op.bytesLess b a)
 | [],[]=>rfl
 | [],_ :: _=>rfl
 | _ :: _,[]=>rfl
 | x :: a,y :: b=>by
  have ih:=EI a b
  rw [Op.bytesLess,Op.bytesLess]
  by_cases h1:x < y
  ·have h2:¬ y < x:=by rw [UInt8.lt_iff_toNat_lt] at *; omega
   have h3:¬ y=x:=fun e=>by subst e; exact h2 h1
   simp [h1,h2,h3]
  ·by_cases h2:y < x
   ·have h3:¬ x=y:=fun e=>by subst e; exact h1 h2
    simp [h1,h2,h3]
   ·have h3:x=y:=by
     apply UInt8.toNat_inj.1
     rw [UInt8.lt_iff_toNat_lt] at *; omega
    subst h3
    have e:(x :: a == x :: b)=(a == b):=by simp [List.cons_beq_cons]
    rw [e]
    simpa using ih
theorem Cs {c:UInt8} {k:KP Bool} {h:Heap} (H:k (aO c) h):pM (c.toNat:Int) k h:=by
 unfold pM
 have e:∀ n:Nat,(hn:n < 256)->(((c.toNat:Int) == (n:Int))=(c == UInt8.ofNat n)):=fun n hn=>by
  have h1:(UInt8.ofNat n).toNat=n:=by simp [UInt8.toNat_ofNat]; omega
  by_cases hc:c=UInt8.ofNat n
  ·subst hc; rw [h1]; simp
  ·rw [show (c == UInt8.ofNat n)=false from by simpa using hc]
   simp only [beq_eq_false_iff_ne,ne_eq]
   intro he
   exact hc (UInt8.toNat_inj.1 (by rw [h1]; omega))
 have e1:=e 95 (by omega)
 have e2:=e 45 (by omega)
 have e3:=e 46 (by omega)
 have e4:=e 47 (by omega)
 have d1:(decide ((c.toNat:Int)>=97) && decide ((c.toNat:Int)<=122))=(decide (97<=c.toNat) && decide (c.toNat<=122)):=by congr 1 <;> exact decide_eq_decide.2 (by omega)
 have d2:(decide ((c.toNat:Int)>=65) && decide ((c.toNat:Int)<=90))=(decide (65<=c.toNat) && decide (c.toNat<=90)):=by congr 1 <;> exact decide_eq_decide.2 (by omega)
 have d3:(decide ((c.toNat:Int)>=48) && decide ((c.toNat:Int)<=57))=(decide (48<=c.toNat) && decide (c.toNat<=57)):=by congr 1 <;> exact decide_eq_decide.2 (by omega)
 have x1:((c.toNat:Int) == 95)=(c == 95):=e1
 have x2:((c.toNat:Int) == 45)=(c == 45):=e2
 have x3:((c.toNat:Int) == 46)=(c == 46):=e3
 have x4:((c.toNat:Int) == 47)=(c == 47):=e4
 rw [d1,d2,d3,x1,x2,x3,x4]
 exact H
theorem zg {l:Tx} {k:KP Bool} {h:Heap} (H:k (cu l) h):nW (ofL l) k h:=by
 unfold nW
 rw [dI]
 by_cases hb:l.length < 1∨l.length > 24
 ·rw [if_pos (by simp only [Bool.or_eq_true,decide_eq_true_eq]; omega)]
  have:cu l=false:=by
   unfold cu
   rw [show (decide (0 < l.length) && decide (l.length<=24))=false from by
    simp only [Bool.and_eq_false_iff,decide_eq_false_iff_not]; omega]
   rw [Bool.and_false]
  rw [this] at H; exact H
 rw [if_neg (by simp only [Bool.or_eq_true,decide_eq_true_eq]; omega)]
 have sz:(decide (0 < l.length) && decide (l.length<=24))=true:=by simp only [Bool.and_eq_true,decide_eq_true_eq]; omega
 refine ⟨fun i h'=>0<=i/\i<=l.length/\(l.take i.toNat).all aO=true/\h'=h,fun i _=>(l.length - i).toNat,⟨by omega,by omega,by simp,rfl⟩,?_⟩
 rintro i h' ⟨i0,i1,ha,e⟩
 subst e
 unfold A8
 rw [dI]
 by_cases hi:i < l.length
 ·rw [if_pos (by rw [decide_eq_true_eq]; exact hi)]
  have hx:l[i.toNat]? = some (l[i.toNat]'(by omega)):=by simp
  generalize l[i.toNat]'(by omega)=c at *
  refine ⟨_,i0,vM hx,Cs ?_⟩
  cases hc:aO c with
  | true =>
   rw [if_neg (by simp),aA (by omega) (by omega)]
   refine ⟨_,rfl,⟨by omega,by omega,?_,rfl⟩,by dsimp only; omega⟩
   rw [show (i + 1).toNat=i.toNat + 1 from by omega,List.take_add_one,hx]
   simp [ha,hc]
  | false =>
   rw [if_pos (by simp)]
   have:cu l=false:=by
    have:l.all aO=false:=by
     cases hh:l.all aO with
     | false=>rfl
     | true=>have:=List.all_eq_true.1 hh c (List.mem_of_getElem? hx); rw [hc] at this; cases this
    unfold cu; rw [this]; rfl
   rw [this] at H; exact H
 ·rw [if_neg (by rw [decide_eq_true_eq]; exact hi)]
  rw [List.take_of_length_le (by omega)] at ha
  unfold cu at H
  rw [ha,sz] at H
  exact H
theorem Ka {name:Tx} {s:Slc} {ls:List LU} {k:KP Bool} {h:Heap} (L:LsAt aD.cs 2 h s (ls.map lst))
  (H:∀ h',Ext h.size h h'->k (yo name ls) h'):xZ ⟨ofL name,s⟩ k h:=by
 have sl:s.len=ls.length:=by have:=L.l; simpa using this
 unfold xZ
 refine ⟨_,_,rfl,rfl,?_⟩
 have P:=Blk.push h (ay.cs ⟨ofL name,s⟩) 147
 have W:=Ext.push h (.cells (ay.cs ⟨ofL name,s⟩).toArray 147) (Nat.le_refl _)
 generalize h.push (.cells (ay.cs ⟨ofL name,s⟩).toArray 147)=h2 at *
 have L2:=L.ext W
 have cs:ah h2 ((⟨h.size,0,none⟩:Addr).add 1)=some (Slc.v s):=by rw [add_mk,P.cell]; rfl
 have F:=H h2 W
 unfold yo at F
 refine ⟨ofL name,by rw [P.cell]; rfl,zg ?_⟩
 cases hw:cu name with
 | false =>
  rw [hw,if_neg (by simp)] at F
  rw [if_pos (by simp)]
  unfold oK
  rw [if_pos rfl]; exact F
 | true =>
 rw [hw,if_pos rfl] at F
 rw [if_neg (by simp)]
 refine ⟨s,cs,?_⟩
 unfold oK
 by_cases h8:ls.length > 8
 ·rw [if_pos h8] at F
  rw [if_pos (by rw [decide_eq_true_eq]; omega)]; exact F
 rw [if_neg h8] at F
 rw [if_neg (by rw [decide_eq_true_eq]; omega)]
 refine ⟨fun i h'=>0<=i/\i<=ls.length/\xm (uZ ls i.toNat) (ls.drop i.toNat)=xm none ls/\h'=h2,fun i _=>(ls.length - i).toNat,⟨by omega,by omega,rfl,rfl⟩,?_⟩
 rintro i h' ⟨i0,i1,hc,e⟩
 subst e
 unfold Ah
 refine ⟨s,cs,?_⟩
 by_cases hi:i < ls.length
 ·rw [if_pos (by rw [decide_eq_true_eq]; omega)]
  have hx:ls[i.toNat]? = some (ls[i.toNat]'(by omega)):=by simp
  have hd:ls.drop i.toNat=(ls[i.toNat]'(by omega)) :: ls.drop (i.toNat + 1):=List.drop_eq_getElem_cons (by omega)
  generalize ls[i.toNat]'(by omega)=x at *
  rw [hd,FR] at hc
  obtain ⟨a,ha,C⟩:=L2.at' i.toNat (lst x) (by rw [List.getElem?_map,hx]; rfl)
  have C0:=C 0 (.string (ofL x.1)) rfl
  rw [show (a.add (i.toNat * 2)).add 0=a.add (i.toNat * 2) from by simp [Addr.add]] at C0
  have j3:∀ b:Bool,(b=true->xm none ls=false)->(b=false->xm (some x.1) (ls.drop (i.toNat + 1))=xm none ls)->fZ ⟨h.size,0,none⟩ i b k (fun q h''=>(0<=q/\q<=(ls.length:Int)/\xm (uZ ls q.toNat) (ls.drop q.toNat)=xm none ls/\h''=h')/\((ls.length:Int) - q).toNat < ((ls.length:Int) - i).toNat) h':=fun b b1 b2=>by
   unfold fZ
   cases b with
   | true =>
    rw [if_pos rfl]
    rw [b1 rfl] at F; exact F
   | false =>
    rw [if_neg (by simp),aA (by omega) (by omega)]
    refine ⟨_,rfl,⟨by omega,by omega,?_,rfl⟩,by omega⟩
    rw [show (i + 1).toNat=i.toNat + 1 from by omega]
    have:uZ ls (i.toNat + 1)=some x.1:=by unfold uZ; rw [if_neg (by omega),show i.toNat + 1 - 1=i.toNat from by omega,hx]; rfl
    rw [this]; exact b2 rfl
  refine ⟨s,cs,a,ha,i0,by omega,ofL x.1,C0,zg ?_⟩
  cases hw1:cu x.1 with
  | false =>
   rw [hw1,if_neg (by simp)] at hc
   rw [if_pos (by simp),if_pos rfl]
   exact j3 true (fun _=>hc.symm) (fun h=>by cases h)
  | true =>
   rw [hw1,if_pos rfl] at hc
   rw [if_neg (by simp)]
   refine ⟨s,cs,a,ha,i0,by omega,ofL x.2,C 1 _ rfl,zg ?_⟩
   cases hw2:cu x.2 with
   | false =>
    rw [hw2,if_neg (by simp)] at hc
    rw [if_pos (by simp)]
    exact j3 true (fun _=>hc.symm) (fun h=>by cases h)
   | true =>
    rw [hw2,if_pos rfl] at hc
    rw [if_neg (by simp)]
    by_cases hi0:i > 0
    ·rw [if_pos (by simpa using hi0)]
     rw [aA (x:=i - 1) (by omega) (by omega)]
     have hy:ls[i.toNat - 1]? = some (ls[i.toNat - 1]'(by omega)):=by simp
     generalize ls[i.toNat - 1]'(by omega)=y at *
     have pv:uZ ls i.toNat=some y.1:=by unfold uZ; rw [if_neg (by omega),hy]; rfl
     rw [pv] at hc
     obtain ⟨a2,ha2,C2⟩:=L2.at' (i.toNat - 1) (lst y) (by rw [List.getElem?_map,hy]; rfl)
     have c0:=C2 0 (.string (ofL y.1)) rfl
     rw [show (a2.add ((i.toNat - 1) * 2)).add 0=a2.add ((i.toNat - 1) * 2) from by simp [Addr.add]] at c0
     refine ⟨s,cs,a,ha,by omega,by omega,ofL x.1,C0,s,cs,a2,ha2,by omega,by omega,ofL y.1,by rw [show (i - 1).toNat=i.toNat - 1 from by omega]; exact c0,?_⟩
     rw [gz,gz,EI]
     have hc2:(if Op.bytesLess y.1 x.1=true then xm (some x.1) (ls.drop (i.toNat + 1)) else false)=xm none ls:=hc
     refine j3 _ (fun hb=>?_) fun hb=>?_
     ·rw [Bool.not_eq_true'] at hb
      rw [hb,if_neg (by simp)] at hc2; exact hc2.symm
     ·rw [Bool.not_eq_false'] at hb
      rw [hb,if_pos rfl] at hc2; exact hc2
    ·rw [if_neg (by simpa using hi0)]
     have pv:uZ ls i.toNat=none:=by unfold uZ; rw [if_pos (by omega)]
     rw [pv] at hc
     exact j3 false (fun h=>by cases h) fun _=>hc
 ·rw [if_neg (by rw [decide_eq_true_eq]; omega)]
  have hd:ls.drop i.toNat=[]:=List.drop_of_length_le (by omega)
  rw [hd] at hc
  rw [← hc] at F
  exact F
section
variable {s sq:Slc} {ls:List LU} {qs:List QU}
theorem H6 {qn sn:Tx} {k:KP Bool} {h:Heap} (Lq:LsAt az.cs 3 h sq (qs.map qst)) (L:LsAt aD.cs 2 h s (ls.map lst)) (hq:qs.length<=1000000) (hm:ls.length<=1000000) (H:∀ h',Ext h.size h h'->k (yh qn qs sn ls) h'):sZ ⟨ofL qn,sq⟩ ⟨ofL sn,s⟩ k h:=by
 have ql:sq.len=qs.length:=by have:=Lq.l; simpa using this
 have sl:s.len=ls.length:=by have:=L.l; simpa using this
 unfold sZ
 refine ⟨_,_,rfl,rfl,?_⟩
 have P:=Blk.push h (af.cs ⟨ofL qn,sq⟩) 139
 have W:=Ext.push h (.cells (af.cs ⟨ofL qn,sq⟩).toArray 139) (Nat.le_refl _)
 have pl:=P.lt
 generalize h.push (.cells (af.cs ⟨ofL qn,sq⟩).toArray 139)=h2 at *
 have z2:=W.size
 refine ⟨_,_,rfl,rfl,?_⟩
 have Q:=Blk.push h2 (ay.cs ⟨ofL sn,s⟩) 147
 have W3:=Ext.push h2 (.cells (ay.cs ⟨ofL sn,s⟩).toArray 147) (Nat.le_refl _)
 generalize h2.push (.cells (ay.cs ⟨ofL sn,s⟩).toArray 147)=h3 at *
 have P3:=P.ext W3 pl
 have L3:=(L.ext W).ext W3
 have Lq3:=(Lq.ext W).ext W3
 have X3:Ext h.size h h3:=W.trans (W3.mono z2)
 have z3:=X3.size
 have ql3:=Q.lt
 have pl3:=P3.lt
 have H':∀ h',Ext h3.size h3 h'->k (yh qn qs sn ls) h':=fun h' X=>H h' (X3.trans (X.mono z3))
 unfold yh at H'
 have g1:∀ b,b=decide (qn≠[]/\qn≠sn)->nE ⟨h.size,0,none⟩ ⟨h2.size,0,none⟩ b k h3:=fun b hb=>by
  unfold nE
  by_cases hc:qn≠[]/\qn≠sn
  ·rw [hb,if_pos (by simpa using hc)]
   have:=H' h3 (Ext.refl _ _)
   rw [if_pos hc] at this; exact this
  rw [hb,if_neg (by simpa using hc)]
  simp only [if_neg hc] at H'
  refine ⟨fun i h'=>0<=i/\i<=qs.length/\((qs.take i.toNat).any fun x=>!lG ls x)=false/\Ext h3.size h3 h',fun i _=>(qs.length - i).toNat,⟨by omega,by omega,by simp,Ext.refl _ _⟩,?_⟩
  rintro i h4 ⟨i0,i1,ha,X4⟩
  have z4:=X4.size
  have P4:=P3.ext X4 pl3
  have Q4:=Q.ext X4 ql3
  have cq:∀ {h'},Blk h' h.size (af.cs ⟨ofL qn,sq⟩) 139->ah h' ((⟨h.size,0,none⟩:Addr).add 1)=some (Slc.v sq):=fun K=>by rw [add_mk,K.cell]; rfl
  have cs:∀ {h'},Blk h' h2.size (ay.cs ⟨ofL sn,s⟩) 147->ah h' ((⟨h2.size,0,none⟩:Addr).add 1)=some (Slc.v s):=fun K=>by rw [add_mk,K.cell]; rfl
  unfold yj
  refine ⟨sq,cq P4,?_⟩
  by_cases hi:i < qs.length
  ·rw [if_pos (by rw [decide_eq_true_eq]; omega)]
   have hx:qs[i.toNat]? = some (qs[i.toNat]'(by omega)):=by simp
   generalize qs[i.toNat]'(by omega)=x at *
   obtain ⟨ad,hd,C⟩:=(Lq3.ext X4).at' i.toNat (qst x) (by rw [List.getElem?_map,hx]; rfl)
   refine ⟨sq,cq P4,ad,hd,i0,by omega,qst x,C,_,_,rfl,rfl,?_⟩
   have T:=Blk.push h4 (az.cs ⟨ByteArray.empty,0,ByteArray.empty⟩) 174
   have T2:=T.jW (vs:=qcs x) rfl
   have W5:=(Ext.push h4 (.cells (az.cs ⟨ByteArray.empty,0,ByteArray.empty⟩).toArray 174) (Nat.le_refl _)).trans (Ext.sets _ (a:=⟨h4.size,0,none⟩) 0 (qcs x) (Nat.le_refl _))
   refine ⟨_,aN.aL T (by rw [o7]; omega),rfl,?_⟩
   rw [show az.cs (qst x)=qcs x from rfl]
   generalize aM (h4.push (.cells (az.cs ⟨ByteArray.empty,0,ByteArray.empty⟩).toArray 174)) ⟨h4.size,0,none⟩ 0 (qcs x)=h5 at *
   have z5:=W5.size
   have tl:=T2.lt
   have Q5:=Q4.ext W5 (by omega)
   have L5:=(L3.ext X4).ext W5
   have X35:Ext h3.size h3 h5:=X4.trans (W5.mono z4)
   have hs:=yU (p:=fun x:QU=>!lG ls x) hx
   refine ⟨fun q h'=>0<=q.2.2/\q.2.2<=ls.length/\q.1=CF (ls.take q.2.2.toNat) x.1 x.2.2/\q.2.1=Du (ls.take q.2.2.toNat) x.1 x.2.2/\Ext h5.size h5 h',fun q _=>(ls.length - q.2.2).toNat,⟨by dsimp only; omega,by dsimp only; omega,by simp [CF],by simp [Du],Ext.refl _ _⟩,?_⟩
   rintro sm bg j h6 ⟨j0,j1,hsm,hbg,X6⟩
   dsimp only at j0 j1 hsm hbg
   have z6:=X6.size
   have Q6:=Q5.ext X6 (by omega)
   have T6:=T2.ext X6 tl
   have X36:Ext h3.size h3 h6:=X35.trans (X6.mono X35.size)
   unfold xL
   refine ⟨s,cs Q6,?_⟩
   have ct:∀ {h'} (i:Nat),Blk h' h4.size (qcs x) 174->ah h' ((⟨h4.size,0,none⟩:Addr).add i)=(qcs x)[i]?:=fun i K=>by rw [add_mk,Nat.zero_add,K.cell]
   by_cases hj:j < ls.length
   ·rw [if_pos (by rw [decide_eq_true_eq]; omega)]
    have hy:ls[j.toNat]? = some (ls[j.toNat]'(by omega)):=by simp
    generalize ls[j.toNat]'(by omega)=y at *
    obtain ⟨a2,hd2,C2⟩:=(L5.ext X6).at' j.toNat (lst y) (by rw [List.getElem?_map,hy]; rfl)
    refine ⟨s,cs Q6,a2,hd2,j0,by omega,lst y,C2,_,_,rfl,rfl,?_⟩
    have V:=Blk.push h6 (aD.cs ⟨ByteArray.empty,ByteArray.empty⟩) 178
    have V2:=V.jW (vs:=aD.cs (lst y)) rfl
    have W7:=(Ext.push h6 (.cells (aD.cs ⟨ByteArray.empty,ByteArray.empty⟩).toArray 178) (Nat.le_refl _)).trans (Ext.sets _ (a:=⟨h6.size,0,none⟩) 0 (aD.cs (lst y)) (Nat.le_refl _))
    refine ⟨_,aN.aL V (by rw [vH]; omega),rfl,?_⟩
    generalize aM (h6.push (.cells (aD.cs ⟨ByteArray.empty,ByteArray.empty⟩).toArray 178)) ⟨h6.size,0,none⟩ 0 (aD.cs (lst y))=h7 at *
    have z7:=W7.size
    have T7:=T6.ext W7 (by omega)
    have X57:Ext h5.size h5 h7:=X6.trans (W7.mono z6)
    have s1:=yU (p:=fun l:LU=>decide (l.1=x.1) && decide (l.2=x.2.2)) hy
    have s2:=yU (p:=fun l:LU=>decide (l.1=x.1) && ut l.2 x.2.2) hy
    have step:∀ (sm' bg':Bool),sm'=(sm || (decide (y.1=x.1) && decide (y.2=x.2.2)))->bg'=(bg || (decide (y.1=x.1) && ut y.2 x.2.2))->mR ⟨h.size,0,none⟩ ⟨h2.size,0,none⟩ i ⟨h4.size,0,none⟩ j sm' bg' k (fun s h'=>(0<=s/\s<=(qs.length:Int)/\((qs.take s.toNat).any fun x=>!lG ls x)=false/\Ext h3.size h3 h')/\((qs.length:Int) - s).toNat < ((qs.length:Int) - i).toNat) (fun s h'=>(0<=s.2.2/\s.2.2<=(ls.length:Int)/\s.1=CF (ls.take s.2.2.toNat) x.1 x.2.2/\s.2.1=Du (ls.take s.2.2.toNat) x.1 x.2.2/\Ext h5.size h5 h')/\((ls.length:Int) - s.2.2).toNat < ((ls.length:Int) - j).toNat) h7:=fun sm' bg' e1 e2=>by
     unfold mR
     rw [aA (by omega) (by omega)]
     refine ⟨_,rfl,⟨by dsimp only; omega,by dsimp only; omega,?_,?_,X57⟩,by dsimp only; omega⟩
     ·dsimp only
      rw [show (j + 1).toNat=j.toNat + 1 from by omega,e1,hsm]; unfold CF; rw [s1]
     ·dsimp only
      rw [show (j + 1).toNat=j.toNat + 1 from by omega,e2,hbg]; unfold Du; rw [s2]
    refine ⟨ofL y.1,by rw [V2.cell]; rfl,ofL x.1,by rw [T7.cell]; rfl,?_⟩
    rw [bq]
    by_cases hn:y.1=x.1
    ·rw [if_neg (by simp [hn])]
     have g5:∀ sm',sm'=(sm || decide (y.2=x.2.2))->nC ⟨h.size,0,none⟩ ⟨h2.size,0,none⟩ i ⟨h4.size,0,none⟩ bg j ⟨h6.size,0,none⟩ sm' k (fun s h'=>(0<=s/\s<=(qs.length:Int)/\((qs.take s.toNat).any fun x=>!lG ls x)=false/\Ext h3.size h3 h')/\((qs.length:Int) - s).toNat < ((qs.length:Int) - i).toNat) (fun s h'=>(0<=s.2.2/\s.2.2<=(ls.length:Int)/\s.1=CF (ls.take s.2.2.toNat) x.1 x.2.2/\s.2.1=Du (ls.take s.2.2.toNat) x.1 x.2.2/\Ext h5.size h5 h')/\((ls.length:Int) - s.2.2).toNat < ((ls.length:Int) - j).toNat) h7:=fun sm' e1=>by
      have e1':sm'=(sm || (decide (y.1=x.1) && decide (y.2=x.2.2))):=by rw [e1]; simp [hn]
      unfold nC
      cases hb:bg with
      | true =>
       rw [if_pos rfl]
       unfold ko
       exact step _ _ e1' (by rw [hb]; rfl)
      | false =>
       rw [if_neg (by simp)]
       have c1:ah h7 ((⟨h6.size,0,none⟩:Addr).add 1)=some (.string (ofL y.2)):=by rw [add_mk,V2.cell]; rfl
       have c2:ah h7 ((⟨h4.size,0,none⟩:Addr).add 2)=some (.string (ofL x.2.2)):=by rw [ct 2 T7]; rfl
       refine ⟨_,c1,_,c2,?_⟩
       rw [dI,dI]
       by_cases hlen:x.2.2.length<=y.2.length
       ·rw [if_pos (by rw [decide_eq_true_eq]; omega)]
        refine ⟨_,c1,_,c2,_,by omega,by omega,by rw [dI,dI]; omega,rfl,_,c2,?_⟩
        rw [dI,ig,bq]
        unfold ng ko
        refine step _ _ e1' ?_
        rw [hb,hn]
        simp only [decide_true,Bool.true_and,Bool.false_or,ut]
        rw [show decide (x.2.2.length<=y.2.length)=true from by simpa using hlen,Bool.true_and,show (0:Int).toNat=0 from rfl,List.drop_zero,Nat.sub_zero,show (x.2.2.length:Int).toNat=x.2.2.length from rfl]
       ·rw [if_neg (by rw [decide_eq_true_eq]; omega)]
        unfold ng ko
        refine step _ _ e1' ?_
        rw [hb]
        simp only [ut]
        rw [show decide (x.2.2.length<=y.2.length)=false from by simpa using hlen]; simp
     cases hb:sm with
     | true=>rw [if_pos rfl]; exact g5 _ (by rw [hb]; rfl)
     | false =>
      rw [if_neg (by simp)]
      refine ⟨ofL y.2,by rw [add_mk,V2.cell]; rfl,ofL x.2.2,by rw [ct 2 T7]; rfl,?_⟩
      rw [bq]
      exact g5 _ (by rw [hb]; rfl)
    ·rw [if_pos (by simp [hn])]
     exact step _ _ (by simp [hn]) (by simp [hn])
   ·rw [if_neg (by rw [decide_eq_true_eq]; omega)]
    rw [List.take_of_length_le (by omega)] at hsm hbg
    have c1:ah h6 ((⟨h4.size,0,none⟩:Addr).add 1)=some (.int .i64 x.2.1):=by rw [ct 1 T6]; rfl
    have fin:∀ b:Bool,b = !lG ls x->lU ⟨h.size,0,none⟩ ⟨h2.size,0,none⟩ i b k (fun s h'=>(0<=s/\s<=(qs.length:Int)/\((qs.take s.toNat).any fun x=>!lG ls x)=false/\Ext h3.size h3 h')/\((qs.length:Int) - s).toNat < ((qs.length:Int) - i).toNat) (fun s h'=>(0<=s.2.2/\s.2.2<=(ls.length:Int)/\s.1=CF (ls.take s.2.2.toNat) x.1 x.2.2/\s.2.1=Du (ls.take s.2.2.toNat) x.1 x.2.2/\Ext h5.size h5 h')/\((ls.length:Int) - s.2.2).toNat < ((ls.length:Int) - j).toNat) h6:=fun b hb=>by
     unfold lU
     cases hc:b with
     | true =>
      rw [if_pos rfl]
      have:(qs.any fun x=>!lG ls x)=true:=Db (i:=i.toNat + 1) (by rw [hs,← hb,hc]; simp)
      have F:=H' h6 X36
      rw [this] at F; exact F
     | false =>
      rw [if_neg (by simp),aA (by omega) (by omega)]
      refine ⟨_,rfl,⟨by omega,by omega,?_,X36⟩,by omega⟩
      rw [show (i + 1).toNat=i.toNat + 1 from by omega,hs,ha,← hb,hc]; rfl
    unfold lG at fin
    rw [← hsm,← hbg] at fin
    refine ⟨_,c1,?_⟩
    have tr:fM ⟨h.size,0,none⟩ ⟨h2.size,0,none⟩ i ⟨h4.size,0,none⟩ bg true k (fun s h'=>(0<=s/\s<=(qs.length:Int)/\((qs.take s.toNat).any fun x=>!lG ls x)=false/\Ext h3.size h3 h')/\((qs.length:Int) - s).toNat < ((qs.length:Int) - i).toNat) (fun s h'=>(0<=s.2.2/\s.2.2<=(ls.length:Int)/\s.1=CF (ls.take s.2.2.toNat) x.1 x.2.2/\s.2.1=Du (ls.take s.2.2.toNat) x.1 x.2.2/\Ext h5.size h5 h')/\((ls.length:Int) - s.2.2).toNat < ((ls.length:Int) - j).toNat) h6∨(if x.2.1=0 then sm else if x.2.1=1 then !sm else if x.2.1=2 then bg else false)=true:=by
     cases hh:(if x.2.1=0 then sm else if x.2.1=1 then !sm else if x.2.1=2 then bg else false) with
     | true=>exact .inr rfl
     | false =>
      left
      unfold fM; rw [if_pos rfl]
      unfold fo; rw [if_pos rfl]
      unfold ek; rw [if_pos rfl]
      exact fin true (by rw [hh]; rfl)
    by_cases k0:x.2.1=0
    ·cases hb:sm with
     | false =>
      rw [if_pos (by simp [k0])]
      rcases tr with tr | tr
      ·rw [hb] at *; exact tr
      ·rw [if_pos k0,hb] at tr; cases tr
     | true =>
      rw [if_neg (by simp)]
      refine ⟨_,c1,?_⟩
      rw [show (x.2.1 == 1 && true)=false from by simp [k0]]
      unfold fM; rw [if_neg (by simp)]
      refine ⟨_,c1,?_⟩
      rw [show (x.2.1 == 2 && !bg)=false from by simp [k0]]
      unfold fo; rw [if_neg (by simp)]
      refine ⟨_,c1,?_⟩
      rw [show decide (x.2.1 < 0)=false from by simp [k0]]
      unfold ek; rw [if_neg (by simp)]
      refine ⟨_,c1,?_⟩
      exact fin _ (by rw [hb,if_pos k0]; simp [k0])
    rw [if_neg (by simp [k0])]
    refine ⟨_,c1,?_⟩
    by_cases k1:x.2.1=1
    ·cases hb:sm with
     | true =>
      rw [show (x.2.1 == 1 && true)=true from by simp [k1]]
      rcases tr with tr | tr
      ·exact tr
      ·rw [if_neg k0,if_pos k1,hb] at tr; cases tr
     | false =>
      rw [show (x.2.1 == 1 && false)=false from by simp]
      unfold fM; rw [if_neg (by simp)]
      refine ⟨_,c1,?_⟩
      rw [show (x.2.1 == 2 && !bg)=false from by simp [k1]]
      unfold fo; rw [if_neg (by simp)]
      refine ⟨_,c1,?_⟩
      rw [show decide (x.2.1 < 0)=false from by simp [k1]]
      unfold ek; rw [if_neg (by simp)]
      refine ⟨_,c1,?_⟩
      exact fin _ (by rw [hb,if_neg k0,if_pos k1]; simp [k1])
    rw [show (x.2.1 == 1 && sm)=false from by simp [k1]]
    unfold fM; rw [if_neg (by simp)]
    refine ⟨_,c1,?_⟩
    by_cases k2:x.2.1=2
    ·rw [show (x.2.1 == 2 && !bg) = !bg from by simp [k2]]
     cases hb:bg with
     | false =>
      unfold fo; rw [if_pos (by simp)]
      unfold ek; rw [if_pos rfl]
      exact fin _ (by rw [hb,if_neg k0,if_neg k1,if_pos k2]; rfl)
     | true =>
      unfold fo; rw [if_neg (by simp)]
      refine ⟨_,c1,?_⟩
      rw [show decide (x.2.1 < 0)=false from by simp [k2]]
      unfold ek; rw [if_neg (by simp)]
      refine ⟨_,c1,?_⟩
      exact fin _ (by rw [hb,if_neg k0,if_neg k1,if_pos k2]; simp [k2])
    ·rw [show (x.2.1 == 2 && !bg)=false from by simp [k2]]
     unfold fo; rw [if_neg (by simp)]
     refine ⟨_,c1,?_⟩
     unfold ek
     by_cases kn:x.2.1 < 0
     ·rw [if_pos (by simpa using kn)]
      exact fin _ (by rw [if_neg k0,if_neg k1,if_neg k2]; rfl)
     ·rw [if_neg (by simpa using kn)]
      refine ⟨_,c1,?_⟩
      exact fin _ (by rw [if_neg k0,if_neg k1,if_neg k2]; simp; omega)
  ·rw [if_neg (by rw [decide_eq_true_eq]; omega)]
   rw [List.take_of_length_le (by omega)] at ha
   have F:=H' h4 X4
   rw [ha] at F; exact F
 have hne:((ofL qn).toList == (⟨#[]⟩:ByteArray).toList)=decide (qn=[]):=bq qn []
 refine ⟨ofL qn,by rw [P3.cell]; rfl,?_⟩
 rw [hne]
 by_cases hn:qn=[]
 ·rw [if_neg (by simp [hn])]
  exact g1 _ (by simp [hn])
 ·rw [if_pos (by simp [hn])]
  refine ⟨ofL qn,by rw [P3.cell]; rfl,ofL sn,by rw [Q.cell]; rfl,?_⟩
  rw [bq]
  exact g1 _ (by simp [hn])
end
end Go.Q.Yq
end
section
/- Selectors by words: the same as by cuts. -/
namespace Go.Q.Yq
abbrev WS:=Tx × Tx
def nl (c:UInt8):Bool:=!aO c
def Cn:Nat->Tx->List WS
 | _,[]=>[]
 | 0,_=>[]
 | n + 1,c :: l=>((c :: l).takeWhile aO,((c :: l).dropWhile aO).takeWhile nl) :: Cn n (((c :: l).dropWhile aO).dropWhile nl)
def bB (l:Tx):List WS:=Cn l.length l
def after (l:Tx):Tx:=(l.dropWhile aO).dropWhile nl
theorem GI {p:UInt8->Bool}:∀ l:Tx,(l.dropWhile p).length<=l.length
 | []=>by simp
 | c :: l=>by
  rw [List.dropWhile_cons]
  split
  ·have:=GI (p:=p) l; simp only [List.length_cons]; omega
  ·exact Nat.le_refl _
theorem Bo (c:UInt8) (l:Tx):(after (c :: l)).length<=l.length:=by
 unfold after
 by_cases hc:aO c=true
 ·rw [List.dropWhile_cons,if_pos hc]
  exact Nat.le_trans (GI _) (GI _)
 ·rw [List.dropWhile_cons,if_neg hc,List.dropWhile_cons,if_pos (by simpa [nl] using hc)]
  exact GI _
theorem BX:∀ (n m:Nat) (l:Tx),l.length<=n->l.length<=m->Cn n l=Cn m l
 | n,m,[],_,_=>by cases n <;> cases m <;> rfl
 | 0,m,c :: l,h,_=>by simp at h
 | n + 1,0,c :: l,_,h=>by simp at h
 | n + 1,m + 1,c :: l,h1,h2=>by
  simp only [List.length_cons] at h1 h2
  have:=Bo c l
  unfold after at this
  simp only [Cn]
  rw [BX n m _ (by omega) (by omega)]
theorem Fp:bB []=[]:=rfl
theorem uB (c:UInt8) (l:Tx):bB (c :: l)=((c :: l).takeWhile aO,((c :: l).dropWhile aO).takeWhile nl) :: bB (after (c :: l)):=by
 have:=Bo c l
 unfold after at this
 show Cn (l.length + 1) (c :: l)=_
 simp only [Cn]
 unfold bB after
 rw [BX l.length _ _ this (Nat.le_refl _)]
theorem yZ {l:Tx} (h:l≠[]):bB l=(l.takeWhile aO,(l.dropWhile aO).takeWhile nl) :: bB (after l):=by
 cases l with
 | nil=>exact absurd rfl h
 | cons c l=>exact uB c l
def xD (P:List WS):Tx:=P.flatMap fun w=>w.1 ++ w.2
theorem EO:∀ (n:Nat) (l:Tx),l.length<=n->xD (bB l)=l
 | _,[],_=>rfl
 | 0,c :: l,h=>by simp at h
 | n + 1,c :: l,h=>by
  simp only [List.length_cons] at h
  rw [uB]
  unfold xD
  rw [List.flatMap_cons]
  have ih:=EO n (after (c :: l)) (Nat.le_trans (Bo c l) (by omega))
  unfold xD at ih
  rw [ih]
  unfold after
  rw [List.append_assoc,List.takeWhile_append_dropWhile,List.takeWhile_append_dropWhile]
theorem Od (l:Tx):xD (bB l)=l:=EO l.length l (Nat.le_refl _)
/-- a word, what stands behind it, and a rest that doesn't go on with that -/
theorem Bi {a s t:Tx} (ha:∀ c∈a,aO c=true) (hs:∀ c∈s,nl c=true) (sn:s≠[]) (ht:t=[]∨∃ c r,t=c :: r/\nl c=false):bB (a ++ (s ++ t))=(a,s) :: bB t:=by
 have ne:a ++ (s ++ t)≠[]:=by
  intro e
  have:=List.append_eq_nil_iff.1 (List.append_eq_nil_iff.1 e).2
  exact sn this.1
 obtain ⟨d,s',es⟩:∃ d s',s=d :: s':=by cases s with
  | nil=>exact absurd rfl sn
  | cons d s'=>exact ⟨d,s',rfl⟩
 have ld:aO d=false:=by have:=hs d (by rw [es]; simp); simpa [nl] using this
 have e1:(s ++ t).takeWhile aO=[]:=by rw [es,List.cons_append,List.takeWhile_cons,if_neg (by simp [ld])]
 have e2:(s ++ t).dropWhile aO=s ++ t:=by rw [es,List.cons_append,List.dropWhile_cons,if_neg (by simp [ld])]
 have e3:t.takeWhile nl=[]/\t.dropWhile nl=t:=by
  rcases ht with rfl | ⟨c,r,rfl,hc⟩
  ·exact ⟨rfl,rfl⟩
  ·rw [List.takeWhile_cons,List.dropWhile_cons,if_neg (by simp [hc]),if_neg (by simp [hc])]; exact ⟨rfl,rfl⟩
 rw [yZ ne]
 unfold after
 rw [List.takeWhile_append_of_pos ha,List.dropWhile_append_of_pos ha,e1,e2,List.append_nil,List.takeWhile_append_of_pos hs,List.dropWhile_append_of_pos hs,e3.1,e3.2,List.append_nil]
/-! questions -/
def sgn (s:Tx):Option Int:=if s=[61] then some 0 else if s=[33,61] then some 1 else if s=[94,61] then some 2 else none
theorem D8 {s:Tx} {k:Int} (h:sgn s=some k):(s=[61]/\k=0)∨(s=[33,61]/\k=1)∨(s=[94,61]/\k=2):=by
 unfold sgn at h
 split at h
 ·cases h; exact .inl ⟨by assumption,rfl⟩
 ·split at h
  ·cases h; exact .inr (.inl ⟨by assumption,rfl⟩)
  ·split at h
   ·cases h; exact .inr (.inr ⟨by assumption,rfl⟩)
   ·cases h
theorem EL {a:Tx} (h:cu a=true):∀ c∈a,aO c=true:=by
 unfold cu at h
 rw [Bool.and_eq_true] at h
 exact fun c hc=>List.all_eq_true.1 h.1 c hc
theorem Hg:cu []=false:=by decide
theorem Iu {s:Tx} {k:Int} (h:sgn s=some k):(∀ c∈s,nl c=true)/\s≠[]/\(44:UInt8) ∉ s:=by
 rcases D8 h with ⟨rfl,_⟩ | ⟨rfl,_⟩ | ⟨rfl,_⟩ <;> exact ⟨by decide,by decide,by decide⟩
theorem QD {a s b:Tx} {k:Int} (ha:cu a=true) (hs:sgn s=some k) (hb:cu b=true):eF (a ++ (s ++ b))=((a,k,b),true):=by
 have hp:=EL ha
 obtain ⟨n1,n2,_⟩:=Iu hs
 obtain ⟨d,s',es⟩:∃ d s',s=d :: s':=by cases s with
  | nil=>exact absurd rfl n2
  | cons d s'=>exact ⟨d,s',rfl⟩
 have ld:aO d=false:=by have:=n1 d (by rw [es]; simp); simpa [nl] using this
 have e1:(a ++ (s ++ b)).takeWhile aO=a:=by rw [List.takeWhile_append_of_pos hp,es,List.cons_append,List.takeWhile_cons,if_neg (by simp [ld]),List.append_nil]
 have e2:(a ++ (s ++ b)).dropWhile aO=s ++ b:=by rw [List.dropWhile_append_of_pos hp,es,List.cons_append,List.dropWhile_cons,if_neg (by simp [ld])]
 unfold eF
 rw [e1,e2]
 rcases D8 hs with ⟨rfl,rfl⟩ | ⟨rfl,rfl⟩ | ⟨rfl,rfl⟩ <;> simp [sg,qgo,ut,ha,hb]
theorem Qc {l:Tx} (h:(eF l).2=true):∃ a s k b,l=a ++ (s ++ b)/\sgn s=some k/\cu a=true/\cu b=true/\(eF l).1=(a,k,b):=by
 have el:l.takeWhile aO ++ l.dropWhile aO=l:=List.takeWhile_append_dropWhile
 unfold eF at h ⊢
 obtain ⟨n,en⟩:∃ n,n=l.takeWhile aO:=⟨_,rfl⟩
 obtain ⟨r,er⟩:∃ r,r=l.dropWhile aO:=⟨_,rfl⟩
 rw [← en,← er] at el h ⊢
 have pf:∀ p:Tx,ut r p=true->r=p ++ r.drop p.length:=fun p hp=>by
  unfold ut at hp
  simp only [Bool.and_eq_true,decide_eq_true_eq] at hp
  conv=>lhs; rw [← List.take_append_drop p.length r,hp.2]
 unfold sg qgo qgo qgo qgo at h ⊢
 split at h
 ·rename_i hp
  rw [if_pos hp]
  dsimp only at h
  rw [Bool.and_eq_true] at h
  exact ⟨n,_,0,_,by rw [← pf _ hp]; exact el.symm,by decide,h.1,h.2,rfl⟩
 ·rename_i hp0
  rw [if_neg hp0]
  split at h
  ·rename_i hp
   rw [if_pos hp]
   dsimp only at h
   rw [Bool.and_eq_true] at h
   exact ⟨n,_,1,_,by rw [← pf _ hp]; exact el.symm,by decide,h.1,h.2,rfl⟩
  ·rename_i hp1
   rw [if_neg hp1]
   split at h
   ·rename_i hp
    rw [if_pos hp]
    dsimp only at h
    rw [Bool.and_eq_true] at h
    exact ⟨n,_,2,_,by rw [← pf _ hp]; exact el.symm,by decide,h.1,h.2,rfl⟩
   ·cases h
/-! the questions of a row of words -/
def kR:List WS->Option (List QU)
 | (a,s) :: (b,e) :: r=>match sgn s with
  | none=>none
  | some k=>if e=(if r.isEmpty=true then [125] else [44])/\cu a=true/\cu b=true then (if r.isEmpty=true then some [(a,k,b)] else (kR r).map ((a,k,b) :: ·)) else none
 | _=>none
theorem Bv {a s b e:Tx} {r:List WS} {ys:List QU} (h:kR ((a,s) :: (b,e) :: r)=some ys):∃ k,sgn s=some k/\cu a=true/\cu b=true/\((r=[]/\e=[125])∨(r≠[]/\e=[44]/\∃ zs,kR r=some zs)):=by
 unfold kR at h
 cases hs:sgn s with
 | none=>rw [hs] at h; cases h
 | some k =>
  rw [hs] at h
  dsimp only at h
  by_cases hc:e=(if r.isEmpty=true then [125] else [44])/\cu a=true/\cu b=true
  ·rw [if_pos hc] at h
   obtain ⟨h1,h2,h3⟩:=hc
   refine ⟨k,rfl,h2,h3,?_⟩
   cases r with
   | nil=>exact .inl ⟨rfl,by simpa using h1⟩
   | cons w r =>
    right
    refine ⟨by simp,by simpa using h1,?_⟩
    rw [if_neg (by simp)] at h
    cases hr:kR (w :: r) with
    | none=>rw [hr] at h; cases h
    | some zs=>exact ⟨zs,rfl⟩
  ·rw [if_neg hc] at h; cases h
theorem BF:∀ {P:List WS} {ys:List QU},kR P=some ys->P.length % 2=0/\(xD P).getLast? = some 125
 | [],_,h=>by cases h
 | [_],_,h=>by cases h
 | (a,s) :: (b,e) :: r,ys,h=>by
  obtain ⟨k,_,_,_,h5⟩:=Bv h
  rcases h5 with ⟨rfl,rfl⟩ | ⟨rn,rfl,zs,hz⟩
  ·refine ⟨by simp,?_⟩
   unfold xD
   simp [List.getLast?_append]
  ·obtain ⟨i1,i2⟩:=BF hz
   refine ⟨by simp only [List.length_cons]; omega,?_⟩
   have e:xD ((a,s) :: (b,[44]) :: r)=(a ++ s ++ (b ++ [44])) ++ xD r:=by unfold xD; simp
   rw [e,List.getLast?_append,i2]; rfl
theorem Ff {s:Tx} {P:List WS}:kR (([],s) :: P)=none:=by
 cases hh:kR (([],s) :: P) with
 | none=>rfl
 | some ys =>
  cases P with
  | nil=>cases hh
  | cons w r =>
   obtain ⟨k,_,h,_⟩:=Bv (b:=w.1) (e:=w.2) hh
   rw [Hg] at h; cases h
theorem starts (z:Tx):(z=[]∨∃ c r,z=c :: r/\nl c=false)∨(∃ c r,z=c :: r/\nl c=true):=by
 cases z with
 | nil=>exact .inl (.inl rfl)
 | cons c r =>
  cases hc:nl c with
  | false=>exact .inl (.inr ⟨c,r,rfl,hc⟩)
  | true=>exact .inr ⟨c,r,rfl,hc⟩
theorem G5 {c:UInt8} {r:Tx} (hc:nl c=true):∃ s P,bB (c :: r)=([],s) :: P:=by
 have:aO c=false:=by simpa [nl] using hc
 exact ⟨_,_,by rw [uB,List.takeWhile_cons,if_neg (by simp [this])]⟩
theorem Qy {a s b:Tx} {k:Int} (ha:cu a=true) (hs:sgn s=some k) (hb:cu b=true):(44:UInt8) ∉ a ++ (s ++ b):=by
 intro h
 rw [List.mem_append,List.mem_append] at h
 rcases h with h | h | h
 ·exact JN ha (by decide) h
 ·exact (Iu hs).2.2 h
 ·exact JN hb (by decide) h
theorem DJ:∀ (f:Nat) (r:Tx) (qs:List QU),qs.length<=8->r.length < f ->
  Cb f r qs=if (bB (r ++ [125])).length<=2 * (8 - qs.length) then (kR (bB (r ++ [125]))).map (qs ++ ·) else none
 | 0,r,qs,_,h=>by omega
 | f + 1,r,qs,h8,hf=>by
  have ne:r ++ [125]≠[]:=by simp
  have pos:0 < (bB (r ++ [125])).length:=by rw [yZ ne]; simp
  have last:(r ++ [125]).getLast? = some 125:=by simp
  unfold Cb
  by_cases e8:qs.length=8
  ·rw [if_pos (.inr e8),if_neg (by omega)]
  by_cases fit:(eF (jV r 44).1).2=true
  ·rw [if_neg (by rw [fit]; simp [e8])]
   obtain ⟨a,s,k,b,el,hs,ha,hb,ex⟩:=Qc fit
   have la:=EL ha
   have lb:=EL hb
   obtain ⟨sn1,sn2,sn3⟩:=Iu hs
   have startb:∃ c t,b=c :: t/\aO c=true:=by
    cases b with
    | nil=>rw [Hg] at hb; cases hb
    | cons c t=>exact ⟨c,t,rfl,lb c List.mem_cons_self⟩
   obtain ⟨bc,bt,ebb,lbc⟩:=startb
   rw [ex]
   by_cases hm:(44:UInt8)∈r
   ·-- there are more
    have sp:=AC 44 hm
    have ec:jV r 44=(r.takeWhile (fun x=>x != 44),(r.dropWhile (fun x=>x != 44)).drop 1,true):=by unfold jV; rw [if_pos hm]
    obtain ⟨rest,er⟩:∃ x,x=(r.dropWhile (fun x=>x != 44)).drop 1:=⟨_,rfl⟩
    rw [ec] at el
    dsimp only at el
    rw [el,← er] at sp
    have rl:rest.length < r.length:=by rw [sp]; simp; omega
    rw [ec,if_pos rfl,← er]
    have ih:=DJ f rest (qs ++ [(a,k,b)]) (by simp; omega) (by omega)
    rw [ih]
    have etot:r ++ [125]=a ++ (s ++ (b ++ ([44] ++ (rest ++ [125])))):=by rw [sp]; simp
    have w1:∀ t,bB (a ++ (s ++ (b ++ t)))=(a,s) :: bB (b ++ t):=fun t=>Bi la sn1 sn2 (.inr ⟨bc,bt ++ t,by rw [ebb]; rfl,by simp [nl,lbc]⟩)
    rw [etot,w1]
    rcases starts (rest ++ [125]) with st | ⟨c,t,ez,hc⟩
    ·-- goes on with a letter
     have w2:=Bi (a:=b) (s:=[44]) (t:=rest ++ [125]) lb (by decide) (by decide) st
     rw [w2]
     have qne:bB (rest ++ [125])≠[]:=by rw [yZ (by simp)]; simp
     have echk:kR ((a,s) :: (b,[44]) :: bB (rest ++ [125]))=(kR (bB (rest ++ [125]))).map ((a,k,b) :: ·):=by
      conv=>lhs; unfold kR
      rw [hs]
      dsimp only
      have ie:(bB (rest ++ [125])).isEmpty=false:=by simpa using qne
      rw [ie]
      simp [ha,hb]
     rw [echk]
     simp only [List.length_cons,List.length_append,List.length_nil]
     by_cases hl:(bB (rest ++ [125])).length<=2 * (8 - (qs.length + (0 + 1)))
     ·rw [if_pos hl,if_pos (by omega),Option.map_map]
      congr 1
      funext ys
      simp
     ·rw [if_neg hl,if_neg (by omega)]
    ·-- doesn't
     obtain ⟨s',P',ew⟩:=G5 (r:=t) hc
     rw [ez,ew,Ff]
     have lhs:(if (([],s') :: P').length<=2 * (8 - (qs ++ [(a,k,b)]).length) then Option.map (fun x=>qs ++ [(a,k,b)] ++ x) none else none)=(none:Option (List QU)):=by split <;> rfl
     rw [lhs]
     have w2:bB (b ++ ([44] ++ (c :: t)))=(b,44 :: (c :: t).takeWhile nl) :: bB ((c :: t).dropWhile nl):=by
      have e:b ++ ([44] ++ (c :: t))=b ++ ((44 :: (c :: t).takeWhile nl) ++ (c :: t).dropWhile nl):=by
       show b ++ (44 :: (c :: t))=b ++ (44 :: ((c :: t).takeWhile nl ++ (c :: t).dropWhile nl))
       rw [List.takeWhile_append_dropWhile]
      rw [e]
      refine Bi lb (fun x hx=>?_) (by simp) ?_
      ·rcases List.mem_cons.1 hx with rfl | hx
       ·decide
       ·exact List.all_eq_true.1 List.all_takeWhile x hx
      ·cases hd:(c :: t).dropWhile nl with
       | nil=>exact .inl rfl
       | cons d u =>
        refine .inr ⟨d,u,rfl,?_⟩
        have:∀ {l:Tx} {d u},l.dropWhile nl=d :: u->nl d=false:=fun {l}=>by
         induction l with
         | nil=>intro d u h; cases h
         | cons x l ih =>
          intro d u h
          rw [List.dropWhile_cons] at h
          split at h
          ·exact ih h
          ·rename_i hx; cases h; simpa using hx
        exact this hd
     rw [w2]
     have n:kR ((a,s) :: (b,44 :: (c :: t).takeWhile nl) :: bB ((c :: t).dropWhile nl))=none:=by
      cases hh:kR ((a,s) :: (b,44 :: (c :: t).takeWhile nl) :: bB ((c :: t).dropWhile nl)) with
      | none=>rfl
      | some ys =>
       obtain ⟨_,_,_,_,h5⟩:=Bv hh
       rw [List.takeWhile_cons,if_pos hc] at h5
       rcases h5 with ⟨_,h⟩ | ⟨_,h,_⟩
       ·cases h
       ·cases h
     rw [n]
     split <;> rfl
   ·-- the last one
    have ec:jV r 44=(r,[],false):=EQ hm
    rw [ec] at el
    dsimp only at el
    rw [ec,if_neg (by simp)]
    have etot:r ++ [125]=a ++ (s ++ (b ++ ([125] ++ []))):=by rw [el]; simp
    rw [etot,Bi la sn1 sn2 (.inr ⟨bc,bt ++ ([125] ++ []),by rw [ebb]; rfl,by simp [nl,lbc]⟩),Bi lb (by decide) (by decide) (.inl rfl),Fp]
    rw [if_pos (by simp; omega)]
    have:kR [(a,s),(b,[125])]=some [(a,k,b)]:=by unfold kR; rw [hs]; simp [ha,hb]
    rw [this]; rfl
  ·rw [if_pos (.inl (by simpa using fit))]
   have:kR (bB (r ++ [125]))=none:=by
    cases hh:kR (bB (r ++ [125])) with
    | none=>rfl
    | some ys =>
     exfalso
     have ej:=Od (r ++ [125])
     match hP:bB (r ++ [125]),hh with
     | (a,s) :: (b,e) :: R,hh =>
      obtain ⟨k,hs,ha,hb,h5⟩:=Bv hh
      rw [hP] at ej
      rcases h5 with ⟨rfl,rfl⟩ | ⟨rn,rfl,zs,hz⟩
      ·have er:r=a ++ (s ++ b):=by
        have:(a ++ (s ++ b)) ++ [125]=r ++ [125]:=by rw [← ej]; unfold xD; simp
        exact (List.append_cancel_right this).symm
       apply fit
       rw [er,EQ (Qy ha hs hb)]
       dsimp only
       rw [QD ha hs hb]
      ·have er:(a ++ (s ++ b)) ++ (44 :: xD R)=r ++ [125]:=by rw [← ej]; unfold xD; simp
       obtain ⟨i1,i2⟩:=BF hz
       have jl:=zU i2
       have er2:r=(a ++ (s ++ b)) ++ (44 :: (xD R).dropLast):=by
        rw [jl] at er
        have:((a ++ (s ++ b)) ++ (44 :: (xD R).dropLast)) ++ [125]=r ++ [125]:=by rw [← er]; simp
        exact (List.append_cancel_right this).symm
       apply fit
       rw [er2,PG (Qy ha hs hb)]
       dsimp only
       rw [QD ha hs hb]
   rw [this]
   split <;> rfl
/-- by words -/
def OW (l:Tx):Option (Tx × List QU):=match bB l with
 | []=>some ([],[])
 | (w0,s0) :: P=>if w0≠[]/\cu w0=false then none else if P.isEmpty=true then (if s0=[] then some (w0,[]) else none)
  else if s0≠[123]∨P.length % 2=1∨P.length > 16 then none else (kR P).map fun qs=>(w0,qs)
theorem Pk (l:Tx):OW l=sG l:=by
 by_cases hn:l=[]
 ·subst hn; decide
 have ew:=yZ hn
 unfold OW sG
 rw [ew]
 dsimp only
 by_cases hm:(123:UInt8)∈l
 ·have sp:=AC 123 hm
  have ec:jV l 123=(l.takeWhile (fun x=>x != 123),(l.dropWhile (fun x=>x != 123)).drop 1,true):=by unfold jV; rw [if_pos hm]
  obtain ⟨nm,enm⟩:∃ x,x=l.takeWhile (fun x=>x != 123):=⟨_,rfl⟩
  obtain ⟨rest,er⟩:∃ x,x=(l.dropWhile (fun x=>x != 123)).drop 1:=⟨_,rfl⟩
  rw [ec]
  dsimp only
  rw [← enm,← er] at sp ⊢
  by_cases al:nm.all aO=true
  ·have la:∀ c∈nm,aO c=true:=fun c hc=>List.all_eq_true.1 al c hc
   have e1:l.takeWhile aO=nm:=by rw [sp,List.takeWhile_append_of_pos la,List.takeWhile_cons,if_neg (by decide),List.append_nil]
   have e2:l.dropWhile aO=123 :: rest:=by rw [sp,List.dropWhile_append_of_pos la,List.dropWhile_cons,if_neg (by decide)]
   have e3:(l.dropWhile aO).takeWhile nl=123 :: rest.takeWhile nl:=by rw [e2,List.takeWhile_cons,if_pos (by decide)]
   have e4:after l=rest.dropWhile nl:=by unfold after; rw [e2,List.dropWhile_cons,if_pos (by decide)]
   rw [e1,e3,e4]
   by_cases hw:nm≠[]/\cu nm=false
   ·rw [if_pos hw,if_pos hw]
   rw [if_neg hw,if_neg hw,if_neg (by decide:¬ (true=false))]
   rw [if_neg (by simp:¬ ((123:UInt8) :: rest.takeWhile nl=[]))]
   rcases starts rest with (rfl | ⟨c,t,rfl,hc⟩) | ⟨c,t,rfl,hc⟩
   ·rfl
   ·have t1:(c :: t).takeWhile nl=[]:=by rw [List.takeWhile_cons,if_neg (by simp [hc])]
    have t2:(c :: t).dropWhile nl=c :: t:=by rw [List.dropWhile_cons,if_neg (by simp [hc])]
    rw [t1,t2]
    have pe:(bB (c :: t)).isEmpty=false:=by rw [uB]; rfl
    rw [pe,if_neg (by simp)]
    have lhs:(if [123]≠[(123:UInt8)]∨(bB (c :: t)).length % 2=1∨(bB (c :: t)).length > 16 then none else (kR (bB (c :: t))).map fun qs=>(nm,qs))=if (bB (c :: t)).length<=16 then (kR (bB (c :: t))).map (fun qs=>(nm,qs)) else none:=by
     by_cases h16:(bB (c :: t)).length<=16
     ·rw [if_pos h16]
      by_cases h2:(bB (c :: t)).length % 2=1
      ·rw [if_pos (.inr (.inl h2))]
       cases hh:kR (bB (c :: t)) with
       | none=>rfl
       | some ys=>have:=(BF hh).1; omega
      ·rw [if_neg (by simp; omega)]
     ·rw [if_pos (.inr (.inr (by omega))),if_neg h16]
    rw [lhs]
    unfold xu
    by_cases hl:(c :: t).getLast? = some 125
    ·rw [if_pos hl]
     dsimp only
     rw [if_neg (by decide:¬ (true=false))]
     have sp2:=zU hl
     have:=DJ ((c :: t).dropLast.length + 1) (c :: t).dropLast [] (by simp) (by omega)
     rw [this,← sp2]
     simp only [List.length_nil,Nat.sub_zero,List.nil_append]
     by_cases h16:(bB (c :: t)).length<=16
     ·rw [if_pos h16,if_pos (by omega)]
      cases kR (bB (c :: t)) <;> rfl
     ·rw [if_neg h16,if_neg (by omega)]; rfl
    ·rw [if_neg hl]
     dsimp only
     rw [if_pos rfl]
     split
     ·cases hh:kR (bB (c :: t)) with
      | none=>rfl
      | some ys=>have:=(BF hh).2; rw [Od] at this; exact absurd this hl
     ·rfl
   ·-- a rest that begins with no letter
    have s0:(123:UInt8) :: (c :: t).takeWhile nl≠[123]:=by rw [List.takeWhile_cons,if_pos hc]; simp
    have lhs:(if (bB ((c :: t).dropWhile nl)).isEmpty=true then none else if (123:UInt8) :: (c :: t).takeWhile nl≠[123]∨(bB ((c :: t).dropWhile nl)).length % 2=1∨(bB ((c :: t).dropWhile nl)).length > 16 then none else (kR (bB ((c :: t).dropWhile nl))).map fun qs=>(nm,qs))=none:=by
     split
     ·rfl
     ·rw [if_pos (.inl s0)]
    rw [lhs]
    unfold xu
    by_cases hl:(c :: t).getLast? = some 125
    ·rw [if_pos hl]
     dsimp only
     rw [if_neg (by decide:¬ (true=false))]
     have sp2:=zU hl
     have:=DJ ((c :: t).dropLast.length + 1) (c :: t).dropLast [] (by simp) (by omega)
     rw [this,← sp2]
     obtain ⟨s',P',ew⟩:=G5 (r:=t) hc
     rw [ew,Ff]
     split <;> rfl
    ·rw [if_neg hl]
     dsimp only
     rw [if_pos rfl]
  ·-- a name that is no word
   have nn:nm≠[]:=by intro e; rw [e] at al; exact al rfl
   have wn:cu nm=false:=by unfold cu; rw [Bool.eq_false_iff.2 al,Bool.false_and]
   rw [if_pos (⟨nn,wn⟩:nm≠[]/\cu nm=false)]
   -- the first byte that is no letter stands in the name
   have key:∀ {nm:Tx},nm.all aO=false->(∀ x∈nm,x≠123)->∀ t,∃ d u,(nm ++ t).dropWhile aO=d :: u/\d≠123/\nl d=true:=fun {nm}=>by
    induction nm with
    | nil=>intro h; cases h
    | cons x r ih =>
     intro h hx t
     by_cases hl:aO x=true
     ·obtain ⟨d,u,e,h1,h2⟩:=ih (by simpa [hl] using h) (fun y hy=>hx y (List.mem_cons_of_mem _ hy)) t
      exact ⟨d,u,by rw [List.cons_append,List.dropWhile_cons,if_pos hl]; exact e,h1,h2⟩
     ·exact ⟨x,r ++ t,by rw [List.cons_append,List.dropWhile_cons,if_neg hl],hx x List.mem_cons_self,by simpa [nl] using hl⟩
   have no:∀ x∈nm,x≠123:=fun x hx=>by
    rw [enm] at hx
    have:=List.all_eq_true.1 (List.all_takeWhile (p:=fun x:UInt8=>x != 123) (l:=l)) x hx
    simpa using this
   obtain ⟨d,u,ed,d1,d2⟩:=key (Bool.eq_false_iff.2 al) no (123 :: rest)
   rw [← sp] at ed
   rw [ed,List.takeWhile_cons,if_pos d2]
   split
   ·rfl
   ·split
    ·rw [if_neg (by simp)]
    ·rw [if_pos (.inl (by simp; intro e; exact absurd e d1))]
 ·have ec:jV l 123=(l,[],false):=EQ hm
  rw [ec]
  dsimp only
  by_cases al:l.all aO=true
  ·have la:∀ c∈l,aO c=true:=fun c hc=>List.all_eq_true.1 al c hc
   have e1:l.takeWhile aO=l:=by have:=List.takeWhile_append_of_pos (l₂:=[]) la; simpa using this
   have e2:l.dropWhile aO=[]:=by have:=List.dropWhile_append_of_pos (l₂:=[]) la; simpa using this
   have e4:after l=[]:=by unfold after; rw [e2]; rfl
   rw [e1,e2,e4]
   by_cases hw:l≠[]/\cu l=false
   ·rw [if_pos hw,if_pos hw]
   ·rw [if_neg hw,if_neg hw,if_pos rfl]; rfl
  ·have wn:cu l=false:=by unfold cu; rw [Bool.eq_false_iff.2 al,Bool.false_and]
   rw [if_pos (⟨hn,wn⟩:l≠[]/\cu l=false)]
   have key:∀ {nm:Tx},nm.all aO=false->(123:UInt8) ∉ nm->∃ d u,nm.dropWhile aO=d :: u/\d≠123/\nl d=true:=fun {nm}=>by
    induction nm with
    | nil=>intro h; cases h
    | cons x r ih =>
     intro h hx
     by_cases hl:aO x=true
     ·obtain ⟨d,u,e,h1,h2⟩:=ih (by simpa [hl] using h) (fun hy=>hx (List.mem_cons_of_mem _ hy))
      exact ⟨d,u,by rw [List.dropWhile_cons,if_pos hl]; exact e,h1,h2⟩
     ·exact ⟨x,r,by rw [List.dropWhile_cons,if_neg hl],fun e=>hx (by rw [e]; exact List.mem_cons_self),by simpa [nl] using hl⟩
   obtain ⟨d,u,ed,d1,d2⟩:=key (Bool.eq_false_iff.2 al) hm
   rw [ed,List.takeWhile_cons,if_pos d2]
   split
   ·rfl
   ·split
    ·rw [if_neg (by simp)]
    ·rw [if_pos (.inl (by simp; intro e; exact absurd e d1))]
end Go.Q.Yq
end

/- A part of the proof of statements of this seat: lemmas, no statement of their own. -/
import Derived.Test.YtgbbpanapnkdbaaGreatYqZaz
import Derived.Test.YtgbbpanapnkdbaaGreatYqZbb
set_option linter.unusedVariables false
set_option linter.unusedSimpArgs false
set_option maxRecDepth 100000
section
/- Sums by digits. -/
namespace Go.Q.Yq
open Go.Q.Rw
/-! sums by digits -/
def dig (x:au):List Int:=[x.nA % 4294967296,x.nA / 4294967296,(x.mH + 9223372036854775808) % 4294967296,(x.mH + 9223372036854775808) / 4294967296]
abbrev NJ (l:List Int):List Value:=l.map (Value.int .u64)
theorem FI {x:au} {k:KP Slc} {h:Heap} (b0:0<=x.nA/\x.nA < 18446744073709551616) (b1:bJ x.mH) (H:∀ b h',Blk h' b (NJ (dig x)) 25->h.size<=b->Ext h.size h h'->k ⟨some ⟨b,0,none⟩,4,4⟩ h'):rJ x k h:=by
 obtain ⟨c0,c1⟩:=b1
 unfold rJ
 refine bx0 fun h2 B1 X1=>⟨x.mH,B1.cl0 rfl,_,rfl,x.nA,B1.cl rfl,x.nA,B1.cl rfl,?_⟩
 have e:([.int .u64 (Int.tmod x.nA 4294967296),.int .u64 (IntKind.u64.wrap (Int.tdiv x.nA 4294967296)),.int .u64 (Int.tmod (IntKind.u64.wrap (IntKind.u64.wrap x.mH + 9223372036854775808)) 4294967296),.int .u64 (IntKind.u64.wrap (Int.tdiv (IntKind.u64.wrap (IntKind.u64.wrap x.mH + 9223372036854775808)) 4294967296))]:List Value)=NJ (dig x):=by
  have e1:IntKind.u64.wrap (IntKind.u64.wrap x.mH + 9223372036854775808)=x.mH + 9223372036854775808:=by rw [CY,CY]; omega
  rw [e1,Int.tmod_eq_emod_of_nonneg b0.1,Int.tdiv_eq_ediv_of_nonneg b0.1,Int.tmod_eq_emod_of_nonneg (by omega),Int.tdiv_eq_ediv_of_nonneg (by omega),oF (by omega) (by omega),oF (by omega) (by omega)]
  rfl
 rw [e]
 refine bx0 fun h8 B7 X8=>H _ h8 B7 X1.size (X1.trans (X8.mono X1.size))
theorem Js {a b:Int} {k:KP (au × Int)} {h:Heap} (ba:bd2 a) (bb:bd2 b) (H:∀ h',Ext h.size h h'->k (wd (a + b),0) h'):yJ (wd a) (wd b) k h:=by
 unfold yJ
 refine bx0 fun h2 B1 X1=>bx0 fun h4 B3 X3=>bx0 fun h6 B5 X5=>?_
 have z1:=X1.size
 have z3:=X3.size
 have z5:=X5.size
 have C1:=(B1.ext X3 B1.lt).ext X5 (Nat.lt_of_lt_of_le B1.lt z3)
 have C3:=B3.ext X5 B3.lt
 have la:0<=(wd a).nA/\(wd a).nA < 18446744073709551616:=by unfold wd; dsimp only; omega
 have lb:0<=(wd b).nA/\(wd b).nA < 18446744073709551616:=by unfold wd; dsimp only; omega
 have ha:=Hr (n:=a) (by omega) (by omega)
 have hb:=Hr (n:=b) (by omega) (by omega)
 refine ⟨wd a,ai.aL C1,wd b,ai.aL C3,FI la ha fun g1 h10 D1 s1 X10=>⟨(ai.aL C3).ext X10,FI lb hb fun g2 h13 D2 s2 X13=>?_⟩⟩
 have z10:=X10.size
 have z13:=X13.size
 have E1:=D1.ext X13 D1.lt
 have X06:Ext h.size h h6:=X1.trans ((X3.mono z1).trans (X5.mono (by omega)))
 have X013:Ext h.size h h13:=X06.trans ((X10.mono (by omega)).trans (X13.mono (by omega)))
 have E5:=(B5.ext X10 B5.lt).ext X13 (Nat.lt_of_lt_of_le B5.lt z10)
 have l5:=B5.lt
 -- the digits
 obtain ⟨x0,hx0⟩:∃ x,x=(wd a).nA % 4294967296:=⟨_,rfl⟩
 obtain ⟨x1,hx1⟩:∃ x,x=(wd a).nA / 4294967296:=⟨_,rfl⟩
 obtain ⟨x2,hx2⟩:∃ x,x=((wd a).mH + 9223372036854775808) % 4294967296:=⟨_,rfl⟩
 obtain ⟨x3,hx3⟩:∃ x,x=((wd a).mH + 9223372036854775808) / 4294967296:=⟨_,rfl⟩
 obtain ⟨y0,hy0⟩:∃ x,x=(wd b).nA % 4294967296:=⟨_,rfl⟩
 obtain ⟨y1,hy1⟩:∃ x,x=(wd b).nA / 4294967296:=⟨_,rfl⟩
 obtain ⟨y2,hy2⟩:∃ x,x=((wd b).mH + 9223372036854775808) % 4294967296:=⟨_,rfl⟩
 obtain ⟨y3,hy3⟩:∃ x,x=((wd b).mH + 9223372036854775808) / 4294967296:=⟨_,rfl⟩
 have ex:dig (wd a)=[x0,x1,x2,x3]:=by unfold dig; rw [hx0,hx1,hx2,hx3]
 have ey:dig (wd b)=[y0,y1,y2,y3]:=by unfold dig; rw [hy0,hy1,hy2,hy3]
 rw [ex] at D1 E1
 rw [ey] at D2
 have aeq:a=((x3 * 4294967296 + x2) - 9223372036854775808) * 18446744073709551616 + (x1 * 4294967296 + x0):=by unfold wd at *; dsimp only at *; omega
 have beq':b=((y3 * 4294967296 + y2) - 9223372036854775808) * 18446744073709551616 + (y1 * 4294967296 + y0):=by unfold wd at *; dsimp only at *; omega
 have bx0':0<=x0/\x0 < 4294967296:=by omega
 have bx1:0<=x1/\x1 < 4294967296:=by omega
 have bx2:0<=x2/\x2 < 4294967296:=by omega
 have bx3:0<=x3/\x3 < 4294967296:=by unfold bJ at ha; omega
 have by0:0<=y0/\y0 < 4294967296:=by omega
 have by1:0<=y1/\y1 < 4294967296:=by omega
 have by2:0<=y2/\y2 < 4294967296:=by omega
 have by3:0<=y3/\y3 < 4294967296:=by unfold bJ at hb; omega
 clear hx0 hx1 hx2 hx3 hy0 hy1 hy2 hy3 la lb ha hb
 unfold Dn
 obtain ⟨s0,hs0⟩:∃ s,s=x0 + y0 + 0:=⟨_,rfl⟩
 obtain ⟨s1',hs1⟩:∃ s,s=x1 + y1 + s0 / 4294967296:=⟨_,rfl⟩
 obtain ⟨s2',hs2⟩:∃ s,s=x2 + y2 + s1' / 4294967296:=⟨_,rfl⟩
 obtain ⟨s3,hs3⟩:∃ s,s=x3 + y3 + s2' / 4294967296:=⟨_,rfl⟩
 let Z:List Int:=[s0 % 4294967296,s1' % 4294967296,s2' % 4294967296,s3 % 4294967296]
 let Cy:List Int:=[0,s0 / 4294967296,s1' / 4294967296,s2' / 4294967296,s3 / 4294967296]
 refine ⟨fun q hh=>∃ j:Nat,q.2.2=(j:Int)/\j<=4/\Row h13.size hh 25 1 q.1 (NJ (Z.take j))/\q.1.len=j/\Cy[j]? = some q.2.1/\Ext h13.size h13 hh,fun q _=>4 - q.2.2.toNat,⟨0,rfl,by decide,Row.nil _ _ _ _,rfl,rfl,Ext.refl _ _⟩,?_⟩
 rintro t8 c i hh ⟨j,ei,j4,R,tl,cy,X⟩
 dsimp only at ei R tl cy ⊢
 subst ei
 unfold BR
 by_cases hj:j < 4
 ·rw [if_pos (by simp; omega)]
  obtain ⟨x,hx⟩:∃ x,[x0,x1,x2,x3][j]? = some x:=⟨_,List.getElem?_eq_getElem (by simpa using hj)⟩
  obtain ⟨y,hy⟩:∃ y,[y0,y1,y2,y3][j]? = some y:=⟨_,List.getElem?_eq_getElem (by simpa using hj)⟩
  have fact:0<=c/\c<=1/\(0<=x/\x < 4294967296)/\(0<=y/\y < 4294967296)/\Z.take (j + 1)=Z.take j ++ [(x + y + c) % 4294967296]/\Cy[j + 1]? = some ((x + y + c) / 4294967296):=by
   have:j=0∨j=1∨j=2∨j=3:=by omega
   rcases this with rfl | rfl | rfl | rfl <;> (cases hx; cases hy; cases cy)
   ·exact ⟨by omega,by omega,bx0',by0,by rw [← hs0]; rfl,by rw [← hs0]; rfl⟩
   ·exact ⟨by omega,by omega,bx1,by1,by rw [← hs1]; rfl,by rw [← hs1]; rfl⟩
   ·exact ⟨by omega,by omega,bx2,by2,by rw [← hs2]; rfl,by rw [← hs2]; rfl⟩
   ·exact ⟨by omega,by omega,bx3,by3,by rw [← hs3]; rfl,by rw [← hs3]; rfl⟩
  obtain ⟨c0,c1,bx,by',ez,ec⟩:=fact
  have e1:IntKind.u64.wrap (IntKind.u64.wrap (x + y) + c)=x + y + c:=by rw [oF (x:=x + y) (by omega) (by omega),oF (by omega) (by omega)]
  refine ⟨_,rfl,by omega,by show (j:Int) < 4; omega,x,?_,_,rfl,by omega,by show (j:Int) < 4; omega,y,?_,?_⟩
  ·rw [Nat.mul_one]; exact (E1.ext X E1.lt).cl (by rw [Int.toNat_natCast,List.getElem?_map,hx]; rfl)
  ·rw [Nat.mul_one]; exact (D2.ext X D2.lt).cl (by rw [Int.toNat_natCast,List.getElem?_map,hy]; rfl)
  ·rw [e1,Int.tmod_eq_emod_of_nonneg (by omega),Int.tdiv_eq_ediv_of_nonneg (by omega)]
   refine bx0 fun h19 B19 X19=>app1 (R.ext X19 fun g hg=>(R.bd hg).2) (by have:=X.size; have:=X19.size; omega) rfl rfl (fun v hv=>by simp at hv; subst hv; rfl) (by omega) (by unfold maxLen; omega) fun s h21 R21 l21 X21=>⟨_,rfl,_,rfl,?_⟩
   rw [oF (by omega) (by omega),aA (by omega) (by omega)]
   refine ⟨⟨j + 1,by dsimp only; omega,by omega,by rw [ez,NJ,List.map_append]; exact R21,by dsimp only; omega,ec,(X.trans (X19.mono X.size)).trans X21⟩,by dsimp only; omega⟩
 ·rw [if_neg (by simp; omega)]
  have j4':j=4:=by omega
  subst j4'
  have ec:c=s3 / 4294967296:=by cases cy; rfl
  have zl:Z.take 4=Z:=rfl
  rw [zl] at R
  have cell:∀ (n:Nat) (v:Int),Z[n]? = some v->∃ a,t8.a=some a/\ah hh (a.add (n * 1))=some (.int .u64 v):=fun n v hv=>by
   obtain ⟨a,ha,hc⟩:=u6 R.slc (i:=n) (v:=Value.int .u64 v) (by rw [List.getElem?_map,hv]; rfl)
   exact ⟨a,ha,by rw [Nat.mul_one]; exact hc⟩
  obtain ⟨a',ea'⟩:∃ x,x=a:=⟨_,rfl⟩
  rw [← ea'] at aeq ba H
  clear ea'
  obtain ⟨a,ha,c3⟩:=cell 3 _ rfl
  obtain ⟨_,e2,c2⟩:=cell 2 _ rfl
  obtain ⟨_,e1,c1⟩:=cell 1 _ rfl
  obtain ⟨_,e0,c0⟩:=cell 0 _ rfl
  rw [ha] at e2 e1 e0
  cases e2; cases e1; cases e0
  have lt3:(3:Int) < (t8.len:Int):=by rw [tl]; decide
  refine ⟨a,ha,by decide,lt3,_,c3,?_⟩
  have hE:=E5.ext X E5.lt
  have zz:=X.size
  -- what the digits stand for
  have key:a' + b + 340282366920938463463374607431768211456=(s3 % 4294967296 * 4294967296 + s2' % 4294967296) * 18446744073709551616 + (s1' % 4294967296 * 4294967296 + s0 % 4294967296) + s3 / 4294967296 * 340282366920938463463374607431768211456:=by omega
  have r3:0<=s3 % 4294967296/\s3 % 4294967296 < 4294967296:=by omega
  have r2:0<=s2' % 4294967296/\s2' % 4294967296 < 4294967296:=by omega
  have r1:0<=s1' % 4294967296/\s1' % 4294967296 < 4294967296:=by omega
  have r0:0<=s0 % 4294967296/\s0 % 4294967296 < 4294967296:=by omega
  have rc:0<=s3 / 4294967296/\s3 / 4294967296<=1:=by omega
  rw [ec]
  obtain ⟨d3,e3⟩:∃ d,d=s3 % 4294967296:=⟨_,rfl⟩
  obtain ⟨d2,e2⟩:∃ d,d=s2' % 4294967296:=⟨_,rfl⟩
  obtain ⟨d1,e1⟩:∃ d,d=s1' % 4294967296:=⟨_,rfl⟩
  obtain ⟨d0,e0⟩:∃ d,d=s0 % 4294967296:=⟨_,rfl⟩
  obtain ⟨cc,ecc⟩:∃ d,d=s3 / 4294967296:=⟨_,rfl⟩
  rw [← e3,← e2,← e1,← e0,← ecc] at key
  rw [← e3] at r3 c3
  rw [← e2] at r2 c2
  rw [← e1] at r1 c1
  rw [← e0] at r0 c0
  rw [← ecc] at rc ⊢
  rw [← e3]
  clear e3 e2 e1 e0 ecc hs0 hs1 hs2 hs3 aeq beq' cell
  rw [if_neg (by
   simp only [Bool.or_eq_true,Bool.and_eq_true,Bool.not_eq_true',decide_eq_false_iff_not,decide_eq_true_eq,beq_iff_eq]
   omega)]
  refine ⟨a,ha,by decide,lt3,_,c3,a,ha,by decide,by omega,_,c2,a,ha,by decide,by omega,_,c1,a,ha,by decide,by omega,_,c0,?_⟩
  have ew:(⟨IntKind.i64.wrap (IntKind.u64.wrap (IntKind.u64.wrap (d3 * 4294967296) + d2)),IntKind.u64.wrap (IntKind.u64.wrap (d1 * 4294967296) + d0)⟩:au)=wd (a' + b):=by
   rw [oF (x:=d3 * 4294967296) (by omega) (by omega),oF (x:=d3 * 4294967296 + d2) (by omega) (by omega),oF (x:=d1 * 4294967296) (by omega) (by omega),oF (x:=d1 * 4294967296 + d0) (by omega) (by omega),FQ]
   unfold wd
   congr 1 <;> omega
  rw [ew]
  refine pY hE rfl (Nat.le_refl _) fun h36 F U=>⟨_,ai.aL F,H h36 ((X013.trans (X.mono (by omega))).trans (U.ext (by omega) (by omega)))⟩
end Go.Q.Yq
end
section
/- The document's queries, walked: what is asked for. -/
namespace Go.Q.Yq
open Go.Q.Rw
theorem HY {q:aC} {k:KP Int} {h:Heap} (hs:q.dF.size<=100000000) (H:∀ h',Ext h.size h h'->k (tZ q) h'):xC q k h:=by
 unfold xC
 refine bx0 fun h2 B1 X1=>⟨q.dF,B1.cl0 rfl,?_⟩
 have z1:=X1.size
 refine FN q.dF (P:=fun t=>iT t _ h2) ?_
 have ul:=FX q.dF
 refine zi (by omega) (fun h5 e X5=>?_) (fun name qs s h5 e R rl X5=>?_)
 ·have z5:=X5.size
  refine bx rfl (Nat.le_refl _) fun h8 B8 X8=>?_
  rw [if_pos (by simp)]
  have:=H h8 (X1.trans ((X5.mono z1).trans (X8.mono (by omega))))
  unfold tZ at this
  rw [e] at this
  exact this
 ·have z5:=X5.size
  refine bx rfl (Nat.le_refl _) fun h8 B8 X8=>?_
  have z8:=X8.size
  rw [if_neg (by simp)]
  have X:=X1.trans ((X5.mono z1).trans (X8.mono (by omega)))
  have H2:=H h8 X
  have C1:=(B1.ext X5 B1.lt).ext X8 (Nat.lt_of_lt_of_le B1.lt z5)
  unfold tZ at H2
  rw [e] at H2
  simp only [Option.isNone_some,Bool.false_eq_true,if_false] at H2
  refine ⟨q.aW,C1.cl rfl,?_⟩
  unfold qP qW rV
  by_cases h0:q.aW < 0
  ·rw [if_pos (by simpa using h0),if_pos rfl,if_pos rfl]
   rw [if_pos (by omega)] at H2; exact H2
  ·rw [if_neg (by simpa using h0)]
   refine ⟨q.aW,C1.cl rfl,?_⟩
   by_cases h6:q.aW > 6
   ·rw [if_pos (by simpa using h6),if_pos rfl]
    rw [if_pos (by omega)] at H2; exact H2
   ·rw [if_neg (by simpa using h6)]
    refine ⟨q.aW,C1.cl rfl,?_⟩
    by_cases e6:q.aW=6
    ·rw [if_pos (by simpa using e6)]
     refine ⟨q.aX,C1.cl rfl,?_⟩
     by_cases st:q.aX < 1
     ·rw [if_pos (by simpa using st)]
      rw [if_pos (by omega)] at H2; exact H2
     ·rw [if_neg (by simpa using st)]
      rw [if_neg (by omega)] at H2; exact H2
    ·rw [if_neg (by simpa using e6),if_neg (by simp)]
     rw [if_neg (by omega)] at H2; exact H2
theorem zN {n:Int} {k:KP au} {h:Heap} (b:bJ n) (H:∀ h',Ext h.size h h'->k (wd n) h'):mD n k h:=by
 obtain ⟨b0,b1⟩:=b
 unfold mD
 refine bx0 fun h2 B1 X1=>?_
 have z1:=X1.size
 by_cases hn:n < 0
 ·rw [if_pos (by simpa using hn)]
  refine pY B1 rfl (Nat.le_refl 2) fun h3 F U=>⟨_,ai.aL F,?_⟩
  have e:(⟨-1,IntKind.u64.wrap n⟩:au)=wd n:=by rw [CY]; unfold wd; congr 1; omega
  rw [e]
  exact H h3 (X1.trans (U.ext (Nat.le_refl _) (by omega)))
 ·rw [if_neg (by simpa using hn)]
  refine pY B1 rfl (Nat.le_refl 2) fun h3 F U=>⟨_,ai.aL F,?_⟩
  have e:(⟨0,IntKind.u64.wrap n⟩:au)=wd n:=by rw [CY]; unfold wd; congr 1; omega
  rw [e]
  exact H h3 (X1.trans (U.ext (Nat.le_refl _) (by omega)))
theorem DW {a b:Int} {k:KP (Int × Int)} {h:Heap} (ia:bJ a) (ib:bJ b) (hb:0 < b) (H:k (a / b,0) h):qN a b k h:=by
 unfold qN rE
 rw [if_neg (by simp; omega),if_neg (by simp; omega)]
 have fi:=Jp ia hb
 have hd:=JF a b hb
 have hm:=Int.tmod_add_mul_tdiv a b
 obtain ⟨a0,a1⟩:=ia
 obtain ⟨b0,b1⟩:=ib
 have ti:bJ (a.tdiv b):=by
  unfold bJ at *
  by_cases c:a.tmod b≠0/\a < 0
  ·rw [if_pos c] at hd
   have:a.tdiv b<=0:=by
    obtain ⟨m,rfl⟩:∃ m,a = -m:=⟨-a,by omega⟩
    rw [Int.neg_tdiv,Int.tdiv_eq_ediv_of_nonneg (by omega:0<=m)]
    have:=Int.ediv_nonneg (by omega:0<=m) (by omega:0<=b); omega
   omega
  ·rw [if_neg c] at hd; omega
 refine ⟨by omega,_,rfl,?_⟩
 rw [aA ti.1 ti.2]
 -- the product is within
 have pm:a.tdiv b * b=a - a.tmod b:=by rw [Int.mul_comm]; omega
 have tb:-b < a.tmod b/\a.tmod b < b:=by
  refine ⟨?_,Int.tmod_lt_of_pos a hb⟩
  have:=Int.tmod_lt_of_pos (-a) hb
  rw [Int.neg_tmod] at this; omega
 have tsg:(0<=a->0<=a.tmod b)/\(a < 0->a.tmod b<=0):=by
  refine ⟨fun h=>Int.tmod_nonneg b h,fun h=>?_⟩
  have:=Int.tmod_nonneg b (show 0<=-a by omega)
  rw [Int.neg_tmod] at this; omega
 have pin:bJ (a.tdiv b * b):=by
  rw [pm]
  by_cases h:0<=a
  ·have:=tsg.1 h
   have hle:a.tmod b<=a:=by
    have:=Int.tdiv_nonneg h (by omega:0<=b)
    have:=Int.mul_nonneg (by omega:0<=b) this
    omega
   exact ⟨by omega,by omega⟩
  ·have:=tsg.2 (by omega)
   have hle:a<=a.tmod b:=by
    obtain ⟨m,rfl⟩:∃ m,a = -m:=⟨-a,by omega⟩
    have:=Int.tdiv_nonneg (show 0<=m by omega) (by omega:0<=b)
    have:=Int.mul_nonneg (by omega:0<=b) this
    rw [Int.neg_tmod] at *
    rw [Int.neg_tdiv] at hm
    rw [Int.mul_neg] at hm
    omega
   exact ⟨by omega,by omega⟩
 rw [aA pin.1 pin.2,pm]
 by_cases c:a.tmod b≠0/\a < 0
 ·rw [if_pos c] at hd
  rw [if_pos (by
   rw [show decide (a < 0)=true from by simpa using c.2,show decide (b < 0)=false from by simp; omega]
   simp
   omega)]
  refine ⟨_,rfl,?_⟩
  rw [← hd,aA fi.1 fi.2]; exact H
 ·rw [if_neg c] at hd
  rw [if_neg (by
   rw [show decide (b < 0)=false from by simp; omega]
   simp only [Bool.and_eq_true,bne_iff_ne,Bool.not_eq_true',beq_eq_false_iff_ne,decide_eq_false_iff_not]
   rintro ⟨h1,h2⟩
   apply c
   refine ⟨by omega,?_⟩
   by_cases hlt:a < 0
   ·exact hlt
   ·exact absurd (by simpa using hlt) h2)]
  rw [← hd]; exact H
theorem Hd {a b:Int} {k:KP Bool} {h:Heap} (ia:bJ a) (ib:bJ b) (H:k (decide (bJ (a - b))) h):uj a b k h:=by
 unfold uj
 refine ⟨_,rfl,?_⟩
 have e:((decide (b < 0)) == (decide (IntKind.i64.wrap (a - b) > a)))=decide (bJ (a - b)):=by
  rw [FQ,Bool.eq_iff_iff]
  simp only [beq_iff_eq,decide_eq_decide,decide_eq_true_eq]
  obtain ⟨a0,a1⟩:=ia
  obtain ⟨b0,b1⟩:=ib
  constructor
  ·intro h; exact ⟨by omega,by omega⟩
  ·rintro ⟨h,h2⟩; omega
 rw [e]; exact H
theorem NM {q:aC} {p1:Slc} {l:List Pc} {hz:Int} {k:KP Slc} {h:Heap} (L:Pcs h p1 l) (m:l.length<=1000) (hs:q.dF.size<=100000000) (hc:tZ q=0) (hp:∀ p∈l,p.ak.size<=100000000)
  (H:∀ s h',Row h.size h' 89 5 s ((AJ q hz (fT l)).flatMap ae.cs)->s.len=(AJ q hz (fT l)).length->Ext h.size h h'->k s h'):Bn q p1 hz k h:=by
 unfold Bn
 refine bx0 fun h2 B1 X1=>⟨q.dF,B1.cl0 rfl,?_⟩
 have z1:=X1.size
 have l1:=B1.lt
 refine FN q.dF (P:=fun t=>iT t _ h2) ?_
 have ul:=FX q.dF
 refine zi (by omega) (fun h5 e X5=>?_) (fun name qs sq h5 e Rq ql X5=>?_)
 ·unfold tZ at hc
  rw [e] at hc
  simp at hc
 have z5:=X5.size
 have q8:=(Dg e).2.2
 have hask:AJ q hz (fT l)=Nn q.pK q.FE hz (chs name qs) (fT l):=by unfold AJ; rw [e]
 refine bx rfl (Nat.le_refl _) fun h8 B6 X8=>?_
 have z8:=X8.size
 have X08:Ext h.size h h8:=X1.trans ((X5.mono z1).trans (X8.mono (by omega)))
 have IM:=u7 l
 have ml:=IM.len
 refine Gg (L.ext X08) m fun t h10 R10 tl X10=>?_
 have z10:=X10.size
 have X28:Ext h2.size h2 h8:=X5.trans (X8.mono z5)
 have C1:Blk h10 h.size (aC.cs q) 28:=(B1.ext X28 l1).ext X10 (by omega)
 have C6:Blk h10 h5.size (af.cs ⟨ofL name,sq⟩) 139:=B6.ext X10 B6.lt
 have Rq10:=(Rq.ext X8 fun g hg=>(Rq.bd hg).2).ext X10 fun g hg=>by have:=(Rq.bd hg).2; omega
 have L10:Pcs h10 t (fT l):=iH Aw R10.slc tl (by decide)
 have X010:Ext h.size h h10:=X08.trans (X10.mono X08.size)
 obtain ⟨ms,ems⟩:∃ ms,ms=fT l:=⟨_,rfl⟩
 rw [← ems] at L10 tl hask IM ml H
 obtain ⟨f,ef⟩:∃ f:Pc->Bool,f=fun p=>decide (max q.pK hz<=p.f_T) && decide (p.f_T<=q.FE) && chs name qs p.ak:=⟨_,rfl⟩
 have hask2:AJ q hz ms=ms.filter f:=by rw [hask,ef]; rfl
 unfold CB
 refine ⟨fun r h'=>∃ i:Nat,r.2=(i:Int)/\i<=ms.length/\Ext h10.size h10 h'/\Row h10.size h' 89 5 r.1 (((ms.take i).filter f).flatMap ae.cs)/\r.1.len=((ms.take i).filter f).length,fun r _=>ms.length - r.2.toNat,⟨0,rfl,by omega,Ext.refl _ _,by simpa using Row.nil _ _ _ _,by simp⟩,?_⟩
 rintro t10 ii h11 ⟨i,ei,il,X11,R,rl⟩
 dsimp only at ei R rl
 subst ei
 have z11:=X11.size
 have X011:=X010.trans (X11.mono X010.size)
 unfold Ck
 rw [tl]
 by_cases hi:i < ms.length
 rotate_left
 ·rw [if_neg (by simp; omega)]
  rw [List.take_of_length_le (by omega)] at R rl
  exact H t10 h11 (by rw [hask2]; exact R.mono (by have:=X010.size; omega)) (by rw [hask2]; exact rl) X011
 rw [if_pos (by simp; omega)]
 obtain ⟨a,x,ha,g0,g1,hx,hcx⟩:=(L10.ext X11).it (i:=(i:Int)) (by omega) (by omega)
 have hx':ms[i]? = some x:=by rw [← hx,Int.toNat_natCast]
 rw [tl] at g1
 have xs:=hp x (IM.sub x (List.mem_of_getElem? hx'))
 have ux:=FX x.ak
 have tk:ms.take (i + 1)=ms.take i ++ [x]:=by
  obtain ⟨h1,h2⟩:=List.getElem?_eq_some_iff.1 hx'
  rw [List.take_succ_eq_append_getElem h1,h2]
 have lfl:((ms.take i).filter f).length<=1000:=Nat.le_trans (List.length_filter_le _ _) (by rw [List.length_take]; omega)
 have fx:f x=(decide (max q.pK hz<=x.f_T) && decide (x.f_T<=q.FE) && chs name qs x.ak):=by rw [ef]
 have j3:∀ v h',v=f x->Ext h11.size h11 h'->bS hz ⟨h.size,0,none⟩ ⟨h5.size,0,none⟩ t t10 (i:Int) v k (fun r h'=>(∃ i:Nat,r.2=(i:Int)/\i<=ms.length/\Ext h10.size h10 h'/\Row h10.size h' 89 5 r.1 (((ms.take i).filter f).flatMap ae.cs)/\r.1.len=((ms.take i).filter f).length)/\ms.length - r.2.toNat < ms.length - ((i:Nat):Int).toNat) h':=fun v h' hv X'=>by
  have z':=X'.size
  have R':=R.ext X' fun g hg=>(R.bd hg).2
  unfold bS vg
  cases hfx:f x with
  | true =>
   have ef2:(ms.take (i + 1)).filter f=(ms.take i).filter f ++ [x]:=by rw [tk,List.filter_append]; simp [hfx]
   rw [hv,hfx,if_pos rfl]
   refine ⟨a,ha,g0,by rw [tl]; exact g1,x,hcx.ext X',bx0 fun h22 B21 X22=>app1 (R'.ext X22 fun g hg=>(R'.bd hg).2) (by have:=X22.size; omega) rfl rfl (Dc x) (by omega) (by unfold maxLen; omega) fun s h24 R24 l24 X24=>⟨_,rfl,?_⟩⟩
   have z22:=X22.size
   rw [aA (by omega) (by omega)]
   refine ⟨⟨i + 1,by dsimp only; omega,by omega,X11.trans ((X'.mono z11).trans ((X22.mono (by omega)).trans X24)),?_,?_⟩,by dsimp only; omega⟩
   ·rw [ef2,List.flatMap_append]; simpa using R24
   ·rw [ef2,l24,rl]; simp
  | false =>
   have ef2:(ms.take (i + 1)).filter f=(ms.take i).filter f:=by rw [tk,List.filter_append]; simp [hfx]
   rw [hv,hfx,if_neg (by simp)]
   refine ⟨_,rfl,?_⟩
   rw [aA (by omega) (by omega)]
   exact ⟨⟨i + 1,by dsimp only; omega,by omega,X11.trans (X'.mono z11),by rw [ef2]; exact R',by rw [ef2]; exact rl⟩,by dsimp only; omega⟩
 have C1':Blk h11 h.size (aC.cs q) 28:=C1.ext X11 C1.lt
 have C6':Blk h11 h5.size (af.cs ⟨ofL name,sq⟩) 139:=C6.ext X11 C6.lt
 refine ⟨a,ha,g0,g1,x.ak,zx hcx rfl,FN x.ak (P:=fun t=>uA t _ h11) ?_⟩
 refine J3 (by omega) (fun h15 ep X15=>?_) (fun n ls sl h15 ep Rl ll X15=>?_)
 ·refine bx rfl (Nat.le_refl _) fun h18 B16 X18=>?_
  rw [if_neg (by simp),if_neg (by simp),if_neg (by simp),if_neg (by simp)]
  exact j3 false h18 (by rw [fx]; unfold chs; rw [ep]; simp) (X15.trans (X18.mono X15.size))
 ·have z15:=X15.size
  refine bx rfl (Nat.le_refl _) fun h18 B16 X18=>?_
  have z18:=X18.size
  rw [if_pos rfl]
  have X1118:Ext h11.size h11 h18:=X15.trans (X18.mono z15)
  obtain ⟨okl,l8⟩:=F5 (by omega) ep
  have Rq18:=((Rq10.ext X11 fun g hg=>(Rq10.bd hg).2).ext X1118 fun g hg=>by have:=(Rq10.bd hg).2; omega)
  refine ⟨_,ai.aL (C6'.ext X1118 C6'.lt),_,ai.aL B16,H6 (qs:=qs) (ls:=ls) (Kn o7 (by decide) Rq18 ql) ((Kn vH (by decide) Rl ll).ext X18) (by omega) (by omega) fun h28 X28=>?_⟩
  have z28:=X28.size
  have X1128:=X1118.trans (X28.mono X1118.size)
  have ech:chs name qs x.ak=yh name qs n ls:=by unfold chs; rw [ep]
  have cT:∀ {h'},Ext h11.size h11 h'->ah h' ((a.add (((i:Nat):Int).toNat * 5)).add 1)=some (.int .i64 x.f_T):=fun X=>(hcx.ext X) 1 _ rfl
  rw [← ech]
  cases hch:chs name qs x.ak with
  | false =>
   rw [if_neg (by simp),if_neg (by simp),if_neg (by simp)]
   exact j3 false h28 (by rw [fx,hch]; simp) X1128
  | true =>
   rw [if_pos rfl]
   have D1:=C1'.ext X1128 C1'.lt
   refine ⟨a,ha,g0,g1,x.f_T,cT X1128,q.pK,D1.cl rfl,?_⟩
   by_cases h1:x.f_T>=q.pK
   ·rw [if_pos (by simpa using h1)]
    refine ⟨a,ha,g0,g1,x.f_T,cT X1128,?_⟩
    by_cases h2:x.f_T>=hz
    ·rw [if_pos (by simpa using h2)]
     refine ⟨a,ha,g0,g1,x.f_T,cT X1128,q.FE,D1.cl rfl,j3 _ h28 ?_ X1128⟩
     rw [fx,hch,Bool.and_true,show decide (max q.pK hz<=x.f_T)=true from by simp; omega,Bool.true_and]
    ·rw [if_neg (by simpa using h2)]
     exact j3 false h28 (by rw [fx,show decide (max q.pK hz<=x.f_T)=false from by rw [decide_eq_false_iff_not]; omega]; rfl) X1128
   ·rw [if_neg (by simpa using h1),if_neg (by simp)]
    exact j3 false h28 (by rw [fx,show decide (max q.pK hz<=x.f_T)=false from by rw [decide_eq_false_iff_not]; omega]; rfl) X1128
end Go.Q.Yq
end
section
/- The document's queries, walked: rows. -/
namespace Go.Q.Yq
open Go.Q.Rw
/-! steps, plainly -/
def Ad (step:Int) (s:ByteArray):Int->Int->List Pc->List RI
 | n,w,[]=>[(s,IntKind.i64.wrap (n * step),w)]
 | n,w,y :: g=>if y.f_T / step=n then Ad step s n (w + y.f_V) g else (s,IntKind.i64.wrap (n * step),w) :: Ad step s (y.f_T / step) y.f_V g
def Dq (step:Int) (s:ByteArray):List Pc->List RI
 | []=>[]
 | y :: g=>Ad step s (y.f_T / step) 0 (y :: g)
theorem MS {d s:Nat} (h:d * s=2 ^ 64) (hs:s < 2 ^ 63):d % 2=0:=by
 rcases Nat.mod_two_eq_zero_or_one d with h0 | h1
 ·exact h0
 ·exfalso
  have co:Nat.Coprime d 2:=by
   unfold Nat.Coprime
   rw [Nat.gcd_comm,Nat.gcd_rec,h1]; rfl
  have co2:Nat.Coprime d (2 ^ 64):=Nat.Coprime.pow_right 64 co
  have d1:d=1:=Nat.Coprime.eq_one_of_dvd co2 ⟨s,h.symm⟩
  rw [d1,Nat.one_mul] at h
  omega
/-- unlike multiples are unlike, modulo 2^64 -/
theorem Ia {a b step:Int} (ia:bJ a) (ib:bJ b) (s0:0 < step) (s1:bJ step) (h:a / step < b / step):IntKind.i64.wrap (a / step * step)≠IntKind.i64.wrap (b / step * step):=by
 rw [FQ,FQ]
 intro e
 obtain ⟨a0,a1⟩:=ia
 obtain ⟨b0,b1⟩:=ib
 obtain ⟨_,s2⟩:=s1
 have fa:=Int.emod_add_mul_ediv a step
 have fb:=Int.emod_add_mul_ediv b step
 have ma:=Int.emod_nonneg a (by omega:step≠0)
 have mb:=Int.emod_nonneg b (by omega:step≠0)
 have ma':=Int.emod_lt_of_pos a s0
 have mb':=Int.emod_lt_of_pos b s0
 have ca:=Int.mul_comm step (a / step)
 have cb:=Int.mul_comm step (b / step)
 obtain ⟨d,hd⟩:∃ d:Nat,(d:Int)=b / step - a / step:=⟨(b / step - a / step).toNat,by omega⟩
 have hm:(d:Int) * step=b / step * step - a / step * step:=by rw [hd,Int.sub_mul]
 have dpos:0 < (d:Int) * step:=Int.mul_pos (by omega) s0
 have key:(d:Int) * step=18446744073709551616:=by omega
 obtain ⟨s,hs⟩:∃ s:Nat,(s:Int)=step:=⟨step.toNat,by omega⟩
 have kn:d * s=2 ^ 64:=by
  have:((d * s:Nat):Int)=((2 ^ 64:Nat):Int):=by rw [Int.natCast_mul,hs,key]; rfl
  exact Int.ofNat.inj this
 have ev:=MS kn (by omega)
 obtain ⟨e2,he2⟩:∃ e2:Nat,d=2 * e2:=⟨d / 2,by omega⟩
 have half:(e2:Int) * step=9223372036854775808:=by
  have:(d:Int)=2 * (e2:Int):=by omega
  rw [this,Int.mul_assoc] at key
  omega
 have lo:-(e2:Int)<=a / step:=by
  rw [Int.le_ediv_iff_mul_le s0,Int.neg_mul]; omega
 have:=Int.mul_le_mul_of_nonneg_right lo (by omega:0<=step)
 rw [Int.neg_mul] at this
 omega
theorem Je (step:Int) (o:List RI) (s:ByteArray) (a w:Int) (y:Pc):qJ step (o ++ [(s,a,w)]) y=if a=atP step y then o ++ [(s,a,w + y.f_V)] else (o ++ [(s,a,w)]) ++ [(y.ak,atP step y,y.f_V)]:=by
 unfold qJ
 rw [show (o ++ [(s,a,w)]).getLast? = some (s,a,w) from by simp]
 dsimp only
 rw [show (o ++ [(s,a,w)]).dropLast=o from by simp]
theorem EJ (step:Int) (s:ByteArray) (y:Pc) (g:List Pc):Dq step s (y :: g)=Ad step s (y.f_T / step) y.f_V g:=by
 show Ad step s (y.f_T / step) 0 (y :: g)=_
 conv=>lhs; unfold Ad
 rw [if_pos rfl,Int.zero_add]
theorem IP {step:Int} {s:ByteArray} (s0:0 < step) (s1:bJ step):∀ (g:List Pc) (o:List RI) (x:Pc) (w:Int),(∀ y∈x :: g,bJ y.f_T)->(∀ y∈g,y.ak=s)->(x :: g).Pairwise (fun a b=>a.f_T < b.f_T) ->
  g.foldl (qJ step) (o ++ [(s,IntKind.i64.wrap (x.f_T / step * step),w)])=o ++ Ad step s (x.f_T / step) w g
 | [],o,x,w,_,_,_=>rfl
 | y :: g,o,x,w,ht,hs,hp=>by
  rw [List.foldl_cons]
  have hx:=List.pairwise_cons.1 hp
  have hy:=List.pairwise_cons.1 hx.2
  have lt:=hx.1 y List.mem_cons_self
  have sy:=hs y List.mem_cons_self
  have mono:x.f_T / step<=y.f_T / step:=Int.ediv_le_ediv s0 (by omega)
  have sub:(x :: g).Pairwise (fun a b=>a.f_T < b.f_T):=List.pairwise_cons.2 ⟨fun z hz=>hx.1 z (List.mem_cons_of_mem _ hz),hy.2⟩
  unfold Ad
  rw [Je]
  unfold atP
  by_cases e:y.f_T / step=x.f_T / step
  ·rw [e,if_pos rfl,if_pos rfl]
   exact IP s0 s1 g o x (w + y.f_V) (fun z hz=>ht z (by rcases List.mem_cons.1 hz with rfl | hz; exact List.mem_cons_self; exact List.mem_cons_of_mem _ (List.mem_cons_of_mem _ hz))) (fun z hz=>hs z (List.mem_cons_of_mem _ hz)) sub
  ·rw [if_neg (Ia (ht x List.mem_cons_self) (ht y (List.mem_cons_of_mem _ List.mem_cons_self)) s0 s1 (by omega)),if_neg e]
   have:=IP s0 s1 g (o ++ [(s,IntKind.i64.wrap (x.f_T / step * step),w)]) y y.f_V (fun z hz=>ht z (List.mem_cons_of_mem _ hz)) (fun z hz=>hs z (List.mem_cons_of_mem _ hz)) hx.2
   rw [sy,this,List.append_assoc]; rfl
theorem OI {step:Int} {g:List Pc} (s0:0 < step) (s1:bJ step) (ht:∀ y∈g,bJ y.f_T) (hs:∀ x∈g,∀ y∈g,x.ak=y.ak) (hp:g.Pairwise (fun a b=>a.f_T < b.f_T)):lQ step g=Dq step (ser g) g:=by
 cases g with
 | nil=>rfl
 | cons x g =>
  have:=IP (s:=x.ak) s0 s1 g [] x x.f_V ht (fun y hy=>hs y (List.mem_cons_of_mem _ hy) x List.mem_cons_self) hp
  rw [EJ]
  exact this
theorem Kg {x:Pc} {r:List Pc}:(x :: r).foldl (fun m p=>if p.f_V < m then p.f_V else m) x.f_V=Dj (x :: r):=by
 simp only [List.foldl_cons,Int.lt_irrefl,if_false,Dj]
theorem Ku {x:Pc} {r:List Pc}:(x :: r).foldl (fun m p=>if p.f_V > m then p.f_V else m) x.f_V=CO (x :: r):=by
 simp only [List.foldl_cons,gt_iff_lt,Int.lt_irrefl,if_false,CO]
/-! a group of a row of pieces -/
structure yu (q:aC) (A:Slc) (as':List Pc) (b1:Nat) (hA:Heap) (i kk:Nat) (g:List Pc):Prop where
 L:Pcs hA A as'
 m:as'.length<=1000
 hv:∀ p∈as',bJ p.f_V/\bJ p.f_T
 qa:0<=q.aW/\q.aW<=6/\(q.aW=6->0 < q.aX)
 q6:bJ q.aX
 B:Blk hA b1 (aC.cs q) 28
 ik:i < kk
 kl:kk<=as'.length
 eg:g=(as'.drop i).take (kk - i)
 rise:g.Pairwise fun a b=>a.f_T < b.f_T
 same:∀ x∈g,∀ y∈g,x.ak=y.ak
section
variable {q:aC} {A:Slc} {as':List Pc} {b1:Nat} {hA:Heap} {i kk:Nat} {g:List Pc} {h h':Heap} {rs:List RI} {t10:Slc}
theorem yu.len (C:yu q A as' b1 hA i kk g):g.length=kk - i:=by
 have:=C.kl
 rw [C.eg,List.length_take,List.length_drop]; omega
theorem yu.get (C:yu q A as' b1 hA i kk g) {j:Nat} (h1:i<=j) (h2:j < kk):∃ x,g[j - i]? = some x/\as'[j]? = some x/\x∈g:=by
 have hl:=C.len
 obtain ⟨x,hx⟩:∃ x,g[j - i]? = some x:=⟨_,List.getElem?_eq_getElem (by omega)⟩
 refine ⟨x,hx,?_,List.mem_of_getElem? hx⟩
 rw [C.eg,List.getElem?_take,if_pos (by omega),List.getElem?_drop,show i + (j - i)=j from by omega] at hx
 exact hx
theorem yu.sub (C:yu q A as' b1 hA i kk g):∀ x∈g,x∈as':=fun x hx=>by
 rw [C.eg] at hx; exact List.mem_of_mem_drop (List.mem_of_mem_take hx)
theorem yu.it (C:yu q A as' b1 hA i kk g) (X:Ext hA.size hA h) {j:Nat} (h1:i<=j) (h2:j < kk):∃ a x,A.a=some a/\(0:Int)<=(j:Int)/\(j:Int) < (A.len:Int)/\ai h (a.add (((j:Nat):Int).toNat * 5)) (ae.cs x)/\g[j - i]? = some x/\x∈g/\bJ x.f_V/\bJ x.f_T:=by
 obtain ⟨x,hx,ha,hm⟩:=C.get h1 h2
 have kl:=C.kl
 obtain ⟨a,y,hA',p0,p1,hy,hc⟩:=(C.L.ext X).it (i:=(j:Int)) (by omega) (by omega)
 rw [Int.toNat_natCast] at hy
 rw [ha] at hy; cases hy
 obtain ⟨v,t⟩:=C.hv x (C.sub x hm)
 exact ⟨a,x,hA',p0,p1,hc,hx,hm,v,t⟩
theorem yu.ser (C:yu q A as' b1 hA i kk g) {x:Pc} (hx:x∈g):ser g=x.ak:=by
 have same:=C.same
 cases g with
 | nil=>cases hx
 | cons y r=>exact same y List.mem_cons_self x hx
theorem yu.bq (C:yu q A as' b1 hA i kk g) (X:Ext hA.size hA h):Blk h b1 (aC.cs q) 28:=C.B.ext X C.B.lt
theorem yu.ne (C:yu q A as' b1 hA i kk g):g≠[]:=by
 intro e
 have:=C.len
 have:=C.ik
 rw [e] at *
 simp at *; omega
/-- rows so far -/
structure rX (hA h:Heap) (t10:Slc) (rs:List RI):Prop where
 X:Ext hA.size hA h
 R:Row hA.size h 118 4 t10 (rvs rs)
 l:t10.len=rs.length
 m:rs.length<=2000
theorem rX.ext (O:rX hA h t10 rs) (X:Ext h.size h h'):rX hA h' t10 rs :=
 ⟨O.X.trans (X.mono O.X.size),O.R.ext X fun g hg=>(O.R.bd hg).2,O.l,O.m⟩
/-- one more row -/
theorem rX.push (O:rX hA h t10 rs) (m:rs.length + 1<=2000) (r:RI) {k:KP Slc} (H:∀ s h',rX hA h' s (rs ++ [r])->k s h') :
  ∃ (b:Nat) (h2:Heap),b=h.size/\h2=h.push (.cells (aH.cs (rC r)).toArray 118)/\App 118 4 40 [.string ByteArray.empty,.int .i64 0,.int .i64 0,.int .u64 0] h2 t10 1 (aH.cs (rC r)) (fun s h'=>k s h'):=by
 refine bx0 fun h2 B X=>?_
 have z:=X.size
 have zA:=O.X.size
 have P:=O.ext X
 have ol:=O.l
 exact app1 P.R (by omega) rfl rfl (Eo _) (by omega) (by unfold maxLen; omega) fun s h' R' l' X'=>H s h' ⟨P.X.trans X',by rw [BI,BM]; exact R',by rw [l',ol]; simp,by simp; omega⟩
section
variable {k:KP (Slc × Int)} {N1:KP (Slc × Int)} {N2:KP Int} {N4:KP (Int × Int × Int)}
/-- no row of its own -/
theorem J5b (C:yu q A as' b1 hA i kk g) {b17:Nat} (X:Ext hA.size hA h) (c:q.aW=0∨q.aW=6∨(q.aW=5/\g.length < 2)) (H:N1 (t10,(kk:Int)) h):dR ⟨b1,0,none⟩ A (i:Int) (kk:Int) ⟨b17,0,none⟩ t10 k N1 N2 N4 h:=by
 have hl:=C.len
 have kl:=C.kl
 have km:=C.m
 have ik:=C.ik
 have B:=C.bq X
 unfold dR
 refine ⟨q.aW,B.cl rfl,?_⟩
 have g7:pV ⟨b1,0,none⟩ A t10 (i:Int) (kk:Int) ⟨b17,0,none⟩ false k N1 N2 N4 h:=by
  unfold pV
  rw [if_neg (by simp)]
  refine ⟨q.aW,B.cl rfl,?_⟩
  unfold pO
  rw [aA (by omega) (by omega)]
  rw [if_neg (by
   simp only [Bool.and_eq_true,beq_iff_eq,decide_eq_true_eq]
   rintro ⟨h1,h2⟩
   rcases c with c | c | ⟨c,c2⟩ <;> omega)]
  unfold qV
  exact H
 by_cases c1:q.aW>=1
 ·rw [if_pos (by simpa using c1)]
  refine ⟨q.aW,B.cl rfl,?_⟩
  rw [show decide (q.aW<=4)=false from by rw [decide_eq_false_iff_not]; rcases c with c | c | ⟨c,c2⟩ <;> omega]
  exact g7
 ·rw [if_neg (by simpa using c1)]
  exact g7
/-- one row of its own -/
theorem J5a (C:yu q A as' b1 hA i kk g) {b17:Nat} {n:Int} (O:rX hA h t10 rs) (m:rs.length + 1<=2000) (K:Blk h b17 (aH.cs (rC (ser g,0,n))) 118) (c:(1<=q.aW/\q.aW<=4)∨(q.aW=5/\2<=g.length)) (H:∀ s h',rX hA h' s (rs ++ [(ser g,0,n)])->N1 (s,(kk:Int)) h'):dR ⟨b1,0,none⟩ A (i:Int) (kk:Int) ⟨b17,0,none⟩ t10 k N1 N2 N4 h:=by
 have hl:=C.len
 have kl:=C.kl
 have km:=C.m
 have ik:=C.ik
 have B:=C.bq O.X
 unfold dR
 refine ⟨q.aW,B.cl rfl,?_⟩
 rw [if_pos (by rw [decide_eq_true_eq]; rcases c with c | c <;> omega)]
 refine ⟨q.aW,B.cl rfl,?_⟩
 have g8:pO ⟨b1,0,none⟩ A t10 (kk:Int) ⟨b17,0,none⟩ true k N1 N2 N4 h:=by
  unfold pO
  rw [if_pos rfl]
  refine ⟨_,ai.aL K,O.push m _ fun s h' O'=>?_⟩
  unfold qV
  exact H s h' O'
 unfold pV
 by_cases c4:q.aW<=4
 ·rw [if_pos (by simpa using c4)]
  exact g8
 ·rw [if_neg (by simpa using c4)]
  refine ⟨q.aW,B.cl rfl,?_⟩
  rw [aA (by omega) (by omega)]
  rw [show ((q.aW == 5) && (decide ((kk:Int) - (i:Int) > 1)))=true from by
   simp only [Bool.and_eq_true,beq_iff_eq,decide_eq_true_eq]
   rcases c with c | c <;> omega]
  exact g8
/-- all pieces as rows -/
theorem Qb (C:yu q A as' b1 hA i kk g) {b17:Nat} (O:rX hA h t10 rs) (m:rs.length + g.length<=2000) (c:q.aW=0) (H:∀ s h',rX hA h' s (rs ++ g.map fun p=>(p.ak,p.f_T,p.f_V))->N1 (s,(kk:Int)) h'):zP ⟨b1,0,none⟩ A (i:Int) (kk:Int) ⟨b17,0,none⟩ t10 (i:Int) k N1 N2 N4 h:=by
 have hl:=C.len
 have kl:=C.kl
 have km:=C.m
 have ik:=C.ik
 unfold zP
 refine ⟨fun q h'=>∃ n:Nat,q.2=((i + n:Nat):Int)/\n<=g.length/\rX hA h' q.1 (rs ++ (g.take n).map fun p=>(p.ak,p.f_T,p.f_V)),fun q _=>kk - q.2.toNat,⟨0,rfl,by omega,by simpa using O⟩,?_⟩
 rintro t j h1 ⟨n,ej,nl,O1⟩
 dsimp only at ej O1
 subst ej
 unfold Ce
 by_cases hn:n < g.length
 ·rw [if_pos (by simp; omega)]
  obtain ⟨a,x,ha,p0,p1,hc,hx,hm,xv,xt⟩:=C.it O1.X (j:=i + n) (by omega) (by omega)
  rw [show i + n - i=n from by omega] at hx
  refine ⟨a,ha,p0,p1,x.ak,zx hc rfl,a,ha,p0,p1,x.f_T,hc 1 _ rfl,a,ha,p0,p1,x.f_V,hc 2 _ rfl,zN xv fun h2 X2=>⟨(hc.ext X2) 1 _ rfl,zx (hc.ext X2) rfl,?_⟩⟩
  have tk:g.take (n + 1)=g.take n ++ [x]:=by
   obtain ⟨h1,h2⟩:=List.getElem?_eq_some_iff.1 hx
   rw [List.take_succ_eq_append_getElem h1,h2]
  refine (O1.ext X2).push (by rw [List.length_append,List.length_map,List.length_take]; omega) (x.ak,x.f_T,x.f_V) fun s h' O'=>⟨_,rfl,?_⟩
  rw [aA (by omega) (by omega)]
  refine ⟨⟨n + 1,by dsimp only; omega,by omega,?_⟩,by dsimp only; omega⟩
  dsimp only
  rw [tk,List.map_append,← List.append_assoc]
  exact O'
 ·rw [if_neg (by simp; omega)]
  rw [List.take_of_length_le (by omega)] at O1
  exact J5b C O1.X (.inl c) (H t h1 O1)
/-- rows by steps -/
theorem OM (C:yu q A as' b1 hA i kk g) {b17:Nat} (O:rX hA h t10 rs) (m:rs.length + g.length<=2000) (c:q.aW=6) (H:∀ s h',rX hA h' s (rs ++ lQ q.aX g)->N1 (s,(kk:Int)) h'):yx ⟨b1,0,none⟩ A (i:Int) (kk:Int) ⟨b17,0,none⟩ t10 (i:Int) k N1 N2 N4 h:=by
 have hl:=C.len
 have kl:=C.kl
 have km:=C.m
 have ik:=C.ik
 have s0:=C.qa.2.2 c
 have eB:=OI s0 C.q6 (fun y hy=>(C.hv y (C.sub y hy)).2) C.same C.rise
 rw [eB] at H
 have vb:∀ n,-(9223372036854775808 * 1000)<=pR (g.take n)/\pR (g.take n)<=9223372036854775808 * 1000:=fun n=>by
  have:=CW (l:=g.take n) fun p hp=>(C.hv p (C.sub p (List.mem_of_mem_take hp))).1
  have hle:(g.take n).length<=1000:=by rw [List.length_take]; omega
  omega
 unfold yx
 refine ⟨fun r h'=>∃ (n:Nat) (r2:List RI),r.2=((i + n:Nat):Int)/\n<=g.length/\rX hA h' r.1 (rs ++ r2)/\r2.length<=n/\Dq q.aX (ser g) g=r2 ++ Dq q.aX (ser g) (g.drop n),fun r _=>kk - r.2.toNat,⟨0,[],rfl,by omega,by simpa using O,by simp,by simp⟩,?_⟩
 rintro t j h1 ⟨n,r2,ej,nl,O1,rl,eR⟩
 dsimp only at ej O1
 subst ej
 unfold AU
 by_cases hn:n < g.length
 rotate_left
 ·rw [if_neg (by simp; omega)]
  rw [List.drop_of_length_le (by omega),Dq,List.append_nil] at eR
  exact J5b C O1.X (.inr (.inl c)) (H t h1 (by rw [eR]; exact O1))
 rw [if_pos (by simp; omega)]
 obtain ⟨a,x,ha,p0,p1,hc,hx,hm,xv,xt⟩:=C.it O1.X (j:=i + n) (by omega) (by omega)
 rw [show i + n - i=n from by omega] at hx
 have B:=C.bq O1.X
 refine ⟨a,ha,p0,p1,x.f_T,hc 1 _ rfl,q.aX,B.cl rfl,DW xt C.q6 s0 (bx rfl (Nat.le_refl _) fun h2 B2 X2=>?_)⟩
 have z2:=X2.size
 have O2:=O1.ext X2
 have dn:g.drop n=x :: g.drop (n + 1):=by
  obtain ⟨h1,h2⟩:=List.getElem?_eq_some_iff.1 hx
  rw [List.drop_eq_getElem_cons h1,h2]
 obtain ⟨nq,enq⟩:∃ nq,nq=x.f_T / q.aX:=⟨_,rfl⟩
 have eR2:Dq q.aX (ser g) g=r2 ++ Ad q.aX (ser g) nq 0 (g.drop n):=by rw [eR,dn,enq]; rfl
 dsimp only
 rw [← enq]
 unfold BP
 refine ⟨fun j h'=>∃ mm:Nat,j=((i + n + mm:Nat):Int)/\n + mm<=g.length/\rX hA h' t (rs ++ r2)/\h2.size<=h'.size/\Blk h' h1.size (au.cs (wd (pR ((g.drop n).take mm)))) 116/\Dq q.aX (ser g) g=r2 ++ Ad q.aX (ser g) nq (pR ((g.drop n).take mm)) (g.drop (n + mm))/\(mm=0->nq=x.f_T / q.aX),fun j _=>kk - j.toNat,⟨0,rfl,by omega,O2,Nat.le_refl _,by simpa [pR,wd] using B2,by simpa [pR] using eR2,fun _=>enq⟩,?_⟩
 rintro j h3 ⟨mm,rfl,ml,O3,z3,B3,eR3,e0⟩
 unfold Az
 have zA:=O3.X.size
 have zA1:=O1.X.size
 have sb:∀ n' mm',-(9223372036854775808 * 1000)<=pR ((g.drop n').take mm')/\pR ((g.drop n').take mm')<=9223372036854775808 * 1000:=fun n' mm'=>by
  have:=CW (l:=(g.drop n').take mm') fun p hp=>(C.hv p (C.sub p (List.mem_of_mem_drop (List.mem_of_mem_take hp)))).1
  have hle:((g.drop n').take mm').length<=1000:=by rw [List.length_take,List.length_drop]; omega
  omega
 -- the row is laid
 have j13:1<=mm->(n + mm=g.length∨∃ y,g[n + mm]? = some y/\y.f_T / q.aX≠nq)->qy ⟨b1,0,none⟩ A t (i:Int) (kk:Int) ⟨b17,0,none⟩ nq ⟨h1.size,0,none⟩ ((i + n + mm:Nat):Int) k N1 N2 N4 (fun r h'=>(∃ (n:Nat) (r2:List RI),r.2=((i + n:Nat):Int)/\n<=g.length/\rX hA h' r.1 (rs ++ r2)/\r2.length<=n/\Dq q.aX (ser g) g=r2 ++ Dq q.aX (ser g) (g.drop n))/\kk - r.2.toNat < kk - ((i + n:Nat):Int).toNat) h3:=fun m1 stop=>by
  obtain ⟨a',x',ha',p0',p1',hc',hx',hm',xv',xt'⟩:=C.it O3.X (j:=i) (Nat.le_refl _) ik
  have B':=C.bq O3.X
  unfold qy
  refine ⟨a',ha',p0',p1',x'.ak,zx hc' rfl,q.aX,B'.cl rfl,wd (pR ((g.drop n).take mm)),ai.aL B3,?_⟩
  rw [← C.ser hm']
  refine O3.push (by rw [List.length_append]; clear stop; omega) (ser g,IntKind.i64.wrap (nq * q.aX),pR ((g.drop n).take mm)) fun s h' O'=>?_
  refine ⟨⟨n + mm,r2 ++ [(ser g,IntKind.i64.wrap (nq * q.aX),pR ((g.drop n).take mm))],(by clear stop; show ((i + n + mm:Nat):Int)=((i + (n + mm):Nat):Int); omega),ml,by rw [← List.append_assoc]; exact O',by rw [List.length_append,List.length_cons,List.length_nil]; clear stop; omega,?_⟩,by clear stop; dsimp only; omega⟩
  rw [eR3,List.append_assoc]
  congr 1
  rcases stop with e | ⟨y,hy,hne⟩
  ·rw [List.drop_of_length_le (l:=g) (i:=n + mm) (by omega)]; rfl
  ·have dm:g.drop (n + mm)=y :: g.drop (n + mm + 1):=by
    obtain ⟨h1,h2⟩:=List.getElem?_eq_some_iff.1 hy
    rw [List.drop_eq_getElem_cons h1,h2]
   rw [dm]
   conv=>lhs; unfold Ad
   rw [if_neg hne]
   rw [EJ]; rfl
 by_cases hm2:n + mm < g.length
 rotate_left
 ·rw [if_neg (by simp; omega)]
  exact j13 (by omega) (.inl (by omega))
 rw [if_pos (by simp; omega)]
 obtain ⟨a2,y,ha2,q0,q1,hc2,hy,hym,yv,yt⟩:=C.it O3.X (j:=i + n + mm) (by omega) (by omega)
 rw [show i + n + mm - i=n + mm from by omega] at hy
 refine ⟨a2,ha2,q0,q1,y.f_T,hc2 1 _ rfl,q.aX,(C.bq O3.X).cl rfl,DW yt C.q6 s0 ?_⟩
 by_cases hq:y.f_T / q.aX=nq
 rotate_left
 ·rw [if_pos (by simpa using hq)]
  refine j13 ?_ (.inr ⟨y,hy,hq⟩)
  rcases Nat.eq_zero_or_pos mm with rfl | h
  ·exfalso
   rw [Nat.add_zero,hx] at hy; cases hy
   exact hq (e0 rfl).symm
  ·exact h
 rw [if_neg (by simpa using hq)]
 refine ⟨_,ai.aL B3,a2,ha2,q0,q1,y.f_V,hc2 2 _ rfl,zN yv fun h4 X4=>⟨(ai.aL B3).ext X4,Js ?_ (Gx yv) fun h5 X5=>?_⟩⟩
 ·have:=sb n mm; unfold bd2; omega
 have z4:=X4.size
 have z5:=X5.size
 have B5:=(B3.ext X4 B3.lt).ext X5 (Nat.lt_of_lt_of_le B3.lt z4)
 refine pY B5 rfl (Nat.le_refl _) fun h6 F U=>⟨_,rfl,?_⟩
 have z6:=U.size
 rw [aA (by omega) (by omega)]
 have tk:(g.drop n).take (mm + 1)=(g.drop n).take mm ++ [y]:=by
  have:(g.drop n)[mm]? = some y:=by rw [List.getElem?_drop]; exact hy
  obtain ⟨h1,h2⟩:=List.getElem?_eq_some_iff.1 this
  rw [List.take_succ_eq_append_getElem h1,h2]
 have sv':pR ((g.drop n).take (mm + 1))=pR ((g.drop n).take mm) + y.f_V:=by rw [tk]; simp [pR]
 have X36:Ext hA.size h3 h6:=(X4.mono (by omega)).trans ((X5.mono (by omega)).trans (U.ext (by omega) (by omega)))
 have O5:=(O3.ext X4).ext X5
 refine ⟨⟨mm + 1,by omega,by omega,⟨O3.X.trans X36,O5.R.keep fun g' hg'=>U.block g' (O5.R.bd hg').2 ?_,O5.l,O5.m⟩,by omega,by rw [sv']; exact F,?_,fun h=>by omega⟩,by dsimp only; omega⟩
 ·-- the sum's block isn't the rows'
  have r1:=O1.R.bd (g:=g')
  intro e
  have:=(O1.R.bd hg').2
  omega
 ·rw [eR3,sv']
  have dm:g.drop (n + mm)=y :: g.drop (n + (mm + 1)):=by
   obtain ⟨h1,h2⟩:=List.getElem?_eq_some_iff.1 hy
   rw [List.drop_eq_getElem_cons h1,h2]; rfl
  rw [dm]
  congr 1
  conv=>lhs; unfold Ad
  rw [if_pos hq]
end
end
end Go.Q.Yq
end

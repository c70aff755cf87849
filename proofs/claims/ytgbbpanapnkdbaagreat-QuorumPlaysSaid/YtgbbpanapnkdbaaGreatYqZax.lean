/- A part of the proof of statements of this seat: lemmas, no statement of their own. -/
import Derived.Test.YtgbbpanapnkdbaaGreatYqZaw
set_option linter.unusedVariables false
set_option linter.unusedSimpArgs false
set_option maxRecDepth 100000
section
/- Contracts: steps, rows, groups. -/
namespace Go.Q.Yq
/-! steps -/
def rvs (rs:List RI):List Value:=(rs.map rC).flatMap aH.cs
theorem Bp (rs:List RI):(rvs rs).length=rs.length * 4:=by unfold rvs; rw [rR SX,List.length_map]
theorem BI (a b:List RI):rvs (a ++ b)=rvs a ++ rvs b:=by unfold rvs; rw [List.map_append,List.flatMap_append]
theorem BM (r:RI):rvs [r]=aH.cs (rC r):=by unfold rvs; simp
theorem Ky (rs:List RI):∀ v∈rvs rs,v.oneCell'=true:=fun v hv=>by
 obtain ⟨x,_,h⟩:=List.mem_flatMap.1 hv; exact Eo x v h
theorem IU (step:Int) (g:List Pc) (x:Pc):lQ step (g ++ [x])=qJ step (lQ step g) x:=by unfold lQ; rw [List.foldl_append]; rfl
theorem zU {α:Type} {l:List α} {r:α} (h:l.getLast? = some r):l=l.dropLast ++ [r]:=by
 have ne:l≠[]:=by rintro rfl; cases h
 rw [List.getLast?_eq_some_getLast ne] at h
 cases h
 exact (List.dropLast_concat_getLast ne).symm
theorem Bu (step:Int) (o:List RI) (p:Pc):(qJ step o p).length<=o.length + 1:=by
 unfold qJ
 split
 ·split
  ·rw [List.length_append,List.length_dropLast]; simp
  ·simp
 ·simp
theorem NV {p0:Slc} {l:List Pc} {step:Int} {k:KP Slc} {h:Heap} (L:Pcs h p0 l) (m:l.length<=1000000) (hb:∀ p∈l,bJ p.f_V/\bJ p.f_T) (s0:0 < step) (s1:bJ step)
  (H:∀ s h',Row h.size h' 118 4 s (rvs (lQ step l))->s.len=(lQ step l).length->Ext h.size h h'->k s h'):zk p0 step k h:=by
 unfold zk Cj
 refine ⟨fun q h'=>0<=q.2/\q.2<=(l.length:Int)/\Ext h.size h h'/\Row h.size h' 118 4 q.1 (rvs (lQ step (l.take q.2.toNat)))/\q.1.len=(lQ step (l.take q.2.toNat)).length/\q.1.len<=q.2.toNat/\∀ r∈lQ step (l.take q.2.toNat),-9223372036854775808 * q.2<=r.2.2/\r.2.2<=9223372036854775808 * q.2,
  fun q _=>l.length - q.2.toNat,⟨by dsimp only; omega,by dsimp only; omega,Ext.refl _ _,by simpa [lQ,rvs] using Row.nil _ _ _ _,by simp [lQ],by simp,by simp [lQ]⟩,?_⟩
 rintro t5 i h1 ⟨i0,i1,X,R,rl,rli,bd⟩
 dsimp only at i0 i1 R rl rli bd ⊢
 unfold AY
 rw [L.l]
 have z1:=X.size
 by_cases hi:i < (l.length:Int)
 ·rw [if_pos (by simpa using hi)]
  obtain ⟨a,x,ha,g0,g1,hx,hc⟩:=(L.ext X).it i0 hi
  rw [L.l] at g1
  have vx:=hb x (List.mem_of_getElem? hx)
  refine ⟨a,ha,g0,g1,x,hc,bx rfl (by decide) fun h5 B X5=>⟨x.f_T,B.cl rfl,G6 vx.2 s1 s0 ⟨_,rfl,?_⟩⟩⟩
  have z5:=X5.size
  have X05:=X.trans (X5.mono z1)
  have R5:=R.ext X5 fun g hg=>(R.bd hg).2
  have tk:=take1 i0 hx
  have sn:lQ step (l.take (i + 1).toNat)=qJ step (lQ step (l.take i.toNat)) x:=by rw [tk,IU]
  obtain ⟨o,eo⟩:∃ o,o=lQ step (l.take i.toNat):=⟨_,rfl⟩
  rw [← eo] at R R5 rl bd sn
  show (if decide ((t5.len:Int) > 0)=true then _ else _)
  have nxt:∀ s h6,Ext h.size h h6->Row h.size h6 118 4 s (rvs (lQ step (l.take (i + 1).toNat)))->s.len=(lQ step (l.take (i + 1).toNat)).length->(∀ r∈lQ step (l.take (i + 1).toNat),-9223372036854775808 * (i + 1)<=r.2.2/\r.2.2<=9223372036854775808 * (i + 1))->qj step p0 (l.length:Int) i s k (fun q h'=>(0<=q.2/\q.2<=(l.length:Int)/\Ext h.size h h'/\Row h.size h' 118 4 q.1 (rvs (lQ step (l.take q.2.toNat)))/\q.1.len=(lQ step (l.take q.2.toNat)).length/\q.1.len<=q.2.toNat/\∀ r∈lQ step (l.take q.2.toNat),-9223372036854775808 * q.2<=r.2.2/\r.2.2<=9223372036854775808 * q.2)/\l.length - q.2.toNat < l.length - i.toNat) h6:=fun s h6 X6 R6 l6 b6=>by
   unfold qj
   rw [wI i0 hi m]
   refine ⟨⟨by dsimp only; omega,by dsimp only; omega,X6,R6,l6,?_,b6⟩,by dsimp only; omega⟩
   have:=Bu step o x
   rw [← sn] at this
   dsimp only; omega
  have vb:=vx.1
  unfold bJ at vb
  have push:(∀ r,o.getLast? = some r->r.2.1≠atP step x)->ow step t5 ⟨h1.size,0,none⟩ (atP step x) p0 (l.length:Int) i false k (fun q h'=>(0<=q.2/\q.2<=(l.length:Int)/\Ext h.size h h'/\Row h.size h' 118 4 q.1 (rvs (lQ step (l.take q.2.toNat)))/\q.1.len=(lQ step (l.take q.2.toNat)).length/\q.1.len<=q.2.toNat/\∀ r∈lQ step (l.take q.2.toNat),-9223372036854775808 * q.2<=r.2.2/\r.2.2<=9223372036854775808 * q.2)/\l.length - q.2.toNat < l.length - i.toNat) h5:=fun hne=>by
   unfold ow
   rw [if_neg (by simp)]
   have eE:qJ step o x=o ++ [(x.ak,atP step x,x.f_V)]:=by
    unfold qJ
    cases hl:o.getLast? with
    | none=>rw [List.getLast?_eq_none_iff.1 hl]; rfl
    | some r=>dsimp only; rw [if_neg (hne r hl)]
   refine ⟨_,B.cl0 rfl,x.f_V,B.cl rfl,xP vx.1 fun h6 X6=>⟨(B.ext X6 B.lt).cl0 rfl,bx0 fun h7 B7 X7=>app1 ((R5.ext X6 fun g hg=>(R5.bd hg).2).ext X7 fun g hg=>Nat.lt_of_lt_of_le (R5.bd hg).2 X6.size) (by have:=X6.size; have:=X7.size; omega) rfl rfl (Eo _) (by omega) (by unfold maxLen; omega) fun s h8 R8 l8 X8=>?_⟩⟩
   have z6:=X6.size
   have z7:=X7.size
   refine nxt s h8 (((X05.trans (X6.mono (by omega))).trans (X7.mono (by omega))).trans X8) ?_ ?_ ?_
   ·rw [sn,eE,BI,BM]; exact R8
   ·rw [sn,eE,l8,rl]; simp
   ·rw [sn,eE]
    intro r hr
    rcases List.mem_append.1 hr with hr | hr
    ·have:=bd r hr; omega
    ·simp only [List.mem_singleton] at hr; subst hr; dsimp only; omega
  by_cases hp:(t5.len:Int) > 0
  ·rw [if_pos (by simpa using hp)]
   rw [aA (by omega) (by omega)]
   obtain ⟨r,hr⟩:∃ r,o.getLast? = some r:=⟨_,List.getLast?_eq_some_getLast (by rintro rfl; simp at rl; omega)⟩
   have sp:=zU hr
   obtain ⟨d,ed⟩:∃ d,d=o.dropLast:=⟨_,rfl⟩
   rw [← ed] at sp
   have dl:t5.len=d.length + 1:=by rw [rl,sp]; simp
   have rv:rvs o=rvs d ++ aH.cs (rC r):=by rw [sp,BI,BM]
   have cell:∀ j,j < 4->∃ a,t5.a=some a/\ah h5 (a.add (d.length * 4 + j))=(aH.cs (rC r))[j]?:=fun j hj=>by
    obtain ⟨a,ha,hc⟩:=R5.at (j:=d.length * 4 + j) (by omega)
    refine ⟨a,ha,hc.trans ?_⟩
    rw [rv,List.getElem?_append_right (by rw [Bp]; omega),Bp]; congr 1; omega
   obtain ⟨a2,ha2,hc2⟩:=cell 1 (by omega)
   have en:((t5.len:Int) - 1).toNat=d.length:=by omega
   refine ⟨a2,ha2,by omega,by omega,r.2.1,by rw [kG,en]; exact hc2,?_⟩
   by_cases he:r.2.1=atP step x
   ·rw [show (r.2.1 == IntKind.i64.wrap (x.f_T / step * step))=true from by rw [beq_iff_eq]; exact he]
    unfold ow
    rw [if_pos rfl]
    have rb:=bd r (by rw [sp]; simp)
    obtain ⟨_,e2,hc3⟩:=cell 2 (by omega)
    obtain ⟨_,e3,hc4⟩:=cell 3 (by omega)
    rw [ha2] at e2 e3
    cases e2; cases e3
    have cw:ai h5 ((a2.add (((t5.len:Int) - 1).toNat * 4)).add 2) (au.cs (wd r.2.2)):=fun j v hj=>by
     rw [kG,kG,en]
     match j,hj with
     | 0,hj=>rw [show d.length * 4 + 2 + 0=d.length * 4 + 2 from rfl,hc3]; exact hj
     | 1,hj=>rw [show d.length * 4 + 2 + 1=d.length * 4 + 3 from rfl,hc4]; exact hj
     | j + 2,hj=>simp [au.cs] at hj
    have hrw:IntKind.i64.wrap ((t5.len:Int) - 1)=(t5.len:Int) - 1:=aA (by omega) (by omega)
    rw [hrw]
    refine ⟨a2,ha2,by omega,by omega,wd r.2.2,cw,x.f_V,B.cl rfl,xP vx.1 fun h6 X6=>⟨cw.ext X6,MK (by unfold bd2; omega) (Gx vx.1) fun h7 X7=>⟨a2,ha2,by omega,by omega,?_⟩⟩⟩
    have z6:=X6.size
    have z7:=X7.size
    have R7:=(R5.ext X6 fun g hg=>(R5.bd hg).2).ext X7 fun g hg=>Nat.lt_of_lt_of_le (R5.bd hg).2 z6
    obtain ⟨w1,w2,w3⟩:=LX (o:=d.length * 4 + 2) (vs:=au.cs (wd (r.2.2 + x.f_V))) R7 (by show d.length * 4 + 2 + 2<=t5.len * 4; omega) (by show 0 < 2; decide) ha2
    have ea:(a2.add (((t5.len:Int) - 1).toNat * 4)).add 2=a2.add (d.length * 4 + 2):=by rw [kG,en]
    rw [ea]
    refine ⟨_,w1,rfl,nxt t5 _ ?_ ?_ ?_ ?_⟩
    ·exact ((X05.trans (X6.mono (by omega))).trans (X7.mono (by omega))).trans (Ext.sets _ _ _ (by show h.size<=(a2.add _).block; rw [show (a2.add (d.length * 4 + 2)).block=a2.block from by unfold Addr.add; split <;> rfl]; exact w3))
    ·have eE:qJ step o x=d ++ [(r.1,r.2.1,r.2.2 + x.f_V)]:=by unfold qJ; rw [hr]; dsimp only; rw [if_pos he,ed]
     rw [sn,eE,BI,BM]
     have e:List.take (d.length * 4 + 2) (rvs o) ++ au.cs (wd (r.2.2 + x.f_V)) ++ List.drop (d.length * 4 + 2 + (au.cs (wd (r.2.2 + x.f_V))).length) (rvs o)=rvs d ++ aH.cs (rC (r.1,r.2.1,r.2.2 + x.f_V)):=by
      rw [rv,List.take_append,List.drop_append,Bp,List.take_of_length_le (by rw [Bp]; omega),List.drop_of_length_le (by rw [Bp]; omega)]
      rw [show d.length * 4 + 2 - d.length * 4=2 from by omega,show d.length * 4 + 2 + (au.cs (wd (r.2.2 + x.f_V))).length - d.length * 4=4 from by show d.length * 4 + 2 + 2 - d.length * 4=4; omega]
      simp only [List.append_assoc,List.nil_append]
      rfl
     rw [← e]; exact w2
    ·rw [sn]; unfold qJ; rw [hr]; dsimp only; rw [if_pos he,← ed,dl]; simp
    ·rw [sn]; unfold qJ; rw [hr]; dsimp only; rw [if_pos he,← ed]
     intro q hq
     rcases List.mem_append.1 hq with hq | hq
     ·have:=bd q (by rw [sp]; exact List.mem_append.2 (.inl hq)); omega
     ·simp only [List.mem_singleton] at hq; subst hq; dsimp only; omega
   ·rw [show (r.2.1 == IntKind.i64.wrap (x.f_T / step * step))=false from by rw [beq_eq_false_iff_ne]; exact he]
    exact push fun r' h'=>by rw [hr] at h'; cases h'; exact he
  ·rw [if_neg (by simpa using hp)]
   exact push fun r' h'=>by
    have:o=[]:=List.length_eq_zero_iff.1 (by omega)
    rw [this] at h'; cases h'
 ·rw [if_neg (by simpa using hi)]
  rw [oV (by omega)] at R rl
  exact H t5 h1 R rl X
end Go.Q.Yq
end
section
/- Contracts: rows, groups. -/
namespace Go.Q.Yq
open Go.Q.Rw
/-! rows of a series' pieces -/
def Ee (h:Heap) (s:Slc) (rs:List RI):Prop:=SlcAt h s (rvs rs)/\s.len=rs.length
theorem Ee.of {B:Nat} {h:Heap} {s:Slc} {rs:List RI} (R:Row B h 118 4 s (rvs rs)) (hl:s.len=rs.length):Ee h s rs:=⟨R.slc,hl⟩
theorem Ee.nil (h:Heap):Ee h ⟨none,0,0⟩ []:=⟨⟨fun _=>rfl,fun a ha=>by cases ha⟩,rfl⟩
theorem FU {g:List Pc} (hp:g.Pairwise fun a b=>a.f_T < b.f_T) (h2:2<=g.length):∃ a b,g.head? = some a/\g.getLast? = some b/\a.f_T < b.f_T:=by
 match g,h2 with
 | a :: c :: r,_ =>
  refine ⟨a,(c :: r).getLast (by simp),rfl,?_,(List.pairwise_cons.1 hp).1 _ (List.getLast_mem _)⟩
  rw [List.getLast?_eq_some_getLast (by simp),List.getLast_cons (by simp)]
theorem NK {q:aC} {p1:Slc} {g:List Pc} {k:KP (Slc × Int)} {h:Heap} (L:Pcs h p1 g) (m:g.length<=1000000) (hb:∀ p∈g,bJ p.f_V/\bJ p.f_T) (ne:g≠[]) (hp:g.Pairwise fun a b=>a.f_T < b.f_T)
  (qa:0<=q.aW/\q.aW<=6) (qs:q.aW=6->0 < q.aX) (q6:bJ q.aX)
  (H0:∀ h',gU q.aW q.aX g=none->Ext h.size h h'->k (⟨none,0,0⟩,19) h')
  (H1:∀ rs s h',gU q.aW q.aX g=some rs->Ext h.size h h'->Ee h' s rs->k (s,0) h'):zG q p1 k h:=by
 have pos:0 < g.length:=List.length_pos_iff.2 ne
 have hb1:∀ p∈g,bJ p.f_V:=fun p hp=>(hb p hp).1
 unfold zG
 refine bx0 fun h2 B1 X1=>?_
 have z1:=X1.size
 obtain ⟨a,x,ha,g0,g1,hx,hc⟩:=(L.ext X1).it (i:=0) (Int.le_refl _) (by omega)
 have es:ser g=x.ak:=by cases g with
  | nil=>exact absurd rfl ne
  | cons b r=>simp at hx; subst hx; rfl
 refine ⟨a,ha,g0,g1,x.ak,zx hc rfl,bx rfl (by decide) fun h7 B5 X5=>⟨q.aW,(B1.ext X5 B1.lt).cl rfl,?_⟩⟩
 have z5:=X5.size
 have X:=X1.trans (X5.mono z1)
 have L7:=L.ext X
 have j1:∀ n h',Blk h' h2.size (aH.cs (rC (ser g,0,n))) 118->Ext h.size h h'->gU q.aW q.aX g=some [(ser g,0,n)]->iQ ⟨h2.size,0,none⟩ k h':=fun n h' B' X' e=>by
  unfold iQ
  refine ⟨rC (ser g,0,n),ai.aL B',bx0 fun h8 B8 X8=>H1 _ _ h8 e (X'.trans (X8.mono X'.size)) ⟨B8.slc (o:=0) (n:=4) (by rw [BM]; rfl),rfl⟩⟩
 have put:∀ n h',Ext h7.size h7 h'->gU q.aW q.aX g=some [(ser g,0,n)]->∃ h3:Heap,aN h' ((⟨h2.size,0,none⟩:Addr).add 2) 2/\h3=aM h' ((⟨h2.size,0,none⟩:Addr).add 2) 0 (au.cs (wd n))/\iQ ⟨h2.size,0,none⟩ k h3:=fun n h' X' e=>by
  have z':=X'.size
  refine Mr (B5.ext X' B5.lt) rfl (by show 2 + 2<=4; decide) fun h8 B8 U=>j1 n h8 ?_ ((X.trans (X'.mono (by omega))).trans (U.ext (by omega) (by omega))) e
  rw [es]; exact B8
 by_cases c0:q.aW=0
 ·rw [if_pos (by simpa using c0)]
  have eR:gU q.aW q.aX g=some (g.map fun p=>(p.ak,p.f_T,p.f_V)):=by unfold gU; rw [if_pos c0]
  unfold Ci
  refine ⟨fun r h'=>0<=r.2/\r.2<=(g.length:Int)/\Ext h.size h h'/\Row h.size h' 118 4 r.1 (rvs ((g.take r.2.toNat).map fun p=>(p.ak,p.f_T,p.f_V)))/\r.1.len=r.2.toNat,fun r _=>g.length - r.2.toNat,⟨by dsimp only; omega,by dsimp only; omega,X,by simpa [rvs] using Row.nil _ _ _ _,by simp⟩,?_⟩
  rintro t7 i h8 ⟨i0,i1,X8,R,rl⟩
  dsimp only at i0 i1 R rl ⊢
  have z8:=X8.size
  unfold AO
  rw [L.l]
  by_cases hi:i < (g.length:Int)
  ·rw [if_pos (by simpa using hi)]
   obtain ⟨a,x,ha,g0,g1,hx,hc⟩:=(L.ext X8).it i0 hi
   rw [L.l] at g1
   have vx:=hb x (List.mem_of_getElem? hx)
   refine ⟨a,ha,g0,g1,x,hc,bx rfl (by decide) fun h9 B9 X9=>⟨_,B9.cl0 rfl,_,B9.cl rfl,x.f_V,B9.cl rfl,xP vx.1 fun h10 X10=>⟨(B9.ext X10 B9.lt).cl rfl,(B9.ext X10 B9.lt).cl0 rfl,bx0 fun h11 B11 X11=>?_⟩⟩⟩
   have z9:=X9.size
   have z10:=X10.size
   have z11:=X11.size
   refine app1 (((R.ext X9 fun g hg=>(R.bd hg).2).ext X10 fun g hg=>Nat.lt_of_lt_of_le (R.bd hg).2 z9).ext X11 fun g hg=>Nat.lt_of_lt_of_le (R.bd hg).2 (by omega)) (by omega) rfl rfl (Eo _) (by omega) (by unfold maxLen; omega) fun s h12 R12 l12 X12=>?_
   rw [wI i0 hi m]
   refine ⟨⟨by dsimp only; omega,by dsimp only; omega,(((X8.trans (X9.mono z8)).trans (X10.mono (by omega))).trans (X11.mono (by omega))).trans X12,?_,by dsimp only; omega⟩,by dsimp only; omega⟩
   dsimp only
   rw [take1 i0 hx,List.map_append,BI]
   simp only [List.map_cons,List.map_nil,BM]
   exact R12
  ·rw [if_neg (by simpa using hi)]
   rw [oV (by omega)] at R
   exact H1 _ _ h8 eR X8 (.of R (by simp; omega))
 rw [if_neg (by simpa using c0)]
 by_cases c1:q.aW=1
 ·rw [if_pos (by simpa using c1),L.l]
  have eR:gU q.aW q.aX g=some [(ser g,0,(g.length:Int))]:=by unfold gU; rw [if_neg c0,if_pos c1]
  exact xP ⟨by omega,by omega⟩ fun h' X'=>put _ h' X' eR
 rw [if_neg (by simpa using c1)]
 by_cases c2:q.aW=2
 ·rw [if_pos (by simpa using c2)]
  have eR:gU q.aW q.aX g=some [(ser g,0,pR g)]:=by unfold gU; rw [if_neg c0,if_neg c1,if_pos c2]
  exact Ps L7 m hb1 fun h' X'=>put _ h' X' eR
 rw [if_neg (by simpa using c2)]
 by_cases c3:q.aW=3
 ·rw [if_pos (by simpa using c3)]
  have eR:gU q.aW q.aX g=some [(ser g,0,Dj g)]:=by unfold gU; rw [if_neg c0,if_neg c1,if_neg c2,if_pos c3]
  exact Py L7 m ne fun y h8 yl yv X8=>xP (hb1 y yl) fun h' X'=>by rw [yv]; exact put _ h' (X8.trans (X'.mono X8.size)) eR
 rw [if_neg (by simpa using c3)]
 by_cases c4:q.aW=4
 ·rw [if_pos (by simpa using c4)]
  have eR:gU q.aW q.aX g=some [(ser g,0,CO g)]:=by unfold gU; rw [if_neg c0,if_neg c1,if_neg c2,if_neg c3,if_pos c4]
  exact OZ L7 m ne fun y h8 yl yv X8=>xP (hb1 y yl) fun h' X'=>by rw [yv]; exact put _ h' (X8.trans (X'.mono X8.size)) eR
 rw [if_neg (by simpa using c4)]
 by_cases c5:q.aW=5
 ·rw [if_pos (by simpa using c5),L.l]
  by_cases h2':g.length < 2
  ·rw [if_pos (by simp; omega)]
   exact H1 [] _ h7 (by unfold gU; rw [if_neg c0,if_neg c1,if_neg c2,if_neg c3,if_neg c4,if_pos c5,if_pos h2']) X (.nil _)
  ·rw [if_neg (by simp; omega)]
   obtain ⟨a,b,ea,eb,lt⟩:=FU hp (by omega)
   refine Nh L7 m hb ea eb lt (fun h' e X'=>?_) (fun n h' e i X'=>?_)
   ·rw [if_pos (by decide)]
    exact H0 h' (by unfold gU; rw [if_neg c0,if_neg c1,if_neg c2,if_neg c3,if_neg c4,if_pos c5,if_neg h2',e]; rfl) (X.trans (X'.mono X.size))
   ·rw [if_neg (by simp)]
    exact xP i fun h8 X8=>put n h8 (X'.trans (X8.mono X'.size)) (by unfold gU; rw [if_neg c0,if_neg c1,if_neg c2,if_neg c3,if_neg c4,if_pos c5,if_neg h2',e]; rfl)
 rw [if_neg (by simpa using c5)]
 refine ⟨q.aX,(B1.ext X5 B1.lt).cl rfl,NV L7 m hb (qs (by omega)) q6 fun s h' R rl X'=>H1 _ s h' (by unfold gU; rw [if_neg c0,if_neg c1,if_neg c2,if_neg c3,if_neg c4,if_neg c5]) (X.trans (X'.mono X.size)) (.of R rl)⟩
/-! groups -/
def KQ (h:Heap) (ss:List Slc) (gs:List (List Pc)):Prop:=ss.length=gs.length/\∀ (i:Nat) s g,ss[i]? = some s->gs[i]? = some g->Pcs h s g
theorem KQ.snoc {h:Heap} {ss:List Slc} {gs:List (List Pc)} {s:Slc} {g:List Pc} (G:KQ h ss gs) (L:Pcs h s g):KQ h (ss ++ [s]) (gs ++ [g]):=by
 refine ⟨by simp [G.1],fun i t f ht hf=>?_⟩
 rcases Nat.lt_or_ge i ss.length with hi | hi
 ·rw [List.getElem?_append_left hi] at ht
  rw [List.getElem?_append_left (by rw [← G.1]; exact hi)] at hf
  exact G.2 i t f ht hf
 ·rw [List.getElem?_append_right hi] at ht
  rw [List.getElem?_append_right (by rw [← G.1]; exact hi),← G.1] at hf
  have:i - ss.length=0:=by have:=(List.getElem?_eq_some_iff.1 ht).1; simp at this; omega
  rw [this] at ht hf
  simp at ht hf
  subst ht; subst hf; exact L
theorem Lj {α:Type} {p:α->Bool}:∀ {l:List α} {i:Nat},(∀ y∈l.take i,p y=true)->(∀ y,l[i]? = some y->p y=false)->l.takeWhile p=l.take i/\l.dropWhile p=l.drop i
 | [],i,_,_=>by simp
 | x :: l,0,_,h2=>by
  have:=h2 x rfl
  simp [List.takeWhile_cons,List.dropWhile_cons,this]
 | x :: l,i + 1,h1,h2=>by
  have hx:=h1 x (by simp)
  obtain ⟨a,b⟩:=Lj (p:=p) (l:=l) (i:=i) (fun y hy=>h1 y (by simp [hy])) fun y hy=>h2 y (by simpa using hy)
  simp [List.takeWhile_cons,List.dropWhile_cons,hx,a,b]
theorem DL {x:Pc} {l:List Pc} {i:Nat} (h1:∀ y∈(x :: l).take (i + 1),y.ak=x.ak) (h2:∀ y,(x :: l)[i + 1]? = some y->y.ak≠x.ak):grp (x :: l)=(x :: l).take (i + 1) :: grp ((x :: l).drop (i + 1)):=by
 obtain ⟨a,b⟩:=Lj (p:=fun p:Pc=>decide (p.ak=x.ak)) (l:=l) (i:=i) (fun y hy=>by simpa using h1 y (by simp [hy])) fun y hy=>by simpa using h2 y (by simpa using hy)
 rw [Ic,a,b]; rfl
theorem JL (s:Slc):∀ v∈[Slc.v s],v.oneCell'=true:=fun v hv=>by simp at hv; subst hv; obtain ⟨a,l,c⟩:=s; cases a <;> rfl
theorem Kh {p0:Slc} {l:List Pc} {k:KP Slc} {h:Heap} (L:Pcs h p0 l) (m:l.length<=1000000) (cp:p0.len<=p0.cap)
  (H:∀ s ss h',Row h.size h' 26 1 s (ss.map Slc.v)->s.len=ss.length->KQ h' ss (grp l)->Ext h.size h h'->k s h'):vz p0 k h:=by
 unfold vz Al
 refine ⟨fun q h'=>∃ pre ss l',Ext h.size h h'/\Row h.size h' 26 1 q.2 (ss.map Slc.v)/\q.2.len=ss.length/\(∀ h2,Ext h.size h h2->KQ h2 ss pre)/\(∀ h2,Ext h.size h h2->Pcs h2 q.1 l')/\q.1.len<=q.1.cap/\grp l=pre ++ grp l'/\ss.length + l'.length<=1000000,fun q _=>q.1.len,
  ⟨[],[],l,Ext.refl _ _,Row.nil _ _ _ _,rfl,fun _ _=>⟨rfl,fun i s g hs=>by simp at hs⟩,fun _ X=>L.ext X,cp,by simp,by simpa using m⟩,?_⟩
 rintro t0 t3 h1 ⟨pre,ss,l',X,R,rl,G,L',cp',eg,bd⟩
 dsimp only at R rl L' cp' ⊢
 unfold yX
 have z1:=X.size
 have hl:=(L' h1 X).l
 rw [hl]
 cases l' with
 | nil =>
  rw [if_neg (by simp)]
  rw [Jw,List.append_nil] at eg
  exact H t3 ss h1 R rl (by rw [eg]; exact G h1 X) X
 | cons x r =>
  have hl2:t0.len=r.length + 1:=hl
  have bd2':ss.length + (r.length + 1)<=1000000:=bd
  rw [if_pos (by simp)]
  unfold zZ
  refine ⟨fun q h'=>0<=q.2.2/\q.2.2<=((x :: r).length:Int)/\q.1=t0/\q.2.1=t3/\Ext h1.size h1 h'/\∀ y∈(x :: r).take q.2.2.toNat,y.ak=x.ak,fun q _=>(x :: r).length - q.2.2.toNat,⟨by dsimp only; omega,by simp; omega,rfl,rfl,Ext.refl _ _,by simp⟩,?_⟩
  rintro t0' t3' i h2 ⟨i0,i1,e0,e3,X2,al⟩
  dsimp only at i0 i1 e0 e3 al ⊢
  subst e0; subst e3
  have z2:=X2.size
  have X02:=X.trans (X2.mono z1)
  have lc:((x :: r).length:Int)=(r.length:Int) + 1:=by simp
  unfold ze
  by_cases hi:i < ((x :: r).length:Int)
  ·rw [if_pos (by simpa using hi)]
   obtain ⟨a,y,ha,g0,g1,hy,hc⟩:=(L' h2 X02).it i0 hi
   refine ⟨a,ha,g0,g1,y,hc,bx rfl (by decide) fun h5 B5 X5=>⟨y.ak,B5.cl0 rfl,?_⟩⟩
   have z5:=X5.size
   have X05:=X02.trans (X5.mono (by omega))
   obtain ⟨a2,x2,ha2,g2,g3,hx2,hc2⟩:=(L' h5 X05).it (i:=0) (Int.le_refl _) (by omega)
   simp at hx2; subst hx2
   refine ⟨a2,ha2,g2,g3,x.ak,zx hc2 rfl,?_⟩
   by_cases hs:y.ak=x.ak
   ·rw [if_neg (by simp [hs])]
    have tk:=take1 i0 hy
    rw [aA (by omega) (by omega)]
    refine ⟨⟨by dsimp only; omega,by dsimp only; omega,rfl,rfl,X2.trans (X5.mono z2),?_⟩,by dsimp only; omega⟩
    dsimp only
    rw [tk]
    intro z hz
    rcases List.mem_append.1 hz with hz | hz
    ·exact al z hz
    ·simp only [List.mem_singleton] at hz; subst hz; exact hs
   ·rw [if_pos (by simp; intro h; exact hs (ES h))]
    have ip:0 < i:=by
     rcases Int.lt_or_eq_of_le i0 with h | h
     ·exact h
     ·subst h; simp at hy; subst hy; exact absurd rfl hs
    have eg2:grp (x :: r)=(x :: r).take i.toNat :: grp ((x :: r).drop i.toNat):=by
     obtain ⟨j,hj⟩:∃ j,i.toNat=j + 1:=⟨i.toNat - 1,by omega⟩
     rw [hj] at al hy ⊢
     exact DL al fun z hz=>by rw [hy] at hz; cases hz; exact hs
    have R5:=(R.ext X2 fun g hg=>(R.bd hg).2).ext X5 fun g hg=>Nat.lt_of_lt_of_le (R.bd hg).2 z2
    refine ⟨_,Int.le_refl _,i0,by omega,Int.le_refl _,rfl,bx0 fun h11 B11 X11=>app1 (R5.ext X11 fun g hg=>(R5.bd hg).2) (by have:=X11.size; omega) rfl rfl (JL _) (by omega) (by unfold maxLen; omega) fun s h13 R13 l13 X13=>⟨_,i0,by omega,by omega,Int.le_refl _,rfl,?_⟩⟩
    have z11:=X11.size
    have X15:Ext h.size h h13:=(X05.trans (X11.mono (by omega))).trans X13
    refine ⟨⟨pre ++ [(x :: r).take i.toNat],ss ++ [rY t0' 5 (0:Int).toNat i.toNat (t0'.cap:Int).toNat],(x :: r).drop i.toNat,X15,?_,by simp [l13,rl],fun h2 X2=>(G h2 X2).snoc ?_,fun h2 X2=>?_,?_,?_,?_⟩,?_⟩
    ·rw [List.map_append]; exact R13
    ·have:=(L' h2 X2).sub (a:=(0:Int).toNat) (b:=i.toNat) (m:=(t0'.cap:Int).toNat) (by simp) (by omega) (by omega)
     simpa using this
    ·have:=(L' h2 X2).sub (a:=i.toNat) (b:=(t0'.len:Int).toNat) (m:=(t0'.cap:Int).toNat) (by omega) (by omega) (by omega)
     have e:(t0'.len:Int).toNat=(x :: r).length:=by rw [hl2]; rfl
     have tl:=List.take_length (l:=x :: r)
     rw [← e] at tl
     rw [tl] at this
     exact this
    ·show _ - _<=_ - _
     omega
    ·rw [eg,eg2,List.append_assoc]; rfl
    ·simp only [List.length_append,List.length_drop,List.length_cons,List.length_nil]; omega
    ·show _ - _ < _
     omega
  ·rw [if_neg (by simpa using hi)]
   have ie:i.toNat=r.length + 1:=by omega
   have eg2:grp (x :: r)=[x :: r]:=by
    have:=DL (x:=x) (l:=r) (i:=r.length) (fun y hy=>al y (by rw [ie]; exact hy)) fun y hy=>by simp at hy
    rw [this,List.take_of_length_le (by simp),List.drop_of_length_le (by simp)]; rfl
   have R2:=R.ext X2 fun g hg=>(R.bd hg).2
   refine bx0 fun h11 B11 X11=>app1 (R2.ext X11 fun g hg=>(R2.bd hg).2) (by have:=X11.size; omega) rfl rfl (JL _) (by omega) (by unfold maxLen; omega) fun s h13 R13 l13 X13=>?_
   have z11:=X11.size
   have X13':Ext h.size h h13:=(X02.trans (X11.mono (by omega))).trans X13
   refine H s (ss ++ [t0']) h13 (by rw [List.map_append]; exact R13) (by simp [l13,rl]) ?_ X13'
   rw [eg,eg2]
   exact (G h13 X13').snoc (L' h13 X13')
end Go.Q.Yq
end
section
/- Contracts: what is merged. -/
namespace Go.Q.Yq
open Go.Q.Rw
abbrev PM:=List (aK × Pc)
def jZ (acc:PM) (p:Pc):PM :=
 if okP p=true then (match jP acc (plc p) with | some q=>if rG q p>=0 then acc else vB acc (plc p) p | none=>vB acc (plc p) p) else acc
/-- of the pieces so far -/
structure Av (pre:List Pc) (acc:PM):Prop where
 nd:(acc.map (·.1)).Nodup
 k:∀ e∈acc,plc e.2=e.1/\e.2∈pre/\okP e.2=true/\∀ y∈pre,okP y=true->plc y=e.1->rG y e.2<=0
 c:∀ y∈pre,okP y=true->∃ v,(plc y,v)∈acc
theorem EU {K V:Type} [DecidableEq K] {k:K} {v:V}:∀ {l:List (K × V)},jP l k=some v->(k,v)∈l
 | [],h=>by cases h
 | p :: r,h=>by
  unfold jP at h
  split at h
  ·rename_i e; cases h; rw [← e]; exact List.mem_cons_self
  ·exact List.mem_cons_of_mem _ (EU h)
theorem EZ {K V:Type} [DecidableEq K] {k:K}:∀ {l:List (K × V)},jP l k=none->∀ p∈l,p.1≠k
 | [],_,p,hp=>by cases hp
 | q :: r,h,p,hp=>by
  unfold jP at h
  split at h
  ·cases h
  ·rename_i e
   rcases List.mem_cons.1 hp with rfl | hp
   ·exact e
   ·exact EZ h p hp
theorem FJ {K V:Type} [DecidableEq K] {k:K} {v:V}:∀ {l:List (K × V)},(l.map (·.1)).Nodup->((vB l k v).map (·.1)).Nodup/\∀ e,e∈vB l k v ↔ e=(k,v)∨(e∈l/\e.1≠k)
 | [],_=>by simp [vB]
 | p :: r,h=>by
  rw [List.map_cons,List.nodup_cons] at h
  obtain ⟨ih1,ih2⟩:=FJ (k:=k) (v:=v) h.2
  unfold vB
  by_cases e:p.1=k
  ·rw [if_pos e]
   refine ⟨by rw [List.map_cons,List.nodup_cons,← e]; exact h,fun x=>?_⟩
   constructor
   ·intro hx
    rcases List.mem_cons.1 hx with rfl | hx
    ·exact .inl rfl
    ·exact .inr ⟨List.mem_cons_of_mem _ hx,fun e2=>h.1 (by rw [e,← e2]; exact List.mem_map.2 ⟨x,hx,rfl⟩)⟩
   ·rintro (rfl | ⟨hx,hn⟩)
    ·exact List.mem_cons_self
    ·rcases List.mem_cons.1 hx with rfl | hx
     ·exact absurd e hn
     ·exact List.mem_cons_of_mem _ hx
  ·rw [if_neg e]
   refine ⟨?_,fun x=>?_⟩
   ·rw [List.map_cons,List.nodup_cons]
    refine ⟨fun hx=>?_,ih1⟩
    obtain ⟨y,hy,ey⟩:=List.mem_map.1 hx
    rcases (ih2 y).1 hy with rfl | ⟨hy,_⟩
    ·exact e ey.symm
    ·exact h.1 (List.mem_map.2 ⟨y,hy,ey⟩)
   ·constructor
    ·intro hx
     rcases List.mem_cons.1 hx with rfl | hx
     ·exact .inr ⟨List.mem_cons_self,e⟩
     ·exact ((ih2 x).1 hx).imp id fun h=>⟨List.mem_cons_of_mem _ h.1,h.2⟩
    ·rintro (rfl | ⟨hx,hn⟩)
     ·exact List.mem_cons_of_mem _ ((ih2 _).2 (.inl rfl))
     ·rcases List.mem_cons.1 hx with rfl | hx
      ·exact List.mem_cons_self
      ·exact List.mem_cons_of_mem _ ((ih2 _).2 (.inr ⟨hx,hn⟩))
theorem vQ:Good rG:=((Hw.Io ae.dB).lex ((GJ.Io ae.f_V).lex Good.zero):Good (fun x y:ae=>or1 (vk x.dB y.dB) (or1 (cI x.f_V y.f_V) 0)))
theorem yQ (a:Pc):rG a a=0:=by have:=vQ.anti a a; omega
theorem Av.nil:Av [] []:=⟨by simp,by simp,by simp⟩
theorem Av.step {pre:List Pc} {acc:PM} (I:Av pre acc) (p:Pc):Av (pre ++ [p]) (jZ acc p):=by
 have mem2:∀ {y},y∈pre ++ [p]->y∈pre∨y=p:=fun h=>(List.mem_append.1 h).imp id fun h=>by simpa using h
 have in1:∀ {y},y∈pre->y∈pre ++ [p]:=fun h=>List.mem_append.2 (.inl h)
 have inp:p∈pre ++ [p]:=by simp
 unfold jZ
 by_cases hok:okP p=true
 ·rw [if_pos hok]
  have put:(∀ v,(plc p,v)∈acc->rG v p < 0)->Av (pre ++ [p]) (vB acc (plc p) p):=fun hv=>by
   obtain ⟨n1,n2⟩:=FJ (k:=plc p) (v:=p) I.nd
   refine ⟨n1,fun e he=>?_,fun y hy ok=>?_⟩
   ·rcases (n2 e).1 he with rfl | ⟨he,hn⟩
    ·refine ⟨rfl,inp,hok,fun y hy ok ey=>?_⟩
     rcases mem2 hy with hy | rfl
     ·obtain ⟨v,hv2⟩:=I.c y hy ok
      rw [ey] at hv2
      have h1:=(I.k _ hv2).2.2.2 y hy ok ey
      have h2:=hv v hv2
      exact vQ.tr y v p h1 (Int.le_of_lt h2)
     ·rw [yQ]; exact Int.le_refl _
    ·obtain ⟨a,b,c,d⟩:=I.k e he
     refine ⟨a,in1 b,c,fun y hy ok ey=>?_⟩
     rcases mem2 hy with hy | rfl
     ·exact d y hy ok ey
     ·exact absurd ey.symm hn
   ·rcases mem2 hy with hy | rfl
    ·obtain ⟨v,hv⟩:=I.c y hy ok
     by_cases e:plc y=plc p
     ·exact ⟨p,by rw [e]; exact (n2 _).2 (.inl rfl)⟩
     ·exact ⟨v,(n2 _).2 (.inr ⟨hv,e⟩)⟩
    ·exact ⟨y,(n2 _).2 (.inl rfl)⟩
  cases hg:jP acc (plc p) with
  | none =>
   dsimp only
   exact put fun v hv=>absurd rfl (EZ hg _ hv)
  | some q =>
   dsimp only
   have hq:=EU hg
   have uq:∀ v,(plc p,v)∈acc->v=q:=fun v hv=>by
    obtain ⟨j,hj⟩:=List.mem_iff_getElem?.1 hv
    have:=(zh hj I.nd).1
    rw [hg] at this; cases this; rfl
   by_cases ho:rG q p>=0
   ·rw [if_pos ho]
    refine ⟨I.nd,fun e he=>?_,fun y hy ok=>?_⟩
    ·obtain ⟨a,b,c,d⟩:=I.k e he
     refine ⟨a,in1 b,c,fun y hy ok ey=>?_⟩
     rcases mem2 hy with hy | rfl
     ·exact d y hy ok ey
     ·obtain ⟨e1,e2⟩:=e
      dsimp only at *
      subst ey
      rw [uq e2 he]
      have:=vQ.anti q y
      omega
    ·rcases mem2 hy with hy | rfl
     ·exact I.c y hy ok
     ·exact ⟨q,hq⟩
   ·rw [if_neg ho]
    exact put fun v hv=>by rw [uq v hv]; omega
 ·rw [if_neg hok]
  refine ⟨I.nd,fun e he=>?_,fun y hy ok=>?_⟩
  ·obtain ⟨a,b,c,d⟩:=I.k e he
   refine ⟨a,in1 b,c,fun y hy ok ey=>?_⟩
   rcases mem2 hy with hy | rfl
   ·exact d y hy ok ey
   ·exact absurd ok hok
  ·rcases mem2 hy with hy | rfl
   ·exact I.c y hy ok
   ·exact absurd ok hok
theorem Av.len {pre:List Pc} {acc:PM} (I:Av pre acc):acc.length<=pre.length:=by
 classical
 have:(acc.map (·.2)).length<=pre.length:=by
  refine BL ?_ fun z hz=>?_
  ·have nd:=I.nd
   have key:∀ {acc:PM},(∀ e∈acc,plc e.2=e.1)->(acc.map (·.1)).Nodup->(acc.map (·.2)).Nodup:=fun {acc}=>by
    induction acc with
    | nil=>simp
    | cons e r ih =>
     intro h1 h2
     rw [List.map_cons,List.nodup_cons] at h2 ⊢
     refine ⟨fun hm=>h2.1 ?_,ih (fun x hx=>h1 x (List.mem_cons_of_mem _ hx)) h2.2⟩
     obtain ⟨y,hy,ey⟩:=List.mem_map.1 hm
     refine List.mem_map.2 ⟨y,hy,?_⟩
     rw [← h1 y (List.mem_cons_of_mem _ hy),← h1 e List.mem_cons_self,ey]
   exact key (fun e he=>(I.k e he).1) nd
  ·obtain ⟨e,he,rfl⟩:=List.mem_map.1 hz
   exact (I.k e he).2.1
 simpa using this
theorem Av.mrg {l:List Pc} {acc:PM} (I:Av l acc) {zs:List Pc} (hp:zs.Perm (acc.map (·.2))) (hs:zs.Pairwise fun a b=>Gw a b<=0):nK l zs:=by
 have hm:∀ z,z∈zs ↔ ∃ k,(k,z)∈acc:=fun z=>by
  rw [hp.mem_iff,List.mem_map]
  exact ⟨fun ⟨e,he,ez⟩=>⟨e.1,by rw [← ez]; exact he⟩,fun ⟨k,hk⟩=>⟨_,hk,rfl⟩⟩
 have nd:zs.Pairwise fun a b=>plc a≠plc b:=by
  have h1:(acc.map (·.2)).Pairwise fun a b=>plc a≠plc b:=by
   rw [List.pairwise_map]
   have:=I.nd
   unfold List.Nodup at this
   rw [List.pairwise_map] at this
   refine List.Pairwise.imp_of_mem ?_ this
   intro a b ha hb hne
   rw [(I.k a ha).1,(I.k b hb).1]; exact hne
  exact (hp.pairwise_iff (fun {a b} h=>Ne.symm h)).2 h1
 refine ⟨?_,fun z=>?_⟩
 ·refine List.Pairwise.imp ?_ (hs.and nd)
  rintro a b ⟨h1,h2⟩
  unfold Gw at h1
  rw [jT,jT] at h1
  by_cases e:cS a.ak b.ak=0
  ·have es:=Jy e
   right
   refine ⟨es,?_⟩
   have:¬ a.f_T=b.f_T:=fun et=>h2 (by unfold plc; rw [es,et])
   unfold or1 at h1
   rw [if_neg (by omega)] at h1
   by_cases c:cI a.f_T b.f_T=0
   ·unfold cI at c
    split at c
    ·omega
    ·split at c
     ·omega
     ·omega
   ·rw [if_pos c] at h1
    have:cI a.f_T b.f_T < 0:=by omega
    unfold cI at this
    split at this
    ·assumption
    ·split at this <;> omega
  ·left
   unfold or1 at h1
   rw [if_pos e] at h1
   omega
 ·rw [hm]
  constructor
  ·rintro ⟨k,hk⟩
   obtain ⟨a,b,c,d⟩:=I.k _ hk
   exact ⟨b,c,fun y hy ok ey=>d y hy ok (by rw [ey]; exact a)⟩
  ·rintro ⟨h1,h2,h3⟩
   obtain ⟨v,hv⟩:=I.c z h1 h2
   obtain ⟨a,b,c,d⟩:=I.k _ hv
   dsimp only at *
   have e1:=d z h1 h2 rfl
   have e2:=h3 v b c a
   have an:=vQ.anti z v
   have ez:z=v:=by
    have o0:rG z v=0:=by omega
    unfold rG at o0
    rw [jT,jT] at o0
    unfold or1 at o0
    have ci0:∀ {a b:Int},cI a b=0->a=b:=fun {a b} h=>by
     unfold cI at h
     split at h
     ·omega
     ·split at h <;> omega
    have i0:vk z.dB v.dB=0:=by
     by_cases h:vk z.dB v.dB=0
     ·exact h
     ·rw [if_pos h] at o0; exact absurd o0 h
    rw [if_neg (by omega)] at o0
    have v0:cI z.f_V v.f_V=0:=by
     by_cases h:cI z.f_V v.f_V=0
     ·exact h
     ·rw [if_pos h] at o0; exact absurd o0 h
    unfold vk at i0
    rw [jT,jT] at i0
    unfold or1 at i0
    have n0:cI z.dB.f_N v.dB.f_N=0:=by
     by_cases h:cI z.dB.f_N v.dB.f_N=0
     ·exact h
     ·rw [if_pos h] at i0; exact absurd i0 h
    rw [if_neg (by omega)] at i0
    have d0:cI z.dB.aR v.dB.aR=0:=by
     by_cases h:cI z.dB.aR v.dB.aR=0
     ·exact h
     ·rw [if_pos h] at i0; exact absurd i0 h
    have p1:=ci0 v0
    have p2:=ci0 n0
    have p3:=ci0 d0
    unfold plc at a
    injection a with a1 a2
    obtain ⟨zs,zt,zv,zn,zd⟩:=z
    obtain ⟨vs,vt,vv,vn,vd⟩:=v
    simp only at a1 a2 p1 p2 p3
    subst a1; subst a2; subst p1; subst p2; subst p3; rfl
   exact ⟨plc z,by rw [ez,a]; rw [ez] at hv; rw [a] at hv; exact hv⟩
/-! the walk -/
theorem FZ {p:Pc} {k:KP Int} {h:Heap} (H:∀ h',Ext h.size h h'->k (if okP p=true then 0 else 1) h'):xQ p k h:=by
 unfold xQ
 refine bx0 fun h2 B1 X1=>⟨p.ak,B1.cl0 rfl,?_⟩
 have H2:=H h2 X1
 unfold okP at H2
 by_cases h0:p.ak.size=0
 ·rw [if_pos (by simpa using h0)]
  unfold pG
  rw [if_pos rfl]
  rw [if_neg (by simp [h0])] at H2; exact H2
 ·rw [if_neg (by simpa using h0)]
  refine ⟨p.ak,B1.cl0 rfl,?_⟩
  unfold pG
  by_cases h1:p.ak.size<=200
  ·rw [if_neg (by simp; omega)]
   rw [if_pos (by simp; omega)] at H2; exact H2
  ·rw [if_pos (by simp; omega)]
   rw [if_neg (by simp; omega)] at H2; exact H2
abbrev kfP:=fun v:aK=>Value.agg (aK.cs v).toArray
abbrev vfP:=fun v:ae=>Value.agg (ae.cs v).toArray
theorem Qd {l:List Pc} {i:Int} {x:Pc} (i0:0<=i) (hx:l[i.toNat]? = some x):(l.take (i + 1).toNat).foldl jZ []=jZ ((l.take i.toNat).foldl jZ []) x:=by
 rw [take1 i0 hx,List.foldl_append]; rfl
theorem Av.fold (l:List Pc):∀ (n:Nat),Av (l.take n) ((l.take n).foldl jZ [])
 | 0=>by simpa using Av.nil
 | n + 1=>by
  rcases Nat.lt_or_ge n l.length with hn | hn
  ·rw [List.take_succ_eq_append_getElem hn,List.foldl_append]
   exact (Av.fold l n).step _
  ·have:=Av.fold l n
   rw [List.take_of_length_le hn] at this
   rw [List.take_of_length_le (by omega)]; exact this
theorem L8 {b n c:Nat} {s:Slc} {l:List Pc} {k:KP Slc} {h:Heap} (S:Blk h b [Slc.v s] n) (L:Pcs h s l) (m:l.length<=1000000)
  (H:∀ zs t h',nK l zs->Row h.size h' 89 5 t (zs.flatMap ae.cs)->t.len=zs.length->Ext h.size h h'->k t h'):oU ⟨some ⟨b,0,none⟩,1,c⟩ k h:=by
 unfold oU
 refine ⟨_,_,rfl,rfl,?_⟩
 have X1:=Ext.push h (.map #[] 0) (Nat.le_refl _)
 have M1:jr kfP vfP (h.push (.map #[] 0)) h.size ([]:PM):=jr.mk0 h
 have S1:=S.ext X1 S.lt
 generalize h.push (.map #[] 0)=h1 at *
 have z1:=X1.size
 have ml1:=M1.lt
 unfold vR
 refine ⟨fun i h'=>(i=0∨i=1)/\Ext h.size h h'/\jr kfP vfP h' h.size (if i=0 then [] else l.foldl jZ [])/\h.size < h'.size,fun i _=>(1 - i).toNat,⟨.inl rfl,X1,M1,ml1⟩,?_⟩
 rintro j h2 ⟨hj,X2,M2,z2⟩
 unfold uK
 rcases hj with rfl | rfl
 ·rw [if_pos (by simp)]
  rw [if_pos rfl] at M2
  refine ⟨_,rfl,Int.le_refl _,by show (0:Int) < 1; decide,s,(S.ext X2 S.lt).cl rfl,?_⟩
  unfold wM
  refine ⟨fun i h'=>0<=i/\i<=(l.length:Int)/\Ext h.size h h'/\h.size < h'.size/\jr kfP vfP h' h.size ((l.take i.toNat).foldl jZ []),fun i _=>l.length - i.toNat,⟨Int.le_refl _,by omega,X2,z2,by simpa using M2⟩,?_⟩
  rintro i h3 ⟨i0,i1,X3,z3,M3⟩
  unfold uC
  rw [L.l]
  by_cases hi:i < (l.length:Int)
  ·rw [if_pos (by simpa using hi)]
   obtain ⟨a,x,ha,g0,g1,hx,hc⟩:=(L.ext X3).it i0 hi
   rw [L.l] at g1
   have IM:=Av.fold l i.toNat
   have fm:=Qd i0 hx
   obtain ⟨acc,ea⟩:∃ acc,acc=(l.take i.toNat).foldl jZ []:=⟨_,rfl⟩
   rw [← ea] at fm M3 IM
   refine ⟨a,ha,g0,g1,x,hc,bx rfl (by decide) fun h9 B9 X9=>⟨x,ai.aL B9,FZ fun h12 X12=>?_⟩⟩
   have z9:=X9.size
   have z12:=X12.size
   have X312:Ext h3.size h3 h12:=X9.trans (X12.mono z9)
   have X012:Ext h.size h h12:=X3.trans (X312.mono (by omega))
   have M12:=M3.ext X312 z3
   have done:∀ h',Ext h.size h h'->h.size < h'.size->jr kfP vfP h' h.size (jZ acc x)->jk h.size ⟨some ⟨b,0,none⟩,1,c⟩ 1 0 s (l.length:Int) i k (fun i h'=>((i=0∨i=1)/\Ext h.size h h'/\jr kfP vfP h' h.size (if i=0 then [] else l.foldl jZ [])/\h.size < h'.size)/\(1 - i).toNat < (1 - (0:Int)).toNat) (fun s h'=>(0<=s/\s<=(l.length:Int)/\Ext h.size h h'/\h.size < h'.size/\jr kfP vfP h' h.size ((l.take s.toNat).foldl jZ []))/\l.length - s.toNat < l.length - i.toNat) h':=fun h' X' z' M'=>by
    unfold jk
    rw [wI i0 hi m]
    exact ⟨⟨by omega,by omega,X',z',by rw [fm]; exact M'⟩,by omega⟩
   have B12:=B9.ext X12 B9.lt
   by_cases ok:okP x=true
   ·rw [if_pos ok,if_neg (by simp)]
    refine ⟨x.ak,B12.cl0 rfl,x.f_T,B12.cl rfl,bx rfl (by decide) fun h17 B17 X17=>⟨plc x,ai.aL B17,acc,M12.ext X17 (by omega),bx rfl (by decide) fun h22 B22 X22=>?_⟩⟩
    have z17:=X17.size
    have z22:=X22.size
    have X322:Ext h3.size h3 h22:=(X312.trans (X17.mono (by omega))).trans (X22.mono (by omega))
    have X022:Ext h.size h h22:=X3.trans (X322.mono (by omega))
    have M22:=M3.ext X322 z3
    have C9:=(B12.ext X17 B12.lt).ext X22 (Nat.lt_of_lt_of_le B12.lt z17)
    have C17:=B17.ext X22 B17.lt
    have j4f:∀ h',Ext h22.size h22 h'->jZ acc x=vB acc (plc x) x->eT h.size ⟨h3.size,0,none⟩ ⟨h12.size,0,none⟩ ⟨some ⟨b,0,none⟩,1,c⟩ 1 0 s (l.length:Int) i false k _ (fun s h'=>(0<=s/\s<=(l.length:Int)/\Ext h.size h h'/\h.size < h'.size/\jr kfP vfP h' h.size ((l.take s.toNat).foldl jZ []))/\l.length - s.toNat < l.length - i.toNat) h':=fun h' X' e=>by
     have z':=X'.size
     unfold eT
     rw [if_neg (by simp)]
     refine ⟨plc x,(ai.aL C17).ext X',x,(ai.aL C9).ext X',_,acc,_,rfl,M22.ext X' (by omega),rfl,done _ ((X022.trans (X'.mono (by omega))).trans (Ext.ry _ _ _ (Nat.le_refl _))) (by rw [vL]; omega) ?_⟩
     rw [e]
     exact (M22.ext X' (by omega)).put nO (plc x) x
    have eS:jZ acc x=(match jP acc (plc x) with | some q=>if rG q x>=0 then acc else vB acc (plc x) x | none=>vB acc (plc x) x):=by unfold jZ; rw [if_pos ok]
    cases hg:jP acc (plc x) with
    | none =>
     rw [hg] at eS
     dsimp only at eS
     rw [if_neg (by simp)]
     exact j4f h22 (Ext.refl _ _) eS
    | some y =>
     rw [hg] at eS B22
     dsimp only at eS
     rw [if_pos (by simp)]
     have ci:∀ {b:Nat} {z:ae} {g:Heap},Blk g b (ae.cs z) 89->ai g ((⟨b,0,none⟩:Addr).add 3) (aG.cs z.dB):=fun R=>R.cls rfl
     refine ⟨y.dB,ci B22,x.dB,ci C9,y.f_V,B22.cl rfl,x.f_V,C9.cl rfl,Il fun h33 X33=>⟨(C9.ext X33 C9.lt).cl rfl,(B22.ext X33 B22.lt).cl rfl,GH (bx0 fun h39 B39 X39=>?_)⟩⟩
     refine JG (xs:=[vk y.dB x.dB,cI y.f_V x.f_V]) B39 (by simp) ?_
     have X2:=X33.trans (X39.mono X33.size)
     show eT _ _ _ _ _ _ _ _ _ (decide (rG y x>=0)) _ _ _ _
     by_cases ho:rG y x>=0
     ·rw [if_pos ho] at eS
      rw [show decide (rG y x>=0)=true from by simpa using ho]
      unfold eT
      rw [if_pos rfl]
      have z2':=X2.size
      exact done _ (X022.trans (X2.mono (by omega))) (by omega) (by rw [eS]; exact M22.ext X2 (by omega))
     ·rw [if_neg ho] at eS
      rw [show decide (rG y x>=0)=false from by simpa using ho]
      exact j4f _ X2 eS
   ·rw [if_neg ok,if_pos (by simp)]
    exact done h12 X012 (by omega) (by unfold jZ; rw [if_neg ok]; exact M12)
  ·rw [if_neg (by simpa using hi)]
   rw [oV (by omega)] at M3
   exact ⟨⟨.inr rfl,X3,by rw [if_neg (by decide)]; exact M3,z3⟩,by show (0:Nat) < 1; decide⟩
 ·rw [if_neg (by simp)]
  rw [if_neg (by decide)] at M2
  have IM:=Av.fold l l.length
  rw [List.take_length] at IM
  obtain ⟨es,ck,m1,m2,m3⟩:=M2
  unfold aU
  refine bx0 fun h3 B3 X3=>?_
  have z3:=X3.size
  unfold bR iP
  refine ⟨h2.size,h.size,ck,es,(l.foldl jZ []).map (·.2),rfl,B3.cl0 rfl,by rw [X3.block _ z2]; exact m1,m2,?_,?_,?_⟩
  ·have:=congrArg (List.map (·.2)) m3
   rw [List.map_map,List.map_map] at this
   rw [List.map_map]
   exact this
  ·rw [List.length_map]; exact Nat.le_trans IM.len m
  ·intro t xs h4 hp R hl X4
   have z4:=X4.size
   refine ⟨rfl,h3.size,xs,R,hl,z4,?_,fun zs h5 pz sz R5 X5=>?_⟩
   ·rw [hp.length_eq,List.length_map]; exact Nat.le_trans IM.len m
   ·refine H zs t h5 (IM.mrg (pz.trans hp) sz) (R5.mono (by omega)) (by rw [hl,pz.length_eq]) ?_
    exact ((X2.trans (X3.mono (by omega))).trans (X4.mono (by omega))).trans (X5.mono (by omega))
end Go.Q.Yq
end

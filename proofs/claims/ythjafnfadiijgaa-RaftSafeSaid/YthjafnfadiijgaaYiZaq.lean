/- A part of the proof of statements of this seat: lemmas, no statement of their own. -/
import Derived.Test.YthjafnfadiijgaaYiZad
import Derived.OpenShut
import Derived.Sort.AssemblyPlain
import Derived.Test.YthjafnfadiijgaaYiZak
import Derived.Test.YthjafnfadiijgaaYiZaj
import Derived.Test.YthjafnfadiijgaaYiZaf
set_option linter.unusedVariables false
set_option linter.unusedSimpArgs false
set_option maxRecDepth 100000
set_option maxHeartbeats 1000000
section
/- Arguments that are arrays of numbers. -/
namespace Go.Q
open Go.ChangeShapes Go.WideShapes
section
variable {H:Type} {enc:TypeId × Value->H} {P:Program} {t e:TypeId} {n:Nat} {q:IntKind} {w W:World} {base:Nat} {sp:Nat->Bool} {held:Bool}
end
end Go.Q
end
section
namespace Go.Q
theorem SlcAt.ext {h h':Heap} {s:Slc} {vs:List Value} (a:SlcAt h s vs) (X:Ext h.size h h'):SlcAt h' s vs:=⟨a.1,fun b hb j w hj=>X.cellAt (a.2 b hb j w hj)⟩
/-- a part of a block -/
theorem Blk.part {h:Heap} {b E o n:Nat} {cs ys:List Value} (k:Blk h b cs E) (hd:(cs.drop o).take n=ys):aD h ⟨b,o,none⟩ ys:=by
 intro j v hj
 rw [add_mk,k.cell]
 rw [← hd,List.getElem?_take] at hj
 split at hj
 ·rw [List.getElem?_drop] at hj; exact hj
 ·cases hj
theorem Blk.slc {h:Heap} {b E o n m c:Nat} {cs ys:List Value} (k:Blk h b cs E) (hd:(cs.drop o).take n=ys):SlcAt h ⟨some ⟨b,o,none⟩,m,c⟩ ys :=
 ⟨(fun hn=>by cases hn),fun a ha j v hj=>by cases ha; exact k.part hd j v hj⟩
/-- a row of structs in memory -/
structure LsAt {α:Type} (cs:α->List Value) (w:Nat) (h:Heap) (s:Slc) (xs:List α):Prop where
 l:s.len=xs.length
 at':∀ (i:Nat) x,xs[i]? = some x->∃ a,s.a=some a/\aD h (a.add (i * w)) (cs x)
theorem aD.ext {h h':Heap} {a:Addr} {vs:List Value} (c:aD h a vs) (X:Ext h.size h h'):aD h' a vs:=fun j v hj=>X.cellAt (c j v hj)
theorem LsAt.ext {α:Type} {cs:α->List Value} {w:Nat} {h h':Heap} {s:Slc} {xs:List α} (L:LsAt cs w h s xs) (X:Ext h.size h h'):LsAt cs w h' s xs :=
 ⟨L.l,fun i x hx=>by obtain ⟨a,h1,h2⟩:=L.at' i x hx; exact ⟨a,h1,h2.ext X⟩⟩
end Go.Q
end
section
/- Arguments that came in, opened by their types. -/
namespace Go.Q
open Go.ChangeShapes Go.WideShapes
theorem uz {α:Type} {R:Nat->α->Prop}:∀ n:Nat,(∀ i,i < n->∃ y,R i y)->∃ ys:List α,ys.length=n/\∀ i y,ys[i]? = some y->R i y
 | 0,_=>⟨[],rfl,by simp⟩
 | n + 1,h=>by
  obtain ⟨ys,hl,hy⟩:=uz n fun i hi=>h i (by omega)
  obtain ⟨y,hR⟩:=h n (by omega)
  refine ⟨ys ++ [y],by simp [hl],fun i z hz=>?_⟩
  rcases Nat.lt_trichotomy i n with hi | hi | hi
  ·rw [List.getElem?_append_left (by omega)] at hz; exact hy i z hz
  ·subst hi
   rw [List.getElem?_append_right (by omega),hl] at hz
   simp at hz; subst hz; exact hR
  ·rw [List.getElem?_eq_none (by simp; omega)] at hz; cases hz
section
variable {H:Type} {enc:TypeId × Value->H} {P:Program} {t e:TypeId} {w:World} {base:Nat} {sp:Nat->Bool} {held:Bool}
theorem yj {α β:Type} {f:α->Option β}:∀ {l:List α} {ys:List β},l.mapM f=some ys->ys.length=l.length/\∀ (i:Nat) x,l[i]? = some x->∃ y,f x=some y/\ys[i]? = some y
 | [],ys,h=>by simp at h; subst h; simp
 | a :: l,ys,h=>by
  rw [List.mapM_cons] at h
  cases ha:f a with
  | none=>simp [ha] at h
  | some b =>
   cases hl:l.mapM f with
   | none=>simp [ha,hl] at h
   | some zs =>
    simp [ha,hl] at h
    subst h
    obtain ⟨h1,h2⟩:=yj hl
    refine ⟨by simp [h1],fun i x hx=>?_⟩
    cases i with
    | zero=>simp at hx; subst hx; exact ⟨b,ha,rfl⟩
    | succ i=>simp at hx; simpa using h2 i x hx
theorem wy {w:World} {base:Nat} {a:Addr} {n:Nat} {cs:List Value} (h:w.cells? base a n=some cs):cs.length=n/\aD w.heap a cs:=by
 unfold World.cells? at h
 split at h
 ·obtain ⟨h1,h2⟩:=yj h
  rw [List.length_range] at h1
  refine ⟨h1,fun i v hv=>?_⟩
  have hi:i < n:=by have:=(List.getElem?_eq_some_iff.1 hv).1; omega
  obtain ⟨y,e1,e2⟩:=h2 i i (by simp [hi])
  rw [hv] at e2; cases e2
  exact e1
 ·cases h
/-- a slice that came in -/
theorem D8 {fuel:Nat} {cs:List Value} {x:DataW H × List MemPlace} (ht:P.underlying t=some (.slice e)) (h:DataW.trod enc P w base sp held fuel t cs=some x) :
  ∃ s:Slc,cs=[Slc.v s]/\s.len<=s.cap/\s.cap<=maxLen/\(s.a=none->s.len=0/\s.cap=0) /\
   ∀ a,s.a=some a->∀ i,i < s.len->∃ es f y,es.length=P.cellsOf e/\aD w.heap (a.add (i * P.cellsOf e)) es/\DataW.trod enc P w base sp held f e es=some y:=by
 rcases DataW.trod_slice ht h with ⟨rfl,_⟩ | ⟨a,len,cap,elems,rest,n,_,rfl,_,hb,hl,hm,hlen,hel,_⟩
 ·exact ⟨⟨none,0,0⟩,rfl,Nat.le_refl _,by simp [maxLen],fun _=>⟨rfl,rfl⟩,fun a ha=>by cases ha⟩
 ·refine ⟨⟨some a,len,cap⟩,rfl,hl,hm,(fun hn=>by cases hn),fun b hb i hi=>?_⟩
  cases hb
  have hi:i < len:=hi
  have:=hel i hi
  rw [List.getElem?_eq_getElem (by omega),Option.bind_eq_some_iff] at this
  obtain ⟨es,h1,h2⟩:=this
  exact ⟨es,n,_,(wy h1).1,(wy h1).2,h2⟩
/-- the parts of a struct -/
theorem Ep {fs:Array Field} {fuel:Nat} {cs:List Value} {x:DataW H × List MemPlace} (ht:P.underlying t=some (.struct fs)) (h:DataW.trod enc P w base sp held fuel t cs=some x) :
  ∃ n,cs.length=P.cellsOf t/\∀ (i:Nat) f,fs[i]? = some f->∃ y,DataW.trod enc P w base sp held n f.type ((cs.drop f.offset).take (P.cellsOf f.type))=some y:=by
 obtain ⟨xs,n,_,_,hl,hxl,hf⟩:=DataW.trod_struct ht h
 refine ⟨n,hl,fun i f hi=>?_⟩
 have:=hf i f hi
 have hi2:i < xs.length:=by rw [hxl]; exact (Array.getElem?_eq_some_iff.1 hi).1
 exact ⟨xs[i],by rw [this]; simp⟩
theorem uT {cs a:List Value} {o n:Nat} (h:(cs.drop o).take n=a):cs.drop o=a ++ cs.drop (o + n):=by
 rw [← h,← List.drop_drop,List.take_append_drop]
theorem Em {cs:List Value} {n:Nat} (h:cs.length=n):cs.drop n=[]:=by rw [← h]; exact List.drop_length
theorem open_ls {α:Type} {cs:α->List Value} {w':Nat} {Ok:α->Prop} {fuel:Nat} {c:List Value} {x:DataW H × List MemPlace} (ht:P.underlying t=some (.slice e)) (hc:P.cellsOf e=w')
  (he:∀ {fuel:Nat} {cs':List Value} {x:DataW H × List MemPlace},DataW.trod enc P w base sp held fuel e cs'=some x->∃ y:α,cs'=cs y/\Ok y) (h:DataW.trod enc P w base sp held fuel t c=some x) :
  ∃ s:Slc,c=[Slc.v s]/\s.len<=s.cap/\s.cap<=maxLen/\∃ ys:List α,LsAt cs w' w.heap s ys/\∀ y∈ys,Ok y:=by
 obtain ⟨s,rfl,q1,q2,q3,q4⟩:=D8 ht h
 rw [hc] at q4
 cases ha:s.a with
 | none =>
  have:=q3 ha
  exact ⟨s,rfl,q1,q2,[],⟨by simp [this],fun i y hy=>by simp at hy⟩,by simp⟩
 | some a =>
  obtain ⟨ys,hl,hz⟩:=uz (R:=fun i (y:α)=>aD w.heap (a.add (i * w')) (cs y)/\Ok y) s.len fun i hi=>by
   obtain ⟨es,f,y,e1,e2,e3⟩:=q4 a ha i hi
   obtain ⟨z,rfl,r⟩:=he e3
   exact ⟨z,e2,r⟩
  refine ⟨s,rfl,q1,q2,ys,⟨hl.symm,fun i y hy=>⟨a,ha,(hz i y hy).1⟩⟩,fun y hy=>?_⟩
  obtain ⟨i,hi⟩:=List.getElem?_of_mem hy
  exact (hz i y hi).2
end
end Go.Q
end
section
namespace Go.Q.Yi
open Go.ChangeShapes Go.WideShapes
section
variable {H:Type} {enc:TypeId × Value->H} {w:World} {base:Nat} {sp:Nat->Bool} {held:Bool}
def Ok_S_quaestorlaw26_Act (h:Heap) (v:S_quaestorlaw26_Act):Prop:=((Lit.int .i64 v.mO).wf=true)/\((Lit.int .i64 v.f_N).wf=true)/\((Lit.int .i64 v.ET).wf=true)
theorem open_S_quaestorlaw26_Act {fuel:Nat} {cs:List Value} {x:DataW H × List MemPlace} (h:DataW.trod enc Go.Proofs.Try.prog w base sp held fuel 52 cs=some x):∃ v:S_quaestorlaw26_Act,cs=S_quaestorlaw26_Act.cs v/\Ok_S_quaestorlaw26_Act w.heap v:=by
 obtain ⟨n,hl,g⟩:=Ep Go.Proofs.Try.underlying52 h
 obtain ⟨y0,g0⟩:=g 0 _ rfl
 replace g0:DataW.trod enc Go.Proofs.Try.prog w base sp held n 3 ((cs.drop 0).take (Go.Proofs.Try.prog.cellsOf 3))=some y0:=g0
 rw [show Go.Proofs.Try.prog.cellsOf 3=1 from by kernel_rfl] at g0
 obtain ⟨a0,e0,_,w0⟩:=DataW.trod_int Go.Proofs.Try.underlying3 g0
 obtain ⟨y1,g1⟩:=g 1 _ rfl
 replace g1:DataW.trod enc Go.Proofs.Try.prog w base sp held n 3 ((cs.drop 1).take (Go.Proofs.Try.prog.cellsOf 3))=some y1:=g1
 rw [show Go.Proofs.Try.prog.cellsOf 3=1 from by kernel_rfl] at g1
 obtain ⟨a1,e1,_,w1⟩:=DataW.trod_int Go.Proofs.Try.underlying3 g1
 obtain ⟨y2,g2⟩:=g 2 _ rfl
 replace g2:DataW.trod enc Go.Proofs.Try.prog w base sp held n 3 ((cs.drop 2).take (Go.Proofs.Try.prog.cellsOf 3))=some y2:=g2
 rw [show Go.Proofs.Try.prog.cellsOf 3=1 from by kernel_rfl] at g2
 obtain ⟨a2,e2,_,w2⟩:=DataW.trod_int Go.Proofs.Try.underlying3 g2
 have r0:cs.drop 0=_ ++ cs.drop 1:=uT e0
 have r1:cs.drop 1=_ ++ cs.drop 2:=uT e1
 have r2:cs.drop 2=_ ++ cs.drop 3:=uT e2
 have rn:cs.drop 3=[]:=Em (hl.trans (by kernel_rfl))
 exact ⟨⟨a0,a1,a2⟩,(List.drop_zero).symm.trans (r0.trans (by rw [r1,r2,rn]; rfl)),w0,w1,w2⟩
end
end Go.Q.Yi
end
section
namespace Go.Q.Yi
open Go.Sort
/-! ### what more than half have, plainly -/
def cnt (l:List Int) (v:Int):Nat:=l.countP fun x=>decide (v<=x)
def Cm (l:List Int) (c:Int):Prop:=(l=[]/\c=0)∨(c∈l/\l.length / 2 + 1<=cnt l c/\∀ v,l.length / 2 + 1<=cnt l v->v<=c)
theorem Ey {n:Nat} {d d':Array Int} (hn:d.size=n) (P:PermIn 0 n d d'):d'.toList.Perm d.toList:=by
 have h:=P.2.2
 have h1:=P.1
 have e:∀ x:Array Int,x.size=n->x.extract 0 n=x:=fun x hx=>by rw [← hx]; simp
 rw [e d hn,e d' (by omega)] at h
 exact h
theorem DJ {n:Nat} {d:Array Int} (hn:d.size=n) (S:SortedIn ltInt 0 n d) {i j:Nat} (hij:i<=j) (hj:j < n):d[i]!<=d[j]!:=by
 rcases Nat.lt_or_ge i j with h | h
 ·have:=S i j (Nat.zero_le _) h hj
  unfold ltInt at this
  rw [decide_eq_false_iff_not] at this
  omega
 ·rw [show i=j from by omega]; exact Int.le_refl _
theorem yU {l:List Int} {p:Int->Bool} (h:∀ x∈l,p x=false):l.countP p=0:=by
 rw [List.countP_eq_zero]
 intro x hx e
 rw [h x hx] at e; cases e
/-- the middle of the sorted ones is it -/
theorem Cm.of {zs:List Int} {d:Array Int} (hn:0 < zs.length) (dn:d.size=zs.length) (P:d.toList.Perm zs) (M:∀ i j,i<=j->j < zs.length->d[i]!<=d[j]!):Cm zs d[zs.length - (zs.length / 2 + 1)]!:=by
 have ge:∀ (i:Nat),i < zs.length->∃ h:i < d.toList.length,d.toList[i]=d[i]!:=fun i hi=>⟨by rw [Array.length_toList,dn]; exact hi,by rw [Array.getElem_toList,getElem!_pos d i (by omega)]⟩
 have ec:∀ v,cnt zs v=cnt d.toList v:=fun v=>(P.countP_eq _).symm
 have ll:d.toList.length=zs.length:=by rw [Array.length_toList,dn]
 obtain ⟨m,hm⟩:∃ m,m=zs.length - (zs.length / 2 + 1):=⟨_,rfl⟩
 rw [← hm]
 have ml:m < zs.length:=by omega
 have sp:∀ v,cnt d.toList v=cnt (d.toList.take m) v + cnt (d.toList.drop m) v:=fun v=>by
  unfold cnt
  rw [← List.countP_append,List.take_append_drop]
 have dl:(d.toList.drop m).length=zs.length / 2 + 1:=by rw [List.length_drop,ll]; omega
 refine .inr ⟨?_,?_,fun v hv=>?_⟩
 ·obtain ⟨h1,h2⟩:=ge m ml
  rw [← h2]
  exact P.mem_iff.1 (List.getElem_mem h1)
 ·rw [ec,sp]
  have:cnt (d.toList.drop m) d[m]! = (d.toList.drop m).length:=by
   unfold cnt
   rw [List.countP_eq_length]
   intro x hx
   obtain ⟨i,hi,rfl⟩:=List.mem_iff_getElem.1 hx
   rw [List.length_drop,ll] at hi
   rw [List.getElem_drop,decide_eq_true_eq]
   obtain ⟨h1,h2⟩:=ge (m + i) (by omega)
   rw [h2]
   exact M m (m + i) (by omega) (by omega)
  omega
 ·apply Classical.byContradiction
  intro hc
  have hlt:d[m]! < v:=by omega
  rw [ec,sp] at hv
  have z1:cnt (d.toList.take m) v=0:=yU fun x hx=>by
   obtain ⟨i,hi,rfl⟩:=List.mem_iff_getElem.1 hx
   rw [List.length_take,ll] at hi
   rw [List.getElem_take,decide_eq_false_iff_not]
   obtain ⟨h1,h2⟩:=ge i (by omega)
   rw [h2]
   have:=M i m (by omega) ml
   omega
  have z2:cnt (d.toList.drop m) v < (d.toList.drop m).length:=by
   unfold cnt
   have hd:d.toList.drop m=d[m]! :: d.toList.drop (m + 1):=by
    obtain ⟨h1,h2⟩:=ge m ml
    rw [List.drop_eq_getElem_cons h1,h2]
   rw [hd,List.countP_cons,List.length_cons,if_neg (by rw [decide_eq_true_eq]; omega)]
   have:=List.countP_le_length (p:=fun x=>decide (v<=x)) (l:=d.toList.drop (m + 1))
   omega
  omega
theorem rV:∀ (l:List Int) (i:Nat) (v w c:Int),l[i]? = some v->v<=w->cnt l c<=cnt (l.set i w) c
 | [],_,_,_,_,h,_=>by simp at h
 | x :: r,0,v,w,c,h,hv=>by
  simp only [List.getElem?_cons_zero,Option.some.injEq] at h
  subst h
  unfold cnt
  rw [List.set_cons_zero,List.countP_cons,List.countP_cons]
  by_cases hx:c<=x
  ·rw [if_pos (decide_eq_true hx),if_pos (decide_eq_true (by omega))]; exact Nat.le_refl _
  ·rw [if_neg (by rw [decide_eq_true_eq]; exact hx)]; omega
 | x :: r,i + 1,v,w,c,h,hv=>by
  have ih:=rV r i v w c (by simpa using h) hv
  unfold cnt at ih ⊢
  rw [List.set_cons_succ,List.countP_cons,List.countP_cons]
  omega
end Go.Q.Yi
end
section
namespace Go.Q.Yi
open Go.Sort
section
variable {B:Nat} {h h':Heap} {s:Slc} {d:Array Int}
theorem DK {k:KP Unit} (R:U64 B h s d) (hz:d.size<=32) (H:∀ d' h',U64 B h' s d'->PermIn 0 d.size d d'->SortedIn ltInt 0 d.size d'->Onl s h h'->k () h'):fG s k h:=by
 have sl:=R.len
 unfold fG
 refine ⟨_,rfl,?_⟩
 rw [aL (by omega) (by omega),sl]
 refine CG (by omega) ?_
 have hb:bitsLen d.size<=8:=by
  have key:(List.range 33).all (fun n=>decide (bitsLen n<=8))=true:=by decide +kernel
  have:=List.all_eq_true.1 key d.size (by simp; omega)
  simpa using this
 exact Df (zm 40) (N:=40) (AP 40) (by omega) ⟨B,d,0,d.size,R,rfl,rfl,Nat.zero_le _,Nat.le_refl _,hz,.inl rfl,⟨by omega,by omega⟩,H⟩
theorem yf {p:Int} {k:KP Int} (p0:0<=p) (p1:p < 9223372036854775808) (H:k (p / 2 + 1) h):pE p k h:=by
 unfold pE
 have e:shr .i64 (if 0 > p then 0 else p) (1:Int).toNat=p / 2:=by
  rw [if_neg (by omega)]
  unfold shr
  rw [show (2:Int) ^ (min (1:Int).toNat IntKind.i64.bits)=2 from rfl,Int.fdiv_eq_ediv_of_nonneg _ (by omega)]
 rw [e,ay (by omega) (by omega)]
 exact ⟨_,rfl,H⟩
theorem Fz {zs:List Int} {i:Int} (S:SlcAt h s (u8s zs)) (sl:s.len=zs.length) (i0:0<=i) {v:Int} (hx:zs[i.toNat]? = some v) :
  ∃ a:Addr,s.a=some a/\(0:Int)<=i/\i < (s.len:Int)/\af h (a.add (i.toNat * 1))=some (.int .u64 v):=by
 have i1:=(List.getElem?_eq_some_iff.1 hx).1
 cases ha:s.a with
 | none =>
  have e:zs=[]:=List.map_eq_nil_iff.1 (S.1 ha)
  rw [e] at i1; simp at i1
 | some a =>
  refine ⟨a,rfl,i0,by omega,?_⟩
  rw [Nat.mul_one]
  exact S.2 a ha i.toNat _ (by unfold u8s; rw [List.getElem?_map,hx]; rfl)
theorem Bg {zs:List Int} {k:KP Int} (S:SlcAt h s (u8s zs)) (sl:s.len=zs.length) (hz:zs.length<=32)
  (H:∀ c h',Cm zs c->Ext h.size h h'->k c h'):pY s k h:=by
 unfold pY
 by_cases z0:zs.length=0
 ·rw [if_pos (by rw [beq_iff_eq]; omega)]
  exact H 0 h (.inl ⟨List.eq_nil_of_length_eq_zero z0,rfl⟩) (Ext.refl _ _)
 rw [if_neg (by rw [beq_iff_eq]; omega)]
 unfold iD
 have X1:=Ext.push h (.cells #[Slc.v s] 81) (Nat.le_refl h.size)
 have P:=Blk.push h [Slc.v s] 81
 have z1:=X1.size
 change Blk (h.push (.cells #[Slc.v s] 81)) h.size [Slc.v s] 81 at P
 generalize h.push (.cells #[Slc.v s] 81)=h1 at *
 unfold lm
 refine ⟨h.size,s,zs,rfl,by rw [P.cell]; rfl,sl,S.ext X1,by omega,by omega,fun s2 h2 R2 l2 X2=>?_⟩
 have R2':U64 h1.size h2 s2 zs.toArray:=by unfold U64; simpa using R2
 have z2:=X2.size
 have zl:zs.toArray.size=zs.length:=List.size_toArray
 refine DK R2' (by omega) fun d' h3 R3 P3 S3 O3=>?_
 have X3:=O3.ext R2' z2
 have l3:=R3.len
 have dz:d'.size=zs.length:=by rw [← l3,l2]
 show pE (s2.len:Int) _ h3
 rw [l2]
 refine yf (by omega) (by omega) ?_
 rw [ay (by omega) (by omega)]
 obtain ⟨g,ha,hc⟩:=R3.ld (i:=zs.length - (zs.length / 2 + 1)) (by omega)
 have ei:((zs.length:Int) - ((zs.length:Int) / 2 + 1)).toNat=zs.length - (zs.length / 2 + 1):=by omega
 refine ⟨_,ha,by omega,by omega,_,by rw [add_mk,Nat.zero_add,Nat.mul_one,ei]; exact hc,?_⟩
 refine H _ h3 (Cm.of (by omega) dz (by have:=Ey rfl P3; simpa using this) fun i j hij hj=>DJ dz (by rw [zl] at S3; exact S3) hij hj) (X1.trans ((X2.trans X3).mono z1))
end
/-! ### a ballot -/
section
variable {h:Heap} {b:Nat} {n:Int} {y:Nat}
abbrev yZ (h:Heap) (b:Nat) (n:Int) (y:Nat):Prop:=Blk h b (iE.cs ⟨n,(y:Int)⟩) 123
theorem BU {p:Int} {k:KP Bool} (T:yZ h b n y) (n0:0<=n) (n1:n<=32) (hy:y < 2 ^ n.toNat) (hp:p < 9223372036854775808)
  (H1:0<=p->p < n->y / 2 ^ p.toNat % 2=0->∀ h',yZ h' b n (y + 2 ^ p.toNat)->Upd b h h'->k true h') (H2:(0<=p->p < n->y / 2 ^ p.toNat % 2=1)->k false h):kN (some ⟨b,0,none⟩) p k h:=by
 have y64:y < 4294967296:=Nat.lt_of_lt_of_le hy (by rw [show (4294967296:Nat)=2 ^ 32 from rfl]; exact Nat.pow_le_pow_right (by omega) (by omega))
 have c0:af h ⟨b,0,none⟩=some (.int .i64 n):=by rw [T.cell]; rfl
 have c1:af h ((⟨b,0,none⟩:Addr).add 1)=some (.int .u64 (y:Int)):=by rw [add_mk,T.cell]; rfl
 unfold kN
 rw [show ((some (⟨b,0,none⟩:Addr)).isNone || decide (p < 0))=decide (p < 0) from rfl]
 by_cases p0:p < 0
 ·rw [if_pos (decide_eq_true p0)]
  unfold iO fK
  rw [if_pos rfl,if_pos rfl]
  exact H2 fun h=>by omega
 rw [if_neg (by rw [decide_eq_true_eq]; exact p0)]
 refine ⟨_,rfl,n,c0,?_⟩
 unfold iO
 by_cases pn:p>=n
 ·rw [if_pos (decide_eq_true pn)]
  unfold fK
  rw [if_pos rfl]
  exact H2 fun _ h=>by omega
 rw [if_neg (by rw [decide_eq_true_eq]; exact pn)]
 have ew:IntKind.u64.wrap p=p:=aL (by omega) (by omega)
 refine ⟨_,rfl,_,c1,by rw [ew]; omega,?_⟩
 rw [ew,zN (n:=p.toNat) (by omega)]
 have eb:jA .u64 ((y / 2 ^ p.toNat:Nat):Int) 1=((y / 2 ^ p.toNat % 2:Nat):Int):=by
  have:=qz (a:=y / 2 ^ p.toNat) (b:=1) (Nat.lt_of_le_of_lt (Nat.div_le_self _ _) (by omega)) (by omega)
  rw [Nat.and_one_is_mod] at this
  exact this
 rw [eb]
 unfold fK
 by_cases hb:y / 2 ^ p.toNat % 2=1
 ·rw [if_pos (by rw [beq_iff_eq]; omega)]
  exact H2 fun _ _=>hb
 ·rw [if_neg (by rw [beq_iff_eq]; omega)]
  have hb0:y / 2 ^ p.toNat % 2=0:=by omega
  refine ⟨_,rfl,_,c1,by rw [ew]; omega,_,by rw [add_mk]; exact T.wr (by show 0 + 1 < 2; omega),rfl,?_⟩
  rw [ew]
  have es:shl .u64 1 p.toNat=((2 ^ p.toNat:Nat):Int):=by
   have h2:(2:Nat) ^ p.toNat<=2 ^ 32:=Nat.pow_le_pow_right (by omega) (by omega)
   unfold shl
   rw [show min p.toNat IntKind.u64.bits=p.toNat from Nat.min_eq_left (by show p.toNat<=64; omega),Int.one_mul]
   have:((2:Int) ^ p.toNat)=((2 ^ p.toNat:Nat):Int):=by simp
   rw [this]
   generalize 2 ^ p.toNat=P at h2 ⊢
   rw [aL (by omega) (by omega)]
  have h2:(2:Nat) ^ p.toNat<=2 ^ 32:=Nat.pow_le_pow_right (by omega) (by omega)
  rw [es,DY (by omega) (by omega),Ab _ _ hb0]
  rw [show (⟨b,0,none⟩:Addr).add 1=⟨b,1,none⟩ from by simp]
  exact H1 (by omega) (by omega) hb0 _ T.set ⟨by rw [jh]; exact Nat.le_refl _,fun i _ hi=>iK hi⟩
theorem CP {k:KP Int} (T:yZ h b n y) (n1:n<=32) (hy:y < 2 ^ n.toNat) (H:k (pcR 32 y) h):kW (some ⟨b,0,none⟩) k h:=by
 have y64:y < 4294967296:=Nat.lt_of_lt_of_le hy (by rw [show (4294967296:Nat)=2 ^ 32 from rfl]; exact Nat.pow_le_pow_right (by omega) (by omega))
 unfold kW
 rw [if_neg (by simp)]
 exact ⟨_,rfl,_,by rw [add_mk,T.cell]; rfl,DF y64 H⟩
theorem F9 {k:KP Bool} (T:yZ h b n y) (n0:0<=n) (n1:n<=32) (hy:y < 2 ^ n.toNat) (H:k (decide (((pcR 32 y:Nat):Int)>=n / 2 + 1)) h):mf (some ⟨b,0,none⟩) k h:=by
 unfold mf
 rw [if_pos (by simp)]
 have c0:af h ⟨b,0,none⟩=some (.int .i64 n):=by rw [T.cell]; rfl
 refine ⟨_,rfl,_,c0,CP T n1 hy ⟨c0,yf n0 (by omega) ?_⟩⟩
 unfold kE
 exact H
theorem Dv {p:Int} {k:KP (Option Addr)} (H:∀ b h' m,m=(if p < 0 then 0 else if p < 32 then p else 32)->yZ h' b m 0->h.size<=b->Ext h.size h h'->k (some ⟨b,0,none⟩) h'):tC p k h:=by
 unfold tC
 refine ⟨_,_,rfl,rfl,?_⟩
 exact H h.size _ _ (by split <;> split <;> (try split) <;> (try split) <;> omega) (Blk.push h _ 123) (Nat.le_refl _) (Ext.push h _ (Nat.le_refl _))
end
end Go.Q.Yi
end
section
/- Frames. -/
namespace Go.Q
end Go.Q
end
section
namespace Go.Q
theorem SlcAt.get {h:Heap} {s:Slc} {vs:List Value} (S:SlcAt h s vs) {i:Nat} {v:Value} (hv:vs[i]? = some v):∃ a,s.a=some a/\af h (a.add i)=some v:=by
 cases ha:s.a with
 | none=>have:=S.1 ha; subst this; simp at hv
 | some a=>exact ⟨a,rfl,S.2 a ha i v hv⟩
theorem dI (b:Addr) (m n:Nat):(b.add m).add n=b.add (m + n):=by
 unfold Addr.add
 by_cases h0:m=0 <;> by_cases h1:n=0 <;> simp [h0,h1,Nat.add_assoc]
section
variable {α:Type} {cs:α->List Value} {w:Nat}
theorem qg (hc:∀ x,(cs x).length=w) (xs:List α):(xs.flatMap cs).length=xs.length * w:=by
 induction xs with
 | nil=>simp
 | cons x xs ih=>simp only [List.flatMap_cons,List.length_append,ih,hc,List.length_cons,Nat.add_mul]; omega
theorem si (hc:∀ x,(cs x).length=w):∀ (xs:List α) (i j:Nat),j < w->(xs.flatMap cs)[i * w + j]? = (xs[i]?).bind fun x=>(cs x)[j]?
 | [],i,j,h=>by simp
 | x :: r,0,j,h=>by
  simp only [List.flatMap_cons,Nat.zero_mul,Nat.zero_add,List.getElem?_cons_zero,Option.bind_some]
  rw [List.getElem?_append_left (by rw [hc]; exact h)]
 | x :: r,i + 1,j,h=>by
  simp only [List.flatMap_cons,List.getElem?_cons_succ]
  rw [List.getElem?_append_right (by rw [hc,Nat.add_mul]; omega)]
  have:=si hc r i j h
  rw [← this,hc]
  congr 1
  rw [Nat.add_mul]; omega
theorem xP (hc:∀ x,(cs x).length=w):∀ (xs:List α) (i j:Nat) (x x':α) (v:Value),j < w->xs[i]? = some x->cs x'=(cs x).set j v->(xs.flatMap cs).set (i * w + j) v=(xs.set i x').flatMap cs
 | [],i,j,x,x',v,h,hx,he=>by simp at hx
 | y :: r,0,j,x,x',v,h,hx,he=>by
  simp at hx; subst hx
  simp only [List.flatMap_cons,Nat.zero_mul,Nat.zero_add,List.set_cons_zero]
  rw [List.set_append_left _ _ (by rw [hc]; exact h),he]
 | y :: r,i + 1,j,x,x',v,h,hx,he=>by
  simp only [List.flatMap_cons,List.set_cons_succ]
  rw [List.set_append_right _ _ (by rw [hc,Nat.add_mul]; omega),hc]
  rw [show (i + 1) * w + j - w=i * w + j from by rw [Nat.add_mul]; omega]
  rw [xP hc r i j x x' v h (by simpa using hx) he]
theorem LsAt.qh (hc:∀ x,(cs x).length=w) {h:Heap} {s:Slc} {xs:List α} (S:SlcAt h s (xs.flatMap cs)) (hl:s.len=xs.length) (hw:0 < w):LsAt cs w h s xs:=by
 refine ⟨hl,fun i x hx=>?_⟩
 have hi:=(List.getElem?_eq_some_iff.1 hx).1
 have h0:(xs.flatMap cs)[i * w + 0]? = (cs x)[0]?:=by rw [si hc xs i 0 hw,hx]; rfl
 obtain ⟨v0,hv0⟩:∃ v,(cs x)[0]? = some v:=⟨_,List.getElem?_eq_getElem (by rw [hc]; exact hw)⟩
 rw [hv0] at h0
 obtain ⟨a,ha,_⟩:=S.get h0
 refine ⟨a,ha,fun j v hj=>?_⟩
 have hj2:j < w:=by have:=(List.getElem?_eq_some_iff.1 hj).1; rw [hc] at this; exact this
 rw [dI]
 refine S.2 a ha _ v ?_
 rw [si hc xs i j hj2,hx]; exact hj
end
namespace Yi
end Yi
end Go.Q
end
section
namespace Go.Q.Yi
abbrev Ent:=Int × List Int
theorem pQ {p0:Slc} {l:List Int} {k:KP Slc} {h:Heap} (hl:p0.len=l.length) (hs:SlcAt h p0 (b8 l)) (hsz:l.length<=70368744177664)
  (H:∀ s' h',Row h.size h' 5 1 s' (b8 l)->Ext h.size h h'->k s' h'):aV p0 k h:=by
 unfold aV
 cases ha:p0.a with
 | none =>
  rw [if_pos (by simp)]
  have hn:l=[]:=by have:=hs.1 ha; simpa using this
  subst hn
  exact H _ _ (Row.nil _ _ _ _) (Ext.refl _ _)
 | some a =>
  rw [if_neg (by simp)]
  have hp:∀ o:Obj,Ext h.size h (h.push o):=fun o=>Ext.push h o (Nat.le_refl _)
  refine ⟨_,_,rfl,rfl,b8 l,hs.ext (hp _),?_⟩
  have R:Row h.size (h.push (.cells ([]:List Value).toArray 5)) 5 1 ⟨some ⟨h.size,0,none⟩,0,0⟩ [] :=
   ⟨by simp,by simp [maxLen],.inr ⟨h.size,[],rfl,Nat.le_refl _,Blk.push _ _ _,Nat.le_refl _,by simp,by simp⟩⟩
  refine App.row R (by simp) rfl (by simp [hl]) (FL l) (by simp only; omega) (by simp only [maxLen]; omega) fun s' h' R' _ hsz' ho _=>?_
  refine H s' h' (by simpa using R') ⟨by simp at hsz'; omega,fun i hi=>?_⟩
  rw [ho i (by simp; omega) (by simp [Slc.blk]; omega),(hp _).block i hi]
end Go.Q.Yi
end
section
/- Rows of structs. -/
namespace Go.Q.Rw
theorem dI (b:Addr) (m n:Nat):(b.add m).add n=b.add (m + n):=by
 unfold Addr.add
 by_cases h0:m=0 <;> by_cases h1:n=0 <;> simp [h0,h1,Nat.add_assoc]
section
variable {α:Type} {cs:α->List Value} {w:Nat}
theorem qg (hc:∀ x,(cs x).length=w) (xs:List α):(xs.flatMap cs).length=xs.length * w:=by
 induction xs with
 | nil=>simp
 | cons x xs ih=>simp only [List.flatMap_cons,List.length_append,ih,hc,List.length_cons,Nat.add_mul]; omega
theorem si (hc:∀ x,(cs x).length=w):∀ (xs:List α) (i j:Nat),j < w->(xs.flatMap cs)[i * w + j]? = (xs[i]?).bind fun x=>(cs x)[j]?
 | [],i,j,h=>by simp
 | x :: r,0,j,h=>by
  simp only [List.flatMap_cons,Nat.zero_mul,Nat.zero_add,List.getElem?_cons_zero,Option.bind_some]
  rw [List.getElem?_append_left (by rw [hc]; exact h)]
 | x :: r,i + 1,j,h=>by
  simp only [List.flatMap_cons,List.getElem?_cons_succ]
  rw [List.getElem?_append_right (by rw [hc,Nat.add_mul]; omega)]
  have:=si hc r i j h
  rw [← this,hc]
  congr 1
  rw [Nat.add_mul]; omega
theorem xP (hc:∀ x,(cs x).length=w):∀ (xs:List α) (i j:Nat) (x x':α) (v:Value),j < w->xs[i]? = some x->cs x'=(cs x).set j v->(xs.flatMap cs).set (i * w + j) v=(xs.set i x').flatMap cs
 | [],i,j,x,x',v,h,hx,he=>by simp at hx
 | y :: r,0,j,x,x',v,h,hx,he=>by
  simp at hx; subst hx
  simp only [List.flatMap_cons,Nat.zero_mul,Nat.zero_add,List.set_cons_zero]
  rw [List.set_append_left _ _ (by rw [hc]; exact h),he]
 | y :: r,i + 1,j,x,x',v,h,hx,he=>by
  simp only [List.flatMap_cons,List.set_cons_succ]
  rw [List.set_append_right _ _ (by rw [hc,Nat.add_mul]; omega),hc]
  rw [show (i + 1) * w + j - w=i * w + j from by rw [Nat.add_mul]; omega]
  rw [xP hc r i j x x' v h (by simpa using hx) he]
end
/-- a place of a row of one's own is written -/
theorem sU {B E w g j:Nat} {h:Heap} {s:Slc} {xs:List Value} {v:Value} (R:Row B h E w s xs) (ha:s.a=some ⟨g,0,none⟩) (hj:j < s.len * w):WrH h ⟨g,j,none⟩/\Row B (setH h ⟨g,j,none⟩ v) E w s (xs.set j v)/\B<=g:=by
 rcases R.2.2 with ⟨k,_⟩ | ⟨g',cur,a1,a2,a3,a4,a5,a6⟩
 ·rw [k] at ha; cases ha
 ·rw [ha] at a1; cases a1
  have hx:=R.1
  have hlen:s.len * w<=cur.length:=Nat.le_trans (Nat.mul_le_mul_right _ a4) a5
  refine ⟨a3.wr (by omega),⟨by simpa using hx,R.2.1,.inr ⟨g,_,ha,a2,a3.set,a4,by simpa using a5,?_⟩⟩,a2⟩
  rw [List.take_set,a6]
/-- a row of structs of one's own: one of them is written -/
theorem A8 {α:Type} {cs:α->List Value} {w:Nat} (hc:∀ x,(cs x).length=w):∀ (xs:List α) (i:Nat) (x:α),i < xs.length->(xs.flatMap cs).take (i * w) ++ cs x ++ (xs.flatMap cs).drop ((i + 1) * w)=(xs.set i x).flatMap cs
 | [],i,x,h=>by simp at h
 | y :: r,0,x,h=>by
  simp only [Nat.zero_mul,List.take_zero,List.nil_append,List.flatMap_cons,List.set_cons_zero,Nat.zero_add,Nat.one_mul]
  rw [List.drop_append_of_le_length (by rw [hc]; exact Nat.le_refl _),List.drop_of_length_le (by rw [hc]; exact Nat.le_refl _),List.nil_append]
 | y :: r,i + 1,x,h=>by
  simp only [List.flatMap_cons,List.set_cons_succ]
  rw [← A8 hc r i x (by simpa using h)]
  rw [List.take_append,hc,List.take_of_length_le (by rw [hc,Nat.add_mul]; omega),List.drop_append,hc,List.drop_of_length_le (by rw [hc,Nat.add_mul]; omega)]
  rw [show (i + 1) * w - w=i * w from by rw [Nat.add_mul]; omega,show (i + 1 + 1) * w - w=(i + 1) * w from by rw [Nat.add_mul (i + 1)]; omega]
  simp only [List.append_assoc,List.nil_append]
theorem En (cur v:List Value) (a n:Nat) (h:a + v.length<=n) (hn:n<=cur.length):(cur.take a ++ v ++ cur.drop (a + v.length)).take n=(cur.take n).take a ++ v ++ (cur.take n).drop (a + v.length):=by
 have hl:(cur.take a ++ v).length=a + v.length:=by rw [List.length_append,List.length_take]; omega
 rw [List.take_append,hl,List.take_of_length_le (by omega),List.take_take,Nat.min_eq_left (by omega),List.drop_take]
theorem CY {α:Type} {cs:α->List Value} {B E w:Nat} {h:Heap} {s:Slc} {xs:List α} (hc:∀ x,(cs x).length=w) (R:Row B h E w s (xs.flatMap cs)) (hl:s.len=xs.length) {i:Nat} (hi:i < xs.length) (x:α) {a:Addr} (ha:s.a=some a) :
  bZ h (a.add (i * w)) w/\Row B (aO h (a.add (i * w)) 0 (cs x)) E w s ((xs.set i x).flatMap cs)/\B<=a.block:=by
 rcases R.2.2 with ⟨k,_⟩ | ⟨g,cur,a1,a2,a3,a4,a5,a6⟩
 ·rw [k] at ha; cases ha
 ·rw [ha] at a1; cases a1
  have hiw:i * w + w<=s.len * w:=by
   have:(i + 1) * w<=s.len * w:=Nat.mul_le_mul_right _ (by omega)
   rw [Nat.add_mul] at this; omega
  have hcap:s.len * w<=s.cap * w:=Nat.mul_le_mul_right _ a4
  rw [add_mk,Nat.zero_add]
  refine ⟨fun j hj=>by rw [add_mk]; exact a3.wr (by omega),⟨by rw [qg hc,List.length_set,hl],R.2.1,.inr ⟨g,_,ha,a2,a3.sets (cs x) (i * w) 0 (by rw [hc]; omega),a4,?_,?_⟩⟩,a2⟩
  ·simp only [List.length_append,List.length_take,List.length_drop,hc]; omega
  ·rw [← A8 hc xs i x hi,← a6,En cur (cs x) (i * w + 0) (s.len * w) (by rw [hc]; omega) (by omega),hc,Nat.add_zero,show (i + 1) * w=i * w + w from by rw [Nat.add_mul,Nat.one_mul]]
theorem AV {α:Type} {cs:α->List Value} {w:Nat} (hc:∀ x,(cs x).length=w):∀ (xs:List α) (i:Nat),(xs.flatMap cs).take (i * w)=(xs.take i).flatMap cs
 | [],i=>by simp
 | y :: r,0=>by simp
 | y :: r,i + 1=>by
  simp only [List.flatMap_cons,List.take_succ_cons]
  rw [List.take_append,hc,List.take_of_length_le (by rw [hc,Nat.add_mul]; omega),← AV hc r i,show (i + 1) * w - w=i * w from by rw [Nat.add_mul]; omega]
end Go.Q.Rw
end
section
/- What is one's own, and what stays. -/
namespace Go.Q
abbrev bz:=Nat->Prop
/-- but for the blocks of O all is as it was -/
structure Stp (O:bz) (h h':Heap):Prop where
 size:h.size<=h'.size
 block:∀ g,g < h.size->¬ O g->h'[g]? = h[g]?
theorem Stp.refl (O:bz) (h:Heap):Stp O h h:=⟨Nat.le_refl _,fun _ _ _=>rfl⟩
theorem Stp.trans {O O':bz} {a b c:Heap} (p:Stp O a b) (q:Stp O' b c) (hO:∀ g,O' g->O g∨a.size<=g):Stp O a c :=
 ⟨Nat.le_trans p.size q.size,fun g hg hn=>(q.block g (Nat.lt_of_lt_of_le hg p.size) fun h'=>(hO g h').elim hn fun h2=>by omega).trans (p.block g hg hn)⟩
theorem Stp.trans' {O:bz} {a b c:Heap} (p:Stp O a b) (q:Stp O b c):Stp O a c:=p.trans q fun _ h=>.inl h
theorem Stp.mono {O O':bz} {h h':Heap} (p:Stp O h h') (hO:∀ g,O g->O' g∨h.size<=g):Stp O' h h' :=
 ⟨p.size,fun g hg hn=>p.block g hg fun h'=>(hO g h').elim hn fun h2=>by omega⟩
theorem Stp.bi {O:bz} {h h':Heap} (X:Ext h.size h h'):Stp O h h':=⟨X.size,fun g hg _=>X.block g hg⟩
theorem Stp.dD {O:bz} {b:Nat} {h h':Heap} (U:Upd b h h') (hb:O b∨h.size<=b):Stp O h h':=⟨U.size,fun g hg hn=>U.block g hg fun e=>by subst e; exact hb.elim hn fun h2=>by omega⟩
theorem Stp.set {O:bz} {h:Heap} {a:Addr} {v:Value} (ha:O a.block∨h.size<=a.block):Stp O h (setH h a v) :=
 ⟨by rw [jh]; exact Nat.le_refl _,fun g hg hn=>iK fun e=>by subst e; exact ha.elim hn fun h2=>by omega⟩
theorem Stp.sets {O:bz} {h:Heap} {a:Addr} {i:Nat} {vs:List Value} (ha:O a.block∨h.size<=a.block):Stp O h (aO h a i vs) :=
 ⟨by rw [qx]; exact Nat.le_refl _,fun g hg hn=>kD _ _ fun e=>by subst e; exact ha.elim hn fun h2=>by omega⟩
theorem Stp.ext {O:bz} {B:Nat} {h h':Heap} (p:Stp O h h') (hO:∀ g,O g->B<=g) (hB:B<=h.size):Ext B h h':=⟨p.size,fun g hg=>p.block g (by omega) fun h'=>by have:=hO g h'; omega⟩
theorem Stp.blk {O:bz} {b E:Nat} {cs:List Value} {h h':Heap} (p:Stp O h h') (k:Blk h b cs E) (hb:¬ O b):Blk h' b cs E:=k.old (p.block b k.lt hb)
theorem Stp.row {O:bz} {B E w:Nat} {s:Slc} {xs:List Value} {h h':Heap} (p:Stp O h h') (R:Row B h E w s xs) (hb:∀ g,s.blk=some g->¬ O g):Row B h' E w s xs:=R.keep fun g hg=>p.block g (R.bd hg).2 (hb g hg)
/-- what holds whatever is done to the blocks of O, and beyond -/
def Imm (O:bz) (h:Heap) (p:Heap->Prop):Prop:=∀ h',Stp O h h'->p h'
theorem Imm.now {O:bz} {h:Heap} {p:Heap->Prop} (I:Imm O h p):p h:=I h (Stp.refl _ _)
theorem Imm.imp {O:bz} {h:Heap} {p q:Heap->Prop} (I:Imm O h p) (k:∀ h',p h'->q h'):Imm O h q:=fun h' s=>k h' (I h' s)
theorem Imm.step {O O':bz} {h h':Heap} {p:Heap->Prop} (I:Imm O h p) (s:Stp O h h') (hO:∀ g,O' g->O g∨h.size<=g):Imm O' h' p :=
 fun h2 s2=>I h2 (s.trans s2 hO)
theorem Imm.stp {O:bz} {h h':Heap} {p:Heap->Prop} (I:Imm O h p) (s:Stp O h h'):Imm O h' p:=I.step s fun _ h=>.inl h
theorem Imm.ext {O:bz} {h h':Heap} {p:Heap->Prop} (I:Imm O h p) (X:Ext h.size h h'):Imm O h' p:=I.stp (.bi X)
theorem Imm.mono {O O':bz} {h:Heap} {p:Heap->Prop} (I:Imm O h p) (hO:∀ g,O' g->O g∨h.size<=g):Imm O' h p:=I.step (Stp.refl _ _) hO
theorem Imm.dL {O:bz} {b E:Nat} {cs:List Value} {h:Heap} (k:Blk h b cs E) (hb:¬ O b):Imm O h fun h'=>Blk h' b cs E:=fun h' p=>p.blk k hb
/-- what stood when the heap was h0, and nothing of it may be written since -/
theorem Imm.FQ {O:bz} {h0 h:Heap} {p:Heap->Prop} (I:∀ h',Ext h0.size h0 h'->p h') (X:Ext h0.size h0 h) (hO:∀ g,O g->h0.size<=g):Imm O h p :=
 fun h' s=>I h' (X.trans ⟨s.size,fun g hg=>s.block g (Nat.lt_of_lt_of_le hg X.size) fun h2=>by have:=hO g h2; omega⟩)
end Go.Q
end
section
/- A member of a replicated log, plainly: what the code computes, without memory. -/
namespace Go.Q.Rf
abbrev Ent:=Int × List Int
def W (x:Int):Int:=IntKind.u64.wrap x
structure Msg where
 kind:Int
 term:Int
 index:Int
 logTerm:Int
 commit:Int
 yes:Bool
 aK:List Ent
 aQ:List Int
deriving DecidableEq
structure qj where
 kind:Int
 term:Int
 bR:Int
 index:Int
 aK:List Ent
 aQ:List Int
deriving DecidableEq
abbrev lY:=Int × Msg
structure Lg where
 ix:Int
 tm:Int
 es:List Ent
deriving DecidableEq
namespace Lg
def lastT (l:Lg):Int:=match l.es.getLast? with | some e=>e.1 | none=>l.tm
def last (l:Lg):Int:=l.ix + l.es.length
def aH (l:Lg) (p:Int):Int × Int :=
 if p < l.ix then (0,13) else if p > l.last then (0,6) else if p=l.ix then (l.tm,0) else ((l.es.getD (p - l.ix - 1).toNat (0,[])).1,0)
def mat (l:Lg) (p t:Int):Bool:=((l.aH p).2 == 0) && ((l.aH p).1 == t)
def frm (l:Lg) (p most:Int):List Ent × Int :=
 if p=0 then ([],1) else if (l.aH (p - 1)).2≠0 then ([],(l.aH (p - 1)).2) else ((l.es.drop (p - 1 - l.ix).toNat).take most.toNat,0)
def dR (ix p:Int) (now:List Ent) (i:Nat) (x:Ent):List Ent :=
 if W (p + i + 1)<=ix then now
 else if (W (p + i + 1) - ix - 1).toNat < now.length then (if (now.getD (W (p + i + 1) - ix - 1).toNat (0,[])).1=x.1 then now else now.take (W (p + i + 1) - ix - 1).toNat ++ [x]) else now ++ [x]
def fF (ix p:Int) (es more:List Ent):Nat->List Ent
 | 0=>es
 | i + 1=>match more[i]? with | some x=>dR ix p (fF ix p es more i) i x | none=>fF ix p es more i
def append (l:Lg) (p t:Int) (more:List Ent):Lg × Int × Int :=
 if p>=l.ix/\l.mat p t=false then (l,0,6)
 else if (fF l.ix p l.es more more.length).length > 64 then (l,0,8) else ({ l with es:=fF l.ix p l.es more more.length },W (p + more.length),0)
def cut (l:Lg) (p:Int):Lg × Int :=
 if (l.aH p).2≠0 then (l,(l.aH p).2) else (⟨p,(l.aH p).1,l.es.drop (p - l.ix).toNat⟩,0)
def newer (l:Lg) (p t:Int):Bool:=decide (t > l.lastT) || ((t == l.lastT) && decide (p>=l.last))
end Lg
/-- the greatest number that more than half are at least -/
def cnt (l:List Int) (v:Int):Nat:=l.countP fun x=>decide (v<=x)
def cmt (l:List Int):Int:=(l.filter fun v=>decide (l.length / 2 + 1<=cnt l v)).foldl max 0
structure RS where
 me:Int
 n:Int
 term:Int
 bR:Int
 log:Lg
 aQ:List Int
 commit:Int
 role:Int
 leader:Int
 ticks:Int
 ballot:Option (List Int)
 next:List Int
 has:List Int
 keeps:List qj
deriving DecidableEq
namespace RS
def fI (r:RS):RS:={ r with keeps:=r.keeps ++ [⟨1,r.term,r.bR,0,[],[]⟩] }
def aR (r:RS) (term:Int):RS:=if term > r.term then fI { r with term:=term,bR:=0 } else r
def follow (r:RS) (term leader:Int):RS:={ r.aR term with role:=0,leader:=leader,ballot:=none }
def nodes (r:RS):List Int:=((List.range r.n.toNat).map (fun (i:Nat)=>(i:Int))).filter fun i=>i != r.me
def others (r:RS) (f:Int->Msg):List lY:=r.nodes.map fun i=>(i,f i)
def due (r:RS) (node:Int):Msg :=
 if r.next.getD node.toNat 0<=r.log.ix then ⟨5,r.term,r.log.ix,r.log.tm,r.commit,false,[],r.aQ⟩
 else ⟨3,r.term,W (r.next.getD node.toNat 0 - 1),(r.log.aH (W (r.next.getD node.toNat 0 - 1))).1,r.commit,false,(r.log.frm (r.next.getD node.toNat 0) 4).1,[]⟩
def settle (r:RS):RS :=
 if cmt r.has > r.commit/\(r.log.aH (cmt r.has)).2=0/\(r.log.aH (cmt r.has)).1=r.term then { r with commit:=cmt r.has } else r
def put (r:RS) (cmd:List Int):RS × Int × Int :=
 if (r.log.append r.log.last r.log.lastT [(r.term,cmd)]).2.2≠0 then (r,0,(r.log.append r.log.last r.log.lastT [(r.term,cmd)]).2.2)
 else (settle { r with log:=(r.log.append r.log.last r.log.lastT [(r.term,cmd)]).1,keeps:=r.keeps ++ [⟨2,r.log.lastT,0,r.log.last,[(r.term,cmd)],[]⟩],has:=r.has.set r.me.toNat (r.log.append r.log.last r.log.lastT [(r.term,cmd)]).2.1 },(r.log.append r.log.last r.log.lastT [(r.term,cmd)]).2.1,0)
def won (r:RS):Bool:=match r.ballot with | some l=>decide ((l.length:Int)>=r.n / 2 + 1) | none=>false
def lead (r:RS):RS:={ r with role:=2,leader:=r.me,ticks:=0,ballot:=none,next:=List.replicate r.n.toNat (W (r.log.last + 1)),has:=(List.replicate r.n.toNat 0).set r.me.toNat r.log.last }
def win (r:RS):RS × List lY :=
 if r.role≠1∨r.won=false then (r,[]) else ((put r.lead []).1,others (put r.lead []).1 (due (put r.lead []).1))
def asks (r:RS):RS:={ fI { r with term:=W (r.term + 1),role:=1,leader:=-1,ticks:=0,bR:=r.me + 1 } with ballot:=some [r.me] }
def iA (r:RS):RS × List lY :=
 if r.term>=4611686018427387904 then (r,[])
 else (r.asks.win.1,r.asks.others (fun _=>⟨1,r.asks.term,r.log.last,r.log.lastT,0,false,[],[]⟩) ++ r.asks.win.2)
def tick (r:RS):RS × List lY :=
 if r.role=2/\(r.ticks + 1) % 3=0 then ({ r with ticks:=r.ticks + 1 },others { r with ticks:=r.ticks + 1 } (due { r with ticks:=r.ticks + 1 }))
 else if r.role≠2/\r.ticks + 1>=10 + 7 * r.me then iA { r with ticks:=r.ticks + 1 } else ({ r with ticks:=r.ticks + 1 },[])
def answer (r:RS) (to kind:Int) (yes:Bool) (index:Int):List lY:=[(to,⟨kind,r.term,index,0,0,yes,[],[]⟩)]
def sO (r:RS) (from':Int) (m:Msg):Bool:=(r.bR == 0 || r.bR == from' + 1) && r.log.newer m.index m.logTerm
def nE (r:RS) (from':Int) (m:Msg):RS × List lY :=
 if r.sO from' m then ((if r.bR=0 then { fI { r with bR:=from' + 1 } with ticks:=0 } else { r with ticks:=0 }),r.answer from' 2 true 0) else (r,r.answer from' 2 false 0)
def Ad:qj:=⟨0,0,0,0,[],[]⟩
def lL (r:RS) (m:Msg):Nat->List Ent->qj
 | _,[]=>Ad
 | i,x :: xs =>
  if W (m.index + i + 1)<=r.log.ix∨r.log.mat (W (m.index + i + 1)) x.1=true then lL r m (i + 1) xs
  else ⟨2,(if i > 0/\W (W (m.index + i + 1) - 1) > r.log.ix then (m.aK.getD (i - 1) (0,[])).1 else (r.log.aH (W (W (m.index + i + 1) - 1))).1),0,W (W (m.index + i + 1) - 1),x :: xs,[]⟩
def fresh (r:RS) (m:Msg):qj:=lL r m 0 m.aK
/-- it follows who sent it -/
def lu (r:RS) (from':Int) (m:Msg):RS:={ r.follow m.term from' with ticks:=0 }
def wh (r1:RS) (m:Msg):RS :=
 { r1 with log:=(r1.log.append m.index m.logTerm m.aK).1,keeps:=if (r1.fresh m).aK.length > 0 then r1.keeps ++ [r1.fresh m] else r1.keeps,commit:=max r1.commit (min m.commit (r1.log.append m.index m.logTerm m.aK).2.1) }
def ou (r1:RS) (from':Int) (m:Msg):RS × List lY :=
 if (r1.log.append m.index m.logTerm m.aK).2.2≠0 then (r1,r1.answer from' 4 false (min r1.log.last (max m.index 1 - 1)))
 else (r1.wh m,(r1.wh m).answer from' 4 true (r1.log.append m.index m.logTerm m.aK).2.1)
def appends (r:RS) (from':Int) (m:Msg):RS × List lY:=(r.lu from' m).ou from' m
def base (r:RS) (index term:Int) (aQ:List Int):RS :=
 { r with log:=if r.log.mat index term then (r.log.cut index).1 else ⟨index,term,[]⟩,aQ:=aQ,keeps:=r.keeps ++ [⟨3,term,0,index,[],aQ⟩] }
def oC (r1:RS) (m:Msg):RS:=if m.index > r1.commit then { r1.base m.index m.logTerm m.aQ with commit:=m.index } else r1
def kP (r:RS) (from':Int) (m:Msg):RS × List lY:=((r.lu from' m).oC m,((r.lu from' m).oC m).answer from' 4 true ((r.lu from' m).oC m).commit)
def back (r:RS) (from':Int) (m:Msg):RS:={ r with next:=r.next.set from'.toNat (max 1 (min (W (r.next.getD from'.toNat 0 - 1)) (W (m.index + 1)))) }
def nZ (r:RS) (from':Int) (m:Msg):RS :=
 settle { r with has:=r.has.set from'.toNat (max (r.has.getD from'.toNat 0) m.index),next:=r.next.set from'.toNat (max (r.next.getD from'.toNat 0) (W (m.index + 1))) }
def appended (r:RS) (from':Int) (m:Msg):RS × List lY :=
 if r.role≠2 then (r,[])
 else if m.yes=false then (r.back from' m,[(from',(r.back from' m).due from')])
 else if m.index > r.log.last then (r,[])
 else if (r.nZ from' m).next.getD from'.toNat 0<=r.log.last then (r.nZ from' m,[(from',(r.nZ from' m).due from')]) else (r.nZ from' m,[])
def late (r:RS) (from':Int) (m:Msg):List lY :=
 if m.kind=1 then r.answer from' 2 false 0 else if m.kind=3∨m.kind=5 then r.answer from' 4 false 0 else []
def say (l:List Int) (v n:Int):List Int:=if v < 0∨v>=n∨v∈l then l else l ++ [v]
def counted (r:RS) (from':Int) (m:Msg):RS:=if r.role=1/\m.yes=true then { r with ballot:=r.ballot.map fun l=>say l from' r.n } else r
def take2 (r:RS) (from':Int) (m:Msg):RS × List lY :=
 if m.kind=1 then r.nE from' m else if m.kind=2 then (r.counted from' m).win else if m.kind=3 then r.appends from' m else if m.kind=4 then r.appended from' m else r.kP from' m
def take (r:RS) (from':Int) (m:Msg):RS × List lY :=
 if from' < 0∨from'>=r.n∨from'=r.me∨m.kind < 1∨m.kind > 5 then (r,[])
 else if m.term < r.term then (r,r.late from' m)
 else if m.term > r.term then (r.follow m.term (-1)).take2 from' m
 else r.take2 from' m
def iC (r:RS) (cmd:List Int):RS × Int × Int:=if r.role≠2 then (r,0,18) else r.put cmd
def entry (r:RS) (index:Int):Ent × Int :=
 if (r.log.aH index).2≠0 then ((0,[]),(r.log.aH index).2)
 else if (r.log.frm index 1).2≠0 then ((0,[]),13) else match (r.log.frm index 1).1 with | x :: _=>(x,0) | []=>((0,[]),13)
def nG (r:RS) (index:Int) (aQ:List Int):RS × Int :=
 if index > r.commit then (r,14) else if (r.log.aH index).2≠0 then (r,(r.log.aH index).2) else (r.base index (r.log.aH index).1 aQ,0)
def start (me n term bR:Int) (l:Lg) (aQ:List Int):RS:=⟨me,n,term,bR,l,aQ,l.ix,0,-1,0,none,[],[],[]⟩
end RS
end Go.Q.Rf
end

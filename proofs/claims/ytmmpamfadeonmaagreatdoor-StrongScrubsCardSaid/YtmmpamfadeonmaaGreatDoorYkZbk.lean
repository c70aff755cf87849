/- A part of the proof of statements of this seat: lemmas, no statement of their own. -/
import Derived.Test.YtmmpamfadeonmaaGreatDoorYkZai
import Derived.Test.YtmmpamfadeonmaaGreatDoorYkZad
import Derived.Test.YtmmpamfadeonmaaGreatDoorYkZah
import Derived.Test.YtmmpamfadeonmaaGreatDoorYkZae
import Derived.Test.YtmmpamfadeonmaaGreatDoorYkZbj
set_option linter.unusedVariables false
set_option linter.unusedSimpArgs false
section
/- Arguments that came in, opened by their types. -/
namespace Go.Q
open Go.ChangeShapes Go.WideShapes
theorem choose_list {α:Type} {R:Nat->α->Prop}:∀ n:Nat,(∀ i,i < n->∃ y,R i y)->∃ ys:List α,ys.length=n/\∀ i y,ys[i]? = some y->R i y
 | 0,_=>⟨[],rfl,by simp⟩
 | n + 1,h=>by
  obtain ⟨ys,hl,hy⟩:=choose_list n fun i hi=>h i (by omega)
  obtain ⟨y,hR⟩:=h n (by omega)
  refine ⟨ys ++ [y],by simp [hl],fun i z hz=>?_⟩
  rcases Nat.lt_trichotomy i n with hi | hi | hi
  ·rw [List.getElem?_append_left (by omega)] at hz; exact hy i z hz
  ·subst hi
   rw [List.getElem?_append_right (by omega),hl] at hz
   simp at hz; subst hz; exact hR
  ·rw [List.getElem?_eq_none (by simp; omega)] at hz; cases hz
section
variable {H:Type} {enc:TypeId × Value->H} {P:Program} {t e:TypeId} {w:World} {base:Nat} {sp:Nat->Bool} {held:Bool}
theorem mapM_get {α β:Type} {f:α->Option β}:∀ {l:List α} {ys:List β},l.mapM f=some ys->ys.length=l.length/\∀ (i:Nat) x,l[i]? = some x->∃ y,f x=some y/\ys[i]? = some y
 | [],ys,h=>by simp at h; subst h; simp
 | a :: l,ys,h=>by
  rw [List.mapM_cons] at h
  cases ha:f a with
  | none=>simp [ha] at h
  | some b =>
   cases hl:l.mapM f with
   | none=>simp [ha,hl] at h
   | some zs =>
    simp [ha,hl] at h
    subst h
    obtain ⟨h1,h2⟩:=mapM_get hl
    refine ⟨by simp [h1],fun i x hx=>?_⟩
    cases i with
    | zero=>simp at hx; subst hx; exact ⟨b,ha,rfl⟩
    | succ i=>simp at hx; simpa using h2 i x hx
theorem cells_get {w:World} {base:Nat} {a:Addr} {n:Nat} {cs:List Value} (h:w.cells? base a n=some cs):cs.length=n/\CellsAt w.heap a cs:=by
 unfold World.cells? at h
 split at h
 ·obtain ⟨h1,h2⟩:=mapM_get h
  rw [List.length_range] at h1
  refine ⟨h1,fun i v hv=>?_⟩
  have hi:i < n:=by have:=(List.getElem?_eq_some_iff.1 hv).1; omega
  obtain ⟨y,e1,e2⟩:=h2 i i (by simp [hi])
  rw [hv] at e2; cases e2
  exact e1
 ·cases h
/-- a slice that came in -/
theorem open_sl {fuel:Nat} {cs:List Value} {x:DataW H × List MemPlace} (ht:P.underlying t=some (.slice e)) (h:DataW.trod enc P w base sp held fuel t cs=some x) :
  ∃ s:Slc,cs=[Slc.v s]/\s.len<=s.cap/\s.cap<=maxLen/\(s.a=none->s.len=0/\s.cap=0) /\
   ∀ a,s.a=some a->∀ i,i < s.len->∃ es f y,es.length=P.cellsOf e/\CellsAt w.heap (a.add (i * P.cellsOf e)) es/\DataW.trod enc P w base sp held f e es=some y:=by
 rcases DataW.trod_slice ht h with ⟨rfl,_⟩ | ⟨a,len,cap,elems,rest,n,_,rfl,_,hb,hl,hm,hlen,hel,_⟩
 ·exact ⟨⟨none,0,0⟩,rfl,Nat.le_refl _,by simp [maxLen],fun _=>⟨rfl,rfl⟩,fun a ha=>by cases ha⟩
 ·refine ⟨⟨some a,len,cap⟩,rfl,hl,hm,(fun hn=>by cases hn),fun b hb i hi=>?_⟩
  cases hb
  have hi:i < len:=hi
  have:=hel i hi
  rw [List.getElem?_eq_getElem (by omega),Option.bind_eq_some_iff] at this
  obtain ⟨es,h1,h2⟩:=this
  exact ⟨es,n,_,(cells_get h1).1,(cells_get h1).2,h2⟩
/-- bytes that came in, or other integers -/
theorem open_is {q:IntKind} {fuel:Nat} {cs:List Value} {x:DataW H × List MemPlace} (ht:P.underlying t=some (.slice e)) (he:P.underlying e=some (.int q)) (ce:P.cellsOf e=1) (h:DataW.trod enc P w base sp held fuel t cs=some x) :
  ∃ (s:Slc) (zs:List Int),cs=[Slc.v s]/\s.len<=s.cap/\s.cap<=maxLen/\s.len=zs.length/\SlcAt w.heap s (zs.map (Value.int q))/\∀ n∈zs,(Lit.int q n).wf=true:=by
 obtain ⟨s,rfl,h1,h2,h3,h4⟩:=open_sl ht h
 cases ha:s.a with
 | none =>
  have:=h3 ha
  exact ⟨s,[],rfl,h1,h2,by simp [this],⟨fun _=>rfl,fun b hb=>by rw [ha] at hb; cases hb⟩,by simp⟩
 | some a =>
  obtain ⟨zs,hl,hz⟩:=choose_list (R:=fun i n=>cellH w.heap (a.add i)=some (.int q n)/\(Lit.int q n).wf=true) s.len fun i hi=>by
   obtain ⟨es,f,y,e1,e2,e3⟩:=h4 a ha i hi
   obtain ⟨n,rfl,_,hw⟩:=DataW.trod_int he e3
   rw [ce,Nat.mul_one] at e2
   exact ⟨n,by have:=e2 0 _ rfl; rwa [show (a.add i).add 0=a.add i from by simp [Addr.add]] at this,hw⟩
  refine ⟨s,zs,rfl,h1,h2,hl.symm,⟨(fun hn=>by rw [ha] at hn; cases hn),fun b hb j v hv=>?_⟩,fun n hn=>?_⟩
  ·rw [ha] at hb; cases hb
   rw [List.getElem?_map,Option.map_eq_some_iff] at hv
   obtain ⟨n,hn,rfl⟩:=hv
   exact (hz j n hn).1
  ·obtain ⟨i,hi⟩:=List.getElem?_of_mem hn
   exact (hz i n hi).2
/-- the parts of a struct -/
theorem open_fs {fs:Array Field} {fuel:Nat} {cs:List Value} {x:DataW H × List MemPlace} (ht:P.underlying t=some (.struct fs)) (h:DataW.trod enc P w base sp held fuel t cs=some x) :
  ∃ n,cs.length=P.cellsOf t/\∀ (i:Nat) f,fs[i]? = some f->∃ y,DataW.trod enc P w base sp held n f.type ((cs.drop f.offset).take (P.cellsOf f.type))=some y:=by
 obtain ⟨xs,n,_,_,hl,hxl,hf⟩:=DataW.trod_struct ht h
 refine ⟨n,hl,fun i f hi=>?_⟩
 have:=hf i f hi
 have hi2:i < xs.length:=by rw [hxl]; exact (Array.getElem?_eq_some_iff.1 hi).1
 exact ⟨xs[i],by rw [this]; simp⟩
theorem cat_part {cs a:List Value} {o n:Nat} (h:(cs.drop o).take n=a):cs.drop o=a ++ cs.drop (o + n):=by
 rw [← h,← List.drop_drop,List.take_append_drop]
theorem cat_end {cs:List Value} {n:Nat} (h:cs.length=n):cs.drop n=[]:=by rw [← h]; exact List.drop_length
theorem open_arr {n:Nat} {q:IntKind} {fuel:Nat} {cs:List Value} {x:DataW H × List MemPlace} (ht:P.underlying t=some (.array n e)) (he:P.underlying e=some (.int q)) (ct:P.cellsOf t=n) (ce:P.cellsOf e=1)
  (h:DataW.trod enc P w base sp held fuel t cs=some x):∃ zs:List Int,cs=arr n q zs/\zs.length=n/\∀ x∈zs,(Lit.int q x).wf=true:=by
 obtain ⟨xs,m,_,_,hl,hxl,hg⟩:=DataW.trod_array ht h
 rw [ct] at hl
 obtain ⟨zs,zl,hz⟩:=choose_list (R:=fun i a=>cs[i]? = some (.int q a)/\(Lit.int q a).wf=true) n fun i hi=>by
  have h1:=hg i hi
  rw [ce,Nat.mul_one] at h1
  have hi':i < cs.length:=by omega
  have h2:(cs.drop i).take 1=[cs[i]]:=by rw [List.drop_eq_getElem_cons hi']; rfl
  rw [h2,List.getElem?_eq_getElem (by omega)] at h1
  obtain ⟨a,ea,_,wa⟩:=DataW.trod_int he h1
  simp only [List.cons.injEq,and_true] at ea
  exact ⟨a,by rw [List.getElem?_eq_getElem hi',ea],wa⟩
 refine ⟨zs,?_,zl,fun a ha=>?_⟩
 ·rw [arr_id zl]
  apply List.ext_getElem?
  intro i
  rw [List.getElem?_map]
  by_cases hi:i < n
  ·have hzi:zs[i]? = some zs[i]:=by simp
   rw [hzi,(hz i _ hzi).1]; rfl
  ·rw [List.getElem?_eq_none (by omega),List.getElem?_eq_none (by omega)]; rfl
 ·obtain ⟨i,hi⟩:=List.getElem?_of_mem ha
  exact (hz i a hi).2
theorem open_ls {α:Type} {cs:α->List Value} {w':Nat} {Ok:α->Prop} {fuel:Nat} {c:List Value} {x:DataW H × List MemPlace} (ht:P.underlying t=some (.slice e)) (hc:P.cellsOf e=w')
  (he:∀ {fuel:Nat} {cs':List Value} {x:DataW H × List MemPlace},DataW.trod enc P w base sp held fuel e cs'=some x->∃ y:α,cs'=cs y/\Ok y) (h:DataW.trod enc P w base sp held fuel t c=some x) :
  ∃ s:Slc,c=[Slc.v s]/\s.len<=s.cap/\s.cap<=maxLen/\∃ ys:List α,LsAt cs w' w.heap s ys/\∀ y∈ys,Ok y:=by
 obtain ⟨s,rfl,q1,q2,q3,q4⟩:=open_sl ht h
 rw [hc] at q4
 cases ha:s.a with
 | none =>
  have:=q3 ha
  exact ⟨s,rfl,q1,q2,[],⟨by simp [this],fun i y hy=>by simp at hy⟩,by simp⟩
 | some a =>
  obtain ⟨ys,hl,hz⟩:=choose_list (R:=fun i (y:α)=>CellsAt w.heap (a.add (i * w')) (cs y)/\Ok y) s.len fun i hi=>by
   obtain ⟨es,f,y,e1,e2,e3⟩:=q4 a ha i hi
   obtain ⟨z,rfl,r⟩:=he e3
   exact ⟨z,e2,r⟩
  refine ⟨s,rfl,q1,q2,ys,⟨hl.symm,fun i y hy=>⟨a,ha,(hz i y hy).1⟩⟩,fun y hy=>?_⟩
  obtain ⟨i,hi⟩:=List.getElem?_of_mem hy
  exact (hz i y hi).2
/-- a slice of integers that came in -/
def SlI (q:IntKind) (h:Heap) (s:Slc) (zs:List Int):Prop:=s.len=zs.length/\SlcAt h s (zs.map (Value.int q))/\∀ n∈zs,(Lit.int q n).wf=true
theorem open_si {q:IntKind} {fuel:Nat} {cs:List Value} {x:DataW H × List MemPlace} (ht:P.underlying t=some (.slice e)) (he:P.underlying e=some (.int q)) (ce:P.cellsOf e=1) (h:DataW.trod enc P w base sp held fuel t cs=some x) :
  ∃ s:Slc,cs=[Slc.v s]/\s.len<=s.cap/\s.cap<=maxLen/\∃ zs,SlI q w.heap s zs:=by
 obtain ⟨s,zs,a,b,c,d,e,f⟩:=open_is ht he ce h
 exact ⟨s,a,b,c,zs,d,e,f⟩
end
end Go.Q
end
section
set_option maxRecDepth 100000
set_option maxHeartbeats 1000000
namespace Go.Q.Yk
open Go.ChangeShapes Go.WideShapes
section
variable {H:Type} {enc:TypeId × Value->H} {w:World} {base:Nat} {sp:Nat->Bool} {held:Bool}
def Ok_S_api_Share (h:Heap) (v:S_api_Share):Prop:=((Lit.int .u8 v.f_X).wf=true)/\(v.f_Y.length=32/\∀ x∈v.f_Y,(Lit.int .u8 x).wf=true)
theorem open_S_api_Share {fuel:Nat} {cs:List Value} {x:DataW H × List MemPlace} (h:DataW.trod enc Go.Proofs.Tryz.prog w base sp held fuel 26 cs=some x):∃ v:S_api_Share,cs=S_api_Share.cs v/\Ok_S_api_Share w.heap v:=by
 obtain ⟨n,hl,g⟩:=open_fs Go.Proofs.Tryz.underlying26 h
 obtain ⟨y0,g0⟩:=g 0 _ rfl
 replace g0:DataW.trod enc Go.Proofs.Tryz.prog w base sp held n 5 ((cs.drop 0).take (Go.Proofs.Tryz.prog.cellsOf 5))=some y0:=g0
 rw [show Go.Proofs.Tryz.prog.cellsOf 5=1 from by kernel_rfl] at g0
 obtain ⟨a0,e0,_,w0⟩:=DataW.trod_int Go.Proofs.Tryz.underlying5 g0
 obtain ⟨y1,g1⟩:=g 1 _ rfl
 replace g1:DataW.trod enc Go.Proofs.Tryz.prog w base sp held n 24 ((cs.drop 1).take (Go.Proofs.Tryz.prog.cellsOf 24))=some y1:=g1
 rw [show Go.Proofs.Tryz.prog.cellsOf 24=32 from by kernel_rfl] at g1
 obtain ⟨a1,e1,l1,w1⟩:=open_arr Go.Proofs.Tryz.underlying24 Go.Proofs.Tryz.underlying5 (by kernel_rfl) (by kernel_rfl) g1
 have r0:cs.drop 0=_ ++ cs.drop 1:=cat_part e0
 have r1:cs.drop 1=_ ++ cs.drop 33:=cat_part e1
 have rn:cs.drop 33=[]:=cat_end (hl.trans (by kernel_rfl))
 exact ⟨⟨a0,a1⟩,(List.drop_zero).symm.trans (r0.trans (by rw [r1,rn]; rfl)),w0,⟨l1,w1⟩⟩
def Ok_S_api_Entry (h:Heap) (v:S_api_Entry):Prop:=((Lit.int .u64 v.f_Term).wf=true)/\(v.f_Cmd.len<=v.f_Cmd.cap/\v.f_Cmd.cap<=maxLen/\∃ zs,SlI .u8 h v.f_Cmd zs)
theorem open_S_api_Entry {fuel:Nat} {cs:List Value} {x:DataW H × List MemPlace} (h:DataW.trod enc Go.Proofs.Tryz.prog w base sp held fuel 117 cs=some x):∃ v:S_api_Entry,cs=S_api_Entry.cs v/\Ok_S_api_Entry w.heap v:=by
 obtain ⟨n,hl,g⟩:=open_fs Go.Proofs.Tryz.underlying117 h
 obtain ⟨y0,g0⟩:=g 0 _ rfl
 replace g0:DataW.trod enc Go.Proofs.Tryz.prog w base sp held n 22 ((cs.drop 0).take (Go.Proofs.Tryz.prog.cellsOf 22))=some y0:=g0
 rw [show Go.Proofs.Tryz.prog.cellsOf 22=1 from by kernel_rfl] at g0
 obtain ⟨a0,e0,_,w0⟩:=DataW.trod_int Go.Proofs.Tryz.underlying22 g0
 obtain ⟨y1,g1⟩:=g 1 _ rfl
 replace g1:DataW.trod enc Go.Proofs.Tryz.prog w base sp held n 28 ((cs.drop 1).take (Go.Proofs.Tryz.prog.cellsOf 28))=some y1:=g1
 rw [show Go.Proofs.Tryz.prog.cellsOf 28=1 from by kernel_rfl] at g1
 obtain ⟨a1,e1,l1,m1,w1⟩:=open_si Go.Proofs.Tryz.underlying28 Go.Proofs.Tryz.underlying5 (by kernel_rfl) g1
 have r0:cs.drop 0=_ ++ cs.drop 1:=cat_part e0
 have r1:cs.drop 1=_ ++ cs.drop 2:=cat_part e1
 have rn:cs.drop 2=[]:=cat_end (hl.trans (by kernel_rfl))
 exact ⟨⟨a0,a1⟩,(List.drop_zero).symm.trans (r0.trans (by rw [r1,rn]; rfl)),w0,⟨l1,m1,w1⟩⟩
def Ok_S_api_Chain (h:Heap) (v:S_api_Chain):Prop:=((Lit.int .u64 v.f_Index).wf=true)/\(v.f_Key.length=32/\∀ x∈v.f_Key,(Lit.int .u8 x).wf=true)
theorem open_S_api_Chain {fuel:Nat} {cs:List Value} {x:DataW H × List MemPlace} (h:DataW.trod enc Go.Proofs.Tryz.prog w base sp held fuel 35 cs=some x):∃ v:S_api_Chain,cs=S_api_Chain.cs v/\Ok_S_api_Chain w.heap v:=by
 obtain ⟨n,hl,g⟩:=open_fs Go.Proofs.Tryz.underlying35 h
 obtain ⟨y0,g0⟩:=g 0 _ rfl
 replace g0:DataW.trod enc Go.Proofs.Tryz.prog w base sp held n 22 ((cs.drop 0).take (Go.Proofs.Tryz.prog.cellsOf 22))=some y0:=g0
 rw [show Go.Proofs.Tryz.prog.cellsOf 22=1 from by kernel_rfl] at g0
 obtain ⟨a0,e0,_,w0⟩:=DataW.trod_int Go.Proofs.Tryz.underlying22 g0
 obtain ⟨y1,g1⟩:=g 1 _ rfl
 replace g1:DataW.trod enc Go.Proofs.Tryz.prog w base sp held n 24 ((cs.drop 1).take (Go.Proofs.Tryz.prog.cellsOf 24))=some y1:=g1
 rw [show Go.Proofs.Tryz.prog.cellsOf 24=32 from by kernel_rfl] at g1
 obtain ⟨a1,e1,l1,w1⟩:=open_arr Go.Proofs.Tryz.underlying24 Go.Proofs.Tryz.underlying5 (by kernel_rfl) (by kernel_rfl) g1
 have r0:cs.drop 0=_ ++ cs.drop 1:=cat_part e0
 have r1:cs.drop 1=_ ++ cs.drop 33:=cat_part e1
 have rn:cs.drop 33=[]:=cat_end (hl.trans (by kernel_rfl))
 exact ⟨⟨a0,a1⟩,(List.drop_zero).symm.trans (r0.trans (by rw [r1,rn]; rfl)),w0,⟨l1,w1⟩⟩
def Ok_S_api_Box (h:Heap) (v:S_api_Box):Prop:=(v.f_Tenant.size<=maxLen)/\((Lit.int .u32 v.f_Epoch).wf=true)/\(v.f_Nonce.length=12/\∀ x∈v.f_Nonce,(Lit.int .u8 x).wf=true)/\(v.f_Body.len<=v.f_Body.cap/\v.f_Body.cap<=maxLen/\∃ zs,SlI .u8 h v.f_Body zs)
theorem open_S_api_Box {fuel:Nat} {cs:List Value} {x:DataW H × List MemPlace} (h:DataW.trod enc Go.Proofs.Tryz.prog w base sp held fuel 76 cs=some x):∃ v:S_api_Box,cs=S_api_Box.cs v/\Ok_S_api_Box w.heap v:=by
 obtain ⟨n,hl,g⟩:=open_fs Go.Proofs.Tryz.underlying76 h
 obtain ⟨y0,g0⟩:=g 0 _ rfl
 replace g0:DataW.trod enc Go.Proofs.Tryz.prog w base sp held n 9 ((cs.drop 0).take (Go.Proofs.Tryz.prog.cellsOf 9))=some y0:=g0
 rw [show Go.Proofs.Tryz.prog.cellsOf 9=1 from by kernel_rfl] at g0
 obtain ⟨a0,e0,_,w0⟩:=DataW.trod_string Go.Proofs.Tryz.underlying9 g0
 obtain ⟨y1,g1⟩:=g 1 _ rfl
 replace g1:DataW.trod enc Go.Proofs.Tryz.prog w base sp held n 72 ((cs.drop 1).take (Go.Proofs.Tryz.prog.cellsOf 72))=some y1:=g1
 rw [show Go.Proofs.Tryz.prog.cellsOf 72=1 from by kernel_rfl] at g1
 obtain ⟨a1,e1,_,w1⟩:=DataW.trod_int Go.Proofs.Tryz.underlying72 g1
 obtain ⟨y2,g2⟩:=g 2 _ rfl
 replace g2:DataW.trod enc Go.Proofs.Tryz.prog w base sp held n 74 ((cs.drop 2).take (Go.Proofs.Tryz.prog.cellsOf 74))=some y2:=g2
 rw [show Go.Proofs.Tryz.prog.cellsOf 74=12 from by kernel_rfl] at g2
 obtain ⟨a2,e2,l2,w2⟩:=open_arr Go.Proofs.Tryz.underlying74 Go.Proofs.Tryz.underlying5 (by kernel_rfl) (by kernel_rfl) g2
 obtain ⟨y3,g3⟩:=g 3 _ rfl
 replace g3:DataW.trod enc Go.Proofs.Tryz.prog w base sp held n 28 ((cs.drop 14).take (Go.Proofs.Tryz.prog.cellsOf 28))=some y3:=g3
 rw [show Go.Proofs.Tryz.prog.cellsOf 28=1 from by kernel_rfl] at g3
 obtain ⟨a3,e3,l3,m3,w3⟩:=open_si Go.Proofs.Tryz.underlying28 Go.Proofs.Tryz.underlying5 (by kernel_rfl) g3
 have r0:cs.drop 0=_ ++ cs.drop 1:=cat_part e0
 have r1:cs.drop 1=_ ++ cs.drop 2:=cat_part e1
 have r2:cs.drop 2=_ ++ cs.drop 14:=cat_part e2
 have r3:cs.drop 14=_ ++ cs.drop 15:=cat_part e3
 have rn:cs.drop 15=[]:=cat_end (hl.trans (by kernel_rfl))
 exact ⟨⟨a0,a1,a2,a3⟩,(List.drop_zero).symm.trans (r0.trans (by rw [r1,r2,r3,rn]; rfl)),w0,w1,⟨l2,w2⟩,⟨l3,m3,w3⟩⟩
def Ok_S_api_Mem (h:Heap) (v:S_api_Mem):Prop:=((Lit.int .i64 v.f_Node).wf=true)/\((Lit.int .i64 v.f_N).wf=true)/\((Lit.int .i64 v.f_T).wf=true)/\((Lit.int .u64 v.f_Boot).wf=true)/\((Lit.int .u64 v.f_Lease).wf=true)/\(Ok_S_api_Share h v.f_Share)/\(v.f_Proof.length=32/\∀ x∈v.f_Proof,(Lit.int .u8 x).wf=true)/\((Lit.int .u64 v.f_Term).wf=true)/\((Lit.int .i64 v.f_Vote).wf=true)/\((Lit.int .u64 v.f_Base).wf=true)/\((Lit.int .u64 v.f_BaseTerm).wf=true)/\(v.f_Snap.len<=v.f_Snap.cap/\v.f_Snap.cap<=maxLen/\∃ zs,SlI .u8 h v.f_Snap zs)/\(v.f_Entries.len<=v.f_Entries.cap/\v.f_Entries.cap<=maxLen/\∃ ys:List S_api_Entry,LsAt S_api_Entry.cs 2 h v.f_Entries ys/\∀ y∈ys,Ok_S_api_Entry h y)/\(v.f_Chains.len<=v.f_Chains.cap/\v.f_Chains.cap<=maxLen/\∃ ys:List S_api_Chain,LsAt S_api_Chain.cs 33 h v.f_Chains ys/\∀ y∈ys,Ok_S_api_Chain h y)/\(v.f_Boxes.len<=v.f_Boxes.cap/\v.f_Boxes.cap<=maxLen/\∃ ys:List S_api_Box,LsAt S_api_Box.cs 15 h v.f_Boxes ys/\∀ y∈ys,Ok_S_api_Box h y)/\((Lit.int .u64 v.f_Clean).wf=true)
theorem open_S_api_Mem {fuel:Nat} {cs:List Value} {x:DataW H × List MemPlace} (h:DataW.trod enc Go.Proofs.Tryz.prog w base sp held fuel 33 cs=some x):∃ v:S_api_Mem,cs=S_api_Mem.cs v/\Ok_S_api_Mem w.heap v:=by
 obtain ⟨n,hl,g⟩:=open_fs Go.Proofs.Tryz.underlying33 h
 obtain ⟨y0,g0⟩:=g 0 _ rfl
 replace g0:DataW.trod enc Go.Proofs.Tryz.prog w base sp held n 3 ((cs.drop 0).take (Go.Proofs.Tryz.prog.cellsOf 3))=some y0:=g0
 rw [show Go.Proofs.Tryz.prog.cellsOf 3=1 from by kernel_rfl] at g0
 obtain ⟨a0,e0,_,w0⟩:=DataW.trod_int Go.Proofs.Tryz.underlying3 g0
 obtain ⟨y1,g1⟩:=g 1 _ rfl
 replace g1:DataW.trod enc Go.Proofs.Tryz.prog w base sp held n 3 ((cs.drop 1).take (Go.Proofs.Tryz.prog.cellsOf 3))=some y1:=g1
 rw [show Go.Proofs.Tryz.prog.cellsOf 3=1 from by kernel_rfl] at g1
 obtain ⟨a1,e1,_,w1⟩:=DataW.trod_int Go.Proofs.Tryz.underlying3 g1
 obtain ⟨y2,g2⟩:=g 2 _ rfl
 replace g2:DataW.trod enc Go.Proofs.Tryz.prog w base sp held n 3 ((cs.drop 2).take (Go.Proofs.Tryz.prog.cellsOf 3))=some y2:=g2
 rw [show Go.Proofs.Tryz.prog.cellsOf 3=1 from by kernel_rfl] at g2
 obtain ⟨a2,e2,_,w2⟩:=DataW.trod_int Go.Proofs.Tryz.underlying3 g2
 obtain ⟨y3,g3⟩:=g 3 _ rfl
 replace g3:DataW.trod enc Go.Proofs.Tryz.prog w base sp held n 22 ((cs.drop 3).take (Go.Proofs.Tryz.prog.cellsOf 22))=some y3:=g3
 rw [show Go.Proofs.Tryz.prog.cellsOf 22=1 from by kernel_rfl] at g3
 obtain ⟨a3,e3,_,w3⟩:=DataW.trod_int Go.Proofs.Tryz.underlying22 g3
 obtain ⟨y4,g4⟩:=g 4 _ rfl
 replace g4:DataW.trod enc Go.Proofs.Tryz.prog w base sp held n 22 ((cs.drop 4).take (Go.Proofs.Tryz.prog.cellsOf 22))=some y4:=g4
 rw [show Go.Proofs.Tryz.prog.cellsOf 22=1 from by kernel_rfl] at g4
 obtain ⟨a4,e4,_,w4⟩:=DataW.trod_int Go.Proofs.Tryz.underlying22 g4
 obtain ⟨y5,g5⟩:=g 5 _ rfl
 replace g5:DataW.trod enc Go.Proofs.Tryz.prog w base sp held n 26 ((cs.drop 5).take (Go.Proofs.Tryz.prog.cellsOf 26))=some y5:=g5
 rw [show Go.Proofs.Tryz.prog.cellsOf 26=33 from by kernel_rfl] at g5
 obtain ⟨a5,e5,w5⟩:=open_S_api_Share g5
 obtain ⟨y6,g6⟩:=g 6 _ rfl
 replace g6:DataW.trod enc Go.Proofs.Tryz.prog w base sp held n 27 ((cs.drop 38).take (Go.Proofs.Tryz.prog.cellsOf 27))=some y6:=g6
 rw [show Go.Proofs.Tryz.prog.cellsOf 27=32 from by kernel_rfl] at g6
 obtain ⟨a6,e6,l6,w6⟩:=open_arr Go.Proofs.Tryz.underlying27 Go.Proofs.Tryz.underlying5 (by kernel_rfl) (by kernel_rfl) g6
 obtain ⟨y7,g7⟩:=g 7 _ rfl
 replace g7:DataW.trod enc Go.Proofs.Tryz.prog w base sp held n 22 ((cs.drop 70).take (Go.Proofs.Tryz.prog.cellsOf 22))=some y7:=g7
 rw [show Go.Proofs.Tryz.prog.cellsOf 22=1 from by kernel_rfl] at g7
 obtain ⟨a7,e7,_,w7⟩:=DataW.trod_int Go.Proofs.Tryz.underlying22 g7
 obtain ⟨y8,g8⟩:=g 8 _ rfl
 replace g8:DataW.trod enc Go.Proofs.Tryz.prog w base sp held n 3 ((cs.drop 71).take (Go.Proofs.Tryz.prog.cellsOf 3))=some y8:=g8
 rw [show Go.Proofs.Tryz.prog.cellsOf 3=1 from by kernel_rfl] at g8
 obtain ⟨a8,e8,_,w8⟩:=DataW.trod_int Go.Proofs.Tryz.underlying3 g8
 obtain ⟨y9,g9⟩:=g 9 _ rfl
 replace g9:DataW.trod enc Go.Proofs.Tryz.prog w base sp held n 22 ((cs.drop 72).take (Go.Proofs.Tryz.prog.cellsOf 22))=some y9:=g9
 rw [show Go.Proofs.Tryz.prog.cellsOf 22=1 from by kernel_rfl] at g9
 obtain ⟨a9,e9,_,w9⟩:=DataW.trod_int Go.Proofs.Tryz.underlying22 g9
 obtain ⟨y10,g10⟩:=g 10 _ rfl
 replace g10:DataW.trod enc Go.Proofs.Tryz.prog w base sp held n 22 ((cs.drop 73).take (Go.Proofs.Tryz.prog.cellsOf 22))=some y10:=g10
 rw [show Go.Proofs.Tryz.prog.cellsOf 22=1 from by kernel_rfl] at g10
 obtain ⟨a10,e10,_,w10⟩:=DataW.trod_int Go.Proofs.Tryz.underlying22 g10
 obtain ⟨y11,g11⟩:=g 11 _ rfl
 replace g11:DataW.trod enc Go.Proofs.Tryz.prog w base sp held n 28 ((cs.drop 74).take (Go.Proofs.Tryz.prog.cellsOf 28))=some y11:=g11
 rw [show Go.Proofs.Tryz.prog.cellsOf 28=1 from by kernel_rfl] at g11
 obtain ⟨a11,e11,l11,m11,w11⟩:=open_si Go.Proofs.Tryz.underlying28 Go.Proofs.Tryz.underlying5 (by kernel_rfl) g11
 obtain ⟨y12,g12⟩:=g 12 _ rfl
 replace g12:DataW.trod enc Go.Proofs.Tryz.prog w base sp held n 29 ((cs.drop 75).take (Go.Proofs.Tryz.prog.cellsOf 29))=some y12:=g12
 rw [show Go.Proofs.Tryz.prog.cellsOf 29=1 from by kernel_rfl] at g12
 obtain ⟨a12,e12,l12,m12,w12⟩:=open_ls (cs:=S_api_Entry.cs) (w':=2) Go.Proofs.Tryz.underlying29 (by kernel_rfl) (fun hq=>open_S_api_Entry hq) g12
 obtain ⟨y13,g13⟩:=g 13 _ rfl
 replace g13:DataW.trod enc Go.Proofs.Tryz.prog w base sp held n 30 ((cs.drop 76).take (Go.Proofs.Tryz.prog.cellsOf 30))=some y13:=g13
 rw [show Go.Proofs.Tryz.prog.cellsOf 30=1 from by kernel_rfl] at g13
 obtain ⟨a13,e13,l13,m13,w13⟩:=open_ls (cs:=S_api_Chain.cs) (w':=33) Go.Proofs.Tryz.underlying30 (by kernel_rfl) (fun hq=>open_S_api_Chain hq) g13
 obtain ⟨y14,g14⟩:=g 14 _ rfl
 replace g14:DataW.trod enc Go.Proofs.Tryz.prog w base sp held n 31 ((cs.drop 77).take (Go.Proofs.Tryz.prog.cellsOf 31))=some y14:=g14
 rw [show Go.Proofs.Tryz.prog.cellsOf 31=1 from by kernel_rfl] at g14
 obtain ⟨a14,e14,l14,m14,w14⟩:=open_ls (cs:=S_api_Box.cs) (w':=15) Go.Proofs.Tryz.underlying31 (by kernel_rfl) (fun hq=>open_S_api_Box hq) g14
 obtain ⟨y15,g15⟩:=g 15 _ rfl
 replace g15:DataW.trod enc Go.Proofs.Tryz.prog w base sp held n 22 ((cs.drop 78).take (Go.Proofs.Tryz.prog.cellsOf 22))=some y15:=g15
 rw [show Go.Proofs.Tryz.prog.cellsOf 22=1 from by kernel_rfl] at g15
 obtain ⟨a15,e15,_,w15⟩:=DataW.trod_int Go.Proofs.Tryz.underlying22 g15
 have r0:cs.drop 0=_ ++ cs.drop 1:=cat_part e0
 have r1:cs.drop 1=_ ++ cs.drop 2:=cat_part e1
 have r2:cs.drop 2=_ ++ cs.drop 3:=cat_part e2
 have r3:cs.drop 3=_ ++ cs.drop 4:=cat_part e3
 have r4:cs.drop 4=_ ++ cs.drop 5:=cat_part e4
 have r5:cs.drop 5=_ ++ cs.drop 38:=cat_part e5
 have r6:cs.drop 38=_ ++ cs.drop 70:=cat_part e6
 have r7:cs.drop 70=_ ++ cs.drop 71:=cat_part e7
 have r8:cs.drop 71=_ ++ cs.drop 72:=cat_part e8
 have r9:cs.drop 72=_ ++ cs.drop 73:=cat_part e9
 have r10:cs.drop 73=_ ++ cs.drop 74:=cat_part e10
 have r11:cs.drop 74=_ ++ cs.drop 75:=cat_part e11
 have r12:cs.drop 75=_ ++ cs.drop 76:=cat_part e12
 have r13:cs.drop 76=_ ++ cs.drop 77:=cat_part e13
 have r14:cs.drop 77=_ ++ cs.drop 78:=cat_part e14
 have r15:cs.drop 78=_ ++ cs.drop 79:=cat_part e15
 have rn:cs.drop 79=[]:=cat_end (hl.trans (by kernel_rfl))
 exact ⟨⟨a0,a1,a2,a3,a4,a5,a6,a7,a8,a9,a10,a11,a12,a13,a14,a15⟩,(List.drop_zero).symm.trans (r0.trans (by rw [r1,r2,r3,r4,r5,r6,r7,r8,r9,r10,r11,r12,r13,r14,r15,rn]; rfl)),w0,w1,w2,w3,w4,w5,⟨l6,w6⟩,w7,w8,w9,w10,⟨l11,m11,w11⟩,⟨l12,m12,w12⟩,⟨l13,m13,w13⟩,⟨l14,m14,w14⟩,w15⟩
def Ok_S_api_Keep (h:Heap) (v:S_api_Keep):Prop:=((Lit.int .i64 v.f_Kind).wf=true)/\((Lit.int .u64 v.f_Term).wf=true)/\((Lit.int .i64 v.f_Vote).wf=true)/\((Lit.int .u64 v.f_Index).wf=true)/\(v.f_Entries.len<=v.f_Entries.cap/\v.f_Entries.cap<=maxLen/\∃ ys:List S_api_Entry,LsAt S_api_Entry.cs 2 h v.f_Entries ys/\∀ y∈ys,Ok_S_api_Entry h y)/\(v.f_Snap.len<=v.f_Snap.cap/\v.f_Snap.cap<=maxLen/\∃ zs,SlI .u8 h v.f_Snap zs)
theorem open_S_api_Keep {fuel:Nat} {cs:List Value} {x:DataW H × List MemPlace} (h:DataW.trod enc Go.Proofs.Tryz.prog w base sp held fuel 37 cs=some x):∃ v:S_api_Keep,cs=S_api_Keep.cs v/\Ok_S_api_Keep w.heap v:=by
 obtain ⟨n,hl,g⟩:=open_fs Go.Proofs.Tryz.underlying37 h
 obtain ⟨y0,g0⟩:=g 0 _ rfl
 replace g0:DataW.trod enc Go.Proofs.Tryz.prog w base sp held n 3 ((cs.drop 0).take (Go.Proofs.Tryz.prog.cellsOf 3))=some y0:=g0
 rw [show Go.Proofs.Tryz.prog.cellsOf 3=1 from by kernel_rfl] at g0
 obtain ⟨a0,e0,_,w0⟩:=DataW.trod_int Go.Proofs.Tryz.underlying3 g0
 obtain ⟨y1,g1⟩:=g 1 _ rfl
 replace g1:DataW.trod enc Go.Proofs.Tryz.prog w base sp held n 22 ((cs.drop 1).take (Go.Proofs.Tryz.prog.cellsOf 22))=some y1:=g1
 rw [show Go.Proofs.Tryz.prog.cellsOf 22=1 from by kernel_rfl] at g1
 obtain ⟨a1,e1,_,w1⟩:=DataW.trod_int Go.Proofs.Tryz.underlying22 g1
 obtain ⟨y2,g2⟩:=g 2 _ rfl
 replace g2:DataW.trod enc Go.Proofs.Tryz.prog w base sp held n 3 ((cs.drop 2).take (Go.Proofs.Tryz.prog.cellsOf 3))=some y2:=g2
 rw [show Go.Proofs.Tryz.prog.cellsOf 3=1 from by kernel_rfl] at g2
 obtain ⟨a2,e2,_,w2⟩:=DataW.trod_int Go.Proofs.Tryz.underlying3 g2
 obtain ⟨y3,g3⟩:=g 3 _ rfl
 replace g3:DataW.trod enc Go.Proofs.Tryz.prog w base sp held n 22 ((cs.drop 3).take (Go.Proofs.Tryz.prog.cellsOf 22))=some y3:=g3
 rw [show Go.Proofs.Tryz.prog.cellsOf 22=1 from by kernel_rfl] at g3
 obtain ⟨a3,e3,_,w3⟩:=DataW.trod_int Go.Proofs.Tryz.underlying22 g3
 obtain ⟨y4,g4⟩:=g 4 _ rfl
 replace g4:DataW.trod enc Go.Proofs.Tryz.prog w base sp held n 29 ((cs.drop 4).take (Go.Proofs.Tryz.prog.cellsOf 29))=some y4:=g4
 rw [show Go.Proofs.Tryz.prog.cellsOf 29=1 from by kernel_rfl] at g4
 obtain ⟨a4,e4,l4,m4,w4⟩:=open_ls (cs:=S_api_Entry.cs) (w':=2) Go.Proofs.Tryz.underlying29 (by kernel_rfl) (fun hq=>open_S_api_Entry hq) g4
 obtain ⟨y5,g5⟩:=g 5 _ rfl
 replace g5:DataW.trod enc Go.Proofs.Tryz.prog w base sp held n 28 ((cs.drop 5).take (Go.Proofs.Tryz.prog.cellsOf 28))=some y5:=g5
 rw [show Go.Proofs.Tryz.prog.cellsOf 28=1 from by kernel_rfl] at g5
 obtain ⟨a5,e5,l5,m5,w5⟩:=open_si Go.Proofs.Tryz.underlying28 Go.Proofs.Tryz.underlying5 (by kernel_rfl) g5
 have r0:cs.drop 0=_ ++ cs.drop 1:=cat_part e0
 have r1:cs.drop 1=_ ++ cs.drop 2:=cat_part e1
 have r2:cs.drop 2=_ ++ cs.drop 3:=cat_part e2
 have r3:cs.drop 3=_ ++ cs.drop 4:=cat_part e3
 have r4:cs.drop 4=_ ++ cs.drop 5:=cat_part e4
 have r5:cs.drop 5=_ ++ cs.drop 6:=cat_part e5
 have rn:cs.drop 6=[]:=cat_end (hl.trans (by kernel_rfl))
 exact ⟨⟨a0,a1,a2,a3,a4,a5⟩,(List.drop_zero).symm.trans (r0.trans (by rw [r1,r2,r3,r4,r5,rn]; rfl)),w0,w1,w2,w3,⟨l4,m4,w4⟩,⟨l5,m5,w5⟩⟩
def Ok_S_api_Change (h:Heap) (v:S_api_Change):Prop:=((Lit.int .i64 v.f_Kind).wf=true)/\((Lit.int .u64 v.f_N).wf=true)/\((Lit.int .i64 v.f_Node).wf=true)/\(Ok_S_api_Chain h v.f_Chain)/\(Ok_S_api_Keep h v.f_Keep)/\(v.f_Gone.len<=v.f_Gone.cap/\v.f_Gone.cap<=maxLen/\∃ ys:List (List Int),LsAt (fun x:List Int=>arr 12 .u8 x) 12 h v.f_Gone ys/\∀ y∈ys,y.length=12/\∀ x∈y,(Lit.int .u8 x).wf=true)/\(v.f_Boxes.len<=v.f_Boxes.cap/\v.f_Boxes.cap<=maxLen/\∃ ys:List S_api_Box,LsAt S_api_Box.cs 15 h v.f_Boxes ys/\∀ y∈ys,Ok_S_api_Box h y)/\(v.f_Tenant.size<=maxLen)
theorem open_S_api_Change {fuel:Nat} {cs:List Value} {x:DataW H × List MemPlace} (h:DataW.trod enc Go.Proofs.Tryz.prog w base sp held fuel 40 cs=some x):∃ v:S_api_Change,cs=S_api_Change.cs v/\Ok_S_api_Change w.heap v:=by
 obtain ⟨n,hl,g⟩:=open_fs Go.Proofs.Tryz.underlying40 h
 obtain ⟨y0,g0⟩:=g 0 _ rfl
 replace g0:DataW.trod enc Go.Proofs.Tryz.prog w base sp held n 3 ((cs.drop 0).take (Go.Proofs.Tryz.prog.cellsOf 3))=some y0:=g0
 rw [show Go.Proofs.Tryz.prog.cellsOf 3=1 from by kernel_rfl] at g0
 obtain ⟨a0,e0,_,w0⟩:=DataW.trod_int Go.Proofs.Tryz.underlying3 g0
 obtain ⟨y1,g1⟩:=g 1 _ rfl
 replace g1:DataW.trod enc Go.Proofs.Tryz.prog w base sp held n 22 ((cs.drop 1).take (Go.Proofs.Tryz.prog.cellsOf 22))=some y1:=g1
 rw [show Go.Proofs.Tryz.prog.cellsOf 22=1 from by kernel_rfl] at g1
 obtain ⟨a1,e1,_,w1⟩:=DataW.trod_int Go.Proofs.Tryz.underlying22 g1
 obtain ⟨y2,g2⟩:=g 2 _ rfl
 replace g2:DataW.trod enc Go.Proofs.Tryz.prog w base sp held n 3 ((cs.drop 2).take (Go.Proofs.Tryz.prog.cellsOf 3))=some y2:=g2
 rw [show Go.Proofs.Tryz.prog.cellsOf 3=1 from by kernel_rfl] at g2
 obtain ⟨a2,e2,_,w2⟩:=DataW.trod_int Go.Proofs.Tryz.underlying3 g2
 obtain ⟨y3,g3⟩:=g 3 _ rfl
 replace g3:DataW.trod enc Go.Proofs.Tryz.prog w base sp held n 35 ((cs.drop 3).take (Go.Proofs.Tryz.prog.cellsOf 35))=some y3:=g3
 rw [show Go.Proofs.Tryz.prog.cellsOf 35=33 from by kernel_rfl] at g3
 obtain ⟨a3,e3,w3⟩:=open_S_api_Chain g3
 obtain ⟨y4,g4⟩:=g 4 _ rfl
 replace g4:DataW.trod enc Go.Proofs.Tryz.prog w base sp held n 37 ((cs.drop 36).take (Go.Proofs.Tryz.prog.cellsOf 37))=some y4:=g4
 rw [show Go.Proofs.Tryz.prog.cellsOf 37=6 from by kernel_rfl] at g4
 obtain ⟨a4,e4,w4⟩:=open_S_api_Keep g4
 obtain ⟨y5,g5⟩:=g 5 _ rfl
 replace g5:DataW.trod enc Go.Proofs.Tryz.prog w base sp held n 38 ((cs.drop 42).take (Go.Proofs.Tryz.prog.cellsOf 38))=some y5:=g5
 rw [show Go.Proofs.Tryz.prog.cellsOf 38=1 from by kernel_rfl] at g5
 obtain ⟨a5,e5,l5,m5,w5⟩:=open_ls (cs:=(fun x:List Int=>arr 12 .u8 x)) (w':=12) (Ok:=fun y=>y.length=12/\∀ x∈y,(Lit.int .u8 x).wf=true) Go.Proofs.Tryz.underlying38 (by kernel_rfl) (fun hq=>by obtain ⟨a,b,c,d⟩:=open_arr Go.Proofs.Tryz.underlying74 Go.Proofs.Tryz.underlying5 (by kernel_rfl) (by kernel_rfl) hq; exact ⟨a,b,c,d⟩) g5
 obtain ⟨y6,g6⟩:=g 6 _ rfl
 replace g6:DataW.trod enc Go.Proofs.Tryz.prog w base sp held n 31 ((cs.drop 43).take (Go.Proofs.Tryz.prog.cellsOf 31))=some y6:=g6
 rw [show Go.Proofs.Tryz.prog.cellsOf 31=1 from by kernel_rfl] at g6
 obtain ⟨a6,e6,l6,m6,w6⟩:=open_ls (cs:=S_api_Box.cs) (w':=15) Go.Proofs.Tryz.underlying31 (by kernel_rfl) (fun hq=>open_S_api_Box hq) g6
 obtain ⟨y7,g7⟩:=g 7 _ rfl
 replace g7:DataW.trod enc Go.Proofs.Tryz.prog w base sp held n 9 ((cs.drop 44).take (Go.Proofs.Tryz.prog.cellsOf 9))=some y7:=g7
 rw [show Go.Proofs.Tryz.prog.cellsOf 9=1 from by kernel_rfl] at g7
 obtain ⟨a7,e7,_,w7⟩:=DataW.trod_string Go.Proofs.Tryz.underlying9 g7
 have r0:cs.drop 0=_ ++ cs.drop 1:=cat_part e0
 have r1:cs.drop 1=_ ++ cs.drop 2:=cat_part e1
 have r2:cs.drop 2=_ ++ cs.drop 3:=cat_part e2
 have r3:cs.drop 3=_ ++ cs.drop 36:=cat_part e3
 have r4:cs.drop 36=_ ++ cs.drop 42:=cat_part e4
 have r5:cs.drop 42=_ ++ cs.drop 43:=cat_part e5
 have r6:cs.drop 43=_ ++ cs.drop 44:=cat_part e6
 have r7:cs.drop 44=_ ++ cs.drop 45:=cat_part e7
 have rn:cs.drop 45=[]:=cat_end (hl.trans (by kernel_rfl))
 exact ⟨⟨a0,a1,a2,a3,a4,a5,a6,a7⟩,(List.drop_zero).symm.trans (r0.trans (by rw [r1,r2,r3,r4,r5,r6,r7,rn]; rfl)),w0,w1,w2,w3,w4,⟨l5,m5,w5⟩,⟨l6,m6,w6⟩,w7⟩
end
end Go.Q.Yk
end
section
/- All that StrongScrubs's card needs. -/
namespace Go.Q
open Go.ChangeShapes Go.WideShapes
theorem okWide_st {P:Program} {W:World} {r:Reach} {b0:Nat} {t:TypeId} {fs:Array Field} {v:Value} (ht:P.underlying t=some (.struct fs)) (hval:Value.okWide P W r b0 t v):∃ cs,v = .agg cs:=by
 simp only [Value.okWide,ht] at hval
 obtain ⟨cs,h,_⟩:=hval
 exact ⟨cs,h⟩
theorem agg_eq {c:Array Value} {l:List Value} (h:(Value.agg c).cells.toList=l):c=l.toArray:=by
 apply Array.toList_inj.1
 exact h
theorem CallsH.mono {P:Program} {f:FuncId} {args:Array Value} {h:Heap} {Φ Ψ:Value->Heap->Prop} (H:CallsH P f args h Φ) (k:∀ v h',Φ v h'->Ψ v h'):CallsH P f args h Ψ :=
 fun w hw=>(H w hw).mono fun r w' ⟨v,e,hw',hΦ⟩=>⟨v,e,hw',k _ _ hΦ⟩
namespace Yk
open Go.Q.Sg
theorem isB_wf' {zs:List Int} (h:∀ n∈zs,(Lit.int .u8 n).wf=true):isB zs:=fun b hb=>wf_u8 (h b hb)
theorem u64_wf {n:Int} (h:(Lit.int .u64 n).wf=true):u64 n:=wf_u64 h
theorem manyW {V α:Type} {R:V->α->Prop} {Q:α->Prop} {vs:List V} (o:∀ y∈vs,∃ x,R y x/\Q x):∃ xs,Many R vs xs/\∀ x∈xs,Q x:=by
 induction vs with
 | nil=>exact ⟨[],Many.nil,by simp⟩
 | cons y r ih =>
  obtain ⟨xs,M,q⟩:=ih fun y hy=>o y (List.mem_cons_of_mem _ hy)
  obtain ⟨x,h1,h2⟩:=o y (by simp)
  refine ⟨x :: xs,⟨by simp [M.l],fun i v x' a b=>?_⟩,by simpa using ⟨h2,q⟩⟩
  cases i with
  | zero=>simp at a b; subst a; subst b; exact h1
  | succ i=>exact M.r i v x' (by simpa using a) (by simpa using b)
theorem ent_of {h:Heap} {v:S_api_Entry} (o:Ok_S_api_Entry h v):∃ e:Ent,EntAt h v e/\u64 e.1/\isB e.2:=by
 obtain ⟨tw,_,_,zs,zl,zc,zb⟩:=o
 exact ⟨(v.f_Term,zs),⟨rfl,zc,zl⟩,u64_wf tw,isB_wf' zb⟩
theorem ch_of {h:Heap} {v:S_api_Chain} (o:Ok_S_api_Chain h v):∃ c:Int × List Int,ChAt v c/\u64 c.1/\isB c.2/\c.2.length=32:=by
 obtain ⟨iw,kl,kb⟩:=o
 exact ⟨(v.f_Index,v.f_Key),⟨rfl,rfl⟩,u64_wf iw,isB_wf' kb,kl⟩
theorem box_of {h:Heap} {v:S_api_Box} (o:Ok_S_api_Box h v):∃ b:BoxV,BoxAt h v b/\(b.1.length<=1000000->b.2.2.2.length<=1000000->WfB b):=by
 obtain ⟨_,ew,⟨nl,nb⟩,_,_,zs,zl,zc,zb⟩:=o
 exact ⟨(sB v.f_Tenant,v.f_Epoch,v.f_Nonce,zs),⟨rfl,rfl,rfl,zc,zl⟩,fun a b=>⟨sB_isB _,a,wf_u32 ew,isB_wf' nb,nl,isB_wf' zb,b⟩⟩
theorem mem_of {h:Heap} {v:S_api_Mem} (o:Ok_S_api_Mem h v):∃ m:MemV,MemAt h v m/\(GB v m.ents m.boxes->WfM m):=by
 obtain ⟨o1,o2,o3,o4,o5,⟨ox,oyl,oy⟩,⟨opl,op⟩,o6,o7,o8,o9,⟨_,_,sn,snl,sns,snb⟩,⟨_,_,es,Le,oe⟩,⟨_,_,cs,Lc,oc⟩,⟨_,_,bs,Lb,ob⟩,o10⟩:=o
 obtain ⟨ents,M1,e1⟩:=manyW fun y hy=>ent_of (oe y hy)
 obtain ⟨chs,M2,e2⟩:=manyW fun y hy=>ch_of (oc y hy)
 obtain ⟨boxes,M3,e3⟩:=manyW fun y hy=>box_of (ob y hy)
 refine ⟨⟨v.f_Node,v.f_N,v.f_T,v.f_Boot,v.f_Lease,[v.f_Share.f_X],v.f_Share.f_Y,v.f_Proof,v.f_Term,v.f_Vote,v.f_Base,v.f_BaseTerm,sn,ents,chs,boxes,v.f_Clean⟩,⟨rfl,rfl,rfl,rfl,rfl,rfl,rfl,rfl,rfl,rfl,rfl,rfl,sns,snl,⟨es,Le,M1⟩,⟨cs,Lc,M2⟩,⟨bs,Lb,M3⟩,rfl⟩,fun G=>?_⟩
 obtain ⟨⟨g1,g2⟩,g3,g4,g5,g6⟩:=G
 have l1:=snl
 have l2:=M2.l
 have l3:=Lc.l
 refine ⟨wf_i64 o1,wf_i64 o2,wf_i64 o3,wf_i64 o7,u64_wf o4,u64_wf o5,isB_wf' (by simpa using ox),rfl,isB_wf' oy,oyl,isB_wf' op,opl,u64_wf o6,u64_wf o8,u64_wf o9,isB_wf' snb,?_,fun e he=>⟨(e1 e he).1,(e1 e he).2,?_⟩,?_,e2,?_,fun b hb=>e3 b hb ?_ ?_,?_,u64_wf o10⟩
 ·show sn.length<=1000000; omega
 ·have:=g2 e he; omega
 ·show ents.length<=1000000; have:ents.length<=100:=g1; omega
 ·show chs.length<=1000000; omega
 ·have:=(g6 b hb).1; omega
 ·have:=(g6 b hb).2; omega
 ·show boxes.length<=1000000; have:boxes.length<=70:=g5; omega
theorem chg_of {h:Heap} {v:S_api_Change} (o:Ok_S_api_Change h v):∃ c:ChgV,ChG h v c:=by
 obtain ⟨o1,o2,o3,oc,⟨k1,k2,k3,k4,⟨_,_,es,Le,oe⟩,⟨_,_,sn,snl,sns,snb⟩⟩,⟨_,_,gs,Lg,og⟩,⟨_,_,bs,Lb,ob⟩,ot⟩:=o
 obtain ⟨ents,M1,e1⟩:=manyW fun y hy=>ent_of (oe y hy)
 obtain ⟨boxes,M3,e3⟩:=manyW fun y hy=>box_of (ob y hy)
 obtain ⟨c,C,cu,cb,cl⟩:=ch_of oc
 refine ⟨⟨[v.f_Kind % 256],v.f_N,v.f_Node,c,v.f_Keep.f_Kind,v.f_Keep.f_Term,v.f_Keep.f_Vote,v.f_Keep.f_Index,ents,sn,gs,boxes,sB v.f_Tenant⟩,⟨⟨rfl,rfl,rfl,C,rfl,rfl,rfl,rfl,⟨es,Le,M1⟩,sns,snl,Lg,⟨bs,Lb,M3⟩,rfl⟩,wf_i64 o3,fun ⟨g1,g2⟩ g3 g4 g5 ⟨g6,g7⟩=>?_⟩⟩
 have l1:=snl
 have l2:=Lg.l
 refine ⟨fun b hb=>?_,rfl,u64_wf o2,wf_i64 o3,cu,cb,cl,wf_i64 k1,u64_wf k2,wf_i64 k3,u64_wf k4,fun e he=>⟨(e1 e he).1,(e1 e he).2,?_⟩,?_,isB_wf' snb,?_,fun g hg=>⟨isB_wf' (og g hg).2,(og g hg).1⟩,?_,fun b hb=>e3 b hb ?_ ?_,?_,sB_isB _,?_⟩
 ·simp at hb; subst hb; omega
 ·have:=g2 e he; omega
 ·show ents.length<=1000000; have:ents.length<=100:=g1; omega
 ·show sn.length<=1000000; omega
 ·show gs.length<=1000000; omega
 ·have:=(g7 b hb).1; omega
 ·have:=(g7 b hb).2; omega
 ·show boxes.length<=1000000; have:boxes.length<=70:=g6; omega
 ·show (sB v.f_Tenant).length<=1000000; rw [sB_len]; omega
theorem law_all {h:Heap} {p0:S_api_Mem} {p1:Slc} {p2:ByteArray} {k:Bool->Heap->Prop} (r:R0 h) (o:Ok_S_api_Mem h p0) (oc:∃ ys:List S_api_Change,LsAt S_api_Change.cs 45 h p1 ys/\∀ y∈ys,Ok_S_api_Change h y)
  (H:∀ h',Ext h.size h h'->k true h'):law28_StrongScrubs p0 p1 p2 k h:=by
 obtain ⟨m,M,wm⟩:=mem_of o
 obtain ⟨ys,L,oy⟩:=oc
 exact law_ok r M wm L (fun cv hc=>chg_of (oy cv hc)) H
end Yk
end Go.Q
end

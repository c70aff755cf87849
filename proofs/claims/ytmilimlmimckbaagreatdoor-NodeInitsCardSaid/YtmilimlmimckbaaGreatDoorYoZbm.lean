/- A part of the proof of statements of this seat: lemmas, no statement of their own. -/
import Derived.Test.YtmilimlmimckbaaGreatDoorYoZad
import Derived.OpenShut
import Derived.Test.YtmilimlmimckbaaGreatDoorYoZah
import Derived.Test.YtmilimlmimckbaaGreatDoorYoZbl
import Derived.Lib.LaidTab
import Derived.Stop.LaidErr
import Derived.SevenTiedAt
set_option linter.unusedVariables false
set_option linter.unusedSimpArgs false
section
namespace Go.Q
open Go.ChangeShapes Go.WideShapes
section
variable {H:Type} {enc:TypeId × Value->H} {P:Program} {t e:TypeId} {n:Nat} {q:IntKind} {w W:World} {base:Nat} {sp:Nat->Bool} {held:Bool}
def zwn:Value->Int | .int _ a=>a | _=>0
theorem mapM_all {α β:Type} {f:α->Option β} {g:α->β}:∀ {L:List α},(∀ i∈L,f i=some (g i))->L.mapM f=some (L.map g)
 | [],_=>rfl
 | a :: L,h=>by
  rw [List.mapM_cons,h a (by simp),mapM_all (L:=L) fun i hi=>h i (List.mem_cons_of_mem _ hi)];rfl
theorem open_ia {r:Reach} {b0:Nat} {v:Value} {d:DataW H} {ps:List MemPlace} (ht:P.underlying t=some (.array n e)) (he:P.underlying e=some (.int q)) (ct:P.cellsOf t=n) (ce:P.cellsOf e=1)
  (hval:Value.okWide P W r b0 t v) (hd:DataW.Trod enc P w base sp held t v d ps):∃ zs:List Int,v = .agg (zs.map (Value.int q)).toArray/\zs.length=n/\(∀ x∈zs,(Lit.int q x).wf=true)/\d = .agg (zs.map fun x=>.lit (.int q x))/\ps=[]:=by
 simp only [Value.okWide,ht] at hval;obtain⟨cs,rfl,hcs,_⟩:=hval;obtain⟨fuel,hf⟩:=hd;obtain⟨xs,m,rfl,hx,hl,hxl,hg⟩:=DataW.trod_array ht hf;rw [ct] at hcs;have hcl:cs.toList.length=n:=by simpa using hcs
 have key:∀ i,(hi:i<n)->∃ a,cs.toList[i]? = some (.int q a)/\xs[i]? = some (.lit (.int q a),[])/\(Lit.int q a).wf=true:=by
  intro i hi;have h1:=hg i hi;rw [ce,Nat.mul_one] at h1;have hi':i<cs.toList.length:=by omega
  have h2:((Value.agg cs).cells.toList.drop i).take 1=[cs.toList[i]]:=by
   show (cs.toList.drop i).take 1=_
   rw [List.drop_eq_getElem_cons hi'];rfl
  rw [h2] at h1;have hxi:i<xs.length:=by omega
  have h3:xs[i]? = some xs[i]:=by simp [hxi]
  rw [h3] at h1;obtain⟨a,ea,ex,wa⟩:=DataW.trod_int he h1;simp only [List.cons.injEq,and_true] at ea;exact⟨a,by rw [List.getElem?_eq_getElem hi',ea],by rw [h3,ex],wa⟩
 refine⟨cs.toList.map zwn,?_,by simpa using hcs,?_,?_,?_⟩
 ·congr 1
  apply Array.toList_inj.1;simp only [List.map_map];apply List.ext_getElem?;intro i;rcases Nat.lt_or_ge i n with hi | hi
  ·obtain⟨a,h1,_,_⟩:=key i hi
   simp only [Array.getElem?_toList] at h1;simp [h1,zwn]
  ·rw [List.getElem?_eq_none (by omega),List.getElem?_eq_none (by simp;omega)]
 ·intro x hx'
  obtain⟨y,hy,rfl⟩:=List.mem_map.1 hx';obtain⟨i,hi⟩:=List.getElem?_of_mem hy;have hin:i<n:=by have:=(List.getElem?_eq_some_iff.1 hi).1;omega
  obtain⟨a,h1,_,wa⟩:=key i hin;rw [h1] at hi;cases hi;exact wa
 ·simp only [Prod.mk.injEq] at hx
  rw [hx.1];congr 1;apply List.ext_getElem?;intro i;rcases Nat.lt_or_ge i n with hi | hi
  ·obtain⟨a,h1,h2,_⟩:=key i hi
   simp only [Array.getElem?_toList] at h1;simp [h1,h2,zwn]
  ·rw [List.getElem?_eq_none (by simp;omega),List.getElem?_eq_none (by simp;omega)]
 ·simp only [Prod.mk.injEq] at hx
  rw [hx.2];apply List.flatMap_eq_nil_iff.2;intro y hy;obtain⟨i,hi⟩:=List.getElem?_of_mem hy;have hin:i<n:=by have:=(List.getElem?_eq_some_iff.1 hi).1;omega
  obtain⟨a,_,h2,_⟩:=key i hin;rw [h2] at hi;cases hi;rfl
theorem shut_ia {zs:List Int} (ht:P.underlying t=some (.array n e)) (he:P.underlying e=some (.int q)) (ct:P.cellsOf t=n) (ce:P.cellsOf e=1) (hl:zs.length=n) (hw:∀ x∈zs,(Lit.int q x).wf=true) :
  DataW.Trod enc P w base sp held t (.agg (zs.map (Value.int q)).toArray) (.agg (zs.map fun x=>.lit (.int q x))) []:=by
 refine⟨2,?_⟩;rw [DataW.trod_step];unfold DataW.trodStep;simp only [ht,Value.cells];rw [if_pos (by simp [ct,hl])];rw [mapM_all (g:=fun i=>(.lit (.int q (zs.getD i 0)),[])) (fun i hi=>?_)]
 ·simp only [Option.map_some,Option.some.injEq,Prod.mk.injEq]
  constructor
  ·congr 1
   apply List.ext_getElem?;intro i;rcases Nat.lt_or_ge i n with h | h
   ·simp [h,List.getD,show i<zs.length from by omega]
   ·rw [List.getElem?_eq_none (by simp;omega),List.getElem?_eq_none (by simp;omega)]
  ·simp [List.flatMap_map]
 ·have hi':i<zs.length:=by simpa [hl] using hi
  rw [ce,Nat.mul_one,DataW.trod_step]
  have:((zs.map (Value.int q)).toArray.toList.drop i).take 1=[.int q zs[i]]:=by
   simp only;rw [List.drop_eq_getElem_cons (by simpa using hi')];simp
  rw [this];unfold DataW.trodStep;simp [he,hw zs[i] (List.getElem_mem hi'),List.getD,hi']
end
theorem wf_isB {zs:List Int} (h:∀ x∈zs,(Lit.int .u8 x).wf=true):isB zs:=fun x hx=>qo2 (h x hx)
end Go.Q
end
section
namespace Go.Q
open Go.ChangeShapes Go.WideShapes
theorem zm7 {α:Type} {R:Nat->α->Prop}:∀ n:Nat,(∀ i,i<n->∃ y,R i y)->∃ ys:List α,ys.length=n/\∀ i y,ys[i]? = some y->R i y
 | 0,_=>⟨[],rfl,by simp⟩
 | n+1,h=>by
  obtain⟨ys,hl,hy⟩:=zm7 n fun i hi=>h i (by omega);obtain⟨y,hR⟩:=h n (by omega);refine⟨ys++[y],by simp [hl],fun i z hz=>?_⟩;rcases Nat.lt_trichotomy i n with hi | hi | hi
  ·rw [List.getElem?_append_left (by omega)] at hz;exact hy i z hz
  ·subst hi
   rw [List.getElem?_append_right (by omega),hl] at hz;simp at hz;subst hz;exact hR
  ·rw [List.getElem?_eq_none (by simp;omega)] at hz;cases hz
section
variable {H:Type} {enc:TypeId × Value->H} {P:Program} {t e:TypeId} {w:World} {base:Nat} {sp:Nat->Bool} {held:Bool}
theorem zta {α β:Type} {f:α->Option β}:∀ {l:List α} {ys:List β},l.mapM f=some ys->ys.length=l.length/\∀(i:Nat) x,l[i]? = some x->∃ y,f x=some y/\ys[i]? = some y
 | [],ys,h=>by simp at h;subst h;simp
 | a :: l,ys,h=>by
  rw [List.mapM_cons] at h
  cases ha:f a with
  | none=>simp [ha] at h
  | some b =>
   cases hl:l.mapM f with
   | none=>simp [ha,hl] at h
   | some zs =>
    simp [ha,hl] at h;subst h;obtain⟨h1,h2⟩:=zta hl;refine⟨by simp [h1],fun i x hx=>?_⟩
    cases i with
    | zero=>simp at hx;subst hx;exact⟨b,ha,rfl⟩
    | succ i=>simp at hx;simpa using h2 i x hx
theorem zqm {w:World} {base:Nat} {a:Addr} {n:Nat} {cs:List Value} (h:w.cells? base a n=some cs):cs.length=n/\CellsAt w.heap a cs:=by
 unfold World.cells? at h;split at h
 ·obtain⟨h1,h2⟩:=zta h
  rw [List.length_range] at h1;refine⟨h1,fun i v hv=>?_⟩;have hi:i<n:=by have:=(List.getElem?_eq_some_iff.1 hv).1;omega
  obtain⟨y,e1,e2⟩:=h2 i i (by simp [hi]);rw [hv] at e2;cases e2;exact e1
 ·cases h
theorem qgt {fuel:Nat} {cs:List Value} {x:DataW H × List MemPlace} (ht:P.underlying t=some (.slice e)) (h:DataW.trod enc P w base sp held fuel t cs=some x) :
  ∃ s:Slc,cs=[Slc.v s]/\s.len<=s.cap/\s.cap<=maxLen/\(s.a=none->s.len=0/\s.cap=0) /\
   ∀ a,s.a=some a->∀ i,i<s.len->∃ es f y,es.length=P.cellsOf e/\CellsAt w.heap (a.add (i*P.cellsOf e)) es/\DataW.trod enc P w base sp held f e es=some y:=by
 rcases DataW.trod_slice ht h with⟨rfl,_⟩ | ⟨a,len,cap,elems,rest,n,_,rfl,_,hb,hl,hm,hlen,hel,_⟩
 ·exact⟨⟨none,0,0⟩,rfl,Nat.le_refl _,by simp [maxLen],fun _=>⟨rfl,rfl⟩,fun a ha=>by cases ha⟩
 ·refine⟨⟨some a,len,cap⟩,rfl,hl,hm,(fun hn=>by cases hn),fun b hb i hi=>?_⟩
  cases hb
  have hi:i<len:=hi;have:=hel i hi;rw [List.getElem?_eq_getElem (by omega),Option.bind_eq_some_iff] at this;obtain⟨es,h1,h2⟩:=this;exact⟨es,n,_,(zqm h1).1,(zqm h1).2,h2⟩
theorem qhh {q:IntKind} {fuel:Nat} {cs:List Value} {x:DataW H × List MemPlace} (ht:P.underlying t=some (.slice e)) (he:P.underlying e=some (.int q)) (ce:P.cellsOf e=1) (h:DataW.trod enc P w base sp held fuel t cs=some x) :
  ∃(s:Slc) (zs:List Int),cs=[Slc.v s]/\s.len<=s.cap/\s.cap<=maxLen/\s.len=zs.length/\SlcAt w.heap s (zs.map (Value.int q))/\∀ n∈zs,(Lit.int q n).wf=true:=by
 obtain⟨s,rfl,h1,h2,h3,h4⟩:=qgt ht h
 cases ha:s.a with
 | none =>
  have:=h3 ha
  exact⟨s,[],rfl,h1,h2,by simp [this],⟨fun _=>rfl,fun b hb=>by rw [ha] at hb;cases hb⟩,by simp⟩
 | some a =>
  obtain⟨zs,hl,hz⟩:=zm7 (R:=fun i n=>zab w.heap (a.add i)=some (.int q n)/\(Lit.int q n).wf=true) s.len fun i hi=>by
   obtain⟨es,f,y,e1,e2,e3⟩:=h4 a ha i hi;obtain⟨n,rfl,_,hw⟩:=DataW.trod_int he e3;rw [ce,Nat.mul_one] at e2;exact⟨n,by have:=e2 0 _ rfl;rwa [show (a.add i).add 0=a.add i from by simp [Addr.add]] at this,hw⟩
  refine⟨s,zs,rfl,h1,h2,hl.symm,⟨(fun hn=>by rw [ha] at hn;cases hn),fun b hb j v hv=>?_⟩,fun n hn=>?_⟩
  ·rw [ha] at hb;cases hb
   rw [List.getElem?_map,Option.map_eq_some_iff] at hv;obtain⟨n,hn,rfl⟩:=hv;exact(hz j n hn).1
  ·obtain⟨i,hi⟩:=List.getElem?_of_mem hn
   exact(hz i n hi).2
def SlI (q:IntKind) (h:zaa) (s:Slc) (zs:List Int):Prop:=s.len=zs.length/\SlcAt h s (zs.map (Value.int q))/\∀ n∈zs,(Lit.int q n).wf=true
theorem open_si {q:IntKind} {fuel:Nat} {cs:List Value} {x:DataW H × List MemPlace} (ht:P.underlying t=some (.slice e)) (he:P.underlying e=some (.int q)) (ce:P.cellsOf e=1) (h:DataW.trod enc P w base sp held fuel t cs=some x) :
  ∃ s:Slc,cs=[Slc.v s]/\s.len<=s.cap/\s.cap<=maxLen/\∃ zs,SlI q w.heap s zs:=by
 obtain⟨s,zs,a,b,c,d,e,f⟩:=qhh ht he ce h;exact⟨s,a,b,c,zs,d,e,f⟩
end
end Go.Q
end
section
namespace Go.Q
theorem qdw {m:Nat}:∀(n:Nat) (cs:List Value),cs.length=n*m->cs=((List.range n).map fun i=>(cs.drop (i*m)).take m).flatten
 | 0,cs,h=>by simp at h;simp [h]
 | n+1,cs,h=>by
  rw [List.range_succ_eq_map,List.map_cons,List.flatten_cons,List.map_map];have h2:=qdw (m:=m) n (cs.drop m) (by rw [List.length_drop,h,Nat.succ_mul,Nat.add_sub_cancel])
  have h3:((List.range n).map ((fun i=>(cs.drop (i*m)).take m) ∘ Nat.succ))=(List.range n).map fun i=>((cs.drop m).drop (i*m)).take m:=by
   apply List.map_congr_left;intro i _;simp only [Function.comp,List.drop_drop,Nat.succ_mul];rw [Nat.add_comm m]
  rw [h3,← h2,Nat.zero_mul,List.drop_zero,List.take_append_drop]
theorem zp3 {H:Type} {enc:TypeId × Value->H} {P:Program} {w:World} {base:Nat} {sp:Nat->Bool} {held:Bool} {fuel:Nat} {t u e:TypeId} {n m:Nat} {k:IntKind} {cs:List Value} {zs:List (List Int)} {p:List MemPlace}
  (ht:P.underlying t=some (.array n u)) (hu:P.underlying u=some (.array m e)) (he:P.underlying e=some (.int k)) (hce:P.cellsOf e=1) (hcu:P.cellsOf u=m) (hct:P.cellsOf t=n*m)
  (h:DataW.trod enc P w base sp held fuel t cs=some (.agg (zs.map (Lib.tabData k)),p)):cs=(zs.flatten).map fun z=>Value.int k z:=by
 obtain⟨xs,f,rfl,hx,hl,hxl,hg⟩:=DataW.trod_array ht h;simp only [Prod.mk.injEq,DataW.agg.injEq] at hx;have hzl:zs.length=n:=by have:=congrArg List.length hx.1;simp at this;omega
 rw [hct] at hl;rw [qdw n cs hl]
 have:((List.range n).map fun i=>(cs.drop (i*m)).take m)=zs.map fun z=>z.map (Value.int k):=by
  apply List.ext_getElem?;intro i;rcases Nat.lt_or_ge i n with hi | hi
  ·have h1:=hg i hi
   rw [hcu] at h1;have hxi:i<xs.length:=by omega
   have hzi:i<zs.length:=by omega
   have h2:xs[i]? = some (Lib.tabData k zs[i],xs[i].2):=by
    have h3:(xs.map (·.1))[i]? = (zs.map (Lib.tabData (H:=H) k))[i]?:=by rw [hx.1]
    simp [hxi,hzi] at h3;rw [List.getElem?_eq_getElem hxi,← h3]
   rw [h2] at h1;have h4:=Lib.cells_of_tab hu he hce hcu h1;simp [hi,hzi,h4]
  ·rw [List.getElem?_eq_none (by simp;omega),List.getElem?_eq_none (by simp;omega)]
 rw [this,List.map_flatten]
theorem tabs_of {P:Program} {W:World} {A B C D E:TypeId}
  (hg:P.globalNamed "quaestor/chacha.quarters" = some 1) (hty:(P.globals[1]?).map (·.type)=some A) (ht:P.underlying A=some (.array 8 B)) (hu:P.underlying B=some (.array 4 C)) (he:P.underlying C=some (.int .i64)) (hce:P.cellsOf C=1) (hcu:P.cellsOf B=4) (hct:P.cellsOf A=32)
  (kg:P.globalNamed "quaestor/sha.rounds" = some 0) (kty:(P.globals[0]?).map (·.type)=some D) (kt:P.underlying D=some (.array 64 E)) (ke:P.underlying E=some (.int .u32)) (kce:P.cellsOf E=1) (kct:P.cellsOf D=64)
  (h:laidMet P [("quaestor/chacha.quarters",.agg (([[0,4,8,12],[1,5,9,13],[2,6,10,14],[3,7,11,15],[0,5,10,15],[1,6,11,12],[2,7,8,13],[3,4,9,14]]:List (List Int)).map (Lib.tabData .i64))),("quaestor/sha.rounds",Lib.tabData .u32 Yo.rcL)] W):Yo.R0 W.heap/\Yo.Ch.Q0 W.heap:=by
 constructor
 ·obtain⟨ps,⟨g',t',cs,fuel,p,q,hg',ht',hvar,hd,_,_⟩,_⟩:=laidMet.tail h
  obtain rfl:=Option.some.inj (kg.symm.trans hg');obtain rfl:=Option.some.inj (kty.symm.trans ht');have h1:=Lib.cells_of_tab kt ke kce kct hd;intro j v hj;have:=World.var?_cell kg hvar j;rw [add_mk,Nat.zero_add];rw [zlo] at this;rw [this,← Array.getElem?_toList,h1];exact hj
 ·obtain⟨ps,⟨g',t',cs,fuel,p,q,hg',ht',hvar,hd,_,_⟩,_⟩:=h
  obtain rfl:=Option.some.inj (hg.symm.trans hg');obtain rfl:=Option.some.inj (hty.symm.trans ht');have h1:=zp3 (m:=4) ht hu he hce hcu hct hd;intro j v hj;have:=World.var?_cell hg hvar j;rw [add_mk,Nat.zero_add];rw [zlo] at this;rw [this,← Array.getElem?_toList,h1];exact hj
theorem qfi {P:Program} (h:∀(g:Nat) (fn:Func),P.funcs[g]? = some fn->fn.goes=false) (f:FuncId):P.goes f=false:=by
 have a:P.funcs.any Func.goes=false:=by
  rw [Array.any_eq_false];intro i hi;rw [h i _ (Array.getElem?_eq_getElem hi)];decide
 have b:((P.closure f).any fun g=>(P.funcs[g]?).any Func.goes)=false:=by
  rw [List.any_eq_false];intro g _
  cases e:P.funcs[g]? with
  | none=>simp
  | some fn=>rw [Option.any_some,h g fn e];decide
 unfold Program.goes;rw [a,b,Bool.and_false];rfl
theorem goesBy_no {P:Program} {c:OpenClaim} (h:P.funcs.any Func.goes=false) (hs:c.start = .entering):false=c.goesBy P:=by
 have h':∀(g:Nat) (fn:Func),P.funcs[g]? = some fn->fn.goes=false:=fun g fn e=>by
  obtain⟨hg,rfl⟩:=Array.getElem?_eq_some_iff.1 e;rw [Array.any_eq_false] at h;have:=h g hg
  cases hh:(P.funcs[g]).goes with
  | false=>rfl
  | true=>exact absurd hh this
 unfold OpenClaim.goesBy Program.goesAt Program.goesFrom;rw [hs]
 cases P.funcNamed c.func with
 | none=>rfl
 | some f=>rw [Option.any_some,qfi h' f];rfl
end Go.Q
end

/- A part of the proof of statements of this seat: lemmas, no statement of their own. -/
import Derived.Test.YtmilimlmimckbaaGreatDoorYoZaa
import Derived.Laws.IdiomCopy
import Derived.ChangeKeysEq
set_option linter.unusedVariables false
set_option linter.unusedSimpArgs false
section
namespace Go.Q
def zab (h:zaa) (a:Addr):Option Value :=
 match h[a.block]? with
 | some (.cells c _ _)=>if a.spot.isSome then none else c[a.off]?
 | _=>none
def zq6 (h:zaa) (a:Addr):Bool :=
 match h[a.block]? with
 | some (.cells _ _ (lo,hi))=>lo<=a.off&&a.off<hi
 | _=>false
def zd7 (h:zaa) (a:Addr) (v:Value):zaa:=h.modify a.block fun
 | .cells c elem frozen=>.cells (if a.spot.isSome then c else c.setIfInBounds a.off v) elem frozen
 | o=>o
def zak (h:zaa) (a:Addr):Nat->List Value->zaa
 | _,[]=>h
 | i,v :: r=>zak (zd7 h (a.add i) v) a (i+1) r
def WrH (h:zaa) (a:Addr):Prop:=(∃ u,zab h a=some u)/\zq6 h a=false
def CellsAt (h:zaa) (a:Addr) (vs:List Value):Prop:=∀ j v,vs[j]? = some v->zab h (a.add j)=some v
def WrsAt (h:zaa) (a:Addr) (n:Nat):Prop:=∀ j,j<n->WrH h (a.add j)
theorem zlo (w:World) (a:Addr):w.cell? a=zab w.heap a:=rfl
theorem zx1 (w:World) (a:Addr):w.frozen? a=zq6 w.heap a:=rfl
theorem qa4 (w:World) (a:Addr) (v:Value):(w.setCell a v).heap=zd7 w.heap a v:=rfl
theorem WW.set {D:Bool} (w:World) (a:Addr) (v:Value):WW D w (zd7 w.heap a v) (w.setCell a v):=⟨rfl,rfl,rfl,rfl,fun _=>by first | exact Nat.le_refl _ | exact Nat.le_succ _⟩
section
variable {P:Program} {T:Tab} {e:Env} {h:zaa} {o:Oper}
theorem zut {x:Operand} {a:Addr} (ho:o.op = .nilCheck x) (hx:evO e x=some (.pointer (some a))):Yl P e h o (.pointer (some a)):=by
 intro ρ w hA hw;simp [execOp,ho,hA _ _ hx]
theorem zza {x:Operand} {a:Addr} {p:Option Addr} (ho:o.op = .nilCheck x) (hx:evO e x=some (.pointer p)) (hp:p=some a):Yl P e h o (.pointer (some a)):=by
 subst hp;exact zut ho hx
theorem zbd (hT:TOk P T) {t:Nat} {x:Operand} {a:Addr} {v:Value} {i:TI} (ho:o.op = .load t x) (hx:evO e x=some (.pointer (some a))) (ht:tlk T t=some i) (hi:isA i.d=false) (hc:zab h a=some v):Yl P e h o v:=by
 intro ρ w hA hw;subst hw;simp [execOp,ho,hA _ _ hx,Instr.loadAt,Instr.sureAddr,loadVar,zdw (hT _ _ ht),hi,load,Sem.run,zlo,hc]
theorem zhv (hT:TOk P T) {t:Nat} {x:Operand} {a:Addr} {vs:List Value} {i:TI} (ho:o.op = .load t x) (hx:evO e x=some (.pointer (some a))) (ht:tlk T t=some i) (hi:isA i.d=true) (hn:vs.length=i.n) (hc:CellsAt h a vs):Yl P e h o (.agg vs.toArray):=by
 intro ρ w hA hw;subst hw;have:=run_loadCells_list (P:=P) (w:=w) a vs hc;rw [hn] at this;simp [execOp,ho,hA _ _ hx,Instr.loadAt,Instr.sureAddr,loadVar,zdw (hT _ _ ht),hi,zah (hT _ _ ht),this]
theorem qk6 (hT:TOk P T) {t el:Nat} {x y:Operand} {a:Addr} {len cap:Nat} {k:IntKind} {ix:Int} {n1 b1:Nat} {z1:List Value} {i:TI} (ho:o.op = .indexAddr t x y) (hx:evO e x=some (.slice (some a) len cap)) (hy:evO e y=some (.int k ix))
  (ht:tlk T t=some ⟨.slice el,n1,b1,z1⟩) (hi:tlk T el=some i) (h0:0<=ix) (h1:ix<len):Yl P e h o (.pointer (some (a.add (ix.toNat*i.n)))):=by
 intro ρ w hA hw;obtain⟨td,k1,k3⟩:=zai hT ht;rw [zce k3] at k1;simp [execOp,ho,hA _ _ hx,hA _ _ hy,Instr.indexAt,asIntOf,run_underlying k1,h0,h1,zah (hT _ _ hi)]
theorem za6 (hT:TOk P T) {t el:Nat} {x y:Operand} {a:Addr} {base:Option Addr} {len cap:Nat} {k:IntKind} {ix:Int} {n1 b1:Nat} {z1:List Value} {i:TI} (ho:o.op = .indexAddr t x y) (hx:evO e x=some (.slice base len cap)) (hb:base=some a) (hy:evO e y=some (.int k ix))
  (ht:tlk T t=some ⟨.slice el,n1,b1,z1⟩) (hi:tlk T el=some i) (h0:0<=ix) (h1:ix<len):Yl P e h o (.pointer (some (a.add (ix.toNat*i.n)))):=by
 subst hb;exact qk6 hT ho hx hy ht hi h0 h1
theorem zbw (hT:TOk P T) {t el n:Nat} {x y:Operand} {a:Addr} {k:IntKind} {ix:Int} {n1 b1:Nat} {z1:List Value} {i:TI} (ho:o.op = .indexAddr t x y) (hx:evO e x=some (.pointer (some a))) (hy:evO e y=some (.int k ix))
  (ht:tlk T t=some ⟨.array n el,n1,b1,z1⟩) (hi:tlk T el=some i) (h0:0<=ix) (h1:ix<n):Yl P e h o (.pointer (some (a.add (ix.toNat*i.n)))):=by
 intro ρ w hA hw;obtain⟨td,k1,k3⟩:=zai hT ht;rw [zf4 k3] at k1;simp [execOp,ho,hA _ _ hx,hA _ _ hy,Instr.indexAt,asIntOf,run_underlying k1,h0,h1,zah (hT _ _ hi),Instr.sureAddr]
theorem qmu (hT:TOk P T) {t:Nat} {x y:Operand} {s:ByteArray} {k:IntKind} {ix:Int} {n1 b1:Nat} {z1:List Value} (ho:o.op = .index t x y) (hx:evO e x=some (.string s)) (hy:evO e y=some (.int k ix))
  (ht:tlk T t=some ⟨.string,n1,b1,z1⟩) (h0:0<=ix) (h1:ix.toNat<s.size):Yl P e h o (.int .u8 (s[ix.toNat]'h1).toNat):=by
 intro ρ w hA hw;obtain⟨td,k1,k3⟩:=zai hT ht;rw [zen k3] at k1;simp [execOp,ho,hA _ _ hx,hA _ _ hy,Instr.index,asIntOf,run_underlying k1,h0,h1]
def qae (s:ByteArray) (ix v:Int):Prop:=∃ h:ix.toNat<s.size,v=((s[ix.toNat]'h).toNat:Int)
theorem qcw (hT:TOk P T) {t:Nat} {x y:Operand} {s:ByteArray} {k:IntKind} {ix v:Int} {n1 b1:Nat} {z1:List Value} (ho:o.op = .index t x y) (hx:evO e x=some (.string s)) (hy:evO e y=some (.int k ix))
  (ht:tlk T t=some ⟨.string,n1,b1,z1⟩) (h0:0<=ix) (hs:qae s ix v):Yl P e h o (.int .u8 v):=by
 obtain⟨h1,rfl⟩:=hs;exact qmu hT ho hx hy ht h0 h1
theorem qjh (hT:TOk P T) {t el n:Nat} {x y:Operand} {cs:Array Value} {k:IntKind} {ix:Int} {n1 b1:Nat} {z1:List Value} {i:TI} {v:Value} (ho:o.op = .index t x y) (hx:evO e x=some (.agg cs)) (hy:evO e y=some (.int k ix))
  (ht:tlk T t=some ⟨.array n el,n1,b1,z1⟩) (hi:tlk T el=some i) (hd:isA i.d=false) (h0:0<=ix) (h1:ix<n) (hv:cs.toList[ix.toNat*i.n]? = some v):Yl P e h o v:=by
 intro ρ w hA hw;obtain⟨td,k1,k3⟩:=zai hT ht;rw [zf4 k3] at k1;have hv':cs[ix.toNat*i.n]? = some v:=by simpa using hv
 simp [execOp,ho,hA _ _ hx,hA _ _ hy,Instr.index,asIntOf,run_underlying k1,h0,h1,part,zdw (hT _ _ hi),hd,zah (hT _ _ hi),hv']
theorem qd9 (hT:TOk P T) {t:Nat} {x y:Operand} {a:Addr} {v:Value} {i:TI} (ho:o.op = .store t x y) (hx:evO e x=some (.pointer (some a))) (hy:evO e y=some v) (ht:tlk T t=some i) (hn:Nat.beq i.n 1=true) (hv:v.oneCell'=true) {h':zaa} (hc:WrH h a) (he:h'=zd7 h a v):Yh P e h o undef h':=by
 intro ρ w hA hw;subst he;subst hw;obtain⟨⟨u,hu⟩,hf⟩:=hc;refine⟨_,WW.set w a v,.inr ⟨?_,rfl⟩⟩;have hn':=Nat.eq_of_beq_eq_true hn;have hcs:v.cells = #[v]:=by cases v <;> first | rfl | (simp [Value.oneCell'] at hv)
 have hst:=run_store P w a v .plain hv;simp [execOp,ho,hA _ _ hx,hA _ _ hy,Instr.storeAt,Instr.sureAddr,storeVar,hcs,zah (hT _ _ ht),hn',storeCells];rw [show a.add 0=a from rfl,hst];simp [zlo,zx1,hu,hf]
theorem zwz {t:Nat} {x:Operand} {v:Value} {b:Nat} {h':zaa} (ho:o.op = .box t x) (hx:evO e x=some v) (hb:b=h.size) (he:h'=h.push (.cells v.cells t)):Yh P e h o (.pointer (some ⟨b,0,none⟩)) h':=by
 intro ρ w hA hw;subst hb;subst he;subst hw;exact⟨{ w with heap:=w.heap.push (.cells v.cells t) },⟨rfl,rfl,rfl,rfl,fun _=>by first | exact Nat.le_refl _ | exact Nat.le_succ _⟩,.inl (by simp [execOp,ho,hA _ _ hx,Instr.box,newVar,newRow,newObj,Sem.run])⟩
theorem zkz (hT:TOk P T) {t:Nat} {i:TI} (ht:tlk T t=some i) (w:World):∃ v,(zeroValue t).run P w = .ok v w/\v.cells.toList=i.z/\(isA i.d=true->v = .agg i.z.toArray):=by
 obtain⟨d,ti,_,h2,_,_,_,v,h5,h6,h7⟩:=zee (hT _ _ ht);exact⟨v,by simp [zeroValue,typeInfo,h2,h5],h6,h7⟩
theorem zlr (hT:TOk P T) {t:Nat} {i:TI} {b:Nat} {h':zaa} (ho:o.op = .alloc t) (ht:tlk T t=some i) (hb:b=h.size) (he:h'=h.push (.cells i.z.toArray t)):Yh P e h o (.pointer (some ⟨b,0,none⟩)) h':=by
 intro ρ w hA hw;subst hb;subst he;subst hw;obtain⟨v,h1,h2,_⟩:=zkz hT ht w;refine⟨{ w with heap:=w.heap.push (.cells v.cells t) },⟨rfl,rfl,rfl,?_,fun _=>by first | exact Nat.le_refl _ | exact Nat.le_succ _⟩,.inl ?_⟩
 ·have:v.cells=i.z.toArray:=Array.toList_inj.1 (by simpa using h2)
  rw [this]
 ·simp [execOp,ho,Instr.alloc,h1,newVar,newRow,newObj,Sem.run]
end
def evs (e:Env):List Operand->Option (List Value)
 | []=>some []
 | x :: r=>match evO e x with | some v=>(match evs e r with | some vs=>some (v :: vs) | none=>none) | none=>none
theorem zlp {e:Env} {ρ:Operand->Value} (hA:Agr e ρ):∀(l:List Operand) (vs:List Value),evs e l=some vs->l.map ρ=vs
 | [],vs,h=>by simp [evs] at h;subst h;rfl
 | x :: r,vs,h=>by
  simp only [evs] at h
  cases h1:evO e x with
  | none=>simp [h1] at h
  | some v =>
   simp only [h1] at h
   cases h2:evs e r with
   | none=>simp [h2] at h
   | some us =>
    simp [h2] at h;subst h;simp [hA _ _ h1,zlp hA r us h2]
def zad (P:Program) (f:FuncId):Prop:=∃ fn,P.funcs[f]? = some fn/\(fn.name == "runtime.NumGoroutine")=false/\fn.body.isNone=false
theorem zqn {P:Program} {f:FuncId} (h:zad P f) (args:Array Value) (w:World):(callFunc f args).run P w = .ok (.enter f args) w:=by
 obtain⟨fn,h1,h2,h3⟩:=h;simp only [beq_eq_false_iff_ne,ne_eq] at h2;have h4:¬ fn.body=none:=by intro h;simp [h] at h3
 simp [callFunc,program,Sem.run,h1,h2,h4]
theorem zt1 {P:Program} {e:Env} {o:Oper} {f:FuncId} {x:Operand} {as':List Operand} {ts:Array TypeId} {vs:List Value} {first cap:Array Value} (hf:zad P f) (ho:o.op = .call { callee:=.value x,args:=as'.toArray,argTypes:=ts }) (hx:evO e x=some (.func (.func f) first cap)) (hv:evs e as'=some vs) :
  Yc P e o f (first++vs.toArray++cap):=by
 intro ρ w hA;have hm:=zlp hA _ _ hv;simp [execOp,ho,resolve,hA _ _ hx,Deferred.ofValue,invoke,zqn hf,hm]
theorem zho {c:Cx} {lops:List Oper} {Q:Exit->Act->World->Prop} {K:Act->World->Prop} {l:List Oper} {e:Env} {h:zaa} {o:Oper} {f:FuncId} {as':List Operand} {ts:Array TypeId} {vs:List Value} {Φ:Value->zaa->Prop}
  (hf:zad c.P f) (hc:CallsHD c.D c.P f vs.toArray h Φ) (ho:o.op = .call { callee:=.value (.func f),args:=as'.toArray,argTypes:=ts }) (hv:evs e as'=some vs) (hw:wnt lops e o=some true) (hd:dOk c.N o.dst=true)
  (H:∀ v h',Φ v h'->gop c lops Q K l (pu e o.dst v) h'):gop c lops Q K (o :: l) e h:=by
 have:=zt1 (P:=c.P) (e:=e) (o:=o) hf ho rfl hv;simp only [List.append_toArray,List.nil_append,Array.append_empty,Array.empty_append] at this;exact w_c hc this hw hd H
section
variable {c:Cx} {lops:List Oper} {Q:Exit->Act->World->Prop} {K:Act->World->Prop} {l:List Oper} {e:Env} {h:zaa} {o:Oper} {T:Tab} {v:Value} {q:Act->Prop}
theorem w_p (hT:TOk c.P T) (hp:pev T e o.op=some v) (hw:wnt lops e o=some true) (hd:dOk c.N o.dst=true) (H:gop c lops Q K l (pu e o.dst v) h):gop c lops Q K (o :: l) e h:=w_y (zdh hT hp) hw hd H
theorem zdg {v':Value} (hT:TOk c.P T) (hp:pev T e o.op=some v) (hv:v'=v) (hw:wnt lops e o=some true) (hd:dOk c.N o.dst=true) (H:gop c lops Q K l (pu e o.dst v') h):gop c lops Q K (o :: l) e h:=by
 subst hv;exact w_y (zdh hT hp) hw hd H
theorem q_p (hT:TOk c.P T) (hp:pev T e o.op=some v) (hw:wnt lops e o=some true) (hd:dOk c.N o.dst=true) (H:gq c lops h q l (pu e o.dst v)):gq c lops h q (o :: l) e:=q_y (zdh hT hp) hw hd H
end
end Go.Q
end
section
namespace Go.Q
structure Slc where
 a:Option Addr
 len:Nat
 cap:Nat
@[reducible] def Slc.v (s:Slc):Value:=.slice s.a s.len s.cap
theorem zle {h:zaa} {a p:Addr} {v:Value} (hne:p.block≠a.block∨p.off≠a.off):zab (zd7 h a v) p=zab h p:=by
 unfold zab zd7;rw [Array.getElem?_modify];by_cases hb:a.block=p.block
 ·rw [if_pos hb]
  have hoff:a.off≠p.off:=by rcases hne with h1 | h1 <;> omega
  cases hx:h[p.block]? with
  | none=>simp
  | some ob =>
   cases ob <;> simp
   rename_i cs el fr
   cases hs:a.spot <;> simp [Array.getElem?_setIfInBounds_ne hoff]
 ·rw [if_neg hb]
theorem zkd {h:zaa} {a:Addr} {u v:Value} (hc:zab h a=some u):zab (zd7 h a v) a=some v:=by
 unfold zab zd7 at *;rw [Array.getElem?_modify,if_pos rfl]
 cases hx:h[a.block]? with
 | none=>simp [hx] at hc
 | some ob =>
  cases ob <;> simp [hx] at hc ⊢
  rename_i cs el fr;obtain⟨h1,h2⟩:=hc;simp only [h1];have:=(Array.getElem?_eq_some_iff.1 h2).1;simp [this]
theorem zu0 {h:zaa} {a p:Addr} {v:Value}:zq6 (zd7 h a v) p=zq6 h p:=by
 unfold zq6 zd7;rw [Array.getElem?_modify];by_cases hb:a.block=p.block
 ·rw [if_pos hb]
  cases hx:h[p.block]? with
  | none=>simp
  | some ob=>cases ob <;> simp
 ·rw [if_neg hb]
theorem WrH.set {h:zaa} {a p:Addr} {v:Value} (hp:WrH h p):WrH (zd7 h a v) p:=by
 refine⟨?_,by rw [zu0];exact hp.2⟩;obtain⟨u,hu⟩:=hp.1;unfold zab zd7 at *;rw [Array.getElem?_modify];by_cases hb:a.block=p.block
 ·rw [if_pos hb]
  cases hx:h[p.block]? with
  | none=>simp [hx] at hu
  | some ob =>
   cases ob <;> simp [hx] at hu ⊢
   rename_i cs el fr;obtain⟨h1,h2⟩:=hu;have hlt:=(Array.getElem?_eq_some_iff.1 h2).1;simp only [h1,true_and]
   cases hs:a.spot <;> simp [hlt]
 ·rw [if_neg hb];exact⟨u,hu⟩
theorem zck (P:Program) (a:Addr):∀(vs:List Value) (i:Nat) (w:World),(∀ j,j<vs.length->WrH w.heap (a.add (i+j)))->(∀ v∈vs,v.oneCell'=true) ->
  ∃ w',WW true w (zak w.heap a i vs) w'/\(storeCells a vs i).run P w = .ok () w'
 | [],i,w,_,_=>⟨w,WW.self w,by simp [storeCells]⟩
 | v :: r,i,w,hw,h1=>by
  have hw0:=hw 0 (by simp);simp only [Nat.add_zero] at hw0;obtain⟨⟨u,hu⟩,hf⟩:=hw0;have hst:=run_store P w (a.add i) v .plain (h1 v (by simp));simp only [zlo,zx1,hu,hf] at hst
  obtain⟨w',k1,k2⟩:=zck P a r (i+1) (w.setCell (a.add i) v) (fun j hj=>by
   have:=hw (j+1) (by simp;omega);rw [show i+(j+1)=i+1+j from by omega] at this;rw [qa4]
   exact this.set) (fun x hx=>h1 x (by simp [hx]))
  refine⟨w',(WW.set w (a.add i) v).trans k1,?_⟩;simp only [storeCells,Sem.run_bind];rw [hst];simpa using k2
def bld (T:Tab) (place:Nat->Option (Nat × Nat)):List Value->List (Nat × Value)->Option (List Value)
 | cells,[]=>some cells
 | cells,(i,v) :: r =>
  match place i with
  | none=>none
  | some (off,size)=>if v.cells.size=size/\off+size<=cells.length then bld T place (cells.take off++v.cells.toList++cells.drop (off+size)) r else none
theorem zur:∀(vs:List Value) (off k:Nat) (cs:Array Value),off+k+vs.length<=cs.size ->
  ((vs.zipIdx k).foldl (fun(cs:Array Value) (x:Value × Nat)=>cs.setIfInBounds (off+x.2) x.1) cs).toList=cs.toList.take (off+k)++vs++cs.toList.drop (off+k+vs.length)
 | [],off,k,cs,h=>by simp
 | v :: r,off,k,cs,h=>by
  simp only [List.zipIdx_cons,List.foldl_cons];simp only [List.length_cons] at h;rw [zur r off (k+1) _ (by simp;omega)];have hlt:off+k<cs.toList.length:=by simp;omega
  simp only [Array.toList_setIfInBounds,List.length_cons];rw [show off+(k+1)=(off+k)+1 from by omega];rw [List.take_set,List.drop_set_of_lt (by omega)];rw [List.take_succ_eq_append_getElem hlt,List.set_append_right _ _ (by simp;omega)];simp only [List.length_take,Array.length_toList];rw [show off+k-min (off+k) cs.size=0 from by simp at hlt;omega];simp [show off+k+1+r.length=off+k+(r.length+1) from by omega]
theorem zmu (T:Tab) (place:Nat->Option (Nat × Nat)):∀(parts:List (Nat × Value)) (cells:List Value) (out:List Value),bld T place cells parts=some out->Instr.fill place cells.toArray parts=some out.toArray
 | [],cells,out,h=>by simp [bld] at h;subst h;rfl
 | (i,v) :: r,cells,out,h=>by
  simp only [bld] at h;simp only [Instr.fill]
  cases hp:place i with
  | none=>simp [hp] at h
  | some os =>
   obtain⟨off,size⟩:=os;simp only [hp] at h ⊢;split at h
   ·rename_i hc
    have:=zmu T place r _ out h;rw [if_neg (by simp;omega)];rw [← this];congr 1;apply Array.toList_inj.1;have hfp:=zur v.cells.toList off 0 cells.toArray (by simp;omega);simp only [Nat.add_zero,List.toList_toArray,Array.length_toList] at hfp;rw [← Array.foldl_toList];simp only [Array.toList_zipIdx];rw [hfp,hc.1]
   ·cases h
section
variable {P:Program} {T:Tab} {e:Env} {h:zaa} {o:Oper}
def evp (e:Env):List (Nat × Operand)->Option (List (Nat × Value))
 | []=>some []
 | (i,x) :: r=>match evO e x with | some v=>(match evp e r with | some vs=>some ((i,v) :: vs) | none=>none) | none=>none
theorem zpc {ρ:Operand->Value} (hA:Agr e ρ):∀(l:List (Nat × Operand)) (vs:List (Nat × Value)),evp e l=some vs->l.map (fun p=>(p.1,ρ p.2))=vs
 | [],vs,h=>by simp [evp] at h;subst h;rfl
 | (i,x) :: r,vs,h=>by
  simp only [evp] at h
  cases h1:evO e x with
  | none=>simp [h1] at h
  | some v =>
   simp only [h1] at h
   cases h2:evp e r with
   | none=>simp [h2] at h
   | some us =>
    simp [h2] at h;subst h;simp [hA _ _ h1,zpc hA r us h2]
def szs (T:Tab):List (Nat × Nat)->Option (List (Nat × Nat))
 | []=>some []
 | (ft,off) :: r=>match tlk T ft with | some i=>(match szs T r with | some l=>some ((off,i.n) :: l) | none=>none) | none=>none
theorem zul (hT:TOk P T) (w:World):∀(gs:List Field) (fs l:List (Nat × Nat)),gs.map (fun f=>(f.type,f.offset))=fs->szs T fs=some l ->
  (gs.mapM (m:=Sem) fun f=>do pure (f.offset,← sizeOf f.type)).run P w = .ok l w
 | [],fs,l,h1,h2=>by simp at h1;subst h1;simp [szs] at h2;subst h2;simp
 | g :: gs,fs,l,h1,h2=>by
  simp only [List.map_cons] at h1;subst h1;simp only [szs] at h2
  cases k1:tlk T g.type with
  | none=>simp [k1] at h2
  | some i =>
   simp only [k1] at h2
   cases k2:szs T (gs.map (fun f=>(f.type,f.offset))) with
   | none=>simp [k2] at h2
   | some l' =>
    simp [k2] at h2;subst h2;have ih:=zul hT w gs _ l' rfl k2;simp only [List.mapM_cons,Sem.run_bind,zah (hT _ _ k1),Result.andThen_ok,Sem.run_pure];rw [ih];simp
theorem zer (hT:TOk P T) {t:Nat} {parts:List (Nat × Operand)} {fs l:List (Nat × Nat)} {n b:Nat} {z:List Value} {vs:List (Nat × Value)} {out:List Value} (ho:o.op = .build t parts.toArray) (ht:tlk T t=some ⟨.struct fs,n,b,z⟩)
  (hl:szs T fs=some l) (hv:evp e parts=some vs) (hb:bld T (l[·]?) z vs=some out):Yl P e h o (.agg out.toArray):=by
 intro ρ w hA hw;obtain⟨zv,z1,z2,_⟩:=zkz hT ht w;obtain⟨td,k1,k3⟩:=zai hT ht;obtain⟨gs,rfl,hgs⟩:=znm k3;have hm:=zpc hA _ _ hv;have hz:zv.cells=z.toArray:=Array.toList_inj.1 (by simpa using z2);have hf:=zmu T (l[·]?) vs z out hb;have hs:=zul hT w gs.toList fs l hgs hl
 have hmm:(gs.mapM (m:=Sem) fun f=>do pure (f.offset,← sizeOf f.type)).run P w = .ok l.toArray w:=by
  rw [← Array.toArray_toList (xs:=gs),List.mapM_toArray];simp only [Sem.run_map,hs];rfl
 simp only [execOp,ho,Instr.build,Sem.run_bind,z1,Result.andThen_ok,run_underlying k1];rw [hmm];simp only [Result.andThen_ok,List.map_toArray,List.getElem?_toArray,hm,hz];rw [hf];simp
end
end Go.Q
end
section
namespace Go.Q
def SlcAt (h:zaa) (s:Slc) (vs:List Value):Prop:=(s.a=none->vs=[])/\∀ a,s.a=some a->CellsAt h a vs
def App (E esz:Nat) (bytes:Nat) (z:List Value) (h:zaa) (s:Slc) (m:Nat) (news:List Value) (k:Slc->zaa->Prop):Prop :=
 news.length=m*esz/\(∀ v∈news,v.oneCell'=true)/\(s.len+m)*bytes<=140737488355328/\s.len+m<=maxLen /\
 (s.len+m<=s.cap->(s.a=none->news=[])/\(∀ a,s.a=some a->WrsAt h (a.add (s.len*esz)) news.length) /\
  k ⟨s.a,s.len+m,s.cap⟩ (match s.a with | some a=>zak h (a.add (s.len*esz)) 0 news | none=>h)) /\
 (s.cap<s.len+m->∃ olds,olds.length=s.len*esz/\SlcAt h s olds/\∀ c,s.len+m<=c->c<=maxLen ->
  k ⟨some ⟨h.size,0,none⟩,s.len+m,c⟩ (h.push (.cells (olds.toArray++news.toArray++Builtin.zeroCells z.toArray (c-(s.len+m))) E)))
section
variable {P:Program} {T:Tab} {e:Env} {h:zaa} {o:Oper}
theorem zcl {n sz:Nat} {s:Slc} {vs:List Value} (w:World) (hl:vs.length=n*sz) (hs:SlcAt w.heap s vs) (hn:s.a=none->s.len=0/\s.cap=0∨True):(Builtin.firstCells sz n s.v).run P w = .ok vs.toArray w:=by
 obtain⟨a,len,cap⟩:=s
 cases a with
 | none =>
  have:=hs.1 rfl;subst this
  simp [Slc.v,Builtin.firstCells]
 | some a=>exact run_firstCells_some (P:=P) w sz n a len cap vs hl (hs.2 a rfl)
theorem zan {h h':zaa} {b el n m:Nat} {vs:List Value} (hb:b=h.size) (he:h'=h.push (.cells vs.toArray el)):SlcAt h' ⟨some ⟨b,0,none⟩,n,m⟩ vs:=by
 subst hb;subst he;refine⟨by simp,fun a ha j v hj=>?_⟩;simp only [Option.some.injEq] at ha;subst ha;have hadd:(⟨h.size,0,none⟩:Addr).add j=⟨h.size,j,none⟩:=by unfold Addr.add;split <;> simp_all
 rw [hadd];simp [zab,hj]
theorem tI {i:TI} {t:Nat} (hT:TOk P T) (ht:tlk T t=some i):∃ ti,P.info? t=some ti/\ti.size=i.n/\ti.bytes=i.b/\∃ v,ti.zero=some v/\v.cells.toList=i.z:=by
 obtain⟨d,ti,_,h2,_,h4,h5,v,h6,h7,_⟩:=zee (hT _ _ ht);exact⟨ti,h2,h4,h5,v,h6,h7⟩
theorem zat (hT:TOk P T) {t el n1 b1:Nat} {z1:List Value} {i:TI} {x y:Operand} {s r:Slc} {news:List Value} {k:Slc->zaa->Prop}
  (ho:o.op = .call { callee:=.builtin .append,args:=#[x,y],argTypes:=#[t,t] }) (hx:evO e x=some s.v) (hy:evO e y=some r.v) (ht:tlk T t=some ⟨.slice el,n1,b1,z1⟩) (hi:tlk T el=some i)
  (hr:SlcAt h r news) (H:App el i.n i.b i.z h s r.len news k):Ya P e h o fun v h'=>∃ s',v=s'.v/\k s' h':=by
 intro ρ w hA hw;subst hw;obtain⟨td,k1,k3⟩:=zai hT ht;rw [zce k3] at k1;obtain⟨ti,i1,i2,i3,zv,i4,i5⟩:=tI hT hi;obtain⟨g1,g2,g3,g4,g5,g6⟩:=H;have hzv:zv.cells=i.z.toArray:=Array.toList_inj.1 (by simpa using i5);have hlen:∀ w,(Builtin.lenOf r.v).run P w = .ok r.len w:=fun w=>by simp [Builtin.lenOf]
 by_cases hroom:s.len+r.len<=s.cap
 ·obtain⟨c1,c2,c3⟩:=g5 hroom
  have hf:=zcl (P:=P) (n:=r.len) (sz:=i.n) w g1 hr (fun _=>.inr trivial);obtain⟨a,len,cap⟩:=s
  cases a with
  | none =>
   refine⟨(⟨none,len+r.len,cap⟩:Slc).v,w,WW.self w,⟨⟨none,len+r.len,cap⟩,rfl,c3⟩,?_⟩;simp [execOp,ho,resolve,invoke,builtin,hA _ _ hx,hA _ _ hy,Builtin.append_,run_underlying k1,sizeOf,typeInfo,i1,i2,hlen];simp only at hroom;simp only [Slc.v] at hf
   simp [Builtin.lenOf,hroom,hf]
  | some a =>
   obtain⟨w',k5,k6⟩:=zck P (a.add (len*i.n)) news 0 w (by simpa [WrsAt] using c2 a rfl) g2;refine⟨(⟨some a,len+r.len,cap⟩:Slc).v,w',?_,⟨⟨some a,len+r.len,cap⟩,rfl,?_⟩,?_⟩
   ·exact⟨k5.os,k5.tape,k5.output,rfl,k5.dr⟩
   ·rw [k5.heap];exact c3
   ·simp only at hroom
    simp only [Slc.v] at hf;simp [execOp,ho,resolve,invoke,builtin,hA _ _ hx,hA _ _ hy,Builtin.append_,run_underlying k1,sizeOf,typeInfo,i1,i2,hlen];simp [Builtin.lenOf,hroom,hf,k6]
 ·obtain⟨olds,o1,o2,o3⟩:=g6 (by omega)
  have hge:=grownCap_ge w (s.len+r.len) s.cap el;have hle:=grownCap_le_maxLen w (s.len+r.len) s.cap el g4;have hfo:=zcl (P:=P) (n:=s.len) (sz:=i.n) w.drew (s:=s) o1 o2 (fun _=>.inr trivial);have hfn:=zcl (P:=P) (n:=r.len) (sz:=i.n) w.drew (s:=r) g1 hr (fun _=>.inr trivial);refine⟨(⟨some ⟨w.heap.size,0,none⟩,s.len+r.len,grownCap w (s.len+r.len) s.cap el⟩:Slc).v,w.drew.alloc (.cells (olds.toArray++news.toArray++Builtin.zeroCells i.z.toArray (grownCap w (s.len+r.len) s.cap el-(s.len+r.len))) el),?_,⟨⟨some ⟨w.heap.size,0,none⟩,s.len+r.len,grownCap w (s.len+r.len) s.cap el⟩,rfl,?_⟩,?_⟩
  ·exact⟨rfl,rfl,rfl,rfl,fun _=>by first | exact Nat.le_refl _ | exact Nat.le_succ _⟩
  ·exact o3 _ hge hle
  ·have h63:s.len+r.len<=9223372036854775807:=by simp only [maxLen] at g4;omega
   have hfit:=growslice_fits (need:=s.len+r.len) (old:=s.cap) (bytes:=i.b) (by omega) g3;have h63':¬ (9223372036854775807<((s.len:Int)+(r.len:Int))):=by omega
   have h48':¬ (281474976710656<Builtin.nextslicecap (s.len+r.len) s.cap*i.b):=by omega
   simp [execOp,ho,resolve,invoke,builtin,hA _ _ hx,hA _ _ hy,Builtin.append_,run_underlying k1,sizeOf,typeInfo,zeroValue,i1,i2,i3,i4,Builtin.lenOf,hroom,h63',h48',Question.forced,newRow,grownCap];simp [hfo,hfn];rw [hzv];congr 2;apply Array.ext';simp
theorem zrx (hT:TOk P T) {t:Nat} {x y:Operand} {a:Addr} {vs:List Value} {i:TI} (ho:o.op = .store t x y) (hx:evO e x=some (.pointer (some a))) (hy:evO e y=some (.agg vs.toArray)) (ht:tlk T t=some i) (hn:i.n=vs.length) (hv:∀ v∈vs,v.oneCell'=true) {h':zaa} (hc:WrsAt h a i.n) (he:h'=zak h a 0 vs):Yh P e h o undef h':=by
 intro ρ w hA hw;subst hw;subst he;rw [hn] at hc;obtain⟨w',k1,k2⟩:=zck P a vs 0 w (by simpa [WrsAt] using hc) hv;refine⟨w',k1,.inr ⟨?_,rfl⟩⟩;simp [execOp,ho,hA _ _ hx,hA _ _ hy,Instr.storeAt,Instr.sureAddr,storeVar,Value.cells,zah (hT _ _ ht),hn,k2]
def zcb (s:Slc) (esz l h m:Nat):Slc:=⟨if m=l then s.a else s.a.map (·.add (l*esz)),h-l,m-l⟩
def evB (e:Env) (d:Int):Option Operand->Option Int
 | none=>some d
 | some x=>match evO e x with | some (.int _ n)=>some n | _=>none
theorem zfa {e:Env} {ρ:Operand->Value} (hA:Agr e ρ) {x:Operand} {n:Int} (h:evB e 0 (some x)=some n) {y:Nat} {c:BoundsCode} (h0:0<=n) (h1:n<=y) (w:World):(Instr.sliceBound (ρ x) y c).run P w = .ok n.toNat w:=by
 simp only [evB] at h;split at h
 ·rename_i hv
  simp only [Option.some.injEq] at h;subst h;simp [Instr.sliceBound,hA _ _ hv,asIntOf,h0,h1]
 ·cases h
theorem zz0 (hT:TOk P T) {t el n1 b1:Nat} {z1:List Value} {i:TI} {x:Operand} {lo hi mx:Option Operand} {s:Slc} {L H M:Int}
  (ho:o.op = .slice t x lo hi mx) (hx:evO e x=some s.v) (ht:tlk T t=some ⟨.slice el,n1,b1,z1⟩) (hi':tlk T el=some i)
  (hlo:evB e 0 lo=some L) (hhi:evB e s.len hi=some H) (hmx:evB e s.cap mx=some M) (hs:mx.isSome=true->hi.isSome=true) (h0:0<=L) (h1:L<=H) (h2:H<=M) (h3:M<=s.cap) :
  Yl P e h o (zcb s i.n L.toNat H.toNat M.toNat).v:=by
 intro ρ w hA hw;obtain⟨td,k1,k3⟩:=zai hT ht;rw [zce k3] at k1;have hM:∀ y:Operand,mx=some y->∀ c w,(Instr.sliceBound (ρ y) s.cap c).run P w = .ok M.toNat w:=fun y hy c w=>by subst hy;exact zfa hA hmx (by omega) (by omega) w
 have hH:∀ y:Operand,hi=some y->∀ c w,(Instr.sliceBound (ρ y) M.toNat c).run P w = .ok H.toNat w:=fun y hy c w=>by subst hy;exact zfa hA hhi (by omega) (by omega) w
 have hL:∀ y:Operand,lo=some y->∀ c w,(Instr.sliceBound (ρ y) H.toNat c).run P w = .ok L.toNat w:=fun y hy c w=>by subst hy;exact zfa hA hlo (by omega) (by omega) w
 have eM:mx=none->M.toNat=s.cap:=fun hn=>by subst hn;simp [evB] at hmx;omega
 have eH:hi=none->H.toNat=s.len:=fun hn=>by subst hn;simp [evB] at hhi;omega
 have eL:lo=none->L.toNat=0:=fun hn=>by subst hn;simp [evB] at hlo;omega
 cases mx with
 | none =>
  rw [eM rfl] at hH
  cases hi with
  | none =>
   rw [eH rfl] at hL
   cases lo with
   | none=>simp [execOp,ho,hA _ _ hx,Instr.sliceAt,Instr.slice,run_underlying k1,Instr.sliceBounds,zah (hT _ _ hi'),zcb,eM rfl,eH rfl,eL rfl]
   | some y3=>simp [execOp,ho,hA _ _ hx,Instr.sliceAt,Instr.slice,run_underlying k1,Instr.sliceBounds,zah (hT _ _ hi'),zcb,eM rfl,eH rfl,hL y3 rfl]
  | some y2 =>
   cases lo with
   | none=>simp [execOp,ho,hA _ _ hx,Instr.sliceAt,Instr.slice,run_underlying k1,Instr.sliceBounds,zah (hT _ _ hi'),zcb,eM rfl,hH y2 rfl,eL rfl]
   | some y3=>simp [execOp,ho,hA _ _ hx,Instr.sliceAt,Instr.slice,run_underlying k1,Instr.sliceBounds,zah (hT _ _ hi'),zcb,eM rfl,hH y2 rfl,hL y3 rfl]
 | some y1 =>
  cases hi with
  | none=>simp at hs
  | some y2 =>
   cases lo with
   | none=>simp [execOp,ho,hA _ _ hx,Instr.sliceAt,Instr.slice,run_underlying k1,Instr.sliceBounds,zah (hT _ _ hi'),zcb,hM y1 rfl,hH y2 rfl,eL rfl]
   | some y3=>simp [execOp,ho,hA _ _ hx,Instr.sliceAt,Instr.slice,run_underlying k1,Instr.sliceBounds,zah (hT _ _ hi'),zcb,hM y1 rfl,hH y2 rfl,hL y3 rfl]
theorem qob (hT:TOk P T) {t n1 b1:Nat} {z1:List Value} {x:Operand} {lo hi:Option Operand} {s:ByteArray} {L H:Int}
  (ho:o.op = .slice t x lo hi none) (hx:evO e x=some (.string s)) (ht:tlk T t=some ⟨.string,n1,b1,z1⟩)
  (hlo:evB e 0 lo=some L) (hhi:evB e s.size hi=some H) (h0:0<=L) (h1:L<=H) (h2:H<=s.size) :
  Yl P e h o (.string (s.extract L.toNat H.toNat)):=by
 intro ρ w hA hw;obtain⟨td,k1,k3⟩:=zai hT ht;rw [zen k3] at k1;have hH:∀ y:Operand,hi=some y->∀ c w,(Instr.sliceBound (ρ y) s.size c).run P w = .ok H.toNat w:=fun y hy c w=>by subst hy;exact zfa hA hhi (by omega) (by omega) w
 have hL:∀ y:Operand,lo=some y->∀ c w,(Instr.sliceBound (ρ y) H.toNat c).run P w = .ok L.toNat w:=fun y hy c w=>by subst hy;exact zfa hA hlo (by omega) (by omega) w
 have eH:hi=none->H.toNat=s.size:=fun hn=>by subst hn;simp [evB] at hhi;omega
 have eL:lo=none->L.toNat=0:=fun hn=>by subst hn;simp [evB] at hlo;omega
 cases hi with
 | none =>
  rw [eH rfl] at hL
  cases lo with
  | none=>simp [execOp,ho,hA _ _ hx,Instr.sliceAt,Instr.slice,run_underlying k1,Instr.sliceBounds,eH rfl,eL rfl]
  | some y3=>simp [execOp,ho,hA _ _ hx,Instr.sliceAt,Instr.slice,run_underlying k1,Instr.sliceBounds,eH rfl,hL y3 rfl]
 | some y2 =>
  cases lo with
  | none=>simp [execOp,ho,hA _ _ hx,Instr.sliceAt,Instr.slice,run_underlying k1,Instr.sliceBounds,hH y2 rfl,eL rfl]
  | some y3=>simp [execOp,ho,hA _ _ hx,Instr.sliceAt,Instr.slice,run_underlying k1,Instr.sliceBounds,hH y2 rfl,hL y3 rfl]
theorem zej (hT:TOk P T) {t el n n1 b1:Nat} {z1:List Value} {i:TI} {x:Operand} {lo hi:Option Operand} {a:Addr} {L H:Int}
  (ho:o.op = .slice t x lo hi none) (hx:evO e x=some (.pointer (some a))) (ht:tlk T t=some ⟨.array n el,n1,b1,z1⟩) (hi':tlk T el=some i)
  (hlo:evB e 0 lo=some L) (hhi:evB e n hi=some H) (h0:0<=L) (h1:L<=H) (h2:H<=n) :
  Yl P e h o (zcb ⟨some a,n,n⟩ i.n L.toNat H.toNat n).v:=by
 intro ρ w hA hw;obtain⟨td,k1,k3⟩:=zai hT ht;rw [zf4 k3] at k1;have hH:∀ y:Operand,hi=some y->∀ c w,(Instr.sliceBound (ρ y) n c).run P w = .ok H.toNat w:=fun y hy c w=>by subst hy;exact zfa hA hhi (by omega) (by omega) w
 have hL:∀ y:Operand,lo=some y->∀ c w,(Instr.sliceBound (ρ y) H.toNat c).run P w = .ok L.toNat w:=fun y hy c w=>by subst hy;exact zfa hA hlo (by omega) (by omega) w
 have eH:hi=none->H.toNat=n:=fun hn=>by subst hn;simp [evB] at hhi;omega
 have eL:lo=none->L.toNat=0:=fun hn=>by subst hn;simp [evB] at hlo;omega
 cases hi with
 | none =>
  rw [eH rfl] at hL
  cases lo with
  | none=>simp [execOp,ho,hA _ _ hx,Instr.sliceAt,Instr.sureAddr,run_underlying k1,Instr.sliceBounds,zah (hT _ _ hi'),zcb,eH rfl,eL rfl];split <;> rfl
  | some y3=>simp [execOp,ho,hA _ _ hx,Instr.sliceAt,Instr.sureAddr,run_underlying k1,Instr.sliceBounds,zah (hT _ _ hi'),zcb,eH rfl,hL y3 rfl];split <;> rfl
 | some y2 =>
  cases lo with
  | none=>simp [execOp,ho,hA _ _ hx,Instr.sliceAt,Instr.sureAddr,run_underlying k1,Instr.sliceBounds,zah (hT _ _ hi'),zcb,hH y2 rfl,eL rfl];split <;> rfl
  | some y3=>simp [execOp,ho,hA _ _ hx,Instr.sliceAt,Instr.sureAddr,run_underlying k1,Instr.sliceBounds,zah (hT _ _ hi'),zcb,hH y2 rfl,hL y3 rfl];split <;> rfl
def zkc (z:List Value) (n:Nat):List Value:=(List.replicate n z).flatten
theorem zcm (z:List Value) (n:Nat):(Builtin.zeroCells z.toArray n).toList=zkc z n:=by
 induction n with
 | zero=>simp [Builtin.zeroCells,zkc]
 | succ n ih =>
  unfold zkc at *;rw [List.replicate_succ',List.flatten_append,← ih];simp only [Builtin.zeroCells,Array.toList_map,Array.toList_range,List.size_toArray];rw [Nat.succ_mul,List.range_add,List.map_append,List.map_map];congr 1;simp only [List.flatten_cons,List.flatten_nil,List.append_nil];apply List.ext_getElem
  ·simp
  ·intro j h1 h2
   simp only [List.length_map,List.length_range] at h1;simp [Nat.add_mod,Nat.mod_eq_of_lt h1,h1]
theorem ze7 (hT:TOk P T) {t el n1 b1 len b:Nat} {z1:List Value} {i:TI} {parts:List (Nat × Operand)} {vs:List (Nat × Value)} {out:List Value} {h':zaa} (ho:o.op = .buildSlice t len parts.toArray) (ht:tlk T t=some ⟨.slice el,n1,b1,z1⟩) (hi:tlk T el=some i)
  (hs:Nat.ble (len*i.n) 16777216=true) (hzl:Nat.beq i.z.length i.n=true) (hv:evp e parts=some vs) (hb:bld T (fun j=>some (j*i.n,i.n)) (zkc i.z len) vs=some out) (hbb:b=h.size) (he:h'=h.push (.cells out.toArray el)):Yh P e h o (.slice (some ⟨b,0,none⟩) len len) h':=by
 intro ρ w hA hw;subst hw;subst hbb;subst he;obtain⟨zv,z1',z2,_⟩:=zkz hT hi w;obtain⟨td,k1,k3⟩:=zai hT ht;rw [zce k3] at k1;have hm:=zpc hA _ _ hv;have hz:zv.cells=i.z.toArray:=Array.toList_inj.1 (by simpa using z2);have hzl':=Nat.eq_of_beq_eq_true hzl;have hf:=zmu T _ vs _ out hb;have hs':¬ (16777216<len*i.n):=by have:=Nat.le_of_ble_eq_true hs;omega
 refine⟨{ w with heap:=w.heap.push (.cells out.toArray el) },⟨rfl,rfl,rfl,rfl,fun _=>by first | exact Nat.le_refl _ | exact Nat.le_succ _⟩,.inl ?_⟩
 have hzc:(Array.range (len*i.n)).map (fun j=>i.z.toArray[j % i.z.toArray.size]!)=(zkc i.z len).toArray:=by
  rw [← zcm];simp only [Builtin.zeroCells,List.size_toArray,hzl',Array.toArray_toList]
 by_cases hl:len*i.n=0
 ·have hzr:zkc i.z len=[]:=List.eq_nil_of_length_eq_zero (by simp [zkc,hzl',hl])
  rw [hzr] at hf;simp [execOp,ho,Instr.buildSlice,run_underlying k1,zah (hT _ _ hi),hl,hm,newRow,newObj,Sem.run];rw [show Array.map (fun(_:Nat)=>(default:Value)) (Array.range 0)=([]:List Value).toArray from by simp,hf];simp [Sem.run]
 ·simp only [execOp,ho,Instr.buildSlice,Sem.run_bind,run_underlying k1,Result.andThen_ok,zah (hT _ _ hi)]
  simp [hs',hl,z1',hz,newRow,newObj,Sem.run,hm]
  have hzc':(Array.range (len*i.n)).map (fun x=>i.z[x % i.z.length]?.getD default)=(zkc i.z len).toArray:=by
   rw [← hzc];simp
  rw [hzc',hf];simp [Sem.run]
end
end Go.Q
end
section
namespace Go.Q
section
variable {P:Program} {T:Tab} {e:Env} {h:zaa} {o:Oper}
theorem zie (hT:TOk P T) {el:Nat} {i:TI} {k:IntKind} (hi:tlk T el=some i) (hd:isA i.d=false) (xs:List Int) {j:Nat} (hj:j<xs.length) (w:World) :
  (part el (xs.map (Value.int k)).toArray j).run P w = .ok (.int k (xs.getD j 0)) w:=by
 simp [part,zdw (hT _ _ hi),hd,hj]
theorem znb (hT:TOk P T) {el:Nat} {k:IntKind} {n1 b1:Nat} {z1:List Value} (hi:tlk T el=some ⟨.int k,n1,b1,z1⟩) (d:Nat) (xs ys:List Int) (w:World):∀(js:List Nat),(∀ j∈js,j<xs.length/\j<ys.length) ->
  (Op.eqItems (d+1) el 1 (xs.map (Value.int k)).toArray (ys.map (Value.int k)).toArray js).run P w = .ok (js.all fun j=>xs.getD j 0==ys.getD j 0) w
 | [],_=>by simp [Op.eqItems]
 | j :: js,h=>by
  have hj:=h j (by simp);have ih:=znb hT hi d xs ys w js (fun q hq=>h q (by simp [hq]));obtain⟨td,k1,k3⟩:=zai hT hi;rw [zjx k3] at k1;have p1:=zie (P:=P) (k:=k) hT hi rfl xs hj.1 w;have p2:=zie (P:=P) (k:=k) hT hi rfl ys hj.2 w;simp only [Op.eqItems,Nat.mul_one,Sem.run_bind,p1,p2,Result.andThen_ok,List.all_cons]
  have he:(Op.equalIn (d+1) el (.int k (xs.getD j 0)) (.int k (ys.getD j 0))).run P w = .ok (xs.getD j 0==ys.getD j 0) w:=by
   simp only [Op.equalIn,Sem.run_bind,run_underlying k1,Result.andThen_ok,if_true,Sem.run_pure]
  rw [he]
  cases hb:(xs.getD j 0==ys.getD j 0) with
  | false=>simp
  | true=>simp;simpa using ih
theorem qbv (n:Nat) (xs ys:List Int) (hx:xs.length=n) (hy:ys.length=n):((List.range n).all fun j=>xs.getD j 0==ys.getD j 0)=(xs==ys):=by
 rw [Bool.eq_iff_iff];simp only [List.all_eq_true,List.mem_range,beq_iff_eq];constructor
 ·intro h
  apply List.ext_getElem (by omega);intro i h1 h2;have:=h i (by omega);simpa [List.getD,h1,h2] using this
 ·rintro rfl j _;rfl
theorem zuf (hT:TOk P T) {t n el:Nat} {parts:List (Nat × Operand)} {n1 b1:Nat} {z:List Value} {i:TI} {vs:List (Nat × Value)} {out:List Value} (ho:o.op = .build t parts.toArray) (ht:tlk T t=some ⟨.array n el,n1,b1,z⟩) (hi:tlk T el=some i)
  (hv:evp e parts=some vs) (hb:bld T (fun j=>some (j*i.n,i.n)) z vs=some out):Yl P e h o (.agg out.toArray):=by
 intro ρ w hA hw;obtain⟨zv,z1,z2,_⟩:=zkz hT ht w;obtain⟨td,k1,k3⟩:=zai hT ht;rw [zf4 k3] at k1;have hm:=zpc hA _ _ hv;have hz:zv.cells=z.toArray:=Array.toList_inj.1 (by simpa using z2);have hf:=zmu T (fun j=>some (j*i.n,i.n)) vs z out hb;simp only [execOp,ho,Instr.build,Sem.run_bind,z1,Result.andThen_ok,run_underlying k1,zah (hT _ _ hi)];simp only [List.map_toArray,hm,hz];rw [hf];simp
theorem qhu (hT:TOk P T) {t n el len cap:Nat} {n1 b1:Nat} {z1:List Value} {x:Operand} {base:Option Addr} {a:Addr} (ho:o.op = .sliceToArrayPointer t x) (hx:evO e x=some (.slice base len cap)) (hb:base=some a)
  (ht:tlk T t=some ⟨.array n el,n1,b1,z1⟩) (hl:n<=len):Yl P e h o (.pointer (some a)):=by
 subst hb;intro ρ w hA hw;obtain⟨td,k1,k3⟩:=zai hT ht;rw [zf4 k3] at k1;simp [execOp,ho,hA _ _ hx,Instr.arrayAt,run_underlying k1,show ¬ len<n from by omega]
theorem zso (n:Nat) (w:World):(askRoom n).run P w = .ok () w:=by
 unfold askRoom;split <;> simp [mark,Sem.run]
theorem qra (hT:TOk P T) {t el n1 b1 b:Nat} {z1:List Value} {i:TI} {l c:Operand} {kl kc:IntKind} {L C:Int} {h':zaa} (ho:o.op = .makeSlice t l c) (hl:evO e l=some (.int kl L)) (hc:evO e c=some (.int kc C))
  (ht:tlk T t=some ⟨.slice el,n1,b1,z1⟩) (hi:tlk T el=some i) (hzl:Nat.beq i.z.length i.n=true) (h0:0<=L) (h1:L<=C) (h2:C*i.b<=281474976710656) (h3:C<=9223372036854775807)
  (hbb:b=h.size) (he:h'=h.push (.cells (zkc i.z C.toNat).toArray el)):Yh P e h o (.slice (some ⟨b,0,none⟩) L.toNat C.toNat) h':=by
 intro ρ w hA hw;subst hw;subst hbb;subst he;obtain⟨td,k1,k3⟩:=zai hT ht;rw [zce k3] at k1;obtain⟨ti,i1,i2,i3,zv,i4,i5⟩:=tI hT hi;have hz:zv.cells=i.z.toArray:=Array.toList_inj.1 (by simpa using i5);have hzl':=Nat.eq_of_beq_eq_true hzl;have wL:IntKind.i64.wrap L=L:=by unfold IntKind.wrap;simp [IntKind.signed,IntKind.bits];omega
 have wC:IntKind.i64.wrap C=C:=by unfold IntKind.wrap;simp [IntKind.signed,IntKind.bits];omega
 have hC:(C.toNat:Int)=C:=Int.toNat_of_nonneg (by omega);have b1:¬ C<0:=by omega
 have b2:¬ ((281474976710656:Int)<(ti.bytes:Int)*C):=by rw [i3,Int.mul_comm];omega
 have b3:¬ L<0:=by omega
 have b4:¬ C<L:=by omega
 refine⟨{ w with heap:=w.heap.push (.cells (zkc i.z C.toNat).toArray el) },⟨rfl,rfl,rfl,rfl,fun _=>by first | exact Nat.le_refl _ | exact Nat.le_succ _⟩,.inl ?_⟩
 have hzc:(Array.range (C.toNat*i.n)).map (fun j=>i.z[j % i.z.length]?.getD default)=(zkc i.z C.toNat).toArray:=by
  rw [← zcm];apply Array.toList_inj.1;simp [Builtin.zeroCells,hzl']
 have mr:=fun n (w:World)=>zso (P:=P) n w;by_cases hn:C.toNat*i.n=0
 ·have hzr:zkc i.z C.toNat=[]:=List.eq_nil_of_length_eq_zero (by simp [zkc,hzl',hn])
  simp [execOp,ho,hA _ _ hl,hA _ _ hc,Instr.makeSlice,run_underlying k1,asInt,asIntOf,typeInfo,i1,wL,wC,b1,b2,b3,b4,mr,sizeOf,i2,hn,newRow,newObj,Sem.run,hzr];congr 2;apply Array.toList_inj.1;simp
 ·simp [execOp,ho,hA _ _ hl,hA _ _ hc,Instr.makeSlice,run_underlying k1,asInt,asIntOf,typeInfo,i1,wL,wC,b1,b2,b3,b4,mr,sizeOf,i2,hn,newRow,newObj,Sem.run,zeroValue,i4,hz,hzc]
def RV (T:Tab) (e:Env) (h:zaa):ResultVar->Value->Prop
 | .tmp t,v=>lkO e t=some v
 | .cell a t,v=>∃ ad i,lkO e a=some (.pointer (some ad))/\tlk T t=some i/\((isA i.d=false/\zab h ad=some v)∨(isA i.d=true/\∃ vs,v = .agg vs.toArray/\vs.length=i.n/\CellsAt h ad vs))
def RVs (T:Tab) (e:Env) (h:zaa):List ResultVar->List Value->Prop
 | [],[]=>True
 | r :: rs,v :: vs=>RV T e h r v/\RVs T e h rs vs
 | _,_=>False
theorem zwp (hT:TOk P T) {N:Nat} {a:Act} (fa:Fr N e a) {w:World} (hw:w.heap=h) (g:ResultVar->Sem Value) (hg:∀ t,g (.tmp t)=pure (a.tmps.getD t undef))
  (hg2:∀ x t,g (.cell x t)=(do loadVar t (← asAddr (a.tmps.getD x undef)))):∀(rs:List ResultVar) (vs:List Value),RVs T e h rs vs->(rs.mapM (m:=Sem) g).run P w = .ok vs w
 | [],[],_=>by simp
 | [],_ :: _,k=>k.elim
 | _ :: _,[],k=>k.elim
 | r :: rs,v :: vs,⟨k,ks⟩=>by
  have ih:=zwp hT fa hw g hg hg2 rs vs ks
  have hr:(g r).run P w = .ok v w:=by
   cases r with
   | tmp t =>
    have hv:=fa.l t v k
    rw [hg,Array.getD_eq_getD_getElem?,hv];rfl
   | cell x t =>
    obtain⟨ad,i,k1,k2,k3⟩:=k;have hv:=fa.l x _ k1;rw [hg2,Array.getD_eq_getD_getElem?,hv];subst hw;rcases k3 with⟨k3,k4⟩ | ⟨k3,us,rfl,k4,k5⟩
    ·simp [asAddr,loadVar,zdw (hT _ _ k2),k3,load,Sem.run,zlo,k4]
    ·have:=run_loadCells_list (P:=P) (w:=w) ad us k5
     rw [k4] at this;simp [asAddr,loadVar,zdw (hT _ _ k2),k3,zah (hT _ _ k2),this]
  simp [hr,ih]
theorem zdz {D:Bool} (hT:TOk P T) {fn:Func} {w0:World} {Φ:Value->zaa->Prop} {N:Nat} (rs:List ResultVar) (hrs:fn.results=rs.toArray) (vs:List Value) (hv:RVs T e h rs vs) (H:Φ (tup vs) h) :
  gex ⟨P,N,w0,D⟩ (bodyPost P fn (Rt D w0 Φ)) .ret e h:=by
 intro a w fa fw;refine⟨fa.d,tup vs,?_,_,rfl,?_,?_⟩
 ·unfold results
  rw [hrs];simp only [List.mapM_toArray,Sem.run_bind,Sem.run_map];rw [zwp hT fa fw.heap _ (fun t=>rfl) (fun x t=>rfl) rs vs hv]
  match vs with
  | []=>simp [tup]
  | [v]=>simp [tup]
  | v :: u :: r=>simp [tup]
 ·rw [fw.heap];exact fw
 ·rw [fw.heap];exact H
theorem qlw {D:Bool} (hT:TOk P T) {fn:Func} {w0:World} {Φ:Value->zaa->Prop} {N:Nat} (rs:List ResultVar) (hrs:fn.results=rs.toArray) (vs:List Value) (hv:RVs T e h rs vs) (H:Φ (tup vs) h) :
  gex ⟨P,N,w0,D⟩ (bodyPost P fn (Rt D w0 Φ)) .normal e h:=fun a w fa fw=>zdz hT rs hrs vs hv H a w fa fw
end
end Go.Q
end

/- A part of the proof of statements of this seat: lemmas, no statement of their own. -/
import Derived.Test.YtmilimlmimckbaaGreatDoorYoZab
import Derived.Test.YtmilimlmimckbaaGreatDoorYoZad
import Derived.Test.YtmilimlmimckbaaGreatDoorYoZaf
import Derived.MapKept
import Derived.Maps.RangeRun
import Derived.WideKeyRuns
import Derived.Test.YtmilimlmimckbaaGreatDoorYoZaj
set_option linter.unusedVariables false
set_option linter.unusedSimpArgs false
section
namespace Go.Q
open Go.MapKept
section
variable {K V:Type} [DecidableEq K]
def zi5:List (K × V)->K->Option V
 | [],_=>none
 | p :: r,k=>if p.1=k then some p.2 else zi5 r k
def zuk:List (K × V)->K->V->List (K × V)
 | [],k,v=>[(k,v)]
 | p :: r,k,v=>if p.1=k then (k,v) :: r else p :: zuk r k v
theorem ziy {k:K}:∀ {l:List (K × V)},(∀ p∈l,p.1≠k)->zi5 l k=none
 | [],_=>rfl
 | p :: r,h=>by
  unfold zi5;rw [if_neg (h p (by simp)),ziy fun q hq=>h q (List.mem_cons_of_mem _ hq)]
theorem zkt {k:K} {v:V}:∀ {l:List (K × V)},(∀ p∈l,p.1≠k)->zuk l k v=l++[(k,v)]
 | [],_=>rfl
 | p :: r,h=>by
  unfold zuk;rw [if_neg (h p (by simp)),zkt fun q hq=>h q (List.mem_cons_of_mem _ hq)];rfl
theorem zj7 {k:K} {v:V}:∀ {l:List (K × V)} {j:Nat},l[j]? = some (k,v)->(l.map (·.1)).Nodup->zi5 l k=some v/\∀ u,zuk l k u=l.set j (k,u)
 | [],j,h,_=>by simp at h
 | p :: r,0,h,_=>by
  simp at h;subst h
  simp [zi5,zuk]
 | p :: r,j+1,h,hn=>by
  rw [List.map_cons,List.nodup_cons] at hn;simp only [List.getElem?_cons_succ] at h;have hne:p.1≠k:=fun e=>hn.1 (by rw [e];exact List.mem_map.2 ⟨_,List.mem_of_getElem? h,rfl⟩);have:=zj7 h hn.2;unfold zi5 zuk;rw [if_neg hne];exact⟨this.1,fun u=>by rw [if_neg hne,this.2 u];rfl⟩
end
def zzl:Value->Value->Bool
 | .int k a,.int k' b=>decide (k=k')&&decide (a=b)
 | .string a,.string b=>decide (a=b)
 | .bool a,.bool b=>a==b
 | _,_=>false
def zku:List Value->List Value->Bool
 | [],[]=>true
 | a :: r,b :: s=>zzl a b&&zku r s
 | _,_=>false
def zid:Value->Value->Bool
 | .agg a,.agg b=>zku a.toList b.toList
 | .int k a,.int k' b=>decide (k=k')&&decide (a=b)
 | .string a,.string b=>decide (a=b)
 | .bool a,.bool b=>a==b
 | _,_=>false
theorem znf {d:TypeDesc} {a b:Value} (ha:IsKey d a) (hb:IsKey d b):zid a b=true ↔ a=b:=by
 cases d <;> cases a <;> cases b <;> simp_all [IsKey,zid]
def MapH (d:TypeDesc) (h:zaa) (r:Nat) (l:List (Value × Value)):Prop :=
 ∃(es:Array MapEntry) (ck:Nat),h[r]? = some (.map es ck)/\Stamped es ck/\(∀ x∈es.toList,IsKey d x.key)/\es.toList.map (fun e=>(e.key,e.val))=l
structure KOk {K:Type} (d:TypeDesc) (kf:K->Value):Prop where
 inj:∀ a b,kf a=kf b->a=b
 isK:∀ k,IsKey d (kf k)
def MapAt {K V:Type} (d:TypeDesc) (kf:K->Value) (vf:V->Value) (h:zaa):Option Nat->List (K × V)->Prop
 | none,l=>l=[]
 | some r,l=>MapH d h r (l.map fun p=>(kf p.1,vf p.2))
def setM (h:zaa) (r:Nat) (key val:Value):zaa:=h.modify r fun
 | .map es ck=>(match es.toList.findIdx? (fun e=>zid key e.key) with
  | some i=>.map (es.modify i fun e=>{ e with key,val }) ck
  | none=>.map (es.push { key,val,born:=ck }) (ck+1))
 | o=>o
def qbr (h:zaa) (r:Nat):zaa:=h.modify r fun
 | .map _ ck=>.map #[] ck
 | o=>o
theorem zre {h:zaa} {r:Nat} {k v:Value}:(setM h r k v).size=h.size:=by simp [setM]
theorem zi6 {h:zaa} {r g:Nat} {k v:Value} (hg:g≠r):(setM h r k v)[g]? = h[g]?:=by
 unfold setM;rw [Array.getElem?_modify,if_neg (fun e=>hg e.symm)]
theorem zwh {h:zaa} {r:Nat}:(qbr h r).size=h.size:=by simp [qbr]
theorem zou {h:zaa} {r g:Nat} (hg:g≠r):(qbr h r)[g]? = h[g]?:=by
 unfold qbr;rw [Array.getElem?_modify,if_neg (fun e=>hg e.symm)]
theorem zpx {h:zaa} {r:Nat} {k v:Value} {es:Array MapEntry} {ck:Nat} (hb:h[r]? = some (.map es ck)):(setM h r k v)[r]? = some (match es.toList.findIdx? (fun e=>zid k e.key) with
  | some i=>.map (es.modify i fun e=>{ e with key:=k,val:=v }) ck
  | none=>.map (es.push { key:=k,val:=v,born:=ck }) (ck+1)):=by
 unfold setM;rw [Array.getElem?_modify,if_pos rfl,hb];rfl
theorem zmc {d:TypeDesc} {k:Value} (hk:IsKey d k):∀(l:List MapEntry) (i:Nat),(∀ x∈l,IsKey d x.key) ->
  Instr.findNow d k l i=some ((l.findIdx? (fun e=>zid k e.key)).bind fun j=>(l[j]?).map fun e=>(i+j,e.val))
 | [],_,_=>rfl
 | e :: es,i,h=>by
  have he:=h e (by simp);obtain⟨r,hr,hiff⟩:=sameNow_of_keys hk he;have hki:=znf hk he;have ih:=zmc hk es (i+1) fun x hx=>h x (List.mem_cons_of_mem _ hx);unfold Instr.findNow;rw [hr,List.findIdx?_cons]
  cases r with
  | true =>
   have:zid k e.key=true:=hki.2 (hiff.1 rfl)
   simp [this]
  | false =>
   have:zid k e.key=false:=by
    cases hc:zid k e.key with
    | false=>rfl
    | true=>have:=hiff.2 (hki.1 hc);cases this
   simp only [this,ih]
   cases es.findIdx? (fun e=>zid k e.key) with
   | none=>simp
   | some j=>simp [Nat.add_assoc,Nat.add_comm 1 j]
theorem MapH.find {K V:Type} [DecidableEq K] {d:TypeDesc} {kf:K->Value} {vf:V->Value} {h:zaa} {r:Nat} {l:List (K × V)} (KO:KOk d kf) (M:MapH d h r (l.map fun p=>(kf p.1,vf p.2))) (k:K) :
  ∃ es ck,h[r]? = some (.map es ck)/\Stamped es ck/\(∀ x∈es.toList,IsKey d x.key)/\es.toList.map (fun e=>(e.key,e.val))=l.map (fun p=>(kf p.1,vf p.2))/\es.size=l.length/\(l.map (·.1)).Nodup /\
   ((es.toList.findIdx? (fun e=>zid (kf k) e.key)=none/\(∀ p∈l,p.1≠k)/\Instr.findNow d (kf k) es.toList 0=some none) ∨
   ∃ j v e,es.toList.findIdx? (fun e=>zid (kf k) e.key)=some j/\l[j]? = some (k,v)/\es[j]? = some e/\e.key=kf k/\e.val=vf v/\Instr.findNow d (kf k) es.toList 0=some (some (j,vf v))):=by
 obtain⟨es,ck,h1,h2,h3,h4⟩:=M;have hl:es.size=l.length:=by have:=congrArg List.length h4;simpa using this
 have hn:(l.map (·.1)).Nodup:=by
  have e1:es.toList.map (·.key)=(l.map (·.1)).map kf:=by
   have:=congrArg (List.map Prod.fst) h4;simpa [List.map_map,Function.comp_def] using this
  have:=h2.2.2;rw [e1] at this;exact List.Pairwise.of_map kf (fun a b hab e=>hab (by rw [e])) this
 refine⟨es,ck,h1,h2,h3,h4,hl,hn,?_⟩;have hf:=zmc (KO.isK k) es.toList 0 h3
 cases hc:es.toList.findIdx? (fun e=>zid (kf k) e.key) with
 | none =>
  left
  rw [hc] at hf;refine⟨rfl,fun p hp e=>?_,hf⟩;have hm:(kf p.1,vf p.2)∈es.toList.map (fun e=>(e.key,e.val)):=by rw [h4];exact List.mem_map.2 ⟨p,hp,rfl⟩
  obtain⟨x,hx,hxe⟩:=List.mem_map.1 hm;have:=(List.findIdx?_eq_none_iff.1 hc) x hx;have hk2:zid (kf k) x.key=true:=(znf (KO.isK k) (h3 x hx)).2 (by have:=(Prod.mk.inj hxe).1;rw [this,e])
  rw [hk2] at this;cases this
 | some j =>
  right
  obtain⟨hj,hk2,_⟩:=List.findIdx?_eq_some_iff_getElem.1 hc;have hj2:j<l.length:=by simp at hj;omega
  have e1:es.toList[j]? = some es.toList[j]:=List.getElem?_eq_getElem hj;have e2:=congrArg (fun z=>z[j]?) h4;simp only [List.getElem?_map,e1,List.getElem?_eq_getElem hj2,Option.map_some,Option.some.injEq,Prod.mk.injEq] at e2;have hkey:=(znf (KO.isK k) (h3 _ (List.getElem_mem hj))).1 hk2;have hlk:l[j].1=k:=KO.inj _ _ (by rw [← e2.1,← hkey]);refine⟨j,l[j].2,es.toList[j],rfl,?_,by simp,hkey.symm,e2.2,?_⟩
  ·rw [List.getElem?_eq_getElem hj2,← hlk]
  ·rw [hf,hc];simp only [Option.bind_some,e1,Option.map_some,Nat.zero_add,e2.2]
theorem MapH.put {K V:Type} [DecidableEq K] {d:TypeDesc} {kf:K->Value} {vf:V->Value} {h:zaa} {r:Nat} {l:List (K × V)} (KO:KOk d kf) (M:MapH d h r (l.map fun p=>(kf p.1,vf p.2))) (k:K) (v:V) :
  MapH d (setM h r (kf k) (vf v)) r ((zuk l k v).map fun p=>(kf p.1,vf p.2)):=by
 obtain⟨es,ck,h1,h2,h3,h4,hl,hn,C⟩:=M.find KO k;have hs:=zpx (k:=kf k) (v:=vf v) h1;rcases C with⟨c1,c2,_⟩ | ⟨j,u,e,c1,c2,c3,c4,c5,_⟩
 ·rw [c1] at hs
  refine⟨_,_,hs,stamped_push h2 fun x hx hxe=>?_,fun x hx=>?_,?_⟩
  ·have hm:(x.key,x.val)∈l.map fun p=>(kf p.1,vf p.2):=by rw [← h4];exact List.mem_map.2 ⟨x,hx,rfl⟩
   obtain⟨p,hp,hpe⟩:=List.mem_map.1 hm;exact c2 p hp (KO.inj _ _ (by rw [(Prod.mk.inj hpe).1,hxe]))
  ·simp only [Array.toList_push,List.mem_append,List.mem_singleton] at hx
   rcases hx with hx | rfl
   ·exact h3 x hx
   ·exact KO.isK k
  ·rw [zkt c2];simp [h4]
 ·rw [c1] at hs
  refine⟨_,_,hs,stamped_modify h2 j _ (fun _ _=>rfl) (fun x _ hx=>by rw [c3] at hx;cases hx;exact c4.symm),isKey_modify h3 j _ (fun x hx=>by rw [c3] at hx;cases hx;exact c4.symm),?_⟩;rw [(zj7 c2 hn).2 v];apply List.ext_getElem?;intro i;have e2:=congrArg (fun z=>z[i]?) h4;simp only [List.getElem?_map,Array.getElem?_toList] at e2;simp only [List.getElem?_map,Array.getElem?_toList,Array.getElem?_modify,List.getElem?_set];by_cases hij:j=i
  ·subst hij
   have hj2:j<l.length:=(List.getElem?_eq_some_iff.1 c2).1;simp [c3,hj2]
  ·simp [hij,e2]
section
variable {K V:Type} {d:TypeDesc} {kf:K->Value} {vf:V->Value} {h h':zaa} {r:Nat} {l:List (K × V)}
theorem MapAt.put [DecidableEq K] (KO:KOk d kf) (M:MapAt d kf vf h (some r) l) (k:K) (v:V):MapAt d kf vf (setM h r (kf k) (vf v)) (some r) (zuk l k v):=MapH.put KO M k v
theorem Ext.setM {B:Nat} (h:zaa) {r:Nat} (k v:Value) (hr:B<=r):Ext B h (setM h r k v):=⟨by rw [zre];exact Nat.le_refl _,fun g hg=>zi6 (by omega)⟩
end
theorem qcv {P:Program} {T:Tab} (hT:TOk P T) {t:Nat} {i:TI} {v:Value} (ht:tlk T t=some i) (ha:isA i.d=true) (hv:v = .agg i.z.toArray) (w:World):(zeroValue t).run P w = .ok v w:=by
 obtain⟨u,h1,_,h3⟩:=zkz hT ht w;rw [hv,← h3 ha];exact h1
theorem qjr {P:Program} {T:Tab} (hT:TOk P T) {t:Nat} {i:TI} {v:Value} (ht:tlk T t=some i) (ha:isA i.d=false) (hv:i.z=[v]) (w:World):(zeroValue t).run P w = .ok v w:=by
 have h:=hT _ _ ht;unfold qhf at h;split at h
 ·rename_i dd ti h1 h2
  simp only [Bool.and_eq_true] at h;have hz:=h.2;unfold zob at hz;split at hz
  ·simp [ha] at hz
  ·rename_i u hn hu
   simp only [Bool.and_eq_true,Bool.not_eq_true'] at hz;have:=zto hz.2;rw [hv] at this;simp at this;subst this;simp [zeroValue,typeInfo,h2,hu]
  ·cases hz
 ·cases h
section
variable {P:Program} {T:Tab} {e:Env} {h:zaa} {o:Oper} {K V:Type} {d:TypeDesc} {kf:K->Value} {vf:V->Value} {m:Option Nat} {l:List (K × V)}
theorem qk9 {t b:Nat} {h':zaa} (ho:o.op = .makeMap t none) (hb:b=h.size) (he:h'=h.push (.map #[] 0)):Yh P e h o (.map (some b)) h':=by
 intro ρ w hA hw;subst hb;subst he;subst hw;exact⟨{ w with heap:=w.heap.push (.map #[] 0) },⟨rfl,rfl,rfl,rfl,fun _=>by first | exact Nat.le_refl _ | exact Nat.le_succ _⟩,.inl (by simp [execOp,ho,Instr.makeMap,newObj,Sem.run])⟩
theorem qrg [DecidableEq K] {t kt et:Nat} {x y:Operand} {k:K} {z:V} (ho:o.op = .lookup t x y false) (hx:evO e x=some (.map m)) (hy:evO e y=some (kf k)) (ht:P.underlying t=some (.map kt et)) (hk:P.underlying kt=some d) (KO:KOk d kf)
  (hz:∀ w,(zeroValue et).run P w = .ok (vf z) w) (hm:MapAt d kf vf h m l):Yl P e h o (vf ((zi5 l k).getD z)):=by
 intro ρ w hA hw;subst hw
 cases m with
 | none =>
  have hl:l=[]:=hm;subst hl;have hfk:(Instr.findKey kt (kf k) []).run P w = .ok none w:=run_findKey hk rfl
  simp [execOp,ho,hA _ _ hx,hA _ _ hy,Instr.lookup,run_underlying ht,run_checkKey hk (KO.isK k),hfk,hz,zi5,Result.andThen]
 | some r =>
  obtain⟨es,ck,h1,h2,h3,h4,hl,hn,C⟩:=MapH.find KO hm k;rcases C with⟨_,c2,c3⟩ | ⟨j,u,e',_,c2,_,_,_,c3⟩
  ·have hfk:=run_findKey (w:=w) hk c3
   simp [execOp,ho,hA _ _ hx,hA _ _ hy,Instr.lookup,run_underlying ht,MapKept.run_getObj_map h1,run_checkKey hk (KO.isK k),hfk,hz,ziy c2,Result.andThen]
  ·have hfk:=run_findKey (w:=w) hk c3
   simp [execOp,ho,hA _ _ hx,hA _ _ hy,Instr.lookup,run_underlying ht,MapKept.run_getObj_map h1,run_checkKey hk (KO.isK k),hfk,(zj7 c2 hn).1,Result.andThen]
theorem qix [DecidableEq K] {t kt et:Nat} {x y:Operand} {k:K} {z:V} (ho:o.op = .lookup t x y true) (hx:evO e x=some (.map m)) (hy:evO e y=some (kf k)) (ht:P.underlying t=some (.map kt et)) (hk:P.underlying kt=some d) (KO:KOk d kf)
  (hz:∀ w,(zeroValue et).run P w = .ok (vf z) w) (hm:MapAt d kf vf h m l):Yl P e h o (.tuple #[vf ((zi5 l k).getD z),.bool (zi5 l k).isSome]):=by
 intro ρ w hA hw;subst hw
 cases m with
 | none =>
  have hl:l=[]:=hm;subst hl;have hfk:(Instr.findKey kt (kf k) []).run P w = .ok none w:=run_findKey hk rfl
  simp [execOp,ho,hA _ _ hx,hA _ _ hy,Instr.lookup,run_underlying ht,run_checkKey hk (KO.isK k),hfk,hz,zi5,Result.andThen]
 | some r =>
  obtain⟨es,ck,h1,h2,h3,h4,hl,hn,C⟩:=MapH.find KO hm k;rcases C with⟨_,c2,c3⟩ | ⟨j,u,e',_,c2,_,_,_,c3⟩
  ·have hfk:=run_findKey (w:=w) hk c3
   simp [execOp,ho,hA _ _ hx,hA _ _ hy,Instr.lookup,run_underlying ht,MapKept.run_getObj_map h1,run_checkKey hk (KO.isK k),hfk,hz,ziy c2,Result.andThen]
  ·have hfk:=run_findKey (w:=w) hk c3
   simp [execOp,ho,hA _ _ hx,hA _ _ hy,Instr.lookup,run_underlying ht,MapKept.run_getObj_map h1,run_checkKey hk (KO.isK k),hfk,(zj7 c2 hn).1,Result.andThen]
theorem qq0 [DecidableEq K] {t kt et r:Nat} {x y z:Operand} {k:K} {v:V} {h':zaa} (ho:o.op = .mapUpdate t x y z) (hx:evO e x=some (.map m)) (hy:evO e y=some (kf k)) (hz:evO e z=some (vf v)) (ht:P.underlying t=some (.map kt et)) (hk:P.underlying kt=some d) (KO:KOk d kf)
  (hr:m=some r) (hm:MapAt d kf vf h (some r) l) (he:h'=setM h r (kf k) (vf v)):Yh P e h o undef h':=by
 intro ρ w hA hw;subst he;subst hw;subst hr;obtain⟨es,ck,h1,h2,h3,h4,hl,hn,C⟩:=MapH.find KO hm k
 have hs:∀ o',(setM w.heap r (kf k) (vf v))[r]? = some o'->w.heap.setIfInBounds r o'=setM w.heap r (kf k) (vf v):=fun o' h=>by
  apply Array.ext_getElem?;intro i;have hlt:=(Array.getElem?_eq_some_iff.1 h1).1;by_cases hi:i=r
  ·subst hi;rw [h];simp [hlt]
  ·rw [zi6 hi];simp [Ne.symm hi]
 have hat:=zpx (k:=kf k) (v:=vf v) h1;rcases C with⟨c1,c2,c3⟩ | ⟨j,u,e',c1,c2,c4,c5,c6,c3⟩
 ·rw [c1] at hat
  have hfk:=run_findKey (w:=w) hk c3;refine⟨{ w with heap:=setM w.heap r (kf k) (vf v) },⟨rfl,rfl,rfl,rfl,fun _=>by first | exact Nat.le_refl _ | exact Nat.le_succ _⟩,.inr ⟨?_,rfl⟩⟩;simp [execOp,ho,hA _ _ hx,hA _ _ hy,hA _ _ hz,Instr.mapUpdate,run_underlying ht,MapKept.run_getObj_map h1,run_checkKey hk (KO.isK k),hfk,MapKept.run_setObj_map _ h1,hs _ hat,Result.andThen]
 ·rw [c1] at hat
  have hfk:=run_findKey (w:=w) hk c3;have hst:(Instr.keyThatStays (kf k) (kf k)).run P w = .ok (kf k) w:=run_keyThatStays (KO.isK k);refine⟨{ w with heap:=setM w.heap r (kf k) (vf v) },⟨rfl,rfl,rfl,rfl,fun _=>by first | exact Nat.le_refl _ | exact Nat.le_succ _⟩,.inr ⟨?_,rfl⟩⟩;simp [execOp,ho,hA _ _ hx,hA _ _ hy,hA _ _ hz,Instr.mapUpdate,run_underlying ht,MapKept.run_getObj_map h1,run_checkKey hk (KO.isK k),hfk,c4,c5,hst,MapKept.run_setObj_map _ h1,hs _ hat,Result.andThen]
theorem qba (z:List Value) (n:Nat):(zkc z n).length=n*z.length:=by
 induction n with
 | zero=>simp [zkc]
 | succ n ih=>unfold zkc at *;rw [List.replicate_succ,List.flatten_cons,List.length_append,ih,Nat.succ_mul];omega
theorem zpu {z:List Value} {n:Nat} {u:Value} (h:u∈zkc z n):u∈z:=by
 unfold zkc at h;obtain⟨l,hl,hu⟩:=List.mem_flatten.1 h;rw [(List.mem_replicate.1 hl).2] at hu;exact hu
end
end Go.Q
end
section
namespace Go.Q
section
variable {P:Program} {e:Env} {h:zaa} {o:Oper}
end
end Go.Q
end
section
namespace Go.Q
open Go.MapKept
structure KeyS (P:Program) (kt:TypeId) {K:Type} [DecidableEq K] (kf:K->Value):Prop where
 und:(match P.underlying kt with | some (.array _ _) | some (.struct _)=>true | _=>false)=true
 is:∀ a b,zid (kf a) (kf b)=decide (a=b)
 chk:∀ b k w,(Instr.checkKey b 10000 kt (kf k)).run P w = .ok () w
 eq:∀ a b w,(Op.equal kt (kf a) (kf b)).run P w = .ok (decide (a=b)) w
 st:∀ k w,(Instr.keyThatStays (kf k) (kf k)).run P w = .ok (kf k) w
theorem KeyS.inj {P:Program} {kt:TypeId} {K:Type} [DecidableEq K] {kf:K->Value} (S:KeyS P kt kf) {a b:K} (h:kf a=kf b):a=b:=by
 have h1:=S.is a b;rw [← h,S.is a a] at h1;simpa using h1
def MapSt {K V:Type} (kf:K->Value) (vf:V->Value) (h:zaa) (r:Nat) (l:List (K × V)):Prop :=
 ∃(es:Array MapEntry) (ck:Nat),h[r]? = some (.map es ck)/\Stamped es ck/\es.toList.map (fun e=>(e.key,e.val))=l.map (fun p=>(kf p.1,vf p.2))
section
variable {K V:Type} {kf:K->Value} {vf:V->Value} {h h':zaa} {r:Nat} {l:List (K × V)}
theorem MapSt.mk0 (h:zaa):MapSt kf vf (h.push (.map #[] 0)) h.size ([]:List (K × V)):=⟨#[],0,by simp,stamped_empty 0,rfl⟩
theorem MapSt.old (M:MapSt kf vf h r l) (e:h'[r]? = h[r]?):MapSt kf vf h' r l:=by
 obtain⟨es,ck,h1,h2⟩:=M;exact⟨es,ck,e.trans h1,h2⟩
theorem MapSt.lt (M:MapSt kf vf h r l):r<h.size:=by
 obtain⟨es,ck,h1,_⟩:=M;exact(Array.getElem?_eq_some_iff.1 h1).1
theorem MapSt.ext {B:Nat} (M:MapSt kf vf h r l) (X:Ext B h h') (hb:r<B):MapSt kf vf h' r l:=M.old (X.2 r hb)
end
section
variable {P:Program} {kt:TypeId} {K V:Type} [DecidableEq K] {kf:K->Value} {vf:V->Value} {h h':zaa} {r:Nat} {l:List (K × V)}
theorem ztl (S:KeyS P kt kf) (k:K) (w:World):∀(es:List MapEntry) (l:List (K × V)) (i:Nat),es.map (fun e=>(e.key,e.val))=l.map (fun p=>(kf p.1,vf p.2)) ->
  (Instr.findAsking kt (kf k) es i).run P w = .ok ((l.findIdx? (fun p=>decide (k=p.1))).bind fun j=>(l[j]?).map fun p=>(i+j,vf p.2)) w
 | [],[],i,_=>by simp [Instr.findAsking]
 | [],p :: l,i,h=>by simp at h
 | e :: es,[],i,h=>by simp at h
 | e :: es,p :: l,i,h=>by
  simp only [List.map_cons,List.cons.injEq,Prod.mk.injEq] at h;obtain⟨⟨h1,h2⟩,h3⟩:=h;have ih:=ztl S k w es l (i+1) h3;unfold Instr.findAsking;rw [h1];simp only [Sem.run_bind,S.eq,Result.andThen_ok,List.findIdx?_cons];by_cases hk:k=p.1
  ·simp [hk,h2]
  ·simp only [decide_eq_false hk,Bool.false_eq_true,if_false,ih]
   cases l.findIdx? (fun p=>decide (k=p.1)) with
   | none=>simp
   | some j=>simp [Nat.add_assoc,Nat.add_comm 1 j]
theorem ztv (S:KeyS P kt kf) (k:K):∀(es:List MapEntry) (l:List (K × V)),es.map (fun e=>(e.key,e.val))=l.map (fun p=>(kf p.1,vf p.2)) ->
  es.findIdx? (fun e=>zid (kf k) e.key)=l.findIdx? (fun p=>decide (k=p.1))
 | [],[],_=>rfl
 | [],p :: l,h=>by simp at h
 | e :: es,[],h=>by simp at h
 | e :: es,p :: l,h=>by
  simp only [List.map_cons,List.cons.injEq,Prod.mk.injEq] at h;obtain⟨⟨h1,h2⟩,h3⟩:=h;rw [List.findIdx?_cons,List.findIdx?_cons,h1,S.is,ztv S k es l h3]
theorem MapSt.find (S:KeyS P kt kf) (M:MapSt kf vf h r l) (k:K) :
  ∃ es ck,h[r]? = some (.map es ck)/\Stamped es ck/\es.toList.map (fun e=>(e.key,e.val))=l.map (fun p=>(kf p.1,vf p.2))/\es.size=l.length/\(l.map (·.1)).Nodup /\
   ((es.toList.findIdx? (fun e=>zid (kf k) e.key)=none/\(∀ p∈l,p.1≠k)/\∀ w,(Instr.findKey kt (kf k) es.toList).run P w = .ok none w) ∨
   ∃ j v e,es.toList.findIdx? (fun e=>zid (kf k) e.key)=some j/\l[j]? = some (k,v)/\es[j]? = some e/\e.key=kf k/\e.val=vf v/\∀ w,(Instr.findKey kt (kf k) es.toList).run P w = .ok (some (j,vf v)) w):=by
 obtain⟨es,ck,h1,h2,h4⟩:=M;have hl:es.size=l.length:=by have:=congrArg List.length h4;simpa using this
 have hn:(l.map (·.1)).Nodup:=by
  have e1:es.toList.map (·.key)=(l.map (·.1)).map kf:=by
   have:=congrArg (List.map Prod.fst) h4;simpa [List.map_map,Function.comp_def] using this
  have:=h2.2.2;rw [e1] at this;exact List.Pairwise.of_map kf (fun a b hab e=>hab (by rw [e])) this
 have hk:∀ w,(Instr.findKey kt (kf k) es.toList).run P w = .ok ((l.findIdx? (fun p=>decide (k=p.1))).bind fun j=>(l[j]?).map fun p=>(j,vf p.2)) w:=fun w=>by
  rw [run_findKey_eq w S.und];have:=ztl S k w es.toList l 0 h4;simpa using this
 refine⟨es,ck,h1,h2,h4,hl,hn,?_⟩;have hi:=ztv S k es.toList l h4
 cases hc:l.findIdx? (fun p=>decide (k=p.1)) with
 | none =>
  left
  rw [hc] at hi hk;refine⟨hi,fun p hp e=>?_,hk⟩;have:=(List.findIdx?_eq_none_iff.1 hc) p hp
  simp [e] at this
 | some j =>
  right
  rw [hc] at hi hk;obtain⟨hj,hk2,_⟩:=List.findIdx?_eq_some_iff_getElem.1 hc;have hj1:j<es.toList.length:=by simp;omega
  have e2:=congrArg (fun z=>z[j]?) h4;simp only [List.getElem?_map,List.getElem?_eq_getElem hj1,List.getElem?_eq_getElem hj,Option.map_some,Option.some.injEq,Prod.mk.injEq] at e2;have hkk:k=l[j].1:=by simpa using hk2
  refine⟨j,l[j].2,es.toList[j],hi,by rw [List.getElem?_eq_getElem hj,hkk],by simp,by rw [e2.1,← hkk],e2.2,fun w=>?_⟩;rw [hk w];simp [List.getElem?_eq_getElem hj]
theorem MapSt.put (S:KeyS P kt kf) (M:MapSt kf vf h r l) (k:K) (v:V):MapSt kf vf (setM h r (kf k) (vf v)) r (zuk l k v):=by
 obtain⟨es,ck,h1,h2,h4,hl,hn,C⟩:=M.find S k;have hs:=zpx (k:=kf k) (v:=vf v) h1;rcases C with⟨c1,c2,_⟩ | ⟨j,u,e,c1,c2,c3,c4,c5,_⟩
 ·rw [c1] at hs
  refine⟨_,_,hs,stamped_push h2 fun x hx hxe=>?_,?_⟩
  ·have hm:(x.key,x.val)∈l.map fun p=>(kf p.1,vf p.2):=by rw [← h4];exact List.mem_map.2 ⟨x,hx,rfl⟩
   obtain⟨p,hp,hpe⟩:=List.mem_map.1 hm;exact c2 p hp (S.inj (by rw [(Prod.mk.inj hpe).1,hxe]))
  ·rw [zkt c2];simp [h4]
 ·rw [c1] at hs
  refine⟨_,_,hs,stamped_modify h2 j _ (fun _ _=>rfl) (fun x _ hx=>by rw [c3] at hx;cases hx;exact c4.symm),?_⟩;rw [(zj7 c2 hn).2 v];apply List.ext_getElem?;intro i;have e2:=congrArg (fun z=>z[i]?) h4;simp only [List.getElem?_map,Array.getElem?_toList] at e2;simp only [List.getElem?_map,Array.getElem?_toList,Array.getElem?_modify,List.getElem?_set];by_cases hij:j=i
  ·subst hij
   have hj2:j<l.length:=(List.getElem?_eq_some_iff.1 c2).1;simp [c3,hj2]
  ·simp [hij,e2]
variable {e:Env} {o:Oper} {m:Option Nat}
theorem qlg {t et:Nat} {x y:Operand} {k:K} {z:V} (ho:o.op = .lookup t x y true) (hx:evO e x=some (.map m)) (hy:evO e y=some (kf k)) (ht:P.underlying t=some (.map kt et)) (S:KeyS P kt kf)
  (hz:∀ w,(zeroValue et).run P w = .ok (vf z) w) (hr:m=some r) (hm:MapSt kf vf h r l):Yl P e h o (.tuple #[vf ((zi5 l k).getD z),.bool (zi5 l k).isSome]):=by
 intro ρ w hA hw;subst hw;subst hr;obtain⟨es,ck,h1,h2,h4,hl,hn,C⟩:=hm.find S k;rcases C with⟨_,c2,c3⟩ | ⟨j,u,e',_,c2,_,_,_,c3⟩
 ·simp [execOp,ho,hA _ _ hx,hA _ _ hy,Instr.lookup,run_underlying ht,MapKept.run_getObj_map h1,S.chk,c3,hz,ziy c2,Result.andThen]
 ·simp [execOp,ho,hA _ _ hx,hA _ _ hy,Instr.lookup,run_underlying ht,MapKept.run_getObj_map h1,S.chk,c3,(zj7 c2 hn).1,Result.andThen]
theorem qlj {t et:Nat} {x y z:Operand} {k:K} {v:V} (ho:o.op = .mapUpdate t x y z) (hx:evO e x=some (.map m)) (hy:evO e y=some (kf k)) (hz:evO e z=some (vf v)) (ht:P.underlying t=some (.map kt et)) (S:KeyS P kt kf)
  (hr:m=some r) (hm:MapSt kf vf h r l) (he:h'=setM h r (kf k) (vf v)):Yh P e h o undef h':=by
 intro ρ w hA hw;subst he;subst hw;subst hr;obtain⟨es,ck,h1,h2,h4,hl,hn,C⟩:=hm.find S k
 have hs:∀ o',(setM w.heap r (kf k) (vf v))[r]? = some o'->w.heap.setIfInBounds r o'=setM w.heap r (kf k) (vf v):=fun o' h=>by
  apply Array.ext_getElem?;intro i;have hlt:=(Array.getElem?_eq_some_iff.1 h1).1;by_cases hi:i=r
  ·subst hi;rw [h];simp [hlt]
  ·rw [zi6 hi];simp [Ne.symm hi]
 have hat:=zpx (k:=kf k) (v:=vf v) h1;rcases C with⟨c1,c2,c3⟩ | ⟨j,u,e',c1,c2,c4,c5,c6,c3⟩
 ·rw [c1] at hat
  refine⟨{ w with heap:=setM w.heap r (kf k) (vf v) },⟨rfl,rfl,rfl,rfl,fun _=>Nat.le_refl _⟩,.inr ⟨?_,rfl⟩⟩;simp [execOp,ho,hA _ _ hx,hA _ _ hy,hA _ _ hz,Instr.mapUpdate,run_underlying ht,MapKept.run_getObj_map h1,S.chk,c3,MapKept.run_setObj_map _ h1,hs _ hat,Result.andThen]
 ·rw [c1] at hat
  refine⟨{ w with heap:=setM w.heap r (kf k) (vf v) },⟨rfl,rfl,rfl,rfl,fun _=>Nat.le_refl _⟩,.inr ⟨?_,rfl⟩⟩;simp [execOp,ho,hA _ _ hx,hA _ _ hy,hA _ _ hz,Instr.mapUpdate,run_underlying ht,MapKept.run_getObj_map h1,S.chk,c3,c4,c5,S.st,MapKept.run_setObj_map _ h1,hs _ hat,Result.andThen]
end
def zzc {K V:Type} (kf:K->Value) (vf:V->Value) (h:zaa):Option Nat->List (K × V)->Prop
 | none,l=>l=[]
 | some r,l=>MapSt kf vf h r l
theorem qde {P:Program} {kt:TypeId} {K V:Type} [DecidableEq K] {kf:K->Value} {vf:V->Value} {h:zaa} {l:List (K × V)} {e:Env} {o:Oper} {m:Option Nat} {t et:Nat} {x y:Operand} {k:K} {z:V} (ho:o.op = .lookup t x y true) (hx:evO e x=some (.map m)) (hy:evO e y=some (kf k)) (ht:P.underlying t=some (.map kt et)) (S:KeyS P kt kf)
  (hz:∀ w,(zeroValue et).run P w = .ok (vf z) w) (hm:zzc kf vf h m l):Yl P e h o (.tuple #[vf ((zi5 l k).getD z),.bool (zi5 l k).isSome]):=by
 cases m with
 | some r=>exact qlg ho hx hy ht S hz rfl hm
 | none =>
  have hl:l=[]:=hm;subst hl;intro ρ w hA hw
  have hfk:(Instr.findKey kt (kf k) []).run P w = .ok none w:=by
   rw [run_findKey_eq w S.und];simp [Instr.findAsking]
  simp [execOp,ho,hA _ _ hx,hA _ _ hy,Instr.lookup,run_underlying ht,S.chk,hfk,hz,zi5,Result.andThen]
end Go.Q
end
section
namespace Go.V
open Go.Q Go.MapKept
structure CB where
 n:Nat
 u:Bool
 w:Bool
 el:Nat
 es:Nat
 d:Nat
 c:T AV d
inductive KK | s
inductive Blk | c (b:CB) | m (k:KK) (l:List (AV × AV)) | q (cap:Nat) (l:List AV)
def Blk.wr:Blk->Bool | .c b=>b.w | _=>true
def DH:Nat:=8
def GN:Nat:=16
structure HS where
 nx:Nat
 h:T Blk DH
def Pl.at (x:Pl) (j:Nat):Addr:=⟨x.b,x.o+j,none⟩
def CB.room (bl:CB) (x:Pl):Nat:=if bl.u then x.k*bl.es else bl.n
structure RelB (φ:Ph) (bl:CB) (x:Pl) (hc:zaa):Prop where
 lt:x.b<hc.size
 dn:bl.n<=4 ^ bl.d
 rn:bl.n<=bl.room x
 cell:∀ j,j<bl.n->∃ v u,gt bl.d j bl.c=some v/\cv φ v=some u/\u.oneCell'=true/\zab hc (x.at j)=some u
 wr:bl.w=true->∃ c el lo hi,hc[x.b]? = some (.cells c el (lo,hi))/\(lo=hi∨c.size<=lo)/\x.o+bl.room x<=c.size
theorem RelB.wrh {φ:Ph} {bl:CB} {x:Pl} {hc:zaa} (r:RelB φ bl x hc) (hw:bl.w=true) {j:Nat} (hj:j<bl.room x):WrH hc (x.at j):=by
 obtain⟨c,el,lo,hi,h1,h2,h3⟩:=r.wr hw;have hlt:x.o+j<c.size:=by omega
 refine⟨⟨c[x.o+j],?_⟩,?_⟩
 ·simp [zab,Pl.at,h1,hlt]
 ·simp only [zq6,Pl.at,h1]
  show (decide (lo<=x.o+j)&&decide (x.o+j<hi))=false
  have:¬ (lo<=x.o+j/\x.o+j<hi):=by rcases h2 with h2 | h2 <;> omega
  simpa using this
def cvp (φ:Ph):List (AV × AV)->Option (List (Value × Value))
 | []=>some []
 | p :: r=>match cv φ p.1,cv φ p.2,cvp φ r with | some k,some v,some l=>some ((k,v) :: l) | _,_,_=>none
theorem zp7 {φ ψ:Ph} (h:φ.le ψ):∀(l:List (AV × AV)) (us:List (Value × Value)),cvp φ l=some us->cvp ψ l=some us
 | [],us,e=>e
 | p :: r,us,e=>by
  simp only [cvp] at e ⊢;split at e
  ·rename_i k v l h1 h2 h3
   rw [zh9 h _ _ h1,zh9 h _ _ h2,zp7 h _ _ h3];exact e
  ·cases e
structure RelM (φ:Ph) (k:KK) (l:List (AV × AV)) (x:Pl) (hc:zaa):Prop where
 o:x.o=0
 m:∃ es ck,hc[x.b]? = some (.map es ck)/\Stamped es ck/\cvp φ l=some (es.toList.map fun e=>(e.key,e.val))
structure RelQ (φ:Ph) (cap:Nat) (l:List AV) (x:Pl) (hc:zaa):Prop where
 o:x.o=0
 q:∃ buf s r,hc[x.b]? = some (.chan cap buf false s r false)/\cvs φ l=some buf.toList
def RelO (φ:Ph) (bl:Blk) (x:Pl) (hc:zaa):Prop:=match bl with
 | .c b=>RelB φ b x hc
 | .m k l=>RelM φ k l x hc
 | .q c l=>RelQ φ c l x hc
theorem RelO.lt {φ:Ph} {bl:Blk} {x:Pl} {hc:zaa} (r:RelO φ bl x hc):x.b<hc.size:=by
 cases bl with
 | c b=>exact RelB.lt r
 | m k l=>obtain⟨es,ck,h,_⟩:=RelM.m r;exact(Array.getElem?_eq_some_iff.1 h).1
 | q c l=>obtain⟨b,s,q,h,_⟩:=RelQ.q r;exact(Array.getElem?_eq_some_iff.1 h).1
structure RelR (φ:Ph) (h:HS) (hc:zaa):Prop where
 idlt:∀ b x,φ b=some x->b<4 ^ DH
 blk:∀ b bl x,b<4 ^ DH->gt DH b h.h=some bl->φ b=some x->RelO φ bl x hc
structure Rel (base:zaa) (φ:Ph) (h:HS) (hc:zaa):Prop where
 lt:∀ b x,φ b=some x->b<h.nx
 nx:h.nx<=4 ^ DH
 un:∀ b,h.nx<=b->b<4 ^ DH->gt DH b h.h=none
 gl:∀ g,g<GN->φ g=some ⟨g,0,0⟩
 blk:∀ b bl x,b<4 ^ DH->gt DH b h.h=some bl->φ b=some x->RelO φ bl x hc/\(bl.wr=true->base.size<=x.b)
 sep:∀ b b' bl bl' x x',b<4 ^ DH->b'<4 ^ DH->gt DH b h.h=some bl->gt DH b' h.h=some bl'->φ b=some x->φ b'=some x'->b≠b'->bl.wr=true->x.b≠x'.b
 sz:base.size<=hc.size
 old:∀ i,i<base.size->hc[i]? = base[i]?
theorem Rel.idlt {base:zaa} {φ:Ph} {h:HS} {hc:zaa} (R:Rel base φ h hc) {b:Nat} {x:Pl} (e:φ b=some x):b<4 ^ DH:=Nat.lt_of_lt_of_le (R.lt b x e) R.nx
theorem Rel.toR {base:zaa} {φ:Ph} {h:HS} {hc:zaa} (R:Rel base φ h hc):RelR φ h hc:=⟨fun b x e=>R.idlt e,fun b bl x l g e=>(R.blk b bl x l g e).1⟩
theorem RelR.read {φ:Ph} {h:HS} {hc:zaa} (R:RelR φ h hc) {b o:Nat} {bl:CB} {x:Pl} (e:φ b=some x) (hb:gt DH b h.h=some (.c bl)) (ho:o<bl.n) :
  ∃ v u,gt bl.d o bl.c=some v/\cv φ v=some u/\u.oneCell'=true/\zab hc (x.at o)=some u:=RelB.cell (R.blk b _ x (R.idlt b x e) hb e) o ho
theorem Pl.at_add (x:Pl) (i j:Nat):(x.at i).add j=x.at (i+j):=by
 unfold Pl.at Addr.add;split
 ·subst_vars;simp
 ·simp [Nat.add_assoc]
theorem RelB.mono {φ ψ:Ph} (h:φ.le ψ) {bl:CB} {x:Pl} {hc:zaa} (r:RelB φ bl x hc):RelB ψ bl x hc :=
 ⟨r.lt,r.dn,r.rn,fun j hj=>let ⟨v,u,h1,h2,h3,h4⟩:=r.cell j hj;⟨v,u,h1,zh9 h _ _ h2,h3,h4⟩,r.wr⟩
theorem RelO.mono {φ ψ:Ph} (h:φ.le ψ) {bl:Blk} {x:Pl} {hc:zaa} (r:RelO φ bl x hc):RelO ψ bl x hc:=by
 cases bl with
 | c b=>exact RelB.mono h r
 | m k l=>obtain⟨o,es,ck,h1,h2,h4⟩:=r;exact⟨o,es,ck,h1,h2,zp7 h _ _ h4⟩
 | q c l=>obtain⟨o,b,s,q,h1,h2⟩:=r;exact⟨o,b,s,q,h1,ze0 h _ _ h2⟩
theorem RelB.heap {φ:Ph} {bl:CB} {x:Pl} {hc hc':zaa} (r:RelB φ bl x hc) (hs:hc.size<=hc'.size) (he:hc'[x.b]? = hc[x.b]?):RelB φ bl x hc':=by
 have hcell:∀ j,zab hc' (x.at j)=zab hc (x.at j):=fun j=>by unfold zab Pl.at;simp only [he]
 refine⟨Nat.lt_of_lt_of_le r.lt hs,r.dn,r.rn,fun j hj=>?_,fun hw=>?_⟩
 ·obtain⟨v,u,h1,h2,h3,h4⟩:=r.cell j hj
  exact⟨v,u,h1,h2,h3,by rw [hcell];exact h4⟩
 ·rw [he];exact r.wr hw
theorem RelO.heap {φ:Ph} {bl:Blk} {x:Pl} {hc hc':zaa} (r:RelO φ bl x hc) (hs:hc.size<=hc'.size) (he:hc'[x.b]? = hc[x.b]?):RelO φ bl x hc':=by
 cases bl with
 | c b=>exact RelB.heap r hs he
 | m k l=>obtain⟨o,es,ck,h1,h2⟩:=r;exact⟨o,es,ck,he.trans h1,h2⟩
 | q c l=>obtain⟨o,b,s,q,h1,h2⟩:=r;exact⟨o,b,s,q,he.trans h1,h2⟩
theorem setH_other {h:zaa} {a:Addr} {v:Value} {i:Nat} (hi:i≠a.block):(zd7 h a v)[i]? = h[i]?:=by
 unfold zd7;rw [Array.getElem?_modify,if_neg (fun e=>hi e.symm)]
theorem zy3 {h:zaa} {a:Addr} {v:Value} {c:Array Value} {el:TypeId} {fr:Nat × Nat} (he:h[a.block]? = some (.cells c el fr)):∃ c',(zd7 h a v)[a.block]? = some (.cells c' el fr)/\c'.size=c.size:=by
 unfold zd7;rw [Array.getElem?_modify,if_pos rfl,he];refine⟨_,rfl,?_⟩;split <;> simp
theorem setH_size {h:zaa} {a:Addr} {v:Value}:(zd7 h a v).size=h.size:=by simp [zd7]
structure Ex (φ:Ph) (h:HS) (φ':Ph) (h':HS):Prop where
 le:φ.le φ'
 nx:h.nx<=h'.nx
 un:∀ b,b<h.nx->φ b=none->φ' b=none/\gt DH b h'.h=gt DH b h.h
theorem Ex.rfl {φ:Ph} {h:HS}:Ex φ h φ h:=⟨Ph.le.rfl,Nat.le_refl _,fun _ _ e=>⟨e,Eq.refl _⟩⟩
theorem Ex.trans {φ ψ χ:Ph} {h h' h'':HS} (a:Ex φ h ψ h') (b:Ex ψ h' χ h''):Ex φ h χ h'' :=
 ⟨a.le.trans b.le,Nat.le_trans a.nx b.nx,fun c hc e=>let ⟨e1,e2⟩:=a.un c hc e;let ⟨e3,e4⟩:=b.un c (Nat.lt_of_lt_of_le hc a.nx) e1;⟨e3,e4.trans e2⟩⟩
theorem zsk {φ:Ph} {b c:Nat} {x:Pl} (e:φ b=some x) (n:φ c=none):b≠c:=fun h=>by subst h;rw [e] at n;cases n
theorem Rel.set {base:zaa} {φ:Ph} {h:HS} {hc hc':zaa} (R:Rel base φ h hc) {b:Nat} {bl bl':Blk} {x:Pl} (e:φ b=some x) (hb:gt DH b h.h=some bl) (hw:bl.wr=true) (hw':bl'.wr=true)
  (hs:hc'.size=hc.size) (ho:∀ i,i≠x.b->hc'[i]? = hc[i]?) (r:RelO φ bl' x hc'):Rel base φ ⟨h.nx,st DH b (some bl') h.h⟩ hc'/\Ex φ h φ ⟨h.nx,st DH b (some bl') h.h⟩:=by
 have hid:=R.idlt e;have hbase:=(R.blk b bl x hid hb e).2 hw
 have key:∀ b' bl'',b'<4 ^ DH->gt DH b' (st DH b (some bl') h.h)=some bl''->(b'=b/\bl''=bl')∨(b'≠b/\gt DH b' h.h=some bl''):=fun b' bl'' l g=>by
  by_cases hbb:b'=b
  ·subst hbb;rw [zht] at g;cases g;exact .inl ⟨rfl,rfl⟩
  ·rw [zar _ _ _ _ _ hid l (Ne.symm hbb)] at g;exact .inr ⟨hbb,g⟩
 refine⟨⟨R.lt,R.nx,fun c hc hl=>by rw [zar _ _ _ _ _ hid hl (Nat.ne_of_lt (Nat.lt_of_lt_of_le (R.lt _ _ e) hc))];exact R.un c hc hl,R.gl,fun b' bl'' y hb' hg e2=>?_,fun b1 b2 bl1 bl2 x1 x2 l1 l2 g1 g2 p1 p2 hne w1=>?_,by rw [hs];exact R.sz,fun i hi=>?_⟩,Ph.le.rfl,Nat.le_refl _,fun c hc n=>⟨n,?_⟩⟩
 ·rcases key _ _ hb' hg with⟨rfl,rfl⟩ | ⟨hbb,g⟩
  ·rw [e] at e2;cases e2
   exact⟨r,fun _=>hbase⟩
  ·obtain⟨rb2,hb2⟩:=R.blk b' bl'' y hb' g e2
   exact⟨rb2.heap (by rw [hs];exact Nat.le_refl _) (ho _ (R.sep b b' bl bl'' x y hid hb' hb g e e2 (Ne.symm hbb) hw).symm),hb2⟩
 ·rcases key _ _ l1 g1 with⟨rfl,rfl⟩ | ⟨n1,k1⟩ <;> rcases key _ _ l2 g2 with⟨rfl,rfl⟩ | ⟨n2,k2⟩
  ·exact absurd rfl hne
  ·exact R.sep _ b2 bl bl2 x1 x2 l1 l2 hb k2 p1 p2 hne hw
  ·exact R.sep b1 _ bl1 bl x1 x2 l1 l2 k1 hb p1 p2 hne w1
  ·exact R.sep b1 b2 bl1 bl2 x1 x2 l1 l2 k1 k2 p1 p2 hne w1
 ·rw [ho i (by omega)];exact R.old i hi
 ·exact zar _ _ _ _ _ hid (Nat.lt_of_lt_of_le hc R.nx) (zsk e n)
theorem Rel.add {base:zaa} {φ:Ph} {h:HS} {hc:zaa} (R:Rel base φ h hc) (bl:Blk) (hn:h.nx<4 ^ DH):Rel base φ ⟨h.nx+1,st DH h.nx (some bl) h.h⟩ hc/\Ex φ h φ ⟨h.nx+1,st DH h.nx (some bl) h.h⟩:=by
 have old:∀ b' bl' x,b'<4 ^ DH->φ b'=some x->gt DH b' (st DH h.nx (some bl) h.h)=some bl'->gt DH b' h.h=some bl':=fun b' bl' x l e g=>by
  rw [zar _ _ _ _ _ hn l (Nat.ne_of_gt (R.lt _ _ e))] at g;exact g
 exact⟨⟨fun b x e=>Nat.lt_succ_of_lt (R.lt b x e),hn,fun c hc hl=>by rw [zar _ _ _ _ _ hn hl (Nat.ne_of_lt hc)];exact R.un c (Nat.le_of_succ_le hc) hl,R.gl,fun b' bl' y hb' hg e2=>R.blk b' bl' y hb' (old _ _ _ hb' e2 hg) e2,
  fun b1 b2 bl1 bl2 x1 x2 l1 l2 g1 g2 p1 p2 hne w1=>R.sep b1 b2 bl1 bl2 x1 x2 l1 l2 (old _ _ _ l1 p1 g1) (old _ _ _ l2 p2 g2) p1 p2 hne w1,R.sz,R.old⟩,
  Ph.le.rfl,Nat.le_succ _,fun c hc n=>⟨n,zar _ _ _ _ _ hn (Nat.lt_trans hc hn) (Nat.ne_of_gt hc)⟩⟩
theorem zvu {h:zaa} {l:Array Value} {el j:Nat} {fr:Nat × Nat} {u:Value} (hj:l[j]? = some u):zab (h.push (.cells l el fr)) ⟨h.size,j,none⟩=some u:=by
 simp [zab,hj]
theorem zox {h:zaa} {o:Obj} {i:Nat} (hi:i<h.size):(h.push o)[i]? = h[i]?:=by
 rw [Array.getElem?_push,if_neg (by omega)]
def Ph.up (φ:Ph) (b:Nat) (x:Pl):Ph:=fun i=>if i=b then some x else φ i
theorem Ph.up_le {φ:Ph} {b:Nat} {x:Pl} (h:φ b=none):φ.le (φ.up b x):=fun i y e=>by
 unfold Ph.up;split
 ·subst_vars;rw [h] at e;cases e
 ·exact e
theorem Ph.up_eq {φ:Ph} {b:Nat} {x:Pl}:φ.up b x b=some x:=by simp [Ph.up]
theorem Ph.up_ne {φ:Ph} {b c:Nat} {x:Pl} (h:c≠b):φ.up b x c=φ c:=by simp [Ph.up,h]
theorem Rel.fresh {base:zaa} {φ:Ph} {h:HS} {hc:zaa} (R:Rel base φ h hc):φ h.nx=none:=by
 cases e:φ h.nx with
 | none=>rfl
 | some x=>exact absurd (R.lt _ _ e) (Nat.lt_irrefl _)
theorem Rel.reg {base:zaa} {φ:Ph} {h:HS} {hc:zaa} (R:Rel base φ h hc) {b k:Nat} {bl:Blk} {ob:Obj} (hn:b<h.nx) (hf:φ b=none) (hb:gt DH b h.h=some bl) (r:RelO (φ.up b ⟨hc.size,0,k⟩) bl ⟨hc.size,0,k⟩ (hc.push ob)) :
  Rel base (φ.up b ⟨hc.size,0,k⟩) h (hc.push ob):=by
 have hle:=Ph.up_le (x:=⟨hc.size,0,k⟩) hf;have hlt:∀ b' bl' x,b'<4 ^ DH->gt DH b' h.h=some bl'->φ b'=some x->x.b<hc.size:=fun b' bl' x l g e=>(R.blk b' bl' x l g e).1.lt;refine⟨fun b' x e=>?_,R.nx,R.un,fun g hg=>hle _ _ (R.gl g hg),fun b' bl' y hb' hg e2=>?_,fun b1 b2 bl1 bl2 x1 x2 l1 l2 g1 g2 p1 p2 hne w1=>?_,by simp;exact Nat.le_succ_of_le R.sz,fun i hi=>?_⟩
 ·by_cases hbb:b'=b
  ·subst hbb;exact hn
  ·rw [Ph.up_ne hbb] at e;exact R.lt _ _ e
 ·by_cases hbb:b'=b
  ·subst hbb
   rw [Ph.up_eq] at e2;cases e2;rw [hb] at hg;cases hg;exact⟨r,fun _=>R.sz⟩
  ·rw [Ph.up_ne hbb] at e2
   obtain⟨rb2,hb2⟩:=R.blk b' bl' y hb' hg e2;exact⟨(rb2.mono hle).heap (by simp) (zox rb2.lt),hb2⟩
 ·by_cases n1:b1=b
  ·subst n1
   rw [Ph.up_eq] at p1;cases p1;rw [Ph.up_ne (Ne.symm hne)] at p2;have:=hlt _ _ _ l2 g2 p2;simp;omega
  ·rw [Ph.up_ne n1] at p1
   by_cases n2:b2=b
   ·subst n2
    rw [Ph.up_eq] at p2;cases p2;have:=hlt _ _ _ l1 g1 p1;simp;omega
   ·rw [Ph.up_ne n2] at p2
    exact R.sep b1 b2 bl1 bl2 x1 x2 l1 l2 g1 g2 p1 p2 hne w1
 ·rw [zox (Nat.lt_of_lt_of_le hi R.sz)];exact R.old i hi
theorem Rel.new {base:zaa} {φ:Ph} {h:HS} {hc:zaa} (R:Rel base φ h hc) {k:Nat} {bl:Blk} {ob:Obj} (hn:h.nx<4 ^ DH) (r:RelO (φ.up h.nx ⟨hc.size,0,k⟩) bl ⟨hc.size,0,k⟩ (hc.push ob)) :
  Rel base (φ.up h.nx ⟨hc.size,0,k⟩) ⟨h.nx+1,st DH h.nx (some bl) h.h⟩ (hc.push ob)/\Ex φ h (φ.up h.nx ⟨hc.size,0,k⟩) ⟨h.nx+1,st DH h.nx (some bl) h.h⟩:=by
 obtain⟨R1,X1⟩:=R.add bl hn;refine⟨R1.reg (Nat.lt_succ_self _) R.fresh (zht _ _ _ _) r,Ph.up_le R.fresh,Nat.le_succ _,fun c hc n=>⟨?_,(X1.un c hc n).2⟩⟩;rw [Ph.up_ne (Nat.ne_of_lt hc)];exact n
theorem RelB.laid {φ:Ph} {hc:zaa} {bl:CB} {k:Nat} {fr:Nat × Nat} (us:List Value) (z:List Value) (hl:us.length=bl.n) (hd:bl.n<=4 ^ bl.d)
  (hc':∀ j,j<bl.n->∃ v u,gt bl.d j bl.c=some v/\cv φ v=some u/\u.oneCell'=true/\us[j]? = some u)
  (hr:(bl.u=true/\(us++z).length=k*bl.es)∨(bl.u=false/\z=[])) (hfr:fr=(0,0)∨(us++z).length<=fr.1):RelB φ bl ⟨hc.size,0,k⟩ (hc.push (.cells (us++z).toArray bl.el fr)):=by
 have hroom:bl.room ⟨hc.size,0,k⟩=(us++z).length:=by
  unfold CB.room;rcases hr with⟨h1,h2⟩ | ⟨h1,h2⟩
  ·rw [h1,if_pos rfl,h2]
  ·rw [h1,h2];simp [hl]
 refine⟨by simp,hd,by rw [hroom];simp [hl],fun j hj=>?_,fun _=>?_⟩
 ·obtain⟨v,u,a1,a2,a3,a4⟩:=hc' j hj
  refine⟨v,u,a1,a2,a3,?_⟩;show zab _ ⟨hc.size,0+j,none⟩=_;rw [Nat.zero_add];refine zvu ?_;rw [List.getElem?_toArray,List.getElem?_append_left (by omega)];exact a4
 ·refine⟨(us++z).toArray,bl.el,fr.1,fr.2,by simp,?_,by rw [hroom];simp⟩
  rcases hfr with rfl | hfr
  ·exact .inl rfl
  ·exact .inr (by simpa using hfr)
theorem Rel.kill {base:zaa} {φ:Ph} {h:HS} {hc:zaa} (R:Rel base φ h hc) {b:Nat} {x:Pl} (e:φ b=some x):Rel base φ ⟨h.nx,st DH b none h.h⟩ hc/\Ex φ h φ ⟨h.nx,st DH b none h.h⟩:=by
 have hid:=R.idlt e
 have old:∀ b' bl',b'<4 ^ DH->gt DH b' (st DH b none h.h)=some bl'->gt DH b' h.h=some bl':=by
  intro b' bl' l g;by_cases n2:b'=b
  ·subst n2;rw [zht] at g;cases g
  ·rw [zar _ _ _ _ _ hid l (Ne.symm n2)] at g;exact g
 exact⟨⟨R.lt,R.nx,fun c hc hl=>by rw [zar _ _ _ _ _ hid hl (Nat.ne_of_lt (Nat.lt_of_lt_of_le (R.lt _ _ e) hc))];exact R.un c hc hl,R.gl,fun b' bl' y hb' hg e2=>R.blk b' bl' y hb' (old _ _ hb' hg) e2,
  fun b1 b2 bl1 bl2 x1 x2 l1 l2 g1 g2 p1 p2 hne w1=>R.sep b1 b2 bl1 bl2 x1 x2 l1 l2 (old _ _ l1 g1) (old _ _ l2 g2) p1 p2 hne w1,R.sz,R.old⟩,
  Ph.le.rfl,Nat.le_refl _,fun c hc n=>⟨n,zar _ _ _ _ _ hid (Nat.lt_of_lt_of_le hc R.nx) (zsk e n)⟩⟩
theorem Rel.write {base:zaa} {φ:Ph} {h:HS} {hc:zaa} (R:Rel base φ h hc) {b o:Nat} {bl:CB} {x:Pl} {v:AV} {u:Value} (e:φ b=some x) (hb:gt DH b h.h=some (.c bl)) (hw:bl.w=true) (ho:o<bl.n)
  (hv:cv φ v=some u) (h1:u.oneCell'=true):WrH hc (x.at o)/\Rel base φ ⟨h.nx,st DH b (some (.c { bl with c:=st bl.d o (some v) bl.c })) h.h⟩ (zd7 hc (x.at o) u)/\Ex φ h φ ⟨h.nx,st DH b (some (.c { bl with c:=st bl.d o (some v) bl.c })) h.h⟩:=by
 have rb:RelB φ bl x hc:=(R.blk b _ x (R.idlt e) hb e).1;have hwr:=rb.wrh hw (Nat.lt_of_lt_of_le ho rb.rn);refine⟨hwr,R.set e hb hw (by exact hw) setH_size (fun i hi=>setH_other hi) ?_⟩;refine⟨by rw [setH_size];exact rb.lt,rb.dn,rb.rn,fun j hj=>?_,fun _=>?_⟩
 rotate_left
 ·obtain⟨c,el,lo,hi,h1,h2,h3⟩:=rb.wr hw
  obtain⟨c',h4,h5⟩:=zy3 (a:=x.at o) (v:=u) h1;exact⟨c',el,lo,hi,h4,by rw [h5];exact h2,by rw [h5];exact h3⟩
 by_cases hjo:j=o
 ·subst hjo
  obtain⟨v0,u0,_,_,_,h4⟩:=rb.cell j hj;exact⟨v,u,zht _ _ _ _,hv,h1,zkd h4⟩
 ·obtain⟨v0,u0,g1,g2,g3,g4⟩:=rb.cell j hj
  refine⟨v0,u0,?_,g2,g3,?_⟩
  ·show gt bl.d j (st bl.d o (some v) bl.c)=_
   rw [zar _ _ _ _ _ (Nat.lt_of_lt_of_le ho rb.dn) (Nat.lt_of_lt_of_le hj rb.dn) (Ne.symm hjo)];exact g1
  ·rw [zle (.inr (by simp [Pl.at];exact hjo))];exact g4
end Go.V
end

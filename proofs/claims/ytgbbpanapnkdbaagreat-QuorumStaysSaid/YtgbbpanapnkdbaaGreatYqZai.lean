/- A part of the proof of statements of this seat: lemmas, no statement of their own. -/
import Derived.Test.YtgbbpanapnkdbaaGreatYqZah
import Derived.Maps.RangeRun
import Derived.WideKeyRuns
import Derived.Test.YtgbbpanapnkdbaaGreatYqZad
import Derived.Test.YtgbbpanapnkdbaaGreatYqZae
set_option linter.unusedVariables false
set_option linter.unusedSimpArgs false
section
/- A range over a map. -/
namespace Go.Q
section
variable {P:Program} {e:Env} {h:Heap} {o:Oper}
end
end Go.Q
end
section
/- Maps whose keys are structs. -/
namespace Go.Q
open Go.MapKept
/-- values of a struct's type are keys -/
structure KeyS (P:Program) (kt:TypeId) {K:Type} [DecidableEq K] (kf:K->Value):Prop where
 und:(match P.underlying kt with | some (.array _ _) | some (.struct _)=>true | _=>false)=true
 is:∀ a b,keyIs (kf a) (kf b)=decide (a=b)
 chk:∀ b k w,(Instr.checkKey b 10000 kt (kf k)).run P w = .ok () w
 eq:∀ a b w,(Op.equal kt (kf a) (kf b)).run P w = .ok (decide (a=b)) w
 st:∀ k w,(Instr.keyThatStays (kf k) (kf k)).run P w = .ok (kf k) w
theorem KeyS.inj {P:Program} {kt:TypeId} {K:Type} [DecidableEq K] {kf:K->Value} (S:KeyS P kt kf) {a b:K} (h:kf a=kf b):a=b:=by
 have h1:=S.is a b
 rw [← h,S.is a a] at h1
 simpa using h1
def MapSt {K V:Type} (kf:K->Value) (vf:V->Value) (h:Heap) (r:Nat) (l:List (K × V)):Prop :=
 ∃ (es:Array MapEntry) (ck:Nat),h[r]? = some (.map es ck)/\Stamped es ck/\es.toList.map (fun e=>(e.key,e.val))=l.map (fun p=>(kf p.1,vf p.2))
section
variable {K V:Type} {kf:K->Value} {vf:V->Value} {h h':Heap} {r:Nat} {l:List (K × V)}
theorem MapSt.mk0 (h:Heap):MapSt kf vf (h.push (.map #[] 0)) h.size ([]:List (K × V)):=⟨#[],0,by simp,stamped_empty 0,rfl⟩
theorem MapSt.old (M:MapSt kf vf h r l) (e:h'[r]? = h[r]?):MapSt kf vf h' r l:=by
 obtain ⟨es,ck,h1,h2⟩:=M; exact ⟨es,ck,e.trans h1,h2⟩
theorem MapSt.lt (M:MapSt kf vf h r l):r < h.size:=by
 obtain ⟨es,ck,h1,_⟩:=M; exact (Array.getElem?_eq_some_iff.1 h1).1
theorem MapSt.ext {B:Nat} (M:MapSt kf vf h r l) (X:Ext B h h') (hb:r < B):MapSt kf vf h' r l:=M.old (X.2 r hb)
end
section
variable {P:Program} {kt:TypeId} {K V:Type} [DecidableEq K] {kf:K->Value} {vf:V->Value} {h h':Heap} {r:Nat} {l:List (K × V)}
theorem ask_find (S:KeyS P kt kf) (k:K) (w:World):∀ (es:List MapEntry) (l:List (K × V)) (i:Nat),es.map (fun e=>(e.key,e.val))=l.map (fun p=>(kf p.1,vf p.2)) ->
  (Instr.findAsking kt (kf k) es i).run P w = .ok ((l.findIdx? (fun p=>decide (k=p.1))).bind fun j=>(l[j]?).map fun p=>(i + j,vf p.2)) w
 | [],[],i,_=>by simp [Instr.findAsking]
 | [],p :: l,i,h=>by simp at h
 | e :: es,[],i,h=>by simp at h
 | e :: es,p :: l,i,h=>by
  simp only [List.map_cons,List.cons.injEq,Prod.mk.injEq] at h
  obtain ⟨⟨h1,h2⟩,h3⟩:=h
  have ih:=ask_find S k w es l (i + 1) h3
  unfold Instr.findAsking
  rw [h1]
  simp only [Sem.run_bind,S.eq,Result.andThen_ok,List.findIdx?_cons]
  by_cases hk:k=p.1
  ·simp [hk,h2]
  ·simp only [decide_eq_false hk,Bool.false_eq_true,if_false,ih]
   cases l.findIdx? (fun p=>decide (k=p.1)) with
   | none=>simp
   | some j=>simp [Nat.add_assoc,Nat.add_comm 1 j]
theorem idx_same (S:KeyS P kt kf) (k:K):∀ (es:List MapEntry) (l:List (K × V)),es.map (fun e=>(e.key,e.val))=l.map (fun p=>(kf p.1,vf p.2)) ->
  es.findIdx? (fun e=>keyIs (kf k) e.key)=l.findIdx? (fun p=>decide (k=p.1))
 | [],[],_=>rfl
 | [],p :: l,h=>by simp at h
 | e :: es,[],h=>by simp at h
 | e :: es,p :: l,h=>by
  simp only [List.map_cons,List.cons.injEq,Prod.mk.injEq] at h
  obtain ⟨⟨h1,h2⟩,h3⟩:=h
  rw [List.findIdx?_cons,List.findIdx?_cons,h1,S.is,idx_same S k es l h3]
/-- where a key stands -/
theorem MapSt.find (S:KeyS P kt kf) (M:MapSt kf vf h r l) (k:K) :
  ∃ es ck,h[r]? = some (.map es ck)/\Stamped es ck/\es.toList.map (fun e=>(e.key,e.val))=l.map (fun p=>(kf p.1,vf p.2))/\es.size=l.length/\(l.map (·.1)).Nodup /\
   ((es.toList.findIdx? (fun e=>keyIs (kf k) e.key)=none/\(∀ p∈l,p.1≠k)/\∀ w,(Instr.findKey kt (kf k) es.toList).run P w = .ok none w) ∨
   ∃ j v e,es.toList.findIdx? (fun e=>keyIs (kf k) e.key)=some j/\l[j]? = some (k,v)/\es[j]? = some e/\e.key=kf k/\e.val=vf v/\∀ w,(Instr.findKey kt (kf k) es.toList).run P w = .ok (some (j,vf v)) w):=by
 obtain ⟨es,ck,h1,h2,h4⟩:=M
 have hl:es.size=l.length:=by have:=congrArg List.length h4; simpa using this
 have hn:(l.map (·.1)).Nodup:=by
  have e1:es.toList.map (·.key)=(l.map (·.1)).map kf:=by
   have:=congrArg (List.map Prod.fst) h4
   simpa [List.map_map,Function.comp_def] using this
  have:=h2.2.2
  rw [e1] at this
  exact List.Pairwise.of_map kf (fun a b hab e=>hab (by rw [e])) this
 have hk:∀ w,(Instr.findKey kt (kf k) es.toList).run P w = .ok ((l.findIdx? (fun p=>decide (k=p.1))).bind fun j=>(l[j]?).map fun p=>(j,vf p.2)) w:=fun w=>by
  rw [run_findKey_eq w S.und]
  have:=ask_find S k w es.toList l 0 h4
  simpa using this
 refine ⟨es,ck,h1,h2,h4,hl,hn,?_⟩
 have hi:=idx_same S k es.toList l h4
 cases hc:l.findIdx? (fun p=>decide (k=p.1)) with
 | none =>
  left
  rw [hc] at hi hk
  refine ⟨hi,fun p hp e=>?_,hk⟩
  have:=(List.findIdx?_eq_none_iff.1 hc) p hp
  simp [e] at this
 | some j =>
  right
  rw [hc] at hi hk
  obtain ⟨hj,hk2,_⟩:=List.findIdx?_eq_some_iff_getElem.1 hc
  have hj1:j < es.toList.length:=by simp; omega
  have e2:=congrArg (fun z=>z[j]?) h4
  simp only [List.getElem?_map,List.getElem?_eq_getElem hj1,List.getElem?_eq_getElem hj,Option.map_some,Option.some.injEq,Prod.mk.injEq] at e2
  have hkk:k=l[j].1:=by simpa using hk2
  refine ⟨j,l[j].2,es.toList[j],hi,by rw [List.getElem?_eq_getElem hj,hkk],by simp,by rw [e2.1,← hkk],e2.2,fun w=>?_⟩
  rw [hk w]; simp [List.getElem?_eq_getElem hj]
theorem MapSt.put (S:KeyS P kt kf) (M:MapSt kf vf h r l) (k:K) (v:V):MapSt kf vf (setM h r (kf k) (vf v)) r (mput l k v):=by
 obtain ⟨es,ck,h1,h2,h4,hl,hn,C⟩:=M.find S k
 have hs:=setM_at (k:=kf k) (v:=vf v) h1
 rcases C with ⟨c1,c2,_⟩ | ⟨j,u,e,c1,c2,c3,c4,c5,_⟩
 ·rw [c1] at hs
  refine ⟨_,_,hs,stamped_push h2 fun x hx hxe=>?_,?_⟩
  ·have hm:(x.key,x.val)∈l.map fun p=>(kf p.1,vf p.2):=by rw [← h4]; exact List.mem_map.2 ⟨x,hx,rfl⟩
   obtain ⟨p,hp,hpe⟩:=List.mem_map.1 hm
   exact c2 p hp (S.inj (by rw [(Prod.mk.inj hpe).1,hxe]))
  ·rw [mput_none c2]; simp [h4]
 ·rw [c1] at hs
  refine ⟨_,_,hs,stamped_modify h2 j _ (fun _ _=>rfl) (fun x _ hx=>by rw [c3] at hx; cases hx; exact c4.symm),?_⟩
  rw [(mget_at c2 hn).2 v]
  apply List.ext_getElem?
  intro i
  have e2:=congrArg (fun z=>z[i]?) h4
  simp only [List.getElem?_map,Array.getElem?_toList] at e2
  simp only [List.getElem?_map,Array.getElem?_toList,Array.getElem?_modify,List.getElem?_set]
  by_cases hij:j=i
  ·subst hij
   have hj2:j < l.length:=(List.getElem?_eq_some_iff.1 c2).1
   simp [c3,hj2]
  ·simp [hij,e2]
variable {e:Env} {o:Oper} {m:Option Nat}
theorem y_lk2s {t et:Nat} {x y:Operand} {k:K} {z:V} (ho:o.op = .lookup t x y true) (hx:evO e x=some (.map m)) (hy:evO e y=some (kf k)) (ht:P.underlying t=some (.map kt et)) (S:KeyS P kt kf)
  (hz:∀ w,(zeroValue et).run P w = .ok (vf z) w) (hr:m=some r) (hm:MapSt kf vf h r l):Yl P e h o (.tuple #[vf ((mget l k).getD z),.bool (mget l k).isSome]):=by
 intro ρ w hA hw
 subst hw; subst hr
 obtain ⟨es,ck,h1,h2,h4,hl,hn,C⟩:=hm.find S k
 rcases C with ⟨_,c2,c3⟩ | ⟨j,u,e',_,c2,_,_,_,c3⟩
 ·simp [execOp,ho,hA _ _ hx,hA _ _ hy,Instr.lookup,run_underlying ht,MapKept.run_getObj_map h1,S.chk,c3,hz,mget_none c2,Result.andThen]
 ·simp [execOp,ho,hA _ _ hx,hA _ _ hy,Instr.lookup,run_underlying ht,MapKept.run_getObj_map h1,S.chk,c3,(mget_at c2 hn).1,Result.andThen]
theorem h_mus {t et:Nat} {x y z:Operand} {k:K} {v:V} (ho:o.op = .mapUpdate t x y z) (hx:evO e x=some (.map m)) (hy:evO e y=some (kf k)) (hz:evO e z=some (vf v)) (ht:P.underlying t=some (.map kt et)) (S:KeyS P kt kf)
  (hr:m=some r) (hm:MapSt kf vf h r l) (he:h'=setM h r (kf k) (vf v)):Yh P e h o undef h':=by
 intro ρ w hA hw
 subst he; subst hw; subst hr
 obtain ⟨es,ck,h1,h2,h4,hl,hn,C⟩:=hm.find S k
 have hs:∀ o',(setM w.heap r (kf k) (vf v))[r]? = some o'->w.heap.setIfInBounds r o'=setM w.heap r (kf k) (vf v):=fun o' h=>by
  apply Array.ext_getElem?
  intro i
  have hlt:=(Array.getElem?_eq_some_iff.1 h1).1
  by_cases hi:i=r
  ·subst hi; rw [h]; simp [hlt]
  ·rw [setM_other hi]; simp [Ne.symm hi]
 have hat:=setM_at (k:=kf k) (v:=vf v) h1
 rcases C with ⟨c1,c2,c3⟩ | ⟨j,u,e',c1,c2,c4,c5,c6,c3⟩
 ·rw [c1] at hat
  refine ⟨{ w with heap:=setM w.heap r (kf k) (vf v) },⟨rfl,rfl,rfl,rfl,fun _=>Nat.le_refl _⟩,.inr ⟨?_,rfl⟩⟩
  simp [execOp,ho,hA _ _ hx,hA _ _ hy,hA _ _ hz,Instr.mapUpdate,run_underlying ht,MapKept.run_getObj_map h1,S.chk,c3,MapKept.run_setObj_map _ h1,hs _ hat,Result.andThen]
 ·rw [c1] at hat
  refine ⟨{ w with heap:=setM w.heap r (kf k) (vf v) },⟨rfl,rfl,rfl,rfl,fun _=>Nat.le_refl _⟩,.inr ⟨?_,rfl⟩⟩
  simp [execOp,ho,hA _ _ hx,hA _ _ hy,hA _ _ hz,Instr.mapUpdate,run_underlying ht,MapKept.run_getObj_map h1,S.chk,c3,c4,c5,S.st,MapKept.run_setObj_map _ h1,hs _ hat,Result.andThen]
end
def MapAS {K V:Type} (kf:K->Value) (vf:V->Value) (h:Heap):Option Nat->List (K × V)->Prop
 | none,l=>l=[]
 | some r,l=>MapSt kf vf h r l
theorem y_lk2a {P:Program} {kt:TypeId} {K V:Type} [DecidableEq K] {kf:K->Value} {vf:V->Value} {h:Heap} {l:List (K × V)} {e:Env} {o:Oper} {m:Option Nat} {t et:Nat} {x y:Operand} {k:K} {z:V} (ho:o.op = .lookup t x y true) (hx:evO e x=some (.map m)) (hy:evO e y=some (kf k)) (ht:P.underlying t=some (.map kt et)) (S:KeyS P kt kf)
  (hz:∀ w,(zeroValue et).run P w = .ok (vf z) w) (hm:MapAS kf vf h m l):Yl P e h o (.tuple #[vf ((mget l k).getD z),.bool (mget l k).isSome]):=by
 cases m with
 | some r=>exact y_lk2s ho hx hy ht S hz rfl hm
 | none =>
  have hl:l=[]:=hm
  subst hl
  intro ρ w hA hw
  have hfk:(Instr.findKey kt (kf k) []).run P w = .ok none w:=by
   rw [run_findKey_eq w S.und]
   simp [Instr.findAsking]
  simp [execOp,ho,hA _ _ hx,hA _ _ hy,Instr.lookup,run_underlying ht,S.chk,hfk,hz,mget,Result.andThen]
end Go.Q
end
section
set_option maxRecDepth 100000
set_option maxHeartbeats 1000000
/- A place is a key. -/
namespace Go.Q.Yq
instance:DecidableEq S_piece_place:=fun a b=>decidable_of_iff (a.f_series=b.f_series/\a.f_t=b.f_t) ⟨fun h=>by cases a; cases b; simp only at h; rw [h.1,h.2],fun h=>by subst h; exact ⟨rfl,rfl⟩⟩
theorem ba_ext {a b:ByteArray} (h:a.toList=b.toList):a=b:=by
 rw [ByteArray.toList_eq,ByteArray.toList_eq] at h
 cases a; cases b
 simp only [ByteArray.mk.injEq]
 exact Array.toList_inj.1 h
theorem place_iff (a b:S_piece_place):a=b ↔ a.f_series=b.f_series/\a.f_t=b.f_t:=⟨fun h=>by subst h; exact ⟨rfl,rfl⟩,fun h=>by cases a; cases b; simp only at h; rw [h.1,h.2]⟩
open Go.RowKit in
theorem place_eq (a b:S_piece_place) (w:World):(Op.equal 95 (.agg (S_piece_place.cs a).toArray) (.agg (S_piece_place.cs b).toArray)).run Go.Proofs.Tryz.prog w = .ok ((a.f_series.toList == b.f_series.toList) && (a.f_t == b.f_t)) w:=by
 have hS:Go.Proofs.Tryz.prog.underlying 95=some (.struct (Go.Proofs.Tryz.prog.fieldsOf 95)):=by kernel_rfl
 have hp:Go.Proofs.Tryz.prog.stoodInHeld 95=false:=by kernel_rfl
 have u9:=Go.Proofs.Tryz.underlying9
 have a9:∀ w,(isAgg 9).run Go.Proofs.Tryz.prog w = .ok false w:=Go.Proofs.Tryz.isAgg9
 have u3:=Go.Proofs.Tryz.underlying2
 have a3:∀ w,(isAgg 2).run Go.Proofs.Tryz.prog w = .ok false w:=Go.Proofs.Tryz.isAgg2
 unfold Op.equal Op.maxDepth
 rw [show (10000:Nat)=9999 + 1 from rfl,run_equalIn_struct w 9999 95 _ _ hS hp]
 simp only [Program.fieldsOf,Go.Proofs.Tryz.underlying95,S_piece_place.cs]
 go_simp
 by_cases h0:(a.f_series.toList=b.f_series.toList) <;> by_cases h1:(a.f_t=b.f_t) <;> simp [h0,h1]
theorem keyS_S_piece_place:KeyS Go.Proofs.Tryz.prog 95 (fun v:S_piece_place=>Value.agg (S_piece_place.cs v).toArray) where
 und:=by rw [Go.Proofs.Tryz.underlying95]
 is a b:=by
  simp only [keyIs,S_piece_place.cs,keyIsL,keyIs0,Bool.and_true,decide_true,Bool.true_and]
  rw [Bool.eq_iff_iff]
  simp [place_iff]
 chk e k w:=by
  have u0:=Go.Proofs.Tryz.underlying95
  have u9:=Go.Proofs.Tryz.underlying9
  have u3:=Go.Proofs.Tryz.underlying2
  have a9:∀ w,(isAgg 9).run Go.Proofs.Tryz.prog w = .ok false w:=Go.Proofs.Tryz.isAgg9
  have a3:∀ w,(isAgg 2).run Go.Proofs.Tryz.prog w = .ok false w:=Go.Proofs.Tryz.isAgg2
  have h9:∀ s,(Instr.checkKey e (9998 + 1) 9 (.string s)).run Go.Proofs.Tryz.prog w = .ok () w:=fun s=>MapKept.run_checkKey (k:=.string s) u9 trivial e 9998
  have h3:∀ n,(Instr.checkKey e (9998 + 1) 2 (.int .i64 n)).run Go.Proofs.Tryz.prog w = .ok () w:=fun n=>MapKept.run_checkKey (k:=.int .i64 n) u3 rfl e 9998
  rw [show (10000:Nat)=(9998 + 1) + 1 from rfl,Instr.checkKey]
  generalize hN:9998 + 1=N at h9 h3 ⊢
  simp [run_underlying u0,S_piece_place.cs,part,a9,a3,h9,h3,Result.andThen]
 eq a b w:=by
  rw [place_eq]
  congr 1
  rw [Bool.eq_iff_iff]
  simp [place_iff]
  intro _
  exact ⟨fun h=>ba_ext h,fun h=>by rw [h]⟩
 st k w:=by
  simp [Instr.keyThatStays,Instr.sameBits,S_piece_place.cs,MapKept.bytes_beq]
end Go.Q.Yq
end

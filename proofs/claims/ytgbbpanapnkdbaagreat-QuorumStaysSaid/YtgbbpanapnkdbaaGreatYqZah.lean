/- A part of the proof of statements of this seat: lemmas, no statement of their own. -/
import Derived.Test.YtgbbpanapnkdbaaGreatYqZag
import Derived.Test.YtgbbpanapnkdbaaGreatYqZad
import Derived.Test.YtgbbpanapnkdbaaGreatYqZab
import Derived.MapKept
import Derived.Test.YtgbbpanapnkdbaaGreatYqZaf
import Derived.Sort.Walk0
import Derived.Shelf.SlSortCmp.WholeK
import Derived.Shelf.SlGeneric
import Derived.Test.YtgbbpanapnkdbaaGreatProg
import Derived.Shelf.SlSortCmp.NoneTotal
set_option linter.unusedVariables false
set_option linter.unusedSimpArgs false
section
set_option maxRecDepth 100000
/- The order of pieces. -/
namespace Go.Q.Yq
def cI (a b:Int):Int:=if a < b then -1 else if a > b then 1 else 0
def cS (a b:ByteArray):Int:=if Op.bytesLess a.toList b.toList=true then -1 else if (!(Op.bytesLess a.toList b.toList || a.toList == b.toList))=true then 1 else 0
def orL:List Int->Int
 | []=>0
 | x :: r=>if x≠0 then x else orL r
def idsP (x y:S_api_Id):Int:=orL [cI x.f_N y.f_N,cI x.f_Node y.f_Node]
def cmpP (x y:S_api_Piece):Int:=orL [cS x.f_Series y.f_Series,cI x.f_T y.f_T,idsP x.f_Id y.f_Id]
theorem CmpI_ok {a b:Int} {k:Int->Heap->Prop} {h:Heap} (H:k (cI a b) h):cmp_Compare_int64 a b k h:=by
 unfold cmp_Compare_int64 cmp_isNaN_int64
 unfold cI at H
 simp
 by_cases h1:a < b
 ·simpa [h1] using H
 ·by_cases h2:a > b
  ·simpa [h1,h2] using H
  ·simpa [h1,h2] using H
theorem CmpU_ok {a b:Int} {k:Int->Heap->Prop} {h:Heap} (H:k (cI a b) h):cmp_Compare_uint64 a b k h:=by
 unfold cmp_Compare_uint64 cmp_isNaN_uint64
 unfold cI at H
 simp
 by_cases h1:a < b
 ·simpa [h1] using H
 ·by_cases h2:a > b
  ·simpa [h1,h2] using H
  ·simpa [h1,h2] using H
theorem CmpN_ok {a b:Int} {k:Int->Heap->Prop} {h:Heap} (H:k (cI a b) h):cmp_Compare_uint16 a b k h:=by
 unfold cmp_Compare_uint16 cmp_isNaN_uint16
 unfold cI at H
 simp
 by_cases h1:a < b
 ·simpa [h1] using H
 ·by_cases h2:a > b
  ·simpa [h1,h2] using H
  ·simpa [h1,h2] using H
theorem CmpS_ok {a b:ByteArray} {k:Int->Heap->Prop} {h:Heap} (H:k (cS a b) h):cmp_Compare_string a b k h:=by
 unfold cmp_Compare_string cmp_isNaN_string
 unfold cS at H
 have e1:(!(a.toList == a.toList))=false:=by simp
 have e2:(!(b.toList == b.toList))=false:=by simp
 rw [e1,e2]
 dsimp only
 rw [if_neg Bool.false_ne_true,if_neg Bool.false_ne_true]
 by_cases h1:Op.bytesLess a.toList b.toList=true
 ·rw [if_pos h1] at H ⊢
  exact ⟨_,rfl,H⟩
 ·rw [if_neg h1] at H ⊢
  by_cases h2:(!(Op.bytesLess a.toList b.toList || a.toList == b.toList))=true
  ·rw [if_pos h2] at H ⊢; exact H
  ·rw [if_neg h2] at H ⊢; exact H
theorem Or_ok {b E c:Nat} {xs:List Int} {k:Int->Heap->Prop} {h:Heap} (B:Blk h b (xs.map (Value.int .i64)) E) (hl:xs.length<=1000) (H:k (orL xs) h):cmp_Or_int ⟨some ⟨b,0,none⟩,xs.length,c⟩ k h:=by
 unfold cmp_Or_int cmp_Or_int_l1
 refine ⟨fun i h'=>h'=h/\0<=i/\i<=xs.length/\orL xs=orL (xs.drop i.toNat),fun i _=>xs.length - i.toNat,⟨rfl,Int.le_refl _,by omega,by simp⟩,?_⟩
 rintro i h' ⟨rfl,h0,h1,h2⟩
 unfold cmp_Or_int_l1b
 by_cases hi:i < (xs.length:Int)
 ·rw [if_pos (by simpa using hi)]
  have hlt:i.toNat < xs.length:=by omega
  refine ⟨_,rfl,h0,hi,xs[i.toNat],?_,?_⟩
  ·rw [show ((⟨b,0,none⟩:Addr).add (i.toNat * 1))=⟨b,i.toNat,none⟩ from by rw [Nat.mul_one,add_mk,Nat.zero_add],B.cell]
   simp [List.getElem?_eq_getElem hlt]
  ·have hd:xs.drop i.toNat=xs[i.toNat] :: xs.drop (i.toNat + 1):=(List.drop_eq_getElem_cons hlt)
   rw [hd,orL] at h2
   by_cases hz:xs[i.toNat]≠0
   ·rw [if_pos (by simpa using hz)]
    rw [if_pos hz] at h2
    rw [← h2]; exact H
   ·rw [if_neg (by simpa using hz)]
    rw [if_neg hz] at h2
    have hw:IntKind.i64.wrap (i + 1)=i + 1:=wrapI64 (by omega) (by omega)
    rw [hw]
    refine ⟨⟨rfl,by omega,by omega,?_⟩,?_⟩
    ·rw [show (i + 1).toNat=i.toNat + 1 from by omega]; exact h2
    ·show xs.length - (i + 1).toNat < xs.length - i.toNat
     omega
 ·rw [if_neg (by simpa using hi)]
  rw [show i.toNat=xs.length from by omega,List.drop_length] at h2
  rw [h2] at H
  exact H
theorem add0 (b i j:Nat):(⟨b,i,none⟩:Addr).add j=⟨b,i + j,none⟩:=add_mk ..
theorem Ids_ok {x y:S_api_Id} {k:Int->Heap->Prop} {h:Heap} (H:∀ h',Ext h.size h h'->k (idsP x y) h'):piece_ids x y k h:=by
 unfold piece_ids
 refine ⟨_,_,rfl,rfl,_,_,rfl,rfl,?_⟩
 have P0:=Blk.push h (S_api_Id.cs x) 87
 have P:=P0.pushed (.cells (S_api_Id.cs y).toArray 87)
 have Q:=Blk.push (h.push (.cells (S_api_Id.cs x).toArray 87)) (S_api_Id.cs y) 87
 have X:Ext h.size h ((h.push (.cells (S_api_Id.cs x).toArray 87)).push (.cells (S_api_Id.cs y).toArray 87)):=(Ext.push h _ (Nat.le_refl _)).trans (Ext.push _ _ (by simp))
 generalize hg:((h.push (.cells (S_api_Id.cs x).toArray 87)).push (.cells (S_api_Id.cs y).toArray 87))=g at *
 refine ⟨x.f_N,P.cell,y.f_N,Q.cell,x.f_Node,P.cell,y.f_Node,Q.cell,?_⟩
 refine CmpU_ok ⟨Q.cell,P.cell,CmpN_ok ⟨_,_,rfl,rfl,?_⟩⟩
 exact Or_ok (xs:=[cI x.f_N y.f_N,cI x.f_Node y.f_Node]) (Blk.push g [Value.int .i64 (cI x.f_N y.f_N),Value.int .i64 (cI x.f_Node y.f_Node)] _) (by simp) (H _ (X.trans (Ext.push g _ X.size)))
theorem Compare_ok {x y:S_api_Piece} {k:Int->Heap->Prop} {h:Heap} (H:∀ h',Ext h.size h h'->k (cmpP x y) h'):piece_compare x y k h:=by
 unfold piece_compare
 refine ⟨_,_,rfl,rfl,_,_,rfl,rfl,?_⟩
 have P0:=Blk.push h (S_api_Piece.cs x) 89
 have P:=P0.pushed (.cells (S_api_Piece.cs y).toArray 89)
 have Q:=Blk.push (h.push (.cells (S_api_Piece.cs x).toArray 89)) (S_api_Piece.cs y) 89
 have X:Ext h.size h ((h.push (.cells (S_api_Piece.cs x).toArray 89)).push (.cells (S_api_Piece.cs y).toArray 89)):=(Ext.push h _ (Nat.le_refl _)).trans (Ext.push _ _ (by simp))
 generalize hg:((h.push (.cells (S_api_Piece.cs x).toArray 89)).push (.cells (S_api_Piece.cs y).toArray 89))=g at *
 have ci:∀ {b:Nat} {z:S_api_Piece},Blk g b (S_api_Piece.cs z) 89->CellsAt g ((⟨b,0,none⟩:Addr).add 3) (S_api_Id.cs z.f_Id):=fun {b z} R j v hj=>by
  rw [add0,add0,R.cell]
  match j,hj with
  | 0,hj=>exact hj
  | 1,hj=>exact hj
  | j + 2,hj=>simp [S_api_Id.cs] at hj
 refine ⟨x.f_Series,P.cell,y.f_Series,Q.cell,x.f_T,P.cell,y.f_T,Q.cell,x.f_Id,ci P,y.f_Id,ci Q,?_⟩
 refine CmpS_ok ⟨ci Q,ci P,Q.cell,P.cell,CmpI_ok ⟨ci Q,ci P,Ids_ok fun g2 X2=>⟨_,_,rfl,rfl,?_⟩⟩⟩
 exact Or_ok (xs:=[cS x.f_Series y.f_Series,cI x.f_T y.f_T,idsP x.f_Id y.f_Id]) (Blk.push g2 [Value.int .i64 (cS x.f_Series y.f_Series),Value.int .i64 (cI x.f_T y.f_T),Value.int .i64 (idsP x.f_Id y.f_Id)] _) (by simp)
  (H _ ((X.trans (X2.mono X.size)).trans (Ext.push g2 _ (Nat.le_trans X.size X2.size))))
end Go.Q.Yq
end
section
/- Maps. -/
namespace Go.Q
open Go.MapKept
/-! ### lists of keys and what they have -/
section
variable {K V:Type} [DecidableEq K]
def mget:List (K × V)->K->Option V
 | [],_=>none
 | p :: r,k=>if p.1=k then some p.2 else mget r k
def mput:List (K × V)->K->V->List (K × V)
 | [],k,v=>[(k,v)]
 | p :: r,k,v=>if p.1=k then (k,v) :: r else p :: mput r k v
theorem mget_none {k:K}:∀ {l:List (K × V)},(∀ p∈l,p.1≠k)->mget l k=none
 | [],_=>rfl
 | p :: r,h=>by
  unfold mget
  rw [if_neg (h p (by simp)),mget_none fun q hq=>h q (List.mem_cons_of_mem _ hq)]
theorem mput_none {k:K} {v:V}:∀ {l:List (K × V)},(∀ p∈l,p.1≠k)->mput l k v=l ++ [(k,v)]
 | [],_=>rfl
 | p :: r,h=>by
  unfold mput
  rw [if_neg (h p (by simp)),mput_none fun q hq=>h q (List.mem_cons_of_mem _ hq)]; rfl
theorem mget_at {k:K} {v:V}:∀ {l:List (K × V)} {j:Nat},l[j]? = some (k,v)->(l.map (·.1)).Nodup->mget l k=some v/\∀ u,mput l k u=l.set j (k,u)
 | [],j,h,_=>by simp at h
 | p :: r,0,h,_=>by
  simp at h; subst h
  simp [mget,mput]
 | p :: r,j + 1,h,hn=>by
  rw [List.map_cons,List.nodup_cons] at hn
  simp only [List.getElem?_cons_succ] at h
  have hne:p.1≠k:=fun e=>hn.1 (by rw [e]; exact List.mem_map.2 ⟨_,List.mem_of_getElem? h,rfl⟩)
  have:=mget_at h hn.2
  unfold mget mput
  rw [if_neg hne]
  exact ⟨this.1,fun u=>by rw [if_neg hne,this.2 u]; rfl⟩
end
/-! ### a map's object -/
def keyIs0:Value->Value->Bool
 | .int k a,.int k' b=>decide (k=k') && decide (a=b)
 | .string a,.string b=>decide (a=b)
 | .bool a,.bool b=>a == b
 | _,_=>false
def keyIsL:List Value->List Value->Bool
 | [],[]=>true
 | a :: r,b :: s=>keyIs0 a b && keyIsL r s
 | _,_=>false
def keyIs:Value->Value->Bool
 | .agg a,.agg b=>keyIsL a.toList b.toList
 | .int k a,.int k' b=>decide (k=k') && decide (a=b)
 | .string a,.string b=>decide (a=b)
 | .bool a,.bool b=>a == b
 | _,_=>false
theorem keyIs_iff {d:TypeDesc} {a b:Value} (ha:IsKey d a) (hb:IsKey d b):keyIs a b=true ↔ a=b:=by
 cases d <;> cases a <;> cases b <;> simp_all [IsKey,keyIs]
def MapH (d:TypeDesc) (h:Heap) (r:Nat) (l:List (Value × Value)):Prop :=
 ∃ (es:Array MapEntry) (ck:Nat),h[r]? = some (.map es ck)/\Stamped es ck/\(∀ x∈es.toList,IsKey d x.key)/\es.toList.map (fun e=>(e.key,e.val))=l
structure KOk {K:Type} (d:TypeDesc) (kf:K->Value):Prop where
 inj:∀ a b,kf a=kf b->a=b
 isK:∀ k,IsKey d (kf k)
theorem kStr:KOk .string Value.string:=⟨fun a b h=>by cases h; rfl,fun _=>trivial⟩
theorem kInt (k:IntKind):KOk (.int k) (Value.int k):=⟨fun a b h=>by cases h; rfl,fun _=>rfl⟩
def MapAt {K V:Type} (d:TypeDesc) (kf:K->Value) (vf:V->Value) (h:Heap):Option Nat->List (K × V)->Prop
 | none,l=>l=[]
 | some r,l=>MapH d h r (l.map fun p=>(kf p.1,vf p.2))
def setM (h:Heap) (r:Nat) (key val:Value):Heap:=h.modify r fun
 | .map es ck=>(match es.toList.findIdx? (fun e=>keyIs key e.key) with
  | some i=>.map (es.modify i fun e=>{ e with key,val }) ck
  | none=>.map (es.push { key,val,born:=ck }) (ck + 1))
 | o=>o
theorem setM_size {h:Heap} {r:Nat} {k v:Value}:(setM h r k v).size=h.size:=by simp [setM]
theorem setM_other {h:Heap} {r g:Nat} {k v:Value} (hg:g≠r):(setM h r k v)[g]? = h[g]?:=by
 unfold setM; rw [Array.getElem?_modify,if_neg (fun e=>hg e.symm)]
theorem setM_at {h:Heap} {r:Nat} {k v:Value} {es:Array MapEntry} {ck:Nat} (hb:h[r]? = some (.map es ck)):(setM h r k v)[r]? = some (match es.toList.findIdx? (fun e=>keyIs k e.key) with
  | some i=>.map (es.modify i fun e=>{ e with key:=k,val:=v }) ck
  | none=>.map (es.push { key:=k,val:=v,born:=ck }) (ck + 1)):=by
 unfold setM; rw [Array.getElem?_modify,if_pos rfl,hb]; rfl
theorem MapH.mk0 (d:TypeDesc) (h:Heap):MapH d (h.push (.map #[] 0)) h.size []:=⟨#[],0,by simp,stamped_empty 0,by simp,rfl⟩
theorem MapH.old {d:TypeDesc} {h h':Heap} {r:Nat} {l:List (Value × Value)} (M:MapH d h r l) (e:h'[r]? = h[r]?):MapH d h' r l:=by
 obtain ⟨es,ck,h1,h2⟩:=M; exact ⟨es,ck,e.trans h1,h2⟩
theorem MapH.lt {d:TypeDesc} {h:Heap} {r:Nat} {l:List (Value × Value)} (M:MapH d h r l):r < h.size:=by
 obtain ⟨es,ck,h1,_⟩:=M; exact (Array.getElem?_eq_some_iff.1 h1).1
theorem findNow_find {d:TypeDesc} {k:Value} (hk:IsKey d k):∀ (l:List MapEntry) (i:Nat),(∀ x∈l,IsKey d x.key) ->
  Instr.findNow d k l i=some ((l.findIdx? (fun e=>keyIs k e.key)).bind fun j=>(l[j]?).map fun e=>(i + j,e.val))
 | [],_,_=>rfl
 | e :: es,i,h=>by
  have he:=h e (by simp)
  obtain ⟨r,hr,hiff⟩:=sameNow_of_keys hk he
  have hki:=keyIs_iff hk he
  have ih:=findNow_find hk es (i + 1) fun x hx=>h x (List.mem_cons_of_mem _ hx)
  unfold Instr.findNow
  rw [hr,List.findIdx?_cons]
  cases r with
  | true =>
   have:keyIs k e.key=true:=hki.2 (hiff.1 rfl)
   simp [this]
  | false =>
   have:keyIs k e.key=false:=by
    cases hc:keyIs k e.key with
    | false=>rfl
    | true=>have:=hiff.2 (hki.1 hc); cases this
   simp only [this,ih]
   cases es.findIdx? (fun e=>keyIs k e.key) with
   | none=>simp
   | some j=>simp [Nat.add_assoc,Nat.add_comm 1 j]
/-- where a key stands -/
theorem MapH.find {K V:Type} [DecidableEq K] {d:TypeDesc} {kf:K->Value} {vf:V->Value} {h:Heap} {r:Nat} {l:List (K × V)} (KO:KOk d kf) (M:MapH d h r (l.map fun p=>(kf p.1,vf p.2))) (k:K) :
  ∃ es ck,h[r]? = some (.map es ck)/\Stamped es ck/\(∀ x∈es.toList,IsKey d x.key)/\es.toList.map (fun e=>(e.key,e.val))=l.map (fun p=>(kf p.1,vf p.2))/\es.size=l.length/\(l.map (·.1)).Nodup /\
   ((es.toList.findIdx? (fun e=>keyIs (kf k) e.key)=none/\(∀ p∈l,p.1≠k)/\Instr.findNow d (kf k) es.toList 0=some none) ∨
   ∃ j v e,es.toList.findIdx? (fun e=>keyIs (kf k) e.key)=some j/\l[j]? = some (k,v)/\es[j]? = some e/\e.key=kf k/\e.val=vf v/\Instr.findNow d (kf k) es.toList 0=some (some (j,vf v))):=by
 obtain ⟨es,ck,h1,h2,h3,h4⟩:=M
 have hl:es.size=l.length:=by have:=congrArg List.length h4; simpa using this
 have hn:(l.map (·.1)).Nodup:=by
  have e1:es.toList.map (·.key)=(l.map (·.1)).map kf:=by
   have:=congrArg (List.map Prod.fst) h4
   simpa [List.map_map,Function.comp_def] using this
  have:=h2.2.2
  rw [e1] at this
  exact List.Pairwise.of_map kf (fun a b hab e=>hab (by rw [e])) this
 refine ⟨es,ck,h1,h2,h3,h4,hl,hn,?_⟩
 have hf:=findNow_find (KO.isK k) es.toList 0 h3
 cases hc:es.toList.findIdx? (fun e=>keyIs (kf k) e.key) with
 | none =>
  left
  rw [hc] at hf
  refine ⟨rfl,fun p hp e=>?_,hf⟩
  have hm:(kf p.1,vf p.2)∈es.toList.map (fun e=>(e.key,e.val)):=by rw [h4]; exact List.mem_map.2 ⟨p,hp,rfl⟩
  obtain ⟨x,hx,hxe⟩:=List.mem_map.1 hm
  have:=(List.findIdx?_eq_none_iff.1 hc) x hx
  have hk2:keyIs (kf k) x.key=true:=(keyIs_iff (KO.isK k) (h3 x hx)).2 (by have:=(Prod.mk.inj hxe).1; rw [this,e])
  rw [hk2] at this; cases this
 | some j =>
  right
  obtain ⟨hj,hk2,_⟩:=List.findIdx?_eq_some_iff_getElem.1 hc
  have hj2:j < l.length:=by simp at hj; omega
  have e1:es.toList[j]? = some es.toList[j]:=List.getElem?_eq_getElem hj
  have e2:=congrArg (fun z=>z[j]?) h4
  simp only [List.getElem?_map,e1,List.getElem?_eq_getElem hj2,Option.map_some,Option.some.injEq,Prod.mk.injEq] at e2
  have hkey:=(keyIs_iff (KO.isK k) (h3 _ (List.getElem_mem hj))).1 hk2
  have hlk:l[j].1=k:=KO.inj _ _ (by rw [← e2.1,← hkey])
  refine ⟨j,l[j].2,es.toList[j],rfl,?_,by simp,hkey.symm,e2.2,?_⟩
  ·rw [List.getElem?_eq_getElem hj2,← hlk]
  ·rw [hf,hc]; simp only [Option.bind_some,e1,Option.map_some,Nat.zero_add,e2.2]
theorem MapH.put {K V:Type} [DecidableEq K] {d:TypeDesc} {kf:K->Value} {vf:V->Value} {h:Heap} {r:Nat} {l:List (K × V)} (KO:KOk d kf) (M:MapH d h r (l.map fun p=>(kf p.1,vf p.2))) (k:K) (v:V) :
  MapH d (setM h r (kf k) (vf v)) r ((mput l k v).map fun p=>(kf p.1,vf p.2)):=by
 obtain ⟨es,ck,h1,h2,h3,h4,hl,hn,C⟩:=M.find KO k
 have hs:=setM_at (k:=kf k) (v:=vf v) h1
 rcases C with ⟨c1,c2,_⟩ | ⟨j,u,e,c1,c2,c3,c4,c5,_⟩
 ·rw [c1] at hs
  refine ⟨_,_,hs,stamped_push h2 fun x hx hxe=>?_,fun x hx=>?_,?_⟩
  ·have hm:(x.key,x.val)∈l.map fun p=>(kf p.1,vf p.2):=by rw [← h4]; exact List.mem_map.2 ⟨x,hx,rfl⟩
   obtain ⟨p,hp,hpe⟩:=List.mem_map.1 hm
   exact c2 p hp (KO.inj _ _ (by rw [(Prod.mk.inj hpe).1,hxe]))
  ·simp only [Array.toList_push,List.mem_append,List.mem_singleton] at hx
   rcases hx with hx | rfl
   ·exact h3 x hx
   ·exact KO.isK k
  ·rw [mput_none c2]; simp [h4]
 ·rw [c1] at hs
  refine ⟨_,_,hs,stamped_modify h2 j _ (fun _ _=>rfl) (fun x _ hx=>by rw [c3] at hx; cases hx; exact c4.symm),isKey_modify h3 j _ (fun x hx=>by rw [c3] at hx; cases hx; exact c4.symm),?_⟩
  rw [(mget_at c2 hn).2 v]
  apply List.ext_getElem?
  intro i
  have e2:=congrArg (fun z=>z[i]?) h4
  simp only [List.getElem?_map,Array.getElem?_toList] at e2
  simp only [List.getElem?_map,Array.getElem?_toList,Array.getElem?_modify,List.getElem?_set]
  by_cases hij:j=i
  ·subst hij
   have hj2:j < l.length:=(List.getElem?_eq_some_iff.1 c2).1
   simp [c3,hj2]
  ·simp [hij,e2]
section
variable {K V:Type} {d:TypeDesc} {kf:K->Value} {vf:V->Value} {h h':Heap} {r:Nat} {l:List (K × V)}
theorem MapAt.put [DecidableEq K] (KO:KOk d kf) (M:MapAt d kf vf h (some r) l) (k:K) (v:V):MapAt d kf vf (setM h r (kf k) (vf v)) (some r) (mput l k v):=MapH.put KO M k v
theorem MapAt.mk0:MapAt d kf vf (h.push (.map #[] 0)) (some h.size) ([]:List (K × V)):=MapH.mk0 d h
theorem MapAt.old (M:MapAt d kf vf h (some r) l) (e:h'[r]? = h[r]?):MapAt d kf vf h' (some r) l:=MapH.old M e
theorem MapAt.ext {B:Nat} (M:MapAt d kf vf h (some r) l) (X:Ext B h h') (hb:r < B):MapAt d kf vf h' (some r) l:=MapH.old M (X.2 r hb)
theorem MapAt.lt (M:MapAt d kf vf h (some r) l):r < h.size:=MapH.lt M
theorem Ext.setM {B:Nat} (h:Heap) {r:Nat} (k v:Value) (hr:B<=r):Ext B h (setM h r k v):=⟨by rw [setM_size]; exact Nat.le_refl _,fun g hg=>setM_other (by omega)⟩
end
/-! ### zero values -/
theorem zero_a {P:Program} {T:Tab} (hT:TOk P T) {t:Nat} {i:TI} {v:Value} (ht:tlk T t=some i) (ha:isA i.d=true) (hv:v = .agg i.z.toArray) (w:World):(zeroValue t).run P w = .ok v w:=by
 obtain ⟨u,h1,_,h3⟩:=run_zero hT ht w
 rw [hv,← h3 ha]; exact h1
theorem zero_1 {P:Program} {T:Tab} (hT:TOk P T) {t:Nat} {i:TI} {v:Value} (ht:tlk T t=some i) (ha:isA i.d=false) (hv:i.z=[v]) (w:World):(zeroValue t).run P w = .ok v w:=by
 have h:=hT _ _ ht
 unfold tiOk at h
 split at h
 ·rename_i dd ti h1 h2
  simp only [Bool.and_eq_true] at h
  have hz:=h.2
  unfold zob at hz
  split at hz
  ·simp [ha] at hz
  ·rename_i u hn hu
   simp only [Bool.and_eq_true,Bool.not_eq_true'] at hz
   have:=zsb_eq hz.2
   rw [hv] at this
   simp at this; subst this
   simp [zeroValue,typeInfo,h2,hu]
  ·cases hz
 ·cases h
/-! ### the operations -/
section
variable {P:Program} {T:Tab} {e:Env} {h:Heap} {o:Oper} {K V:Type} {d:TypeDesc} {kf:K->Value} {vf:V->Value} {m:Option Nat} {l:List (K × V)}
theorem h_mkm {t b:Nat} {h':Heap} (ho:o.op = .makeMap t none) (hb:b=h.size) (he:h'=h.push (.map #[] 0)):Yh P e h o (.map (some b)) h':=by
 intro ρ w hA hw
 subst hb; subst he; subst hw
 exact ⟨{ w with heap:=w.heap.push (.map #[] 0) },⟨rfl,rfl,rfl,rfl,fun _=>by first | exact Nat.le_refl _ | exact Nat.le_succ _⟩,.inl (by simp [execOp,ho,Instr.makeMap,newObj,Sem.run])⟩
theorem y_lk [DecidableEq K] {t kt et:Nat} {x y:Operand} {k:K} {z:V} (ho:o.op = .lookup t x y false) (hx:evO e x=some (.map m)) (hy:evO e y=some (kf k)) (ht:P.underlying t=some (.map kt et)) (hk:P.underlying kt=some d) (KO:KOk d kf)
  (hz:∀ w,(zeroValue et).run P w = .ok (vf z) w) (hm:MapAt d kf vf h m l):Yl P e h o (vf ((mget l k).getD z)):=by
 intro ρ w hA hw
 subst hw
 cases m with
 | none =>
  have hl:l=[]:=hm
  subst hl
  have hfk:(Instr.findKey kt (kf k) []).run P w = .ok none w:=run_findKey hk rfl
  simp [execOp,ho,hA _ _ hx,hA _ _ hy,Instr.lookup,run_underlying ht,run_checkKey hk (KO.isK k),hfk,hz,mget,Result.andThen]
 | some r =>
  obtain ⟨es,ck,h1,h2,h3,h4,hl,hn,C⟩:=MapH.find KO hm k
  rcases C with ⟨_,c2,c3⟩ | ⟨j,u,e',_,c2,_,_,_,c3⟩
  ·have hfk:=run_findKey (w:=w) hk c3
   simp [execOp,ho,hA _ _ hx,hA _ _ hy,Instr.lookup,run_underlying ht,MapKept.run_getObj_map h1,run_checkKey hk (KO.isK k),hfk,hz,mget_none c2,Result.andThen]
  ·have hfk:=run_findKey (w:=w) hk c3
   simp [execOp,ho,hA _ _ hx,hA _ _ hy,Instr.lookup,run_underlying ht,MapKept.run_getObj_map h1,run_checkKey hk (KO.isK k),hfk,(mget_at c2 hn).1,Result.andThen]
theorem y_lk2 [DecidableEq K] {t kt et:Nat} {x y:Operand} {k:K} {z:V} (ho:o.op = .lookup t x y true) (hx:evO e x=some (.map m)) (hy:evO e y=some (kf k)) (ht:P.underlying t=some (.map kt et)) (hk:P.underlying kt=some d) (KO:KOk d kf)
  (hz:∀ w,(zeroValue et).run P w = .ok (vf z) w) (hm:MapAt d kf vf h m l):Yl P e h o (.tuple #[vf ((mget l k).getD z),.bool (mget l k).isSome]):=by
 intro ρ w hA hw
 subst hw
 cases m with
 | none =>
  have hl:l=[]:=hm
  subst hl
  have hfk:(Instr.findKey kt (kf k) []).run P w = .ok none w:=run_findKey hk rfl
  simp [execOp,ho,hA _ _ hx,hA _ _ hy,Instr.lookup,run_underlying ht,run_checkKey hk (KO.isK k),hfk,hz,mget,Result.andThen]
 | some r =>
  obtain ⟨es,ck,h1,h2,h3,h4,hl,hn,C⟩:=MapH.find KO hm k
  rcases C with ⟨_,c2,c3⟩ | ⟨j,u,e',_,c2,_,_,_,c3⟩
  ·have hfk:=run_findKey (w:=w) hk c3
   simp [execOp,ho,hA _ _ hx,hA _ _ hy,Instr.lookup,run_underlying ht,MapKept.run_getObj_map h1,run_checkKey hk (KO.isK k),hfk,hz,mget_none c2,Result.andThen]
  ·have hfk:=run_findKey (w:=w) hk c3
   simp [execOp,ho,hA _ _ hx,hA _ _ hy,Instr.lookup,run_underlying ht,MapKept.run_getObj_map h1,run_checkKey hk (KO.isK k),hfk,(mget_at c2 hn).1,Result.andThen]
theorem h_mu [DecidableEq K] {t kt et r:Nat} {x y z:Operand} {k:K} {v:V} {h':Heap} (ho:o.op = .mapUpdate t x y z) (hx:evO e x=some (.map m)) (hy:evO e y=some (kf k)) (hz:evO e z=some (vf v)) (ht:P.underlying t=some (.map kt et)) (hk:P.underlying kt=some d) (KO:KOk d kf)
  (hr:m=some r) (hm:MapAt d kf vf h (some r) l) (he:h'=setM h r (kf k) (vf v)):Yh P e h o undef h':=by
 intro ρ w hA hw
 subst he; subst hw; subst hr
 obtain ⟨es,ck,h1,h2,h3,h4,hl,hn,C⟩:=MapH.find KO hm k
 have hs:∀ o',(setM w.heap r (kf k) (vf v))[r]? = some o'->w.heap.setIfInBounds r o'=setM w.heap r (kf k) (vf v):=fun o' h=>by
  apply Array.ext_getElem?
  intro i
  have hlt:=(Array.getElem?_eq_some_iff.1 h1).1
  by_cases hi:i=r
  ·subst hi; rw [h]; simp [hlt]
  ·rw [setM_other hi]; simp [Ne.symm hi]
 have hat:=setM_at (k:=kf k) (v:=vf v) h1
 rcases C with ⟨c1,c2,c3⟩ | ⟨j,u,e',c1,c2,c4,c5,c6,c3⟩
 ·rw [c1] at hat
  have hfk:=run_findKey (w:=w) hk c3
  refine ⟨{ w with heap:=setM w.heap r (kf k) (vf v) },⟨rfl,rfl,rfl,rfl,fun _=>by first | exact Nat.le_refl _ | exact Nat.le_succ _⟩,.inr ⟨?_,rfl⟩⟩
  simp [execOp,ho,hA _ _ hx,hA _ _ hy,hA _ _ hz,Instr.mapUpdate,run_underlying ht,MapKept.run_getObj_map h1,run_checkKey hk (KO.isK k),hfk,MapKept.run_setObj_map _ h1,hs _ hat,Result.andThen]
 ·rw [c1] at hat
  have hfk:=run_findKey (w:=w) hk c3
  have hst:(Instr.keyThatStays (kf k) (kf k)).run P w = .ok (kf k) w:=run_keyThatStays (KO.isK k)
  refine ⟨{ w with heap:=setM w.heap r (kf k) (vf v) },⟨rfl,rfl,rfl,rfl,fun _=>by first | exact Nat.le_refl _ | exact Nat.le_succ _⟩,.inr ⟨?_,rfl⟩⟩
  simp [execOp,ho,hA _ _ hx,hA _ _ hy,hA _ _ hz,Instr.mapUpdate,run_underlying ht,MapKept.run_getObj_map h1,run_checkKey hk (KO.isK k),hfk,c4,c5,hst,MapKept.run_setObj_map _ h1,hs _ hat,Result.andThen]
end
end Go.Q
end
section
namespace Go.Q
theorem SlcAt.ext {h h':Heap} {s:Slc} {vs:List Value} (a:SlcAt h s vs) (X:Ext h.size h h'):SlcAt h' s vs:=⟨a.1,fun b hb j w hj=>X.cellAt (a.2 b hb j w hj)⟩
/-- a part of a block -/
theorem Blk.part {h:Heap} {b E o n:Nat} {cs ys:List Value} (k:Blk h b cs E) (hd:(cs.drop o).take n=ys):CellsAt h ⟨b,o,none⟩ ys:=by
 intro j v hj
 rw [add_mk,k.cell]
 rw [← hd,List.getElem?_take] at hj
 split at hj
 ·rw [List.getElem?_drop] at hj; exact hj
 ·cases hj
theorem Blk.slc {h:Heap} {b E o n m c:Nat} {cs ys:List Value} (k:Blk h b cs E) (hd:(cs.drop o).take n=ys):SlcAt h ⟨some ⟨b,o,none⟩,m,c⟩ ys :=
 ⟨(fun hn=>by cases hn),fun a ha j v hj=>by cases ha; exact k.part hd j v hj⟩
/-- a row of structs in memory -/
structure LsAt {α:Type} (cs:α->List Value) (w:Nat) (h:Heap) (s:Slc) (xs:List α):Prop where
 l:s.len=xs.length
 at':∀ (i:Nat) x,xs[i]? = some x->∃ a,s.a=some a/\CellsAt h (a.add (i * w)) (cs x)
theorem CellsAt.ext {h h':Heap} {a:Addr} {vs:List Value} (c:CellsAt h a vs) (X:Ext h.size h h'):CellsAt h' a vs:=fun j v hj=>X.cellAt (c j v hj)
theorem LsAt.ext {α:Type} {cs:α->List Value} {w:Nat} {h h':Heap} {s:Slc} {xs:List α} (L:LsAt cs w h s xs) (X:Ext h.size h h'):LsAt cs w h' s xs :=
 ⟨L.l,fun i x hx=>by obtain ⟨a,h1,h2⟩:=L.at' i x hx; exact ⟨a,h1,h2.ext X⟩⟩
end Go.Q
end
section
/- slices.Collect of maps.Values of a map of pieces, over the layer's heap. -/
namespace Go.Q.Yq
open Go.Proofs Go.RowKit Go.MapKept
instance:Inhabited S_api_Piece:=⟨⟨⟨#[]⟩,0,0,⟨0,0⟩⟩⟩
def of5 (x:YwYq.PT):S_api_Piece:=⟨x.1,x.2.1,x.2.2.1,⟨x.2.2.2.1,x.2.2.2.2⟩⟩
def to5 (x:S_api_Piece):YwYq.PT:=(x.f_Series,x.f_T,x.f_V,x.f_Id.f_N,x.f_Id.f_Node)
def pval (x:S_api_Piece):Value:=.agg (S_api_Piece.cs x).toArray
theorem pval_inj {x y:S_api_Piece} (h:pval x=pval y):x=y:=by
 obtain ⟨a,b,c,d,e⟩:=x
 obtain ⟨a',b',c',d',e'⟩:=y
 simp [pval,S_api_Piece.cs,S_api_Id.cs] at h
 obtain ⟨rfl,rfl,rfl,rfl,rfl⟩:=h
 rfl
/-- a row that a slice owns, in the layer's words -/
theorem row_of_owns {W:World} {B E w n:Nat} {v:Value} {xs:List Value} (o:W.ownsRow B E w v n xs):∃ s:Slc,v=s.v/\Row B W.heap E w s xs/\s.len=n:=by
 obtain ⟨hl,⟨rfl,rfl⟩ | ⟨g,cap,cur,rfl,hB,hg,hc,hm,hs,ht⟩⟩:=o
 ·exact ⟨⟨none,0,0⟩,rfl,⟨by simpa using hl,by simp [maxLen],.inl ⟨rfl,rfl,rfl⟩⟩,rfl⟩
 ·exact ⟨⟨some ⟨g,0,none⟩,n,cap⟩,rfl,⟨hl,hm,.inr ⟨g,cur.toList,rfl,hB,⟨0,0,by simpa using hg,.inl (Nat.le_refl _)⟩,hc,by simp [hs],ht⟩⟩,rfl⟩
theorem perm_of_map_inj {α β:Type} {f:α->β} (inj:∀ a b,f a=f b->a=b):∀ {l m:List α},(l.map f).Perm (m.map f)->l.Perm m:=by
 intro l
 induction l with
 | nil=>intro m h; have:=h.length_eq; simp at this; cases m with
  | nil=>exact .nil
  | cons a r=>simp at this
 | cons a r ih =>
  intro m h
  have hm:f a∈m.map f:=h.subset (by simp)
  obtain ⟨b,hb,e⟩:=List.mem_map.1 hm
  have:b=a:=inj _ _ e
  subst this
  obtain ⟨s,t,rfl⟩:=List.append_of_mem hb
  have h2:((b :: r).map f).Perm ((b :: (s ++ t)).map f):=h.trans ((List.perm_middle).map f)
  exact ((ih ((List.perm_cons (f b)).1 h2)).cons b).trans List.perm_middle.symm
/-- what slices.Collect does: it is asked of maps.Values of a map of pieces -/
def slices_Collect_api_Piece (f:Value) (k:Slc->Heap->Prop) (h:Heap):Prop :=
 ∃ (bx r ck:Nat) (es:Array MapEntry) (l:List S_api_Piece),f = .func (.func 71) #[] #[.pointer (some ⟨bx,0,none⟩)]/\cellH h ⟨bx,0,none⟩=some (.map (some r))/\h[r]? = some (.map es ck)/\Stamped es ck /\
  es.toList.map (·.val)=l.map pval/\l.length<=1000000/\∀ (s:Slc) (xs:List S_api_Piece) h',xs.Perm l->Row h.size h' 89 5 s (xs.flatMap S_api_Piece.cs)->s.len=xs.length->Ext h.size h h'->k s h'
theorem slices_Collect_api_Piece_ok:CallOk Tryz.prog 69:=⟨_,Tryz.func69,by kernel_rfl,by kernel_rfl⟩
theorem slices_Collect_api_Piece_ref (f:Value) (k:Slc->Heap->Prop) (h:Heap) (H:slices_Collect_api_Piece f k h):CallsH Tryz.prog 69 #[f] h (fun v h'=>∃ r:Slc,v=Slc.v r/\k r h'):=by
 obtain ⟨bx,r,ck,es,l,rfl,hb,hm,st,hv,hl,H⟩:=H
 intro w hw
 obtain ⟨s1,s2,s3⟩:=(stamped_iff es ck).1 st
 have hbl:bx < w.heap.size:=by rw [hw]; exact cellH_lt hb
 have hes:es.size=l.length:=by have:=congrArg List.length hv; simpa using this
 have hcs:∀ x∈es.toList,∃ q:YwYq.PT,x.val=YwYq.pv q:=fun x hx=>by
  have:x.val∈l.map pval:=by rw [← hv]; exact List.mem_map.2 ⟨x,hx,rfl⟩
  obtain ⟨p,_,e⟩:=List.mem_map.1 this
  exact ⟨to5 p,by rw [← e]; rfl⟩
 refine (callsIn_wide.1 (YwYq.collect_in Fence.wide 5 trivial trivial trivial rfl (by omega) bx r ck es w hcs s1 s2 (by omega) hbl (by subst hw; exact hb) (by subst hw; exact hm))).mono ?_
 rintro e w' ⟨v,ys,rfl,hp,hrow,B⟩
 obtain ⟨s,rfl,R,hn⟩:=row_of_owns hrow
 subst hw
 refine ⟨_,rfl,⟨B.os,B.tape,B.output,rfl,fun k=>by cases k⟩,s,rfl,H s (ys.map of5) w'.heap ?_ ?_ (by simpa using hn) ⟨B.size,B.block⟩⟩
 ·have h1:((ys.map of5).map pval).Perm (l.map pval):=by
   rw [List.map_map,← hv]; exact hp
  exact perm_of_map_inj (fun _ _=>pval_inj) h1
 ·rw [List.flatMap_map]; exact R
end Go.Q.Yq
end
section
/- slices.SortFunc of pieces by their order. -/
namespace Go.Q.Yq
open Go.Proofs Go.RowKit Go.Shelf Go.Sort
/-- a comparison that orders -/
structure Good {α:Type} (c:α->α->Int):Prop where
 anti:∀ x y,c y x = - c x y
 tr:∀ x y z,c x y<=0->c y z<=0->c x z<=0
def or1 (a b:Int):Int:=if a≠0 then a else b
theorem Good.lex {α:Type} {c d:α->α->Int} (C:Good c) (D:Good d):Good (fun x y=>or1 (c x y) (d x y)) where
 anti x y:=by
  have h1:=C.anti x y
  have h2:=D.anti x y
  unfold or1
  by_cases h:c x y=0
  ·rw [if_neg (by omega),if_neg (by omega)]; exact h2
  ·rw [if_pos (by omega),if_pos h]; exact h1
 tr x y z:=by
  have a1:=C.anti x y
  have a2:=C.anti y z
  have a3:=C.anti x z
  have t1:=C.tr x y z
  have t2:=C.tr z x y
  have t3:=C.tr y z x
  have d:=D.tr x y z
  unfold or1
  intro h1 h2
  by_cases e1:c x y=0 <;> by_cases e2:c y z=0 <;> by_cases e3:c x z=0 <;> simp [e1,e2,e3] at h1 h2 ⊢ <;> first | omega | (exact d h1 h2) | skip
theorem Good.pull {α β:Type} {c:β->β->Int} (C:Good c) (f:α->β):Good (fun x y=>c (f x) (f y)):=⟨fun x y=>C.anti _ _,fun x y z=>C.tr _ _ _⟩
theorem Good.zero {α:Type}:Good (fun _ _:α=>0):=⟨fun _ _=>rfl,fun _ _ _ _ _=>Int.le_refl _⟩
theorem good_I:Good cI where
 anti x y:=by unfold cI; split <;> split <;> (try split) <;> omega
 tr x y z h1 h2:=by
  unfold cI at *
  split at h1 <;> split at h2 <;> (try split at h1) <;> (try split at h2) <;> split <;> (try split) <;> omega
theorem cS_eq (a b:ByteArray):cS a b=if a.toList < b.toList then -1 else if b.toList < a.toList then 1 else 0:=by
 unfold cS
 rw [bytesLess_eq]
 by_cases h1:a.toList < b.toList
 ·rw [if_pos (by simpa using h1),if_pos h1]
 ·rw [if_neg (by simpa using h1),if_neg h1]
  by_cases h2:b.toList < a.toList
  ·rw [if_pos h2,if_pos ?_]
   have:a.toList≠b.toList:=fun e=>by rw [e] at h2; exact List.lt_irrefl _ h2
   simpa [h1] using this
  ·rw [if_neg h2,if_neg ?_]
   have:a.toList=b.toList:=List.le_antisymm (List.not_lt.1 h2) (List.not_lt.1 h1)
   simp [this]
theorem good_S:Good cS where
 anti x y:=by
  rw [cS_eq,cS_eq]
  by_cases h1:x.toList < y.toList
  ·have h2:¬ y.toList < x.toList:=List.lt_asymm h1
   simp [h1,h2]
  ·by_cases h2:y.toList < x.toList <;> simp [h1,h2]
 tr x y z:=by
  rw [cS_eq,cS_eq,cS_eq]
  have key:∀ {a b:List UInt8},(if a < b then (-1:Int) else if b < a then 1 else 0)<=0 ↔ a<=b:=fun {a b}=>by
   by_cases h1:a < b
   ·simp [h1,List.le_of_lt h1]
   ·by_cases h2:b < a
    ·simp [h1,h2,List.not_le.2 h2]
    ·simp [h1,h2,List.not_lt.1 h2]
  rw [key,key,key]
  exact List.le_trans
theorem orL_cons (x:Int) (r:List Int):orL (x :: r)=or1 x (orL r):=rfl
theorem good_ids:Good idsP:=(((good_I.pull S_api_Id.f_N).lex ((good_I.pull S_api_Id.f_Node).lex Good.zero)):Good (fun x y:S_api_Id=>or1 (cI x.f_N y.f_N) (or1 (cI x.f_Node y.f_Node) 0)))
theorem good_P:Good cmpP:=((good_S.pull S_api_Piece.f_Series).lex ((good_I.pull S_api_Piece.f_T).lex ((good_ids.pull S_api_Piece.f_Id).lex Good.zero)):Good (fun x y:S_api_Piece=>or1 (cS x.f_Series y.f_Series) (or1 (cI x.f_T y.f_T) (or1 (idsP x.f_Id y.f_Id) 0))))
end Go.Q.Yq
end
section
/- The numbers of the functions and types that slices.SortFunc of pieces reaches at this program, and that their bodies are the ones that the library has walked. -/
namespace Go.Proofs
open Go.Shelf
def Tryz.sortP_ren:Go.Shelf.Ren:=⟨fun | 6=>70 | 14=>95 | 15=>96 | 20=>114 | 21=>115 | 22=>116 | 23=>117 | 24=>118 | 25=>119 | 26=>120 | 27=>121 | 28=>122 | 29=>123 | 46=>145 | 47=>146 | 48=>147 | 49=>148 | 50=>149 | 57=>160 | n=>n,fun | 22=>26 | 24=>89 | 25=>104 | 3=>3 | 39=>167 | 0=>0 | 53=>29 | 55=>25 | 4=>4 | 46=>196 | 45=>195 | 50=>200 | 5=>5 | 9=>9 | 66=>218 | 70=>222 | 76=>229 | 77=>230 | n=>n,fun | n=>n⟩
theorem Tryz.sortP:Go.Proofs.SlLaysF0.n6 Tryz.prog Tryz.sortP_ren:={
 mixed:=by kernel_rfl
 f6:=⟨Tryz.f70.name,by decide,Tryz.func70.trans (congrArg some (by kernel_rfl))⟩
 f14:=⟨Tryz.f95.name,by decide,Tryz.func95.trans (congrArg some (by kernel_rfl))⟩
 f15:=Tryz.func96.trans (congrArg some (by kernel_rfl))
 f20:=⟨Tryz.f114.name,by decide,Tryz.func114.trans (congrArg some (by kernel_rfl))⟩
 f21:=⟨Tryz.f115.name,by decide,Tryz.func115.trans (congrArg some (by kernel_rfl))⟩
 f22:=⟨Tryz.f116.name,by decide,Tryz.func116.trans (congrArg some (by kernel_rfl))⟩
 f23:=⟨Tryz.f117.name,by decide,Tryz.func117.trans (congrArg some (by kernel_rfl))⟩
 f24:=⟨Tryz.f118.name,by decide,Tryz.func118.trans (congrArg some (by kernel_rfl))⟩
 f25:=⟨Tryz.f119.name,by decide,Tryz.func119.trans (congrArg some (by kernel_rfl))⟩
 f26:=⟨Tryz.f120.name,by decide,Tryz.func120.trans (congrArg some (by kernel_rfl))⟩
 f27:=⟨Tryz.f121.name,by decide,Tryz.func121.trans (congrArg some (by kernel_rfl))⟩
 f28:=Tryz.func122.trans (congrArg some (by kernel_rfl))
 f29:=Tryz.func123.trans (congrArg some (by kernel_rfl))
 f46:=⟨Tryz.f145.name,by decide,Tryz.func145.trans (congrArg some (by kernel_rfl))⟩
 f47:=Tryz.func146.trans (congrArg some (by kernel_rfl))
 f48:=Tryz.func147.trans (congrArg some (by kernel_rfl))
 f49:=⟨Tryz.f148.name,by decide,Tryz.func148.trans (congrArg some (by kernel_rfl))⟩
 f50:=⟨Tryz.f149.name,by decide,Tryz.func149.trans (congrArg some (by kernel_rfl))⟩
 f57:=⟨Tryz.f160.name,by decide,Tryz.func160.trans (congrArg some (by kernel_rfl))⟩
 t0:=Tryz.underlying0
 a0:=Tryz.isAgg0
 z0:=Tryz.sizeOf0
 v0:=Tryz.zeroValue0
 t3:=Tryz.underlying3
 a3:=Tryz.isAgg3
 z3:=Tryz.sizeOf3
 v3:=Tryz.zeroValue3
 t4:=Tryz.underlying4
 a4:=Tryz.isAgg4
 z4:=Tryz.sizeOf4
 v4:=Tryz.zeroValue4
 t5:=Tryz.underlying5
 a5:=Tryz.isAgg5
 z5:=Tryz.sizeOf5
 v5:=Tryz.zeroValue5
 t9:=Tryz.underlying9
 a9:=Tryz.isAgg9
 z9:=Tryz.sizeOf9
 v9:=Tryz.zeroValue9
 t22:=Tryz.underlying26
 a22:=Tryz.isAgg26
 z22:=Tryz.sizeOf26
 v22:=Tryz.zeroValue26
 t25:=Tryz.underlying104
 a25:=Tryz.isAgg104
 z25:=Tryz.sizeOf104
 v25:=Tryz.zeroValue104
 t39:=Tryz.underlying167
 a39:=Tryz.isAgg167
 z39:=Tryz.sizeOf167
 v39:=Tryz.zeroValue167
 t45:=Tryz.underlying195
 a45:=Tryz.isAgg195
 z45:=Tryz.sizeOf195
 v45:=Tryz.zeroValue195
 t46:=Tryz.underlying196
 a46:=Tryz.isAgg196
 z46:=Tryz.sizeOf196
 v46:=Tryz.zeroValue196
 t50:=Tryz.underlying200
 a50:=Tryz.isAgg200
 z50:=Tryz.sizeOf200
 v50:=Tryz.zeroValue200
 t53:=Tryz.underlying29
 a53:=Tryz.isAgg29
 z53:=Tryz.sizeOf29
 v53:=Tryz.zeroValue29
 t55:=Tryz.underlying25
 a55:=Tryz.isAgg25
 z55:=Tryz.sizeOf25
 v55:=Tryz.zeroValue25
 t66:=Tryz.underlying218
 a66:=Tryz.isAgg218
 z66:=Tryz.sizeOf218
 v66:=Tryz.zeroValue218
 t70:=Tryz.underlying222
 a70:=Tryz.isAgg222
 z70:=Tryz.sizeOf222
 v70:=Tryz.zeroValue222
 t76:=Tryz.underlying229
 a76:=Tryz.isAgg229
 z76:=Tryz.sizeOf229
 v76:=Tryz.zeroValue229
 t77:=Tryz.underlying230
 a77:=Tryz.isAgg230
 z77:=Tryz.sizeOf230
 v77:=Tryz.zeroValue230 }
end Go.Proofs
end
section
/- Rows of structs. -/
namespace Go.Q.Rw
theorem slc_get {h:Heap} {s:Slc} {vs:List Value} (S:SlcAt h s vs) {i:Nat} {v:Value} (hv:vs[i]? = some v):∃ a,s.a=some a/\cellH h (a.add i)=some v:=by
 cases ha:s.a with
 | none=>have:=S.1 ha; subst this; simp at hv
 | some a=>exact ⟨a,rfl,S.2 a ha i v hv⟩
theorem add_add2 (b:Addr) (m n:Nat):(b.add m).add n=b.add (m + n):=by
 unfold Addr.add
 by_cases h0:m=0 <;> by_cases h1:n=0 <;> simp [h0,h1,Nat.add_assoc]
section
variable {α:Type} {cs:α->List Value} {w:Nat}
theorem fm_len (hc:∀ x,(cs x).length=w) (xs:List α):(xs.flatMap cs).length=xs.length * w:=by
 induction xs with
 | nil=>simp
 | cons x xs ih=>simp only [List.flatMap_cons,List.length_append,ih,hc,List.length_cons,Nat.add_mul]; omega
theorem fm_get (hc:∀ x,(cs x).length=w):∀ (xs:List α) (i j:Nat),j < w->(xs.flatMap cs)[i * w + j]? = (xs[i]?).bind fun x=>(cs x)[j]?
 | [],i,j,h=>by simp
 | x :: r,0,j,h=>by
  simp only [List.flatMap_cons,Nat.zero_mul,Nat.zero_add,List.getElem?_cons_zero,Option.bind_some]
  rw [List.getElem?_append_left (by rw [hc]; exact h)]
 | x :: r,i + 1,j,h=>by
  simp only [List.flatMap_cons,List.getElem?_cons_succ]
  rw [List.getElem?_append_right (by rw [hc,Nat.add_mul]; omega)]
  have:=fm_get hc r i j h
  rw [← this,hc]
  congr 1
  rw [Nat.add_mul]; omega
theorem ls_of_slc (hc:∀ x,(cs x).length=w) {h:Heap} {s:Slc} {xs:List α} (S:SlcAt h s (xs.flatMap cs)) (hl:s.len=xs.length) (hw:0 < w):LsAt cs w h s xs:=by
 refine ⟨hl,fun i x hx=>?_⟩
 have hi:=(List.getElem?_eq_some_iff.1 hx).1
 have h0:(xs.flatMap cs)[i * w + 0]? = (cs x)[0]?:=by rw [fm_get hc xs i 0 hw,hx]; rfl
 obtain ⟨v0,hv0⟩:∃ v,(cs x)[0]? = some v:=⟨_,List.getElem?_eq_getElem (by rw [hc]; exact hw)⟩
 rw [hv0] at h0
 obtain ⟨a,ha,_⟩:=slc_get S h0
 refine ⟨a,ha,fun j v hj=>?_⟩
 have hj2:j < w:=by have:=(List.getElem?_eq_some_iff.1 hj).1; rw [hc] at this; exact this
 rw [add_add2]
 refine S.2 a ha _ v ?_
 rw [fm_get hc xs i j hj2,hx]; exact hj
end
theorem tk_sets (cur v:List Value) (a n:Nat) (h:a + v.length<=n) (hn:n<=cur.length):(cur.take a ++ v ++ cur.drop (a + v.length)).take n=(cur.take n).take a ++ v ++ (cur.take n).drop (a + v.length):=by
 have hl:(cur.take a ++ v).length=a + v.length:=by rw [List.length_append,List.length_take]; omega
 rw [List.take_append,hl,List.take_of_length_le (by omega),List.take_take,Nat.min_eq_left (by omega),List.drop_take]
end Go.Q.Rw
end
section
set_option maxRecDepth 100000
/- slices.SortFunc of pieces: they lie sorted. -/
namespace Go.Q.Yq
open Go.Proofs Go.RowKit Go.Shelf Go.Sort Go.Q.Rw
theorem Good.swo {α:Type} {c:α->α->Int} (C:Good c):SWO (ltOf c) where
 irrefl x:=by have:=C.anti x x; simp [ltOf]; omega
 trans x y z h1 h2:=by
  simp [ltOf] at *
  have a1:=C.anti x y
  have a2:=C.anti y z
  have a3:=C.anti x z
  have t1:=C.tr x y z
  have t2:=C.tr z x y
  omega
 ntrans x y z h1 h2:=by
  simp [ltOf] at *
  have a1:=C.anti x y
  have a2:=C.anti y z
  have a3:=C.anti x z
  have t1:=C.tr z y x
  omega
theorem pcs5 (x:S_api_Piece):(S_api_Piece.cs x).length=5:=rfl
theorem flat_list (xs:List S_api_Piece):(flatK S_api_Piece.cs 5 xs.toArray).toList=xs.flatMap S_api_Piece.cs:=by
 apply List.ext_getElem?
 intro t
 by_cases ht:t < xs.length * 5
 ·have h1:t / 5 < xs.length:=by omega
  have h2:t % 5 < 5:=Nat.mod_lt _ (by omega)
  have e:(xs.flatMap S_api_Piece.cs)[t]? = some ((S_api_Piece.cs xs[t / 5])[t % 5]'(by rw [pcs5]; exact h2)):=by
   have:=fm_get pcs5 xs (t / 5) (t % 5) h2
   rw [show t / 5 * 5 + t % 5=t from by omega] at this
   rw [this,List.getElem?_eq_getElem h1,Option.bind_some,List.getElem?_eq_getElem (by rw [pcs5]; exact h2)]
  rw [e]
  have h3:t % 5 < (S_api_Piece.cs xs[t / 5]).length:=by rw [pcs5]; exact h2
  simp [flatK,ht,h1,h3]
 ·rw [List.getElem?_eq_none (by simp; omega),List.getElem?_eq_none (by rw [fm_len pcs5]; omega)]
theorem world_grow {W w':World} (ww:WW true W w'.heap w') (X:Ext W.heap.size W.heap w'.heap):∃ q os',w'=grow (W.drewN q) os':=by
 obtain ⟨a1,a2,a3,a4,a5⟩:=ww
 refine ⟨w'.drawn - W.drawn,w'.heap.extract W.heap.size w'.heap.size,?_⟩
 have hd:=a5 rfl
 have hh:w'.heap=W.heap ++ w'.heap.extract W.heap.size w'.heap.size:=by
  apply Array.ext_getElem?
  intro i
  by_cases hi:i < W.heap.size
  ·rw [X.block i hi,Array.getElem?_append_left hi]
  ·rw [Array.getElem?_append_right (by omega),Array.getElem?_extract]
   have hs:=X.size
   by_cases h2:i < w'.heap.size
   ·rw [if_pos (by omega)]; congr 1; omega
   ·rw [if_neg (by omega)]; exact Array.getElem?_eq_none (by omega)
 cases w'
 cases W
 simp only [grow,World.drewN] at *
 subst a1; subst a2; subst a3
 congr 1
 omega
theorem cmpLays (blk off size:Nat) (w:World):CmpLays Tryz.prog 48 #[] S_api_Piece.cs 5 cmpP blk off size w:=fun m os dk hs x y=>by
 refine ((piece_compare_ref (D:=true) x y (fun r h'=>r=cmpP x y/\Ext (sortWorldK S_api_Piece.cs 5 w blk off m dk os).heap.size (sortWorldK S_api_Piece.cs 5 w blk off m dk os).heap h') _ (Compare_ok fun h' X=>⟨rfl,X⟩)) _ rfl).mono ?_
 rintro e w' ⟨v,rfl,ww,r,rfl,rfl,X⟩
 exact ⟨rfl,world_grow ww X⟩
/-- what slices.SortFunc does: it is asked of pieces, by their order -/
def slices_SortFunc_api_Piece_api_Piece (s:Slc) (f:Value) (k:Unit->Heap->Prop) (h:Heap):Prop :=
 f = .func (.func 48) #[] #[]/\∃ (B:Nat) (xs:List S_api_Piece),Row B h 89 5 s (xs.flatMap S_api_Piece.cs)/\s.len=xs.length/\B<=h.size/\xs.length<=1000000 /\
  ∀ (zs:List S_api_Piece) h',zs.Perm xs->zs.Pairwise (fun a b=>cmpP a b<=0)->Row B h' 89 5 s (zs.flatMap S_api_Piece.cs)->Ext B h h'->k () h'
theorem slices_SortFunc_api_Piece_api_Piece_ok:CallOk Tryz.prog 70:=⟨_,Tryz.func70,by kernel_rfl,by kernel_rfl⟩
theorem slices_SortFunc_api_Piece_api_Piece_ref (s:Slc) (f:Value) (k:Unit->Heap->Prop) (h:Heap) (H:slices_SortFunc_api_Piece_api_Piece s f k h):CallsH Tryz.prog 70 #[Slc.v s,f] h (fun v h'=>∃ r:Unit,v = .tuple #[]/\k r h'):=by
 obtain ⟨rfl,B,xs,R,hl,hB,hx,H⟩:=H
 intro w hw
 obtain ⟨a,len,cap⟩:=s
 obtain ⟨r1,r2,⟨rfl,q2,q3⟩ | ⟨g,cur,rfl,r3,r4,r5,r6,r7⟩⟩:=R
 ·simp only at q2 q3 hl
  subst q2
  obtain rfl:xs=[]:=List.length_eq_zero_iff.1 hl.symm
  have hcon:=AnyF.slices_SortFunc_none Tryz.sortP none cap (.func (.func 48) #[] #[]) w
  change Calls Tryz.prog 70 _ _ _ at hcon
  refine (show Calls Tryz.prog 70 #[Slc.v ⟨none,0,cap⟩,_] w _ from hcon).mono ?_
  rintro e w' ⟨rfl,rfl⟩
  refine ⟨_,rfl,WW.self _,(),rfl,?_⟩
  subst hw
  exact H [] _ (.refl _) .nil ⟨r1,r2,.inl ⟨rfl,rfl,q3⟩⟩ (Ext.refl _ _)
 simp only at hl r1 r2 r5 r6 r7
 subst hl
 subst hw
 obtain ⟨lo,hi,b1,b2⟩:=r4
 have hg:g < w.heap.size:=(Array.getElem?_eq_some_iff.1 b1).1
 have hcl:cap * 5<=cur.length:=r6
 have fl:∀ j,j < xs.length * 5->cur[j]? = some ((flatK S_api_Piece.cs 5 xs.toArray)[j]!):=fun j hj=>by
  have e:(cur.take (xs.length * 5))[j]? = cur[j]?:=by rw [List.getElem?_take,if_pos hj]
  rw [← e,r7,← flat_list,getElem!_pos _ j (by simpa using hj)]
  simp [hj]
 have hH:HoldsK S_api_Piece.cs 5 w g 0 xs.toArray:=fun j hj=>by
  simp at hj
  rw [Nat.zero_add]
  refine ⟨?_,?_⟩
  ·show cellH w.heap ⟨g,j,none⟩=_
   rw [Blk.cell ⟨lo,hi,b1,b2⟩,fl j hj]; rfl
  ·exact Blk.froz ⟨lo,hi,b1,b2⟩ (by omega)
 have eg:∀ args w,(callFunc 48 args).run Tryz.prog w = .ok (.enter 48 args) w:=enters_of Tryz.func48 (by kernel_rfl) rfl
 have hcon:=AnyQ.slices_SortFunc Tryz.sortP 5 Tryz.isAgg89 Tryz.sizeOf89 S_api_Piece.cs pcs5 (fun x v hv=>by simp [S_api_Piece.cs,S_api_Id.cs] at hv; rcases hv with rfl | rfl | rfl | rfl | rfl <;> rfl) cmpP good_P.swo 48 #[] g 0 cap xs.toArray w eg (cmpLays g 0 _ w) hH hg (by simp; omega)
 change Calls Tryz.prog 70 _ _ _ at hcon
 refine (show Calls Tryz.prog 70 #[Slc.v ⟨some ⟨g,0,none⟩,xs.length,cap⟩,_] w _ from hcon).mono ?_
 rintro e w' ⟨rfl,d',n,os,⟨p1,p2,p3⟩,hs,rfl⟩
 have hsz:d'.size=xs.length:=by simpa using p1
 have hW:=holdsK_sortWorldK S_api_Piece.cs 5 w g 0 n xs.toArray d' os hg hH p1
 have hlen:(flatK S_api_Piece.cs 5 d').size=xs.length * 5:=by simp [hsz]
 have hheap:(sortWorldK S_api_Piece.cs 5 w g 0 n d' os).heap=w.heap.modify g (onCells (putCells id 0 (flatK S_api_Piece.cs 5 d'))) ++ os:=rfl
 have hb:(sortWorldK S_api_Piece.cs 5 w g 0 n d' os).heap[g]? = some (.cells (putCells id 0 (flatK S_api_Piece.cs 5 d') cur.toArray) 89 (lo,hi)):=by
  rw [hheap]
  rw [Array.getElem?_append_left (by simpa using hg)]
  simp [Array.getElem?_modify,b1,onCells]
 have ho:∀ i,i < w.heap.size->i≠g->(sortWorldK S_api_Piece.cs 5 w g 0 n d' os).heap[i]? = w.heap[i]?:=fun i hi hne=>by
  rw [hheap]
  rw [Array.getElem?_append_left (by simpa using hi)]
  simp [Array.getElem?_modify,Ne.symm hne]
 have hh:w.heap.size<=(sortWorldK S_api_Piece.cs 5 w g 0 n d' os).heap.size:=by
  rw [hheap]
  simp
 have hcur:(putCells id 0 (flatK S_api_Piece.cs 5 d') cur.toArray).toList.length=cur.length:=by simp [putCells]
 refine ⟨_,rfl,⟨rfl,rfl,rfl,rfl,fun k=>by cases k⟩,(),rfl,H d'.toList _ ?_ ?_ ⟨?_,r2,.inr ⟨g,(putCells id 0 (flatK S_api_Piece.cs 5 d') cur.toArray).toList,rfl,r3,⟨lo,hi,by simpa using hb,by rw [hcur]; exact b2⟩,r5,by rw [hcur]; exact r6,?_⟩⟩ ⟨hh,fun i hi=>ho i (by omega) (by omega)⟩⟩
 ·have p4:=p3
  simp at p4
  rw [List.take_of_length_le (by simp [hsz])] at p4
  exact p4
 ·rw [List.pairwise_iff_getElem]
  intro i j hi hj hij
  simp at hi hj
  have:=hs i j (Nat.zero_le _) hij (by simp; omega)
  rw [getElem!_pos d' i hi,getElem!_pos d' j hj] at this
  have ha:=good_P.anti d'[i] d'[j]
  simp [ltOf] at this
  show cmpP d'[i] d'[j]<=0
  omega
 ·rw [fm_len pcs5]; simp [hsz]
 ·show List.take (xs.length * 5) _=_
  rw [← flat_list]
  apply List.ext_getElem?
  intro t
  rw [List.getElem?_take]
  by_cases ht:t < xs.length * 5
  ·rw [if_pos ht]
   simp [putCells,hsz,ht]
   have:t < cur.length:=by omega
   simp [this,flatK,hsz,ht]
  ·rw [if_neg ht,List.getElem?_eq_none (by simp [hsz]; omega)]
def slices_SortFunc_api_Piece_api_Piece__piece_compare (s:Slc) (k:Unit->Heap->Prop) (h:Heap):Prop:=slices_SortFunc_api_Piece_api_Piece s (.func (.func 48) #[] #[]) k h
theorem slices_SortFunc_api_Piece_api_Piece__piece_compare_ok:CallOk Tryz.prog 70:=slices_SortFunc_api_Piece_api_Piece_ok
theorem slices_SortFunc_api_Piece_api_Piece__piece_compare_ref (s:Slc) (k:Unit->Heap->Prop) (h:Heap) (H:slices_SortFunc_api_Piece_api_Piece__piece_compare s k h):CallsH Tryz.prog 70 #[Slc.v s,.func (.func 48) #[] #[]] h (fun v h'=>∃ r:Unit,v = .tuple #[]/\k r h') :=
 slices_SortFunc_api_Piece_api_Piece_ref s _ k h H
end Go.Q.Yq
end

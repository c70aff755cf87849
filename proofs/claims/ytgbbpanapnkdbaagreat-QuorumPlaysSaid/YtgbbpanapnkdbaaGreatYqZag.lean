/- A part of the proof of statements of this seat: lemmas, no statement of their own. -/
import Derived.Test.YtgbbpanapnkdbaaGreatYqZaf
import Derived.Sort.Walk0
import Derived.Shelf.SlSortCmp.WholeK
import Derived.Shelf.SlGeneric
import Derived.Test.YtgbbpanapnkdbaaGreatProg
import Derived.Shelf.SlSortCmp.NoneTotal
import Derived.Maps.RangeRun
import Derived.WideKeyRuns
import Derived.Test.YtgbbpanapnkdbaaGreatYqZad
import Derived.Test.YtgbbpanapnkdbaaGreatYqZae
set_option linter.unusedVariables false
set_option linter.unusedSimpArgs false
set_option maxRecDepth 100000
set_option maxHeartbeats 1000000
section
/- slices.SortFunc of pieces by their order. -/
namespace Go.Q.Yq
open Go.Proofs Go.RowKit Go.Shelf Go.Sort
/-- a comparison that orders -/
structure Good {α:Type} (c:α->α->Int):Prop where
 anti:∀ x y,c y x = - c x y
 tr:∀ x y z,c x y<=0->c y z<=0->c x z<=0
def or1 (a b:Int):Int:=if a≠0 then a else b
theorem Good.lex {α:Type} {c d:α->α->Int} (C:Good c) (D:Good d):Good (fun x y=>or1 (c x y) (d x y)) where
 anti x y:=by
  have h1:=C.anti x y
  have h2:=D.anti x y
  unfold or1
  by_cases h:c x y=0
  ·rw [if_neg (by omega),if_neg (by omega)]; exact h2
  ·rw [if_pos (by omega),if_pos h]; exact h1
 tr x y z:=by
  have a1:=C.anti x y
  have a2:=C.anti y z
  have a3:=C.anti x z
  have t1:=C.tr x y z
  have t2:=C.tr z x y
  have t3:=C.tr y z x
  have d:=D.tr x y z
  unfold or1
  intro h1 h2
  by_cases e1:c x y=0 <;> by_cases e2:c y z=0 <;> by_cases e3:c x z=0 <;> simp [e1,e2,e3] at h1 h2 ⊢ <;> first | omega | (exact d h1 h2) | skip
theorem Good.Io {α β:Type} {c:β->β->Int} (C:Good c) (f:α->β):Good (fun x y=>c (f x) (f y)):=⟨fun x y=>C.anti _ _,fun x y z=>C.tr _ _ _⟩
theorem Good.zero {α:Type}:Good (fun _ _:α=>0):=⟨fun _ _=>rfl,fun _ _ _ _ _=>Int.le_refl _⟩
theorem GJ:Good cI where
 anti x y:=by unfold cI; split <;> split <;> (try split) <;> omega
 tr x y z h1 h2:=by
  unfold cI at *
  split at h1 <;> split at h2 <;> (try split at h1) <;> (try split at h2) <;> split <;> (try split) <;> omega
theorem EY (a b:ByteArray):cS a b=if a.toList < b.toList then -1 else if b.toList < a.toList then 1 else 0:=by
 unfold cS
 rw [bytesLess_eq]
 by_cases h1:a.toList < b.toList
 ·rw [if_pos (by simpa using h1),if_pos h1]
 ·rw [if_neg (by simpa using h1),if_neg h1]
  by_cases h2:b.toList < a.toList
  ·rw [if_pos h2,if_pos ?_]
   have:a.toList≠b.toList:=fun e=>by rw [e] at h2; exact List.lt_irrefl _ h2
   simpa [h1] using this
  ·rw [if_neg h2,if_neg ?_]
   have:a.toList=b.toList:=List.le_antisymm (List.not_lt.1 h2) (List.not_lt.1 h1)
   simp [this]
theorem yD:Good cS where
 anti x y:=by
  rw [EY,EY]
  by_cases h1:x.toList < y.toList
  ·have h2:¬ y.toList < x.toList:=List.lt_asymm h1
   simp [h1,h2]
  ·by_cases h2:y.toList < x.toList <;> simp [h1,h2]
 tr x y z:=by
  rw [EY,EY,EY]
  have key:∀ {a b:List UInt8},(if a < b then (-1:Int) else if b < a then 1 else 0)<=0 ↔ a<=b:=fun {a b}=>by
   by_cases h1:a < b
   ·simp [h1,List.le_of_lt h1]
   ·by_cases h2:b < a
    ·simp [h1,h2,List.not_le.2 h2]
    ·simp [h1,h2,List.not_lt.1 h2]
  rw [key,key,key]
  exact List.le_trans
theorem jT (x:Int) (r:List Int):orL (x :: r)=or1 x (orL r):=rfl
theorem Hw:Good vk:=(((GJ.Io aG.f_N).lex ((GJ.Io aG.aR).lex Good.zero)):Good (fun x y:aG=>or1 (cI x.f_N y.f_N) (or1 (cI x.aR y.aR) 0)))
theorem LQ:Good Gw:=((yD.Io ae.ak).lex ((GJ.Io ae.f_T).lex ((Hw.Io ae.dB).lex Good.zero)):Good (fun x y:ae=>or1 (cS x.ak y.ak) (or1 (cI x.f_T y.f_T) (or1 (vk x.dB y.dB) 0))))
end Go.Q.Yq
end
section
/- The numbers of the functions and types that slices.SortFunc of pieces reaches at this program, and that their bodies are the ones that the library has walked. -/
namespace Go.Proofs
open Go.Shelf
def Tryz.Kj:Go.Shelf.Ren:=⟨fun | 6=>70 | 14=>95 | 15=>96 | 20=>114 | 21=>115 | 22=>116 | 23=>117 | 24=>118 | 25=>119 | 26=>120 | 27=>121 | 28=>122 | 29=>123 | 46=>145 | 47=>146 | 48=>147 | 49=>148 | 50=>149 | 57=>160 | n=>n,fun | 22=>26 | 24=>89 | 25=>104 | 3=>3 | 39=>167 | 0=>0 | 53=>29 | 55=>25 | 4=>4 | 46=>196 | 45=>195 | 50=>200 | 5=>5 | 9=>9 | 66=>218 | 70=>222 | 76=>229 | 77=>230 | n=>n,fun | n=>n⟩
theorem Tryz.Oa:Go.Proofs.SlLaysF0.n6 Tryz.prog Tryz.Kj:={
 mixed:=by kernel_rfl
 f6:=⟨Tryz.f70.name,by decide,Tryz.func70.trans (congrArg some (by kernel_rfl))⟩
 f14:=⟨Tryz.f95.name,by decide,Tryz.func95.trans (congrArg some (by kernel_rfl))⟩
 f15:=Tryz.func96.trans (congrArg some (by kernel_rfl))
 f20:=⟨Tryz.f114.name,by decide,Tryz.func114.trans (congrArg some (by kernel_rfl))⟩
 f21:=⟨Tryz.f115.name,by decide,Tryz.func115.trans (congrArg some (by kernel_rfl))⟩
 f22:=⟨Tryz.f116.name,by decide,Tryz.func116.trans (congrArg some (by kernel_rfl))⟩
 f23:=⟨Tryz.f117.name,by decide,Tryz.func117.trans (congrArg some (by kernel_rfl))⟩
 f24:=⟨Tryz.f118.name,by decide,Tryz.func118.trans (congrArg some (by kernel_rfl))⟩
 f25:=⟨Tryz.f119.name,by decide,Tryz.func119.trans (congrArg some (by kernel_rfl))⟩
 f26:=⟨Tryz.f120.name,by decide,Tryz.func120.trans (congrArg some (by kernel_rfl))⟩
 f27:=⟨Tryz.f121.name,by decide,Tryz.func121.trans (congrArg some (by kernel_rfl))⟩
 f28:=Tryz.func122.trans (congrArg some (by kernel_rfl))
 f29:=Tryz.func123.trans (congrArg some (by kernel_rfl))
 f46:=⟨Tryz.f145.name,by decide,Tryz.func145.trans (congrArg some (by kernel_rfl))⟩
 f47:=Tryz.func146.trans (congrArg some (by kernel_rfl))
 f48:=Tryz.func147.trans (congrArg some (by kernel_rfl))
 f49:=⟨Tryz.f148.name,by decide,Tryz.func148.trans (congrArg some (by kernel_rfl))⟩
 f50:=⟨Tryz.f149.name,by decide,Tryz.func149.trans (congrArg some (by kernel_rfl))⟩
 f57:=⟨Tryz.f160.name,by decide,Tryz.func160.trans (congrArg some (by kernel_rfl))⟩
 t0:=Tryz.underlying0
 a0:=Tryz.isAgg0
 z0:=Tryz.sizeOf0
 v0:=Tryz.zeroValue0
 t3:=Tryz.underlying3
 a3:=Tryz.isAgg3
 z3:=Tryz.sizeOf3
 v3:=Tryz.zeroValue3
 t4:=Tryz.underlying4
 a4:=Tryz.isAgg4
 z4:=Tryz.sizeOf4
 v4:=Tryz.zeroValue4
 t5:=Tryz.underlying5
 a5:=Tryz.isAgg5
 z5:=Tryz.sizeOf5
 v5:=Tryz.zeroValue5
 t9:=Tryz.underlying9
 a9:=Tryz.isAgg9
 z9:=Tryz.sizeOf9
 v9:=Tryz.zeroValue9
 t22:=Tryz.underlying26
 a22:=Tryz.isAgg26
 z22:=Tryz.sizeOf26
 v22:=Tryz.zeroValue26
 t25:=Tryz.underlying104
 a25:=Tryz.isAgg104
 z25:=Tryz.sizeOf104
 v25:=Tryz.zeroValue104
 t39:=Tryz.underlying167
 a39:=Tryz.isAgg167
 z39:=Tryz.sizeOf167
 v39:=Tryz.zeroValue167
 t45:=Tryz.underlying195
 a45:=Tryz.isAgg195
 z45:=Tryz.sizeOf195
 v45:=Tryz.zeroValue195
 t46:=Tryz.underlying196
 a46:=Tryz.isAgg196
 z46:=Tryz.sizeOf196
 v46:=Tryz.zeroValue196
 t50:=Tryz.underlying200
 a50:=Tryz.isAgg200
 z50:=Tryz.sizeOf200
 v50:=Tryz.zeroValue200
 t53:=Tryz.underlying29
 a53:=Tryz.isAgg29
 z53:=Tryz.sizeOf29
 v53:=Tryz.zeroValue29
 t55:=Tryz.underlying25
 a55:=Tryz.isAgg25
 z55:=Tryz.sizeOf25
 v55:=Tryz.zeroValue25
 t66:=Tryz.underlying218
 a66:=Tryz.isAgg218
 z66:=Tryz.sizeOf218
 v66:=Tryz.zeroValue218
 t70:=Tryz.underlying222
 a70:=Tryz.isAgg222
 z70:=Tryz.sizeOf222
 v70:=Tryz.zeroValue222
 t76:=Tryz.underlying229
 a76:=Tryz.isAgg229
 z76:=Tryz.sizeOf229
 v76:=Tryz.zeroValue229
 t77:=Tryz.underlying230
 a77:=Tryz.isAgg230
 z77:=Tryz.sizeOf230
 v77:=Tryz.zeroValue230 }
end Go.Proofs
end
section
/- Rows of structs. -/
namespace Go.Q.Rw
theorem u6 {h:Heap} {s:Slc} {vs:List Value} (S:SlcAt h s vs) {i:Nat} {v:Value} (hv:vs[i]? = some v):∃ a,s.a=some a/\ah h (a.add i)=some v:=by
 cases ha:s.a with
 | none=>have:=S.1 ha; subst this; simp at hv
 | some a=>exact ⟨a,rfl,S.2 a ha i v hv⟩
theorem kG (b:Addr) (m n:Nat):(b.add m).add n=b.add (m + n):=by
 unfold Addr.add
 by_cases h0:m=0 <;> by_cases h1:n=0 <;> simp [h0,h1,Nat.add_assoc]
section
variable {α:Type} {cs:α->List Value} {w:Nat}
theorem rR (hc:∀ x,(cs x).length=w) (xs:List α):(xs.flatMap cs).length=xs.length * w:=by
 induction xs with
 | nil=>simp
 | cons x xs ih=>simp only [List.flatMap_cons,List.length_append,ih,hc,List.length_cons,Nat.add_mul]; omega
theorem zD (hc:∀ x,(cs x).length=w):∀ (xs:List α) (i j:Nat),j < w->(xs.flatMap cs)[i * w + j]? = (xs[i]?).bind fun x=>(cs x)[j]?
 | [],i,j,h=>by simp
 | x :: r,0,j,h=>by
  simp only [List.flatMap_cons,Nat.zero_mul,Nat.zero_add,List.getElem?_cons_zero,Option.bind_some]
  rw [List.getElem?_append_left (by rw [hc]; exact h)]
 | x :: r,i + 1,j,h=>by
  simp only [List.flatMap_cons,List.getElem?_cons_succ]
  rw [List.getElem?_append_right (by rw [hc,Nat.add_mul]; omega)]
  have:=zD hc r i j h
  rw [← this,hc]
  congr 1
  rw [Nat.add_mul]; omega
theorem Gq (hc:∀ x,(cs x).length=w):∀ (xs:List α) (i j:Nat) (x x':α) (v:Value),j < w->xs[i]? = some x->cs x'=(cs x).set j v->(xs.flatMap cs).set (i * w + j) v=(xs.set i x').flatMap cs
 | [],i,j,x,x',v,h,hx,he=>by simp at hx
 | y :: r,0,j,x,x',v,h,hx,he=>by
  simp at hx; subst hx
  simp only [List.flatMap_cons,Nat.zero_mul,Nat.zero_add,List.set_cons_zero]
  rw [List.set_append_left _ _ (by rw [hc]; exact h),he]
 | y :: r,i + 1,j,x,x',v,h,hx,he=>by
  simp only [List.flatMap_cons,List.set_cons_succ]
  rw [List.set_append_right _ _ (by rw [hc,Nat.add_mul]; omega),hc]
  rw [show (i + 1) * w + j - w=i * w + j from by rw [Nat.add_mul]; omega]
  rw [Gq hc r i j x x' v h (by simpa using hx) he]
theorem iH (hc:∀ x,(cs x).length=w) {h:Heap} {s:Slc} {xs:List α} (S:SlcAt h s (xs.flatMap cs)) (hl:s.len=xs.length) (hw:0 < w):LsAt cs w h s xs:=by
 refine ⟨hl,fun i x hx=>?_⟩
 have hi:=(List.getElem?_eq_some_iff.1 hx).1
 have h0:(xs.flatMap cs)[i * w + 0]? = (cs x)[0]?:=by rw [zD hc xs i 0 hw,hx]; rfl
 obtain ⟨v0,hv0⟩:∃ v,(cs x)[0]? = some v:=⟨_,List.getElem?_eq_getElem (by rw [hc]; exact hw)⟩
 rw [hv0] at h0
 obtain ⟨a,ha,_⟩:=u6 S h0
 refine ⟨a,ha,fun j v hj=>?_⟩
 have hj2:j < w:=by have:=(List.getElem?_eq_some_iff.1 hj).1; rw [hc] at this; exact this
 rw [kG]
 refine S.2 a ha _ v ?_
 rw [zD hc xs i j hj2,hx]; exact hj
end
/-- a place of a row of one's own is written -/
theorem LG {B E w g j:Nat} {h:Heap} {s:Slc} {xs:List Value} {v:Value} (R:Row B h E w s xs) (ha:s.a=some ⟨g,0,none⟩) (hj:j < s.len * w):WrH h ⟨g,j,none⟩/\Row B (setH h ⟨g,j,none⟩ v) E w s (xs.set j v)/\B<=g:=by
 rcases R.2.2 with ⟨k,_⟩ | ⟨g',cur,a1,a2,a3,a4,a5,a6⟩
 ·rw [k] at ha; cases ha
 ·rw [ha] at a1; cases a1
  have hx:=R.1
  have hlen:s.len * w<=cur.length:=Nat.le_trans (Nat.mul_le_mul_right _ a4) a5
  refine ⟨a3.wr (by omega),⟨by simpa using hx,R.2.1,.inr ⟨g,_,ha,a2,a3.set,a4,by simpa using a5,?_⟩⟩,a2⟩
  rw [List.take_set,a6]
/-- a row of structs of one's own: one of them is written -/
theorem JS {α:Type} {cs:α->List Value} {w:Nat} (hc:∀ x,(cs x).length=w):∀ (xs:List α) (i:Nat) (x:α),i < xs.length->(xs.flatMap cs).take (i * w) ++ cs x ++ (xs.flatMap cs).drop ((i + 1) * w)=(xs.set i x).flatMap cs
 | [],i,x,h=>by simp at h
 | y :: r,0,x,h=>by
  simp only [Nat.zero_mul,List.take_zero,List.nil_append,List.flatMap_cons,List.set_cons_zero,Nat.zero_add,Nat.one_mul]
  rw [List.drop_append_of_le_length (by rw [hc]; exact Nat.le_refl _),List.drop_of_length_le (by rw [hc]; exact Nat.le_refl _),List.nil_append]
 | y :: r,i + 1,x,h=>by
  simp only [List.flatMap_cons,List.set_cons_succ]
  rw [← JS hc r i x (by simpa using h)]
  rw [List.take_append,hc,List.take_of_length_le (by rw [hc,Nat.add_mul]; omega),List.drop_append,hc,List.drop_of_length_le (by rw [hc,Nat.add_mul]; omega)]
  rw [show (i + 1) * w - w=i * w from by rw [Nat.add_mul]; omega,show (i + 1 + 1) * w - w=(i + 1) * w from by rw [Nat.add_mul (i + 1)]; omega]
  simp only [List.append_assoc,List.nil_append]
theorem Jk (cur v:List Value) (a n:Nat) (h:a + v.length<=n) (hn:n<=cur.length):(cur.take a ++ v ++ cur.drop (a + v.length)).take n=(cur.take n).take a ++ v ++ (cur.take n).drop (a + v.length):=by
 have hl:(cur.take a ++ v).length=a + v.length:=by rw [List.length_append,List.length_take]; omega
 rw [List.take_append,hl,List.take_of_length_le (by omega),List.take_take,Nat.min_eq_left (by omega),List.drop_take]
theorem He {α:Type} {cs:α->List Value} {B E w:Nat} {h:Heap} {s:Slc} {xs:List α} (hc:∀ x,(cs x).length=w) (R:Row B h E w s (xs.flatMap cs)) (hl:s.len=xs.length) {i:Nat} (hi:i < xs.length) (x:α) {a:Addr} (ha:s.a=some a) :
  aN h (a.add (i * w)) w/\Row B (aM h (a.add (i * w)) 0 (cs x)) E w s ((xs.set i x).flatMap cs)/\B<=a.block:=by
 rcases R.2.2 with ⟨k,_⟩ | ⟨g,cur,a1,a2,a3,a4,a5,a6⟩
 ·rw [k] at ha; cases ha
 ·rw [ha] at a1; cases a1
  have hiw:i * w + w<=s.len * w:=by
   have:(i + 1) * w<=s.len * w:=Nat.mul_le_mul_right _ (by omega)
   rw [Nat.add_mul] at this; omega
  have hcap:s.len * w<=s.cap * w:=Nat.mul_le_mul_right _ a4
  rw [add_mk,Nat.zero_add]
  refine ⟨fun j hj=>by rw [add_mk]; exact a3.wr (by omega),⟨by rw [rR hc,List.length_set,hl],R.2.1,.inr ⟨g,_,ha,a2,a3.sets (cs x) (i * w) 0 (by rw [hc]; omega),a4,?_,?_⟩⟩,a2⟩
  ·simp only [List.length_append,List.length_take,List.length_drop,hc]; omega
  ·rw [← JS hc xs i x hi,← a6,Jk cur (cs x) (i * w + 0) (s.len * w) (by rw [hc]; omega) (by omega),hc,Nat.add_zero,show (i + 1) * w=i * w + w from by rw [Nat.add_mul,Nat.one_mul]]
end Go.Q.Rw
end
section
/- slices.SortFunc of pieces: they lie sorted. -/
namespace Go.Q.Yq
open Go.Proofs Go.RowKit Go.Shelf Go.Sort Go.Q.Rw
theorem Good.swo {α:Type} {c:α->α->Int} (C:Good c):SWO (ltOf c) where
 irrefl x:=by have:=C.anti x x; simp [ltOf]; omega
 trans x y z h1 h2:=by
  simp [ltOf] at *
  have a1:=C.anti x y
  have a2:=C.anti y z
  have a3:=C.anti x z
  have t1:=C.tr x y z
  have t2:=C.tr z x y
  omega
 ntrans x y z h1 h2:=by
  simp [ltOf] at *
  have a1:=C.anti x y
  have a2:=C.anti y z
  have a3:=C.anti x z
  have t1:=C.tr z y x
  omega
theorem Aw (x:ae):(ae.cs x).length=5:=rfl
theorem FH (xs:List ae):(flatK ae.cs 5 xs.toArray).toList=xs.flatMap ae.cs:=by
 apply List.ext_getElem?
 intro t
 by_cases ht:t < xs.length * 5
 ·have h1:t / 5 < xs.length:=by omega
  have h2:t % 5 < 5:=Nat.mod_lt _ (by omega)
  have e:(xs.flatMap ae.cs)[t]? = some ((ae.cs xs[t / 5])[t % 5]'(by rw [Aw]; exact h2)):=by
   have:=zD Aw xs (t / 5) (t % 5) h2
   rw [show t / 5 * 5 + t % 5=t from by omega] at this
   rw [this,List.getElem?_eq_getElem h1,Option.bind_some,List.getElem?_eq_getElem (by rw [Aw]; exact h2)]
  rw [e]
  have h3:t % 5 < (ae.cs xs[t / 5]).length:=by rw [Aw]; exact h2
  simp [flatK,ht,h1,h3]
 ·rw [List.getElem?_eq_none (by simp; omega),List.getElem?_eq_none (by rw [rR Aw]; omega)]
theorem IJ {W w':World} (ww:WW true W w'.heap w') (X:Ext W.heap.size W.heap w'.heap):∃ q os',w'=grow (W.drewN q) os':=by
 obtain ⟨a1,a2,a3,a4,a5⟩:=ww
 refine ⟨w'.drawn - W.drawn,w'.heap.extract W.heap.size w'.heap.size,?_⟩
 have hd:=a5 rfl
 have hh:w'.heap=W.heap ++ w'.heap.extract W.heap.size w'.heap.size:=by
  apply Array.ext_getElem?
  intro i
  by_cases hi:i < W.heap.size
  ·rw [X.block i hi,Array.getElem?_append_left hi]
  ·rw [Array.getElem?_append_right (by omega),Array.getElem?_extract]
   have hs:=X.size
   by_cases h2:i < w'.heap.size
   ·rw [if_pos (by omega)]; congr 1; omega
   ·rw [if_neg (by omega)]; exact Array.getElem?_eq_none (by omega)
 cases w'
 cases W
 simp only [grow,World.drewN] at *
 subst a1; subst a2; subst a3
 congr 1
 omega
theorem MP (blk off size:Nat) (w:World):CmpLays Tryz.prog 48 #[] ae.cs 5 Gw blk off size w:=fun m os dk hs x y=>by
 refine ((R48 (D:=true) x y (fun r h'=>r=Gw x y/\Ext (sortWorldK ae.cs 5 w blk off m dk os).heap.size (sortWorldK ae.cs 5 w blk off m dk os).heap h') _ (Iz fun h' X=>⟨rfl,X⟩)) _ rfl).mono ?_
 rintro e w' ⟨v,rfl,ww,r,rfl,rfl,X⟩
 exact ⟨rfl,IJ ww X⟩
/-- what slices.SortFunc does: it is asked of pieces, by their order -/
def kg (s:Slc) (f:Value) (k:KP Unit) (h:Heap):Prop :=
 f = .func (.func 48) #[] #[]/\∃ (B:Nat) (xs:List ae),Row B h 89 5 s (xs.flatMap ae.cs)/\s.len=xs.length/\B<=h.size/\xs.length<=1000000 /\
  ∀ (zs:List ae) h',zs.Perm xs->zs.Pairwise (fun a b=>Gw a b<=0)->Row B h' 89 5 s (zs.flatMap ae.cs)->Ext B h h'->k () h'
theorem oH:aF Tryz.prog 70:=⟨_,Tryz.func70,by kernel_rfl,by kernel_rfl⟩
theorem oG (s:Slc) (f:Value) (k:KP Unit) (h:Heap) (H:kg s f k h):CallsH Tryz.prog 70 #[Slc.v s,f] h (fun v h'=>∃ r:Unit,v = .tuple #[]/\k r h'):=by
 obtain ⟨rfl,B,xs,R,hl,hB,hx,H⟩:=H
 intro w hw
 obtain ⟨a,len,cap⟩:=s
 obtain ⟨r1,r2,⟨rfl,q2,q3⟩ | ⟨g,cur,rfl,r3,r4,r5,r6,r7⟩⟩:=R
 ·simp only at q2 q3 hl
  subst q2
  obtain rfl:xs=[]:=List.length_eq_zero_iff.1 hl.symm
  have hcon:=AnyF.slices_SortFunc_none Tryz.Oa none cap (.func (.func 48) #[] #[]) w
  change Calls Tryz.prog 70 _ _ _ at hcon
  refine (show Calls Tryz.prog 70 #[Slc.v ⟨none,0,cap⟩,_] w _ from hcon).mono ?_
  rintro e w' ⟨rfl,rfl⟩
  refine ⟨_,rfl,WW.self _,(),rfl,?_⟩
  subst hw
  exact H [] _ (.refl _) .nil ⟨r1,r2,.inl ⟨rfl,rfl,q3⟩⟩ (Ext.refl _ _)
 simp only at hl r1 r2 r5 r6 r7
 subst hl
 subst hw
 obtain ⟨lo,hi,b1,b2⟩:=r4
 have hg:g < w.heap.size:=(Array.getElem?_eq_some_iff.1 b1).1
 have hcl:cap * 5<=cur.length:=r6
 have fl:∀ j,j < xs.length * 5->cur[j]? = some ((flatK ae.cs 5 xs.toArray)[j]!):=fun j hj=>by
  have e:(cur.take (xs.length * 5))[j]? = cur[j]?:=by rw [List.getElem?_take,if_pos hj]
  rw [← e,r7,← FH,getElem!_pos _ j (by simpa using hj)]
  simp [hj]
 have hH:HoldsK ae.cs 5 w g 0 xs.toArray:=fun j hj=>by
  simp at hj
  rw [Nat.zero_add]
  refine ⟨?_,?_⟩
  ·show ah w.heap ⟨g,j,none⟩=_
   rw [Blk.cell ⟨lo,hi,b1,b2⟩,fl j hj]; rfl
  ·exact Blk.QV ⟨lo,hi,b1,b2⟩ (by omega)
 have eg:∀ args w,(callFunc 48 args).run Tryz.prog w = .ok (.enter 48 args) w:=enters_of Tryz.func48 (by kernel_rfl) rfl
 have hcon:=AnyQ.slices_SortFunc Tryz.Oa 5 Tryz.isAgg89 Tryz.sizeOf89 ae.cs Aw (fun x v hv=>by simp [ae.cs,aG.cs] at hv; rcases hv with rfl | rfl | rfl | rfl | rfl <;> rfl) Gw LQ.swo 48 #[] g 0 cap xs.toArray w eg (MP g 0 _ w) hH hg (by simp; omega)
 change Calls Tryz.prog 70 _ _ _ at hcon
 refine (show Calls Tryz.prog 70 #[Slc.v ⟨some ⟨g,0,none⟩,xs.length,cap⟩,_] w _ from hcon).mono ?_
 rintro e w' ⟨rfl,d',n,os,⟨p1,p2,p3⟩,hs,rfl⟩
 have hsz:d'.size=xs.length:=by simpa using p1
 have hW:=holdsK_sortWorldK ae.cs 5 w g 0 n xs.toArray d' os hg hH p1
 have hlen:(flatK ae.cs 5 d').size=xs.length * 5:=by simp [hsz]
 have hheap:(sortWorldK ae.cs 5 w g 0 n d' os).heap=w.heap.modify g (onCells (putCells id 0 (flatK ae.cs 5 d'))) ++ os:=rfl
 have hb:(sortWorldK ae.cs 5 w g 0 n d' os).heap[g]? = some (.cells (putCells id 0 (flatK ae.cs 5 d') cur.toArray) 89 (lo,hi)):=by
  rw [hheap]
  rw [Array.getElem?_append_left (by simpa using hg)]
  simp [Array.getElem?_modify,b1,onCells]
 have ho:∀ i,i < w.heap.size->i≠g->(sortWorldK ae.cs 5 w g 0 n d' os).heap[i]? = w.heap[i]?:=fun i hi hne=>by
  rw [hheap]
  rw [Array.getElem?_append_left (by simpa using hi)]
  simp [Array.getElem?_modify,Ne.symm hne]
 have hh:w.heap.size<=(sortWorldK ae.cs 5 w g 0 n d' os).heap.size:=by
  rw [hheap]
  simp
 have hcur:(putCells id 0 (flatK ae.cs 5 d') cur.toArray).toList.length=cur.length:=by simp [putCells]
 refine ⟨_,rfl,⟨rfl,rfl,rfl,rfl,fun k=>by cases k⟩,(),rfl,H d'.toList _ ?_ ?_ ⟨?_,r2,.inr ⟨g,(putCells id 0 (flatK ae.cs 5 d') cur.toArray).toList,rfl,r3,⟨lo,hi,by simpa using hb,by rw [hcur]; exact b2⟩,r5,by rw [hcur]; exact r6,?_⟩⟩ ⟨hh,fun i hi=>ho i (by omega) (by omega)⟩⟩
 ·have p4:=p3
  simp at p4
  rw [List.take_of_length_le (by simp [hsz])] at p4
  exact p4
 ·rw [List.pairwise_iff_getElem]
  intro i j hi hj hij
  simp at hi hj
  have:=hs i j (Nat.zero_le _) hij (by simp; omega)
  rw [getElem!_pos d' i hi,getElem!_pos d' j hj] at this
  have ha:=LQ.anti d'[i] d'[j]
  simp [ltOf] at this
  show Gw d'[i] d'[j]<=0
  omega
 ·rw [rR Aw]; simp [hsz]
 ·show List.take (xs.length * 5) _=_
  rw [← FH]
  apply List.ext_getElem?
  intro t
  rw [List.getElem?_take]
  by_cases ht:t < xs.length * 5
  ·rw [if_pos ht]
   simp [putCells,hsz,ht]
   have:t < cur.length:=by omega
   simp [this,flatK,hsz,ht]
  ·rw [if_neg ht,List.getElem?_eq_none (by simp [hsz]; omega)]
def eG (s:Slc) (k:KP Unit) (h:Heap):Prop:=kg s (.func (.func 48) #[] #[]) k h
theorem jS:aF Tryz.prog 70:=oH
theorem jN (s:Slc) (k:KP Unit) (h:Heap) (H:eG s k h):CallsH Tryz.prog 70 #[Slc.v s,.func (.func 48) #[] #[]] h (fun v h'=>∃ r:Unit,v = .tuple #[]/\k r h') :=
 oG s _ k h H
end Go.Q.Yq
end
section
/- A range over a map. -/
namespace Go.Q
section
variable {P:Program} {e:Env} {h:Heap} {o:Oper}
end
end Go.Q
end
section
/- Maps whose keys are structs. -/
namespace Go.Q
open Go.MapKept
/-- values of a struct's type are keys -/
structure FC (P:Program) (kt:TypeId) {K:Type} [DecidableEq K] (kf:K->Value):Prop where
 und:(match P.underlying kt with | some (.array _ _) | some (.struct _)=>true | _=>false)=true
 is:∀ a b,su (kf a) (kf b)=decide (a=b)
 chk:∀ b k w,(Instr.checkKey b 10000 kt (kf k)).run P w = .ok () w
 eq:∀ a b w,(Op.equal kt (kf a) (kf b)).run P w = .ok (decide (a=b)) w
 st:∀ k w,(Instr.keyThatStays (kf k) (kf k)).run P w = .ok (kf k) w
theorem FC.inj {P:Program} {kt:TypeId} {K:Type} [DecidableEq K] {kf:K->Value} (S:FC P kt kf) {a b:K} (h:kf a=kf b):a=b:=by
 have h1:=S.is a b
 rw [← h,S.is a a] at h1
 simpa using h1
def jr {K V:Type} (kf:K->Value) (vf:V->Value) (h:Heap) (r:Nat) (l:List (K × V)):Prop :=
 ∃ (es:Array MapEntry) (ck:Nat),h[r]? = some (.map es ck)/\Stamped es ck/\es.toList.map (fun e=>(e.key,e.val))=l.map (fun p=>(kf p.1,vf p.2))
section
variable {K V:Type} {kf:K->Value} {vf:V->Value} {h h':Heap} {r:Nat} {l:List (K × V)}
theorem jr.mk0 (h:Heap):jr kf vf (h.push (.map #[] 0)) h.size ([]:List (K × V)):=⟨#[],0,by simp,stamped_empty 0,rfl⟩
theorem jr.old (M:jr kf vf h r l) (e:h'[r]? = h[r]?):jr kf vf h' r l:=by
 obtain ⟨es,ck,h1,h2⟩:=M; exact ⟨es,ck,e.trans h1,h2⟩
theorem jr.lt (M:jr kf vf h r l):r < h.size:=by
 obtain ⟨es,ck,h1,_⟩:=M; exact (Array.getElem?_eq_some_iff.1 h1).1
theorem jr.ext {B:Nat} (M:jr kf vf h r l) (X:Ext B h h') (hb:r < B):jr kf vf h' r l:=M.old (X.2 r hb)
end
section
variable {P:Program} {kt:TypeId} {K V:Type} [DecidableEq K] {kf:K->Value} {vf:V->Value} {h h':Heap} {r:Nat} {l:List (K × V)}
theorem GQ (S:FC P kt kf) (k:K) (w:World):∀ (es:List MapEntry) (l:List (K × V)) (i:Nat),es.map (fun e=>(e.key,e.val))=l.map (fun p=>(kf p.1,vf p.2)) ->
  (Instr.findAsking kt (kf k) es i).run P w = .ok ((l.findIdx? (fun p=>decide (k=p.1))).bind fun j=>(l[j]?).map fun p=>(i + j,vf p.2)) w
 | [],[],i,_=>by simp [Instr.findAsking]
 | [],p :: l,i,h=>by simp at h
 | e :: es,[],i,h=>by simp at h
 | e :: es,p :: l,i,h=>by
  simp only [List.map_cons,List.cons.injEq,Prod.mk.injEq] at h
  obtain ⟨⟨h1,h2⟩,h3⟩:=h
  have ih:=GQ S k w es l (i + 1) h3
  unfold Instr.findAsking
  rw [h1]
  simp only [Sem.run_bind,S.eq,Result.andThen_ok,List.findIdx?_cons]
  by_cases hk:k=p.1
  ·simp [hk,h2]
  ·simp only [decide_eq_false hk,Bool.false_eq_true,if_false,ih]
   cases l.findIdx? (fun p=>decide (k=p.1)) with
   | none=>simp
   | some j=>simp [Nat.add_assoc,Nat.add_comm 1 j]
theorem GV (S:FC P kt kf) (k:K):∀ (es:List MapEntry) (l:List (K × V)),es.map (fun e=>(e.key,e.val))=l.map (fun p=>(kf p.1,vf p.2)) ->
  es.findIdx? (fun e=>su (kf k) e.key)=l.findIdx? (fun p=>decide (k=p.1))
 | [],[],_=>rfl
 | [],p :: l,h=>by simp at h
 | e :: es,[],h=>by simp at h
 | e :: es,p :: l,h=>by
  simp only [List.map_cons,List.cons.injEq,Prod.mk.injEq] at h
  obtain ⟨⟨h1,h2⟩,h3⟩:=h
  rw [List.findIdx?_cons,List.findIdx?_cons,h1,S.is,GV S k es l h3]
/-- where a key stands -/
theorem jr.find (S:FC P kt kf) (M:jr kf vf h r l) (k:K) :
  ∃ es ck,h[r]? = some (.map es ck)/\Stamped es ck/\es.toList.map (fun e=>(e.key,e.val))=l.map (fun p=>(kf p.1,vf p.2))/\es.size=l.length/\(l.map (·.1)).Nodup /\
   ((es.toList.findIdx? (fun e=>su (kf k) e.key)=none/\(∀ p∈l,p.1≠k)/\∀ w,(Instr.findKey kt (kf k) es.toList).run P w = .ok none w) ∨
   ∃ j v e,es.toList.findIdx? (fun e=>su (kf k) e.key)=some j/\l[j]? = some (k,v)/\es[j]? = some e/\e.key=kf k/\e.val=vf v/\∀ w,(Instr.findKey kt (kf k) es.toList).run P w = .ok (some (j,vf v)) w):=by
 obtain ⟨es,ck,h1,h2,h4⟩:=M
 have hl:es.size=l.length:=by have:=congrArg List.length h4; simpa using this
 have hn:(l.map (·.1)).Nodup:=by
  have e1:es.toList.map (·.key)=(l.map (·.1)).map kf:=by
   have:=congrArg (List.map Prod.fst) h4
   simpa [List.map_map,Function.comp_def] using this
  have:=h2.2.2
  rw [e1] at this
  exact List.Pairwise.of_map kf (fun a b hab e=>hab (by rw [e])) this
 have hk:∀ w,(Instr.findKey kt (kf k) es.toList).run P w = .ok ((l.findIdx? (fun p=>decide (k=p.1))).bind fun j=>(l[j]?).map fun p=>(j,vf p.2)) w:=fun w=>by
  rw [run_findKey_eq w S.und]
  have:=GQ S k w es.toList l 0 h4
  simpa using this
 refine ⟨es,ck,h1,h2,h4,hl,hn,?_⟩
 have hi:=GV S k es.toList l h4
 cases hc:l.findIdx? (fun p=>decide (k=p.1)) with
 | none =>
  left
  rw [hc] at hi hk
  refine ⟨hi,fun p hp e=>?_,hk⟩
  have:=(List.findIdx?_eq_none_iff.1 hc) p hp
  simp [e] at this
 | some j =>
  right
  rw [hc] at hi hk
  obtain ⟨hj,hk2,_⟩:=List.findIdx?_eq_some_iff_getElem.1 hc
  have hj1:j < es.toList.length:=by simp; omega
  have e2:=congrArg (fun z=>z[j]?) h4
  simp only [List.getElem?_map,List.getElem?_eq_getElem hj1,List.getElem?_eq_getElem hj,Option.map_some,Option.some.injEq,Prod.mk.injEq] at e2
  have hkk:k=l[j].1:=by simpa using hk2
  refine ⟨j,l[j].2,es.toList[j],hi,by rw [List.getElem?_eq_getElem hj,hkk],by simp,by rw [e2.1,← hkk],e2.2,fun w=>?_⟩
  rw [hk w]; simp [List.getElem?_eq_getElem hj]
theorem jr.put (S:FC P kt kf) (M:jr kf vf h r l) (k:K) (v:V):jr kf vf (ry h r (kf k) (vf v)) r (vB l k v):=by
 obtain ⟨es,ck,h1,h2,h4,hl,hn,C⟩:=M.find S k
 have hs:=EB (k:=kf k) (v:=vf v) h1
 rcases C with ⟨c1,c2,_⟩ | ⟨j,u,e,c1,c2,c3,c4,c5,_⟩
 ·rw [c1] at hs
  refine ⟨_,_,hs,stamped_push h2 fun x hx hxe=>?_,?_⟩
  ·have hm:(x.key,x.val)∈l.map fun p=>(kf p.1,vf p.2):=by rw [← h4]; exact List.mem_map.2 ⟨x,hx,rfl⟩
   obtain ⟨p,hp,hpe⟩:=List.mem_map.1 hm
   exact c2 p hp (S.inj (by rw [(Prod.mk.inj hpe).1,hxe]))
  ·rw [zf c2]; simp [h4]
 ·rw [c1] at hs
  refine ⟨_,_,hs,stamped_modify h2 j _ (fun _ _=>rfl) (fun x _ hx=>by rw [c3] at hx; cases hx; exact c4.symm),?_⟩
  rw [(zh c2 hn).2 v]
  apply List.ext_getElem?
  intro i
  have e2:=congrArg (fun z=>z[i]?) h4
  simp only [List.getElem?_map,Array.getElem?_toList] at e2
  simp only [List.getElem?_map,Array.getElem?_toList,Array.getElem?_modify,List.getElem?_set]
  by_cases hij:j=i
  ·subst hij
   have hj2:j < l.length:=(List.getElem?_eq_some_iff.1 c2).1
   simp [c3,hj2]
  ·simp [hij,e2]
variable {e:Env} {o:Oper} {m:Option Nat}
theorem OP {t et:Nat} {x y:Operand} {k:K} {z:V} (ho:o.op = .lookup t x y true) (hx:evO e x=some (.map m)) (hy:evO e y=some (kf k)) (ht:P.underlying t=some (.map kt et)) (S:FC P kt kf)
  (hz:∀ w,(zeroValue et).run P w = .ok (vf z) w) (hr:m=some r) (hm:jr kf vf h r l):Yl P e h o (.tuple #[vf ((jP l k).getD z),.bool (jP l k).isSome]):=by
 intro ρ w hA hw
 subst hw; subst hr
 obtain ⟨es,ck,h1,h2,h4,hl,hn,C⟩:=hm.find S k
 rcases C with ⟨_,c2,c3⟩ | ⟨j,u,e',_,c2,_,_,_,c3⟩
 ·simp [execOp,ho,hA _ _ hx,hA _ _ hy,Instr.lookup,run_underlying ht,MapKept.run_getObj_map h1,S.chk,c3,hz,BH c2,Result.andThen]
 ·simp [execOp,ho,hA _ _ hx,hA _ _ hy,Instr.lookup,run_underlying ht,MapKept.run_getObj_map h1,S.chk,c3,(zh c2 hn).1,Result.andThen]
theorem QK {t et:Nat} {x y z:Operand} {k:K} {v:V} (ho:o.op = .mapUpdate t x y z) (hx:evO e x=some (.map m)) (hy:evO e y=some (kf k)) (hz:evO e z=some (vf v)) (ht:P.underlying t=some (.map kt et)) (S:FC P kt kf)
  (hr:m=some r) (hm:jr kf vf h r l) (he:h'=ry h r (kf k) (vf v)):Yh P e h o undef h':=by
 intro ρ w hA hw
 subst he; subst hw; subst hr
 obtain ⟨es,ck,h1,h2,h4,hl,hn,C⟩:=hm.find S k
 have hs:∀ o',(ry w.heap r (kf k) (vf v))[r]? = some o'->w.heap.setIfInBounds r o'=ry w.heap r (kf k) (vf v):=fun o' h=>by
  apply Array.ext_getElem?
  intro i
  have hlt:=(Array.getElem?_eq_some_iff.1 h1).1
  by_cases hi:i=r
  ·subst hi; rw [h]; simp [hlt]
  ·rw [sJ hi]; simp [Ne.symm hi]
 have hat:=EB (k:=kf k) (v:=vf v) h1
 rcases C with ⟨c1,c2,c3⟩ | ⟨j,u,e',c1,c2,c4,c5,c6,c3⟩
 ·rw [c1] at hat
  refine ⟨{ w with heap:=ry w.heap r (kf k) (vf v) },⟨rfl,rfl,rfl,rfl,fun _=>Nat.le_refl _⟩,.inr ⟨?_,rfl⟩⟩
  simp [execOp,ho,hA _ _ hx,hA _ _ hy,hA _ _ hz,Instr.mapUpdate,run_underlying ht,MapKept.run_getObj_map h1,S.chk,c3,MapKept.run_setObj_map _ h1,hs _ hat,Result.andThen]
 ·rw [c1] at hat
  refine ⟨{ w with heap:=ry w.heap r (kf k) (vf v) },⟨rfl,rfl,rfl,rfl,fun _=>Nat.le_refl _⟩,.inr ⟨?_,rfl⟩⟩
  simp [execOp,ho,hA _ _ hx,hA _ _ hy,hA _ _ hz,Instr.mapUpdate,run_underlying ht,MapKept.run_getObj_map h1,S.chk,c3,c4,c5,S.st,MapKept.run_setObj_map _ h1,hs _ hat,Result.andThen]
end
def K4 {K V:Type} (kf:K->Value) (vf:V->Value) (h:Heap):Option Nat->List (K × V)->Prop
 | none,l=>l=[]
 | some r,l=>jr kf vf h r l
theorem OL {P:Program} {kt:TypeId} {K V:Type} [DecidableEq K] {kf:K->Value} {vf:V->Value} {h:Heap} {l:List (K × V)} {e:Env} {o:Oper} {m:Option Nat} {t et:Nat} {x y:Operand} {k:K} {z:V} (ho:o.op = .lookup t x y true) (hx:evO e x=some (.map m)) (hy:evO e y=some (kf k)) (ht:P.underlying t=some (.map kt et)) (S:FC P kt kf)
  (hz:∀ w,(zeroValue et).run P w = .ok (vf z) w) (hm:K4 kf vf h m l):Yl P e h o (.tuple #[vf ((jP l k).getD z),.bool (jP l k).isSome]):=by
 cases m with
 | some r=>exact OP ho hx hy ht S hz rfl hm
 | none =>
  have hl:l=[]:=hm
  subst hl
  intro ρ w hA hw
  have hfk:(Instr.findKey kt (kf k) []).run P w = .ok none w:=by
   rw [run_findKey_eq w S.und]
   simp [Instr.findAsking]
  simp [execOp,ho,hA _ _ hx,hA _ _ hy,Instr.lookup,run_underlying ht,S.chk,hfk,hz,jP,Result.andThen]
end Go.Q
end
section
/- A place is a key. -/
namespace Go.Q.Yq
instance:DecidableEq aK:=fun a b=>decidable_of_iff (a.qg=b.qg/\a.f_t=b.f_t) ⟨fun h=>by cases a; cases b; simp only at h; rw [h.1,h.2],fun h=>by subst h; exact ⟨rfl,rfl⟩⟩
theorem ES {a b:ByteArray} (h:a.toList=b.toList):a=b:=by
 rw [ByteArray.toList_eq,ByteArray.toList_eq] at h
 cases a; cases b
 simp only [ByteArray.mk.injEq]
 exact Array.toList_inj.1 h
theorem Gc (a b:aK):a=b ↔ a.qg=b.qg/\a.f_t=b.f_t:=⟨fun h=>by subst h; exact ⟨rfl,rfl⟩,fun h=>by cases a; cases b; simp only at h; rw [h.1,h.2]⟩
open Go.RowKit in
theorem KJ (a b:aK) (w:World):(Op.equal 95 (.agg (aK.cs a).toArray) (.agg (aK.cs b).toArray)).run Go.Proofs.Tryz.prog w = .ok ((a.qg.toList == b.qg.toList) && (a.f_t == b.f_t)) w:=by
 have hS:Go.Proofs.Tryz.prog.underlying 95=some (.struct (Go.Proofs.Tryz.prog.fieldsOf 95)):=by kernel_rfl
 have hp:Go.Proofs.Tryz.prog.stoodInHeld 95=false:=by kernel_rfl
 have u9:=Go.Proofs.Tryz.underlying9
 have a9:∀ w,(isAgg 9).run Go.Proofs.Tryz.prog w = .ok false w:=Go.Proofs.Tryz.isAgg9
 have u3:=Go.Proofs.Tryz.underlying2
 have a3:∀ w,(isAgg 2).run Go.Proofs.Tryz.prog w = .ok false w:=Go.Proofs.Tryz.isAgg2
 unfold Op.equal Op.maxDepth
 rw [show (10000:Nat)=9999 + 1 from rfl,run_equalIn_struct w 9999 95 _ _ hS hp]
 simp only [Program.fieldsOf,Go.Proofs.Tryz.underlying95,aK.cs]
 go_simp
 by_cases h0:(a.qg.toList=b.qg.toList) <;> by_cases h1:(a.f_t=b.f_t) <;> simp [h0,h1]
theorem nO:FC Go.Proofs.Tryz.prog 95 (fun v:aK=>Value.agg (aK.cs v).toArray) where
 und:=by rw [Go.Proofs.Tryz.underlying95]
 is a b:=by
  simp only [su,aK.cs,Iy,KI,Bool.and_true,decide_true,Bool.true_and]
  rw [Bool.eq_iff_iff]
  simp [Gc]
 chk e k w:=by
  have u0:=Go.Proofs.Tryz.underlying95
  have u9:=Go.Proofs.Tryz.underlying9
  have u3:=Go.Proofs.Tryz.underlying2
  have a9:∀ w,(isAgg 9).run Go.Proofs.Tryz.prog w = .ok false w:=Go.Proofs.Tryz.isAgg9
  have a3:∀ w,(isAgg 2).run Go.Proofs.Tryz.prog w = .ok false w:=Go.Proofs.Tryz.isAgg2
  have h9:∀ s,(Instr.checkKey e (9998 + 1) 9 (.string s)).run Go.Proofs.Tryz.prog w = .ok () w:=fun s=>MapKept.run_checkKey (k:=.string s) u9 trivial e 9998
  have h3:∀ n,(Instr.checkKey e (9998 + 1) 2 (.int .i64 n)).run Go.Proofs.Tryz.prog w = .ok () w:=fun n=>MapKept.run_checkKey (k:=.int .i64 n) u3 rfl e 9998
  rw [show (10000:Nat)=(9998 + 1) + 1 from rfl,Instr.checkKey]
  generalize hN:9998 + 1=N at h9 h3 ⊢
  simp [run_underlying u0,aK.cs,part,a9,a3,h9,h3,Result.andThen]
 eq a b w:=by
  rw [KJ]
  congr 1
  rw [Bool.eq_iff_iff]
  simp [Gc]
  intro _
  exact ⟨fun h=>ES h,fun h=>by rw [h]⟩
 st k w:=by
  simp [Instr.keyThatStays,Instr.sameBits,aK.cs,MapKept.bytes_beq]
end Go.Q.Yq
end

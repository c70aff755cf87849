/- A part of the proof of statements of this seat: lemmas, no statement of their own. -/
import Derived.Test.YtgbbpanapnkdbaaGreatYqZac
import Derived.Test.YtgbbpanapnkdbaaGreatYqZad
import Derived.Test.YtgbbpanapnkdbaaGreatYqZaf
set_option linter.unusedVariables false
set_option linter.unusedSimpArgs false
set_option maxRecDepth 100000
section
/- Frames. -/
namespace Go.Q
theorem Blk.Ij {h:Heap} {a b E E':Nat} {xs ys:List Value} (p:Blk h a xs E) (q:Blk h b ys E') (hE:E≠E'):a≠b:=fun e=>by
 subst e
 unfold Blk at p q
 obtain ⟨_,_,p1,_⟩:=p
 obtain ⟨_,_,q1,_⟩:=q
 rw [p1] at q1; cases q1; exact hE rfl
theorem Row.Ij {h:Heap} {B a E w E':Nat} {s:Slc} {xs ys:List Value} (R:Row B h E w s xs) (q:Blk h a ys E') (hE:E≠E'):s.blk≠some a:=fun e=>by
 rcases R.2.2 with ⟨k,_⟩ | ⟨g,cur,a1,a2,a3,_⟩
 ·simp [Slc.blk,k] at e
 ·simp [Slc.blk,a1] at e
  subst e
  exact Blk.Ij a3 q hE rfl
end Go.Q
end
section
namespace Go.Q
theorem SlcAt.get {h:Heap} {s:Slc} {vs:List Value} (S:SlcAt h s vs) {i:Nat} {v:Value} (hv:vs[i]? = some v):∃ a,s.a=some a/\ah h (a.add i)=some v:=by
 cases ha:s.a with
 | none=>have:=S.1 ha; subst this; simp at hv
 | some a=>exact ⟨a,rfl,S.2 a ha i v hv⟩
theorem kG (b:Addr) (m n:Nat):(b.add m).add n=b.add (m + n):=by
 unfold Addr.add
 by_cases h0:m=0 <;> by_cases h1:n=0 <;> simp [h0,h1,Nat.add_assoc]
section
variable {α:Type} {cs:α->List Value} {w:Nat}
theorem rR (hc:∀ x,(cs x).length=w) (xs:List α):(xs.flatMap cs).length=xs.length * w:=by
 induction xs with
 | nil=>simp
 | cons x xs ih=>simp only [List.flatMap_cons,List.length_append,ih,hc,List.length_cons,Nat.add_mul]; omega
theorem zD (hc:∀ x,(cs x).length=w):∀ (xs:List α) (i j:Nat),j < w->(xs.flatMap cs)[i * w + j]? = (xs[i]?).bind fun x=>(cs x)[j]?
 | [],i,j,h=>by simp
 | x :: r,0,j,h=>by
  simp only [List.flatMap_cons,Nat.zero_mul,Nat.zero_add,List.getElem?_cons_zero,Option.bind_some]
  rw [List.getElem?_append_left (by rw [hc]; exact h)]
 | x :: r,i + 1,j,h=>by
  simp only [List.flatMap_cons,List.getElem?_cons_succ]
  rw [List.getElem?_append_right (by rw [hc,Nat.add_mul]; omega)]
  have:=zD hc r i j h
  rw [← this,hc]
  congr 1
  rw [Nat.add_mul]; omega
theorem Gq (hc:∀ x,(cs x).length=w):∀ (xs:List α) (i j:Nat) (x x':α) (v:Value),j < w->xs[i]? = some x->cs x'=(cs x).set j v->(xs.flatMap cs).set (i * w + j) v=(xs.set i x').flatMap cs
 | [],i,j,x,x',v,h,hx,he=>by simp at hx
 | y :: r,0,j,x,x',v,h,hx,he=>by
  simp at hx; subst hx
  simp only [List.flatMap_cons,Nat.zero_mul,Nat.zero_add,List.set_cons_zero]
  rw [List.set_append_left _ _ (by rw [hc]; exact h),he]
 | y :: r,i + 1,j,x,x',v,h,hx,he=>by
  simp only [List.flatMap_cons,List.set_cons_succ]
  rw [List.set_append_right _ _ (by rw [hc,Nat.add_mul]; omega),hc]
  rw [show (i + 1) * w + j - w=i * w + j from by rw [Nat.add_mul]; omega]
  rw [Gq hc r i j x x' v h (by simpa using hx) he]
theorem LsAt.MM (hc:∀ x,(cs x).length=w) {h:Heap} {s:Slc} {xs:List α} (S:SlcAt h s (xs.flatMap cs)) (hl:s.len=xs.length) (hw:0 < w):LsAt cs w h s xs:=by
 refine ⟨hl,fun i x hx=>?_⟩
 have hi:=(List.getElem?_eq_some_iff.1 hx).1
 have h0:(xs.flatMap cs)[i * w + 0]? = (cs x)[0]?:=by rw [zD hc xs i 0 hw,hx]; rfl
 obtain ⟨v0,hv0⟩:∃ v,(cs x)[0]? = some v:=⟨_,List.getElem?_eq_getElem (by rw [hc]; exact hw)⟩
 rw [hv0] at h0
 obtain ⟨a,ha,_⟩:=S.get h0
 refine ⟨a,ha,fun j v hj=>?_⟩
 have hj2:j < w:=by have:=(List.getElem?_eq_some_iff.1 hj).1; rw [hc] at this; exact this
 rw [kG]
 refine S.2 a ha _ v ?_
 rw [zD hc xs i j hj2,hx]; exact hj
end
namespace Yq
end Yq
end Go.Q
end

/- A part of the proof of statements of this seat: lemmas, no statement of their own. -/
import Derived.Test.YtgbbpanapnkdbaaGreatYqZab
import Derived.OpenShut
import Derived.Test.YtgbbpanapnkdbaaGreatYqZac
import Derived.Laws.BytesString
import Derived.Test.YtgbbpanapnkdbaaGreatProg
set_option linter.unusedVariables false
set_option linter.unusedSimpArgs false
section
/- Reasoning on heaps, for the plain laws. -/
namespace Go.Q
/-- below block number B nothing has turned -/
structure Ext (B:Nat) (h h':Heap):Prop where
 size:h.size<=h'.size
 block:∀ i,i < B->h'[i]? = h[i]?
theorem Ext.refl (B:Nat) (h:Heap):Ext B h h:=⟨Nat.le_refl _,fun _ _=>rfl⟩
theorem Ext.trans {B:Nat} {a b c:Heap} (p:Ext B a b) (q:Ext B b c):Ext B a c:=⟨Nat.le_trans p.size q.size,fun i hi=>(q.block i hi).trans (p.block i hi)⟩
theorem Ext.mono {B B':Nat} {a b:Heap} (p:Ext B a b) (h:B'<=B):Ext B' a b:=⟨p.size,fun i hi=>p.block i (Nat.lt_of_lt_of_le hi h)⟩
theorem Ext.push (h:Heap) (o:Obj) {B:Nat} (hB:B<=h.size):Ext B h (h.push o) :=
 ⟨by simp,fun i hi=>by rw [Array.getElem?_push,if_neg (by omega)]⟩
theorem setH_other {h:Heap} {a:Addr} {v:Value} {i:Nat} (hi:i≠a.block):(setH h a v)[i]? = h[i]?:=by
 unfold setH
 rw [Array.getElem?_modify,if_neg (fun e=>hi e.symm)]
theorem setH_size {h:Heap} {a:Addr} {v:Value}:(setH h a v).size=h.size:=by simp [setH]
theorem cellH_of {h h':Heap} {a:Addr} (e:h'[a.block]? = h[a.block]?):cellH h' a=cellH h a:=by simp [cellH,e]
theorem Ext.cell {B:Nat} {h h':Heap} (p:Ext B h h') {a:Addr} (ha:a.block < B):cellH h' a=cellH h a:=cellH_of (p.block _ ha)
theorem cellH_lt {h:Heap} {a:Addr} {v:Value} (hc:cellH h a=some v):a.block < h.size:=by
 unfold cellH at hc
 rcases Nat.lt_or_ge a.block h.size with h1 | h1
 ·exact h1
 ·rw [Array.getElem?_eq_none h1] at hc; cases hc
theorem Ext.cellAt {h h':Heap} (p:Ext h.size h h') {a:Addr} {v:Value} (hc:cellH h a=some v):cellH h' a=some v:=by rw [p.cell (cellH_lt hc)]; exact hc
@[simp] theorem add_mk (b o i:Nat):(⟨b,o,none⟩:Addr).add i=⟨b,o + i,none⟩:=by unfold Addr.add; split <;> simp_all
@[simp] theorem add_block (a:Addr) (i:Nat):(a.add i).block=a.block:=by unfold Addr.add; split <;> rfl
/-- a block of cells, none of them frozen -/
def Blk (h:Heap) (b:Nat) (cs:List Value) (E:Nat):Prop:=∃ lo hi,h[b]? = some (.cells cs.toArray E (lo,hi))/\(hi<=lo∨cs.length<=lo)
theorem Blk.lt {h:Heap} {b E:Nat} {cs:List Value} (k:Blk h b cs E):b < h.size:=by obtain ⟨_,_,k,_⟩:=k; exact (Array.getElem?_eq_some_iff.1 k).1
theorem Blk.cell {h:Heap} {b E i:Nat} {cs:List Value} (k:Blk h b cs E):cellH h ⟨b,i,none⟩=cs[i]?:=by obtain ⟨_,_,k,_⟩:=k; simp [cellH,show h[b]? = _ from k]
theorem Blk.froz {h:Heap} {b E i:Nat} {cs:List Value} (k:Blk h b cs E) (hi:i < cs.length):frozH h ⟨b,i,none⟩=false:=by obtain ⟨lo,hh,k,d⟩:=k; simp [frozH,show h[b]? = _ from k]; omega
theorem Blk.wr {h:Heap} {b E i:Nat} {cs:List Value} (k:Blk h b cs E) (hi:i < cs.length):WrH h ⟨b,i,none⟩:=⟨⟨cs[i],by rw [k.cell]; simp [hi]⟩,k.froz hi⟩
theorem Blk.push (h:Heap) (cs:List Value) (E:Nat):Blk (h.push (.cells cs.toArray E)) h.size cs E:=⟨0,0,by simp,.inl (Nat.le_refl _)⟩
theorem Blk.old {h h':Heap} {b E:Nat} {cs:List Value} (k:Blk h b cs E) (e:h'[b]? = h[b]?):Blk h' b cs E:=by rw [Blk,e]; exact k
theorem Blk.ext {h h':Heap} {b B E:Nat} {cs:List Value} (k:Blk h b cs E) (p:Ext B h h') (hb:b < B):Blk h' b cs E:=k.old (p.block b hb)
theorem Blk.pushed {h:Heap} {b E:Nat} {cs:List Value} (k:Blk h b cs E) (o:Obj):Blk (h.push o) b cs E:=k.old ((Ext.push h o (Nat.le_refl _)).block b k.lt)
theorem Blk.set {h:Heap} {b E i:Nat} {cs:List Value} {v:Value} (k:Blk h b cs E):Blk (setH h ⟨b,i,none⟩ v) b (cs.set i v) E:=by
 obtain ⟨lo,hi,k,d⟩:=k
 refine ⟨lo,hi,?_,by simpa using d⟩
 unfold setH at *
 rw [Array.getElem?_modify,if_pos rfl,k]
 simp
theorem Blk.inj {h:Heap} {b E E':Nat} {cs cs':List Value} (k:Blk h b cs E) (k':Blk h b cs' E'):cs=cs'/\E=E':=by
 obtain ⟨_,_,k,_⟩:=k
 obtain ⟨_,_,k',_⟩:=k'
 have e:=k.symm.trans k'
 simp at e
 exact ⟨e.1,e.2.1⟩
theorem Blk.sets {E b:Nat}:∀ (vs:List Value) {h:Heap} (o i:Nat) {cs:List Value} (k:Blk h b cs E),o + i + vs.length<=cs.length ->
  Blk (setsH h ⟨b,o,none⟩ i vs) b (cs.take (o + i) ++ vs ++ cs.drop (o + i + vs.length)) E
 | [],h,o,i,cs,k,_=>by simpa [setsH] using k
 | v :: r,h,o,i,cs,k,hl=>by
  simp only [setsH,add_mk]
  simp only [List.length_cons] at hl
  have:=Blk.sets r o (i + 1) (k.set (i:=o + i) (v:=v)) (by simp; omega)
  have e1:(cs.set (o + i) v).take (o + (i + 1))=cs.take (o + i) ++ [v]:=by
   rw [show o + (i + 1)=(o + i) + 1 from by omega,List.take_succ_eq_append_getElem (by simp; omega)]
   simp [List.take_set]
   rw [List.set_eq_of_length_le (by simp; omega)]
  have e2:(cs.set (o + i) v).drop (o + (i + 1) + r.length)=cs.drop (o + i + (r.length + 1)):=by
   rw [List.drop_set_of_lt (by omega)]
   congr 1
   omega
  rw [e1,e2] at this
  simpa using this
theorem setsH_size:∀ (vs:List Value) {h:Heap} {a:Addr} (i:Nat),(setsH h a i vs).size=h.size
 | [],h,a,i=>rfl
 | v :: r,h,a,i=>by simp only [setsH]; rw [setsH_size r,setH_size]
theorem setsH_other:∀ (vs:List Value) {h:Heap} {a:Addr} (i:Nat) {j:Nat},j≠a.block->(setsH h a i vs)[j]? = h[j]?
 | [],h,a,i,j,_=>rfl
 | v :: r,h,a,i,j,hj=>by simp only [setsH]; rw [setsH_other r _ hj,setH_other (by simpa using hj)]
theorem Ext.sets (h:Heap) {a:Addr} (i:Nat) (vs:List Value) {B:Nat} (hB:B<=a.block):Ext B h (setsH h a i vs) :=
 ⟨by rw [setsH_size]; exact Nat.le_refl _,fun j hj=>setsH_other _ _ (by omega)⟩
/-! ### a row that is one's own -/
/-- the slice s, its elements of type E with w cells each, holds the cells xs, in a block of its own from B on (or is nil) -/
def Row (B:Nat) (h:Heap) (E w:Nat) (s:Slc) (xs:List Value):Prop :=
 xs.length=s.len * w/\s.cap<=maxLen/\((s.a=none/\s.len=0/\s.cap=0)∨∃ g cur,s.a=some ⟨g,0,none⟩/\B<=g/\Blk h g cur E/\s.len<=s.cap/\s.cap * w<=cur.length/\cur.take (s.len * w)=xs)
def Slc.blk (s:Slc):Option Nat:=match s.a with | some a=>some a.block | none=>none
theorem Row.nil (B:Nat) (h:Heap) (E w:Nat):Row B h E w ⟨none,0,0⟩ []:=⟨by simp,by simp [maxLen],.inl ⟨rfl,rfl,rfl⟩⟩
theorem Row.mono {B B':Nat} {h:Heap} {E w:Nat} {s:Slc} {xs:List Value} (r:Row B h E w s xs) (hB:B'<=B):Row B' h E w s xs:=by
 refine ⟨r.1,r.2.1,?_⟩
 rcases r.2.2 with k | ⟨g,cur,h1,h2,k⟩
 ·exact .inl k
 ·exact .inr ⟨g,cur,h1,by omega,k⟩
theorem Row.keep {B:Nat} {h h':Heap} {E w:Nat} {s:Slc} {xs:List Value} (r:Row B h E w s xs) (e:∀ g,s.blk=some g->h'[g]? = h[g]?):Row B h' E w s xs:=by
 refine ⟨r.1,r.2.1,?_⟩
 rcases r.2.2 with k | ⟨g,cur,h1,h2,h3,k⟩
 ·exact .inl k
 ·exact .inr ⟨g,cur,h1,h2,h3.old (e g (by simp [Slc.blk,h1])),k⟩
theorem Row.bd {B:Nat} {h:Heap} {E w:Nat} {s:Slc} {xs:List Value} (r:Row B h E w s xs) {g:Nat} (hg:s.blk=some g):B<=g/\g < h.size:=by
 rcases r.2.2 with ⟨k,_⟩ | ⟨g',cur,h1,h2,h3,_⟩
 ·simp [Slc.blk,k] at hg
 ·simp [Slc.blk,h1] at hg; subst hg; exact ⟨h2,h3.lt⟩
theorem Row.pushed {B:Nat} {h:Heap} {E w:Nat} {s:Slc} {xs:List Value} (r:Row B h E w s xs) (o:Obj):Row B (h.push o) E w s xs :=
 r.keep fun g hg=>(Ext.push h o (Nat.le_refl _)).block g (r.bd hg).2
theorem Row.ext {B C:Nat} {h h':Heap} {E w:Nat} {s:Slc} {xs:List Value} (r:Row B h E w s xs) (p:Ext C h h') (hC:∀ g,s.blk=some g->g < C):Row B h' E w s xs :=
 r.keep fun g hg=>p.block g (hC g hg)
/-- a cell of the row -/
theorem Row.at {B:Nat} {h:Heap} {E:Nat} {s:Slc} {xs:List Value} {w:Nat} (r:Row B h E w s xs) {j:Nat} (hj:j < s.len * w):∃ a,s.a=some a/\cellH h (a.add j)=xs[j]?:=by
 rcases r.2.2 with ⟨_,k,_⟩ | ⟨g,cur,h1,h2,h3,h4,h5,h6⟩
 ·rw [k] at hj; simp at hj
 ·refine ⟨_,h1,?_⟩
  rw [add_mk,Nat.zero_add,h3.cell,← h6,List.getElem?_take,if_pos hj]
theorem Row.slc {B:Nat} {h:Heap} {E w:Nat} {s:Slc} {xs:List Value} (r:Row B h E w s xs):SlcAt h s xs:=by
 rcases r.2.2 with ⟨k,k2,_⟩ | ⟨g,cur,h1,h2,h3,h4,h5,h6⟩
 ·refine ⟨fun _=>?_,fun a ha=>(by rw [k] at ha; cases ha)⟩
  have:=r.1; rw [k2] at this; simpa using this
 ·refine ⟨fun hn=>(by rw [h1] at hn; cases hn),fun a ha j v hj=>?_⟩
  rw [h1] at ha; cases ha
  rw [add_mk,Nat.zero_add,h3.cell]
  rw [← h6,List.getElem?_take] at hj
  split at hj
  ·exact hj
  ·cases hj
/-- an append to a row of one's own -/
theorem App.row2 {B E w bytes:Nat} {z:List Value} {h:Heap} {s:Slc} {m:Nat} {news xs:List Value} {k:Slc->Heap->Prop} (r:Row B h E w s xs) (hB:B<=h.size) (hz:z.length=w) (hl:news.length=m * w) (h1:∀ v∈news,v.oneCell'=true)
  (hb:(s.len + m) * bytes<=140737488355328) (hm:s.len + m<=maxLen)
  (H:∀ s' h',Row B h' E w s' (xs ++ news)->s'.len=s.len + m->h.size<=h'.size->(∀ i,i < h.size->s.blk≠some i->h'[i]? = h[i]?)->((s'.blk=s.blk/\s.len + m<=s.cap)∨s'.blk=some h.size)->(∀ C t ys,Row C h E w t ys->(t.len<=s.len∨t.blk≠s.blk∨s.cap < s.len + m)->Row C h' E w t ys)->k s' h'):App E w bytes z h s m news k:=by
 refine ⟨hl,h1,hb,hm,fun hroom=>?_,fun hgrow=>?_⟩
 ·rcases r.2.2 with ⟨a0,a1,a2⟩ | ⟨g,cur,a1,a2,a3,a4,a5,a6⟩
  ·have hm0:m=0:=by omega
   subst hm0
   have hn:news=[]:=List.eq_nil_of_length_eq_zero (by simpa using hl)
   subst hn
   refine ⟨fun _=>rfl,fun a ha=>(by rw [a0] at ha; cases ha),?_⟩
   rw [a0]
   refine H _ _ ?_ rfl (Nat.le_refl _) (fun _ _ _=>rfl) (.inl ⟨by simp [Slc.blk,a0],hroom⟩) (fun _ _ _ R _=>R)
   simp only [List.append_nil]
   exact ⟨by simpa using r.1,r.2.1,.inl ⟨rfl,by simpa using a1,a2⟩⟩
  ·have hfit:s.len * w + news.length<=cur.length:=by rw [hl,← Nat.add_mul]; exact Nat.le_trans (Nat.mul_le_mul_right _ hroom) a5
   refine ⟨fun hn=>(by rw [a1] at hn; cases hn),fun a ha j hj=>?_,?_⟩
   ·rw [a1] at ha; cases ha
    rw [add_mk,add_mk]
    exact a3.wr (by omega)
   ·rw [a1]
    simp only [add_mk,Nat.zero_add]
    refine H _ _ ?_ rfl (by rw [setsH_size]; exact Nat.le_refl _) (fun i hi hne=>setsH_other _ _ (fun e=>hne (by simp [Slc.blk,a1,e]))) (.inl ⟨by simp [Slc.blk,a1],hroom⟩) (fun C t ys R hc=>?_)
    rotate_left
    ·have k3:=Blk.sets news (s.len * w) 0 a3 (by omega)
     refine ⟨R.1,R.2.1,?_⟩
     rcases R.2.2 with k | ⟨g',cur',b1,b2,b3,b4,b5,b6⟩
     ·exact .inl k
     ·refine .inr ?_
      by_cases hg:g'=g
      ·subst hg
       obtain ⟨rfl,_⟩:=b3.inj a3
       have hlen:t.len<=s.len:=by
        rcases hc with hc | hc | hc
        ·exact hc
        ·exact absurd (by simp [Slc.blk,a1,b1]) hc
        ·omega
       refine ⟨g',_,b1,b2,k3,b4,?_,?_⟩
       ·simp only [List.length_append,List.length_take,List.length_drop,Nat.add_zero]; omega
       ·have hm:=Nat.mul_le_mul_right w hlen
        rw [Nat.add_zero,List.append_assoc,List.take_append_of_le_length (by rw [List.length_take]; omega),List.take_take,Nat.min_eq_left hm]
        exact b6
      ·exact ⟨g',cur',b1,b2,b3.old (setsH_other _ _ (by simpa using hg)),b4,b5,b6⟩
    have k3:=Blk.sets news (s.len * w) 0 a3 (by omega)
    refine ⟨by rw [List.length_append,r.1,hl,Nat.add_mul],r.2.1,.inr ⟨g,_,rfl,a2,k3,hroom,?_,?_⟩⟩
    ·simp only [List.length_append,List.length_take,List.length_drop,Nat.add_zero]; omega
    ·simp only [Nat.add_zero]
     rw [a6,Nat.add_mul,← r.1,← hl,← List.length_append]
     exact List.take_left
 ·refine ⟨xs,r.1,r.slc,fun c hc hcm=>?_⟩
  have hzz:(Builtin.zeroCells z.toArray (c - (s.len + m))).size=(c - (s.len + m)) * w:=by simp [size_zeroCells,hz]
  have hcells:xs.toArray ++ news.toArray ++ Builtin.zeroCells z.toArray (c - (s.len + m))=(xs ++ news ++ (Builtin.zeroCells z.toArray (c - (s.len + m))).toList).toArray:=by
   apply Array.toList_inj.1; simp
  rw [hcells]
  refine H _ _ ⟨by rw [List.length_append,r.1,hl,Nat.add_mul],hcm,.inr ⟨h.size,_,rfl,hB,Blk.push _ _ _,hc,?_,?_⟩⟩ rfl (by simp) (fun i hi _=>(Ext.push h _ (Nat.le_refl _)).block i hi) (.inr (by simp [Slc.blk])) (fun C t ys R _=>R.pushed _)
  ·simp only [List.length_append,Array.length_toList,hzz,r.1,hl,← Nat.add_mul]
   exact Nat.le_of_eq (by congr 1; omega)
  ·have:(s.len + m) * w=(xs ++ news).length:=by rw [List.length_append,r.1,hl,Nat.add_mul]
   simp only [this]
   exact List.take_left
theorem App.row {B E w bytes:Nat} {z:List Value} {h:Heap} {s:Slc} {m:Nat} {news xs:List Value} {k:Slc->Heap->Prop} (r:Row B h E w s xs) (hB:B<=h.size) (hz:z.length=w) (hl:news.length=m * w) (h1:∀ v∈news,v.oneCell'=true)
  (hb:(s.len + m) * bytes<=140737488355328) (hm:s.len + m<=maxLen)
  (H:∀ s' h',Row B h' E w s' (xs ++ news)->s'.len=s.len + m->h.size<=h'.size->(∀ i,i < h.size->s.blk≠some i->h'[i]? = h[i]?)->(s'.blk=s.blk∨s'.blk=some h.size)->k s' h'):App E w bytes z h s m news k :=
 App.row2 r hB hz hl h1 hb hm fun s' h' a b c d e _=>H s' h' a b c d (e.elim (fun x=>.inl x.1) .inr)
/-! whole blocks -/
theorem CellsAt.of_blk {h:Heap} {b E:Nat} {cs:List Value} (k:Blk h b cs E):CellsAt h ⟨b,0,none⟩ cs:=fun j v hj=>by rw [add_mk,Nat.zero_add,k.cell]; exact hj
theorem WrsAt.of_blk {h:Heap} {b E n:Nat} {cs:List Value} (k:Blk h b cs E) (hn:n<=cs.length):WrsAt h ⟨b,0,none⟩ n:=fun j hj=>by rw [add_mk,Nat.zero_add]; exact k.wr (by omega)
theorem Blk.sets_all {h:Heap} {b E:Nat} {cs vs:List Value} (k:Blk h b cs E) (hl:vs.length=cs.length):Blk (setsH h ⟨b,0,none⟩ 0 vs) b vs E:=by
 have:=Blk.sets vs 0 0 k (by omega)
 simpa [hl] using this
theorem Row.len {B E:Nat} {h:Heap} {s:Slc} {xs:List Value} (r:Row B h E 1 s xs):s.len=xs.length:=by have:=r.1; omega
theorem Row.ne_blk {B b E E' w:Nat} {h:Heap} {s:Slc} {xs cs:List Value} (R:Row B h E w s xs) (L:Blk h b cs E') (hE:E≠E'):s.blk≠some b:=by
 intro hb
 rcases R.2.2 with ⟨k,_⟩ | ⟨g,cur,h1,h2,h3,_⟩
 ·simp [Slc.blk,k] at hb
 ·simp [Slc.blk,h1] at hb
  subst hb
  exact hE (h3.inj L).2
/-- all blocks but b stay -/
structure Upd (b:Nat) (h h':Heap):Prop where
 size:h.size<=h'.size
 block:∀ i,i < h.size->i≠b->h'[i]? = h[i]?
theorem Upd.trans {b:Nat} {x y z:Heap} (p:Upd b x y) (q:Upd b y z):Upd b x z :=
 ⟨Nat.le_trans p.size q.size,fun i hi hb=>(q.block i (Nat.lt_of_lt_of_le hi p.size) hb).trans (p.block i hi hb)⟩
theorem Upd.refl (b:Nat) (h:Heap):Upd b h h:=⟨Nat.le_refl _,fun _ _ _=>rfl⟩
theorem Upd.ext {b B:Nat} {h h':Heap} (p:Upd b h h') (hB:B<=b) (hs:B<=h.size):Ext B h h':=⟨p.size,fun i hi=>p.block i (by omega) (by omega)⟩
theorem Upd.blk {b c E:Nat} {h h':Heap} {cs:List Value} (p:Upd b h h') (k:Blk h c cs E) (hc:c≠b):Blk h' c cs E:=k.old (p.block c k.lt hc)
theorem Row.ne_row {B B' E E' w w':Nat} {h:Heap} {s t:Slc} {xs ys:List Value} (R:Row B h E w s xs) (L:Row B' h E' w' t ys) (hE:E≠E') {g:Nat} (hs:s.blk=some g):t.blk≠some g:=by
 intro ht
 rcases L.2.2 with ⟨k,_⟩ | ⟨g',cur,h1,h2,h3,_⟩
 ·simp [Slc.blk,k] at ht
 ·simp [Slc.blk,h1] at ht
  subst ht
  exact R.ne_blk h3 hE hs
theorem Row.cap {B E w:Nat} {h:Heap} {s:Slc} {xs:List Value} (R:Row B h E w s xs):s.len<=s.cap:=by
 rcases R.2.2 with ⟨_,k,k2⟩ | ⟨g,cur,h1,h2,h3,h4,h5,h6⟩ <;> omega
/-! ### integers -/
theorem wrapU64 {x:Int} (h0:0<=x) (h1:x < 18446744073709551616):IntKind.u64.wrap x=x:=by
 unfold IntKind.wrap; simp [IntKind.signed,IntKind.bits]; omega
theorem wrapI64 {x:Int} (h0:-9223372036854775808<=x) (h1:x < 9223372036854775808):IntKind.i64.wrap x=x:=by
 unfold IntKind.wrap; simp [IntKind.signed,IntKind.bits]; omega
end Go.Q
end
section
/- Arguments that came in; the way from a walk to the row's own words. -/
namespace Go.Q
open Go.RowKit
theorem wf_i64 {n:Int} (h:(Lit.int .i64 n).wf=true):-9223372036854775808<=n/\n < 9223372036854775808:=by
 simp [Lit.wf,IntKind.min,IntKind.max,IntKind.signed,IntKind.bits] at h; omega
/-- from the walk to the row: a law answers true and has written nothing that was there -/
theorem law_calls {P:Program} {f:FuncId} {args:Array Value} {w:World}
  (H:CallsH P f args w.heap fun v h'=>∃ r:Bool,v = .bool r/\r=true/\Ext w.heap.size w.heap h') :
  Calls P f args w fun e w'=>e = .returned (.bool true)/\Below w.heap.size w w' :=
 (H w rfl).mono fun e w' ⟨v,he,hw,r,hv,hr,hx⟩=>by
  subst hr; subst hv
  exact ⟨he,hw.os,hw.tape,hw.output,hx.size,hx.block⟩
end Go.Q
end
section
/- Numbers and rows of bytes: plain laws. -/
namespace Go.Q
abbrev b8 (l:List Int):List Value:=l.map (Value.int .u8)
theorem wU8 (n:Int):IntKind.u8.wrap n=n % 256:=by unfold IntKind.wrap; simp [IntKind.signed,IntKind.bits]
theorem wU64 (n:Int):IntKind.u64.wrap n=n % 18446744073709551616:=by unfold IntKind.wrap; simp [IntKind.signed,IntKind.bits]
/-! bitwise, on naturals -/
theorem bv_nat (n a:Nat) (ha:a < 2 ^ n):(BitVec.ofInt n (a:Int)).toNat=a:=by
 rw [BitVec.toNat_ofInt,← Int.natCast_emod,Int.toNat_natCast,Nat.mod_eq_of_lt ha]
theorem and_nat (n a b:Nat) (ha:a < 2 ^ n) (hb:b < 2 ^ n):(BitVec.ofInt n (a:Int) &&& BitVec.ofInt n (b:Int)).toNat=a &&& b:=by
 rw [BitVec.toNat_and,bv_nat n a ha,bv_nat n b hb]
end Go.Q
end
section
/- Strings and slices of bytes; copy. -/
namespace Go.Q
section
variable {P:Program} {T:Tab} {e:Env} {h:Heap} {o:Oper}
end
/-! ### arrays of numbers, each place written out -/
def arrG (k:IntKind) (l:List Int):Nat->Nat->List Value
 | 0,_=>[]
 | n + 1,i=>Value.int k (l.getD i 0) :: arrG k l n (i + 1)
def arr (n:Nat) (k:IntKind) (l:List Int):List Value:=arrG k l n 0
def nrm (n:Nat) (l:List Int):List Int:=(List.range n).map fun i=>l.getD i 0
theorem arrG_map (k:IntKind) (l:List Int):∀ n i,arrG k l n i=(List.range n).map fun j=>Value.int k (l.getD (i + j) 0)
 | 0,i=>rfl
 | n + 1,i=>by
  rw [arrG,arrG_map k l n (i + 1),List.range_succ_eq_map]
  simp only [List.map_cons,List.map_map,Nat.add_zero]
  congr 1
  apply List.map_congr_left
  intro j _
  simp only [Function.comp,Nat.succ_eq_add_one]
  rw [show i + 1 + j=i + (j + 1) from by omega]
theorem arr_nrm (n:Nat) (k:IntKind) (l:List Int):arr n k l=(nrm n l).map (Value.int k):=by
 rw [arr,arrG_map,nrm,List.map_map]
 apply List.map_congr_left
 intro j _
 simp
theorem nrm_len (n:Nat) (l:List Int):(nrm n l).length=n:=by simp [nrm]
theorem nrm_get (n:Nat) (l:List Int) {i:Nat} (hi:i < n):(nrm n l)[i]? = some (l.getD i 0):=by
 simp [nrm,hi]
theorem nrm_id {n:Nat} {l:List Int} (h:l.length=n):nrm n l=l:=by
 apply List.ext_getElem?
 intro i
 by_cases hi:i < n
 ·rw [nrm_get n l hi,List.getElem?_eq_getElem (by omega),List.getD_eq_getElem?_getD,List.getElem?_eq_getElem (by omega)]; rfl
 ·rw [List.getElem?_eq_none (by rw [nrm_len]; omega),List.getElem?_eq_none (by omega)]
theorem arr_id {n:Nat} {k:IntKind} {l:List Int} (h:l.length=n):arr n k l=l.map (Value.int k):=by rw [arr_nrm,nrm_id h]
theorem oneC {l:List Value} (h:l.all (fun v=>v.oneCell')=true):∀ v∈l,v.oneCell'=true:=fun v hv=>List.all_eq_true.1 h v hv
section
variable {P:Program} {T:Tab} {e:Env} {h:Heap} {o:Oper}
end
/-! ### functions as values -/
theorem arrcat (vs cap:List Value):(#[] ++ vs.toArray ++ cap.toArray:Array Value)=(vs ++ cap).toArray:=by simp
theorem w_callv {c:Cx} {lops:List Oper} {Q:Exit->Act->World->Prop} {K:Act->World->Prop} {l:List Oper} {e:Env} {h:Heap} {o:Oper} {f:FuncId} {x:Operand} {as':List Operand} {ts:Array TypeId} {vs cap:List Value} {Φ:Value->Heap->Prop}
  (hf:CallOk c.P f) (hc:CallsHD c.D c.P f (vs ++ cap).toArray h Φ) (ho:o.op = .call { callee:=.value x,args:=as'.toArray,argTypes:=ts }) (hx:evO e x=some (.func (.func f) #[] cap.toArray)) (hv:evs e as'=some vs) (hw:wnt lops e o=some true) (hd:dOk c.N o.dst=true)
  (H:∀ v h',Φ v h'->gop c lops Q K l (pu e o.dst v) h'):gop c lops Q K (o :: l) e h:=by
 have:=y_call (P:=c.P) (e:=e) (o:=o) hf ho hx hv
 rw [arrcat] at this
 exact w_c hc this hw hd H
theorem y_mkf {P:Program} {e:Env} {h:Heap} {o:Oper} {fn:Fn} {as':List Operand} {vs:List Value} (ho:o.op = .makeFunc fn #[] as'.toArray) (hv:evs e as'=some vs):Yl P e h o (.func fn #[] vs.toArray):=by
 intro ρ w hA hw
 have hm:=evs_map hA _ _ hv
 simp [execOp,ho,Instr.makeFunc,hm]
end Go.Q
end
section
set_option maxRecDepth 100000
namespace Go.Q.Yq
structure S_api_Query where
 f_Select:ByteArray
 f_From:Int
 f_To:Int
 f_Agg:Int
 f_Step:Int
def S_api_Query.cs (x:S_api_Query):List Value:=[.string x.f_Select,.int .i64 x.f_From,.int .i64 x.f_To,.int .i64 x.f_Agg,.int .i64 x.f_Step]
structure S_api_Command where
 f_Kind:Int
 f_Tenant:ByteArray
 f_Epoch:Int
 f_Nonce:List Int
 f_Wrapped:Slc
 f_Horizon:Int
def S_api_Command.cs (x:S_api_Command):List Value:=[.int .i64 x.f_Kind,.string x.f_Tenant,.int .u32 x.f_Epoch] ++ (arr 12 .u8 x.f_Nonce) ++ [Slc.v x.f_Wrapped,.int .i64 x.f_Horizon]
structure S_api_Op where
 f_N:Int
 f_Kind:Int
 f_Tenant:ByteArray
 f_Pieces:Slc
 f_Q:S_api_Query
 f_Cmd:S_api_Command
 f_Low:Int
 f_Nodes:Slc
 f_Yes:Slc
 f_Age:Int
 f_Done:Bool
 f_E:Int
 f_Rows:Slc
def S_api_Op.cs (x:S_api_Op):List Value:=[.int .u64 x.f_N,.int .i64 x.f_Kind,.string x.f_Tenant,Slc.v x.f_Pieces] ++ (S_api_Query.cs x.f_Q) ++ (S_api_Command.cs x.f_Cmd) ++ [.int .i64 x.f_Low,Slc.v x.f_Nodes,Slc.v x.f_Yes,.int .i64 x.f_Age,.bool x.f_Done,.int .i64 x.f_E,Slc.v x.f_Rows]
structure S_quaestorlaw31_Act where
 f_Kind:Int
 f_O:S_api_Op
 f_N:Int
 f_Node:Int
 f_L:Slc
 f_E:Int
def S_quaestorlaw31_Act.cs (x:S_quaestorlaw31_Act):List Value:=[.int .i64 x.f_Kind] ++ (S_api_Op.cs x.f_O) ++ [.int .u64 x.f_N,.int .i64 x.f_Node,Slc.v x.f_L,.int .i64 x.f_E]
structure S_quorum_Desk where
 f_ops:Option Nat
def S_quorum_Desk.cs (x:S_quorum_Desk):List Value:=[.map x.f_ops]
structure S_api_Id where
 f_N:Int
 f_Node:Int
def S_api_Id.cs (x:S_api_Id):List Value:=[.int .u64 x.f_N,.int .u16 x.f_Node]
structure S_api_Piece where
 f_Series:ByteArray
 f_T:Int
 f_V:Int
 f_Id:S_api_Id
def S_api_Piece.cs (x:S_api_Piece):List Value:=[.string x.f_Series,.int .i64 x.f_T,.int .i64 x.f_V] ++ (S_api_Id.cs x.f_Id)
structure S_piece_place where
 f_series:ByteArray
 f_t:Int
def S_piece_place.cs (x:S_piece_place):List Value:=[.string x.f_series,.int .i64 x.f_t]
structure S_api_Wide where
 f_Hi:Int
 f_Lo:Int
def S_api_Wide.cs (x:S_api_Wide):List Value:=[.int .i64 x.f_Hi,.int .u64 x.f_Lo]
structure S_api_Row where
 f_Series:ByteArray
 f_T:Int
 f_W:S_api_Wide
def S_api_Row.cs (x:S_api_Row):List Value:=[.string x.f_Series,.int .i64 x.f_T] ++ (S_api_Wide.cs x.f_W)
structure S_api_Selector where
 f_Name:ByteArray
 f_L:Slc
def S_api_Selector.cs (x:S_api_Selector):List Value:=[.string x.f_Name,Slc.v x.f_L]
structure S_api_Series where
 f_Name:ByteArray
 f_Labels:Slc
def S_api_Series.cs (x:S_api_Series):List Value:=[.string x.f_Name,Slc.v x.f_Labels]
structure S_api_Question where
 f_Name:ByteArray
 f_Sign:Int
 f_Value:ByteArray
def S_api_Question.cs (x:S_api_Question):List Value:=[.string x.f_Name,.int .i64 x.f_Sign,.string x.f_Value]
structure S_api_Label where
 f_Name:ByteArray
 f_Value:ByteArray
def S_api_Label.cs (x:S_api_Label):List Value:=[.string x.f_Name,.string x.f_Value]
def tab:Tab:=[
 (1,⟨.func,1,8,[.nilFunc]⟩),
 (2,⟨.int .i64,1,8,[.int .i64 0]⟩),
 (3,⟨.int .i64,1,8,[.int .i64 0]⟩),
 (4,⟨.bool,1,1,[.bool false]⟩),
 (5,⟨.int .u8,1,1,[.int .u8 0]⟩),
 (6,⟨.int .u8,1,1,[.int .u8 0]⟩),
 (7,⟨.struct [(2,0),(3,1),(4,2),(6,3)],4,24,[.int .i64 0,.int .i64 0,.bool false,.int .u8 0]⟩),
 (8,⟨.struct [(2,0),(3,1),(4,2),(6,3)],4,24,[.int .i64 0,.int .i64 0,.bool false,.int .u8 0]⟩),
 (9,⟨.string,1,16,[.string ByteArray.empty]⟩),
 (10,⟨.string,1,16,[.string ByteArray.empty]⟩),
 (11,⟨.string,1,16,[.string ByteArray.empty]⟩),
 (12,⟨.int .u64,1,8,[.int .u64 0]⟩),
 (13,⟨.struct [(9,0),(12,1)],2,24,[.string ByteArray.empty,.int .u64 0]⟩),
 (14,⟨.struct [(9,0),(12,1)],2,24,[.string ByteArray.empty,.int .u64 0]⟩),
 (15,⟨.pointer 238,1,8,[.pointer none]⟩),
 (16,⟨.pointer 241,1,8,[.pointer none]⟩),
 (17,⟨.pointer 250,1,8,[.pointer none]⟩),
 (18,⟨.struct [(17,0)],1,8,[.pointer none]⟩),
 (19,⟨.struct [(17,0)],1,8,[.pointer none]⟩),
 (20,⟨.iface,1,16,[.nilIface]⟩),
 (21,⟨.int .i32,1,4,[.int .i32 0]⟩),
 (22,⟨.slice 41,1,24,[.slice none 0 0]⟩),
 (23,⟨.pointer 63,1,8,[.pointer none]⟩),
 (24,⟨.func,1,8,[.nilFunc]⟩),
 (25,⟨.int .u64,1,8,[.int .u64 0]⟩),
 (26,⟨.slice 89,1,24,[.slice none 0 0]⟩),
 (27,⟨.struct [(9,0),(2,1),(2,2),(3,3),(2,4)],5,48,[.string ByteArray.empty,.int .i64 0,.int .i64 0,.int .i64 0,.int .i64 0]⟩),
 (28,⟨.struct [(9,0),(2,1),(2,2),(3,3),(2,4)],5,48,[.string ByteArray.empty,.int .i64 0,.int .i64 0,.int .i64 0,.int .i64 0]⟩),
 (29,⟨.int .u32,1,4,[.int .u32 0]⟩),
 (30,⟨.array 12 5,12,12,[.int .u8 0,.int .u8 0,.int .u8 0,.int .u8 0,.int .u8 0,.int .u8 0,.int .u8 0,.int .u8 0,.int .u8 0,.int .u8 0,.int .u8 0,.int .u8 0]⟩),
 (31,⟨.array 12 5,12,12,[.int .u8 0,.int .u8 0,.int .u8 0,.int .u8 0,.int .u8 0,.int .u8 0,.int .u8 0,.int .u8 0,.int .u8 0,.int .u8 0,.int .u8 0,.int .u8 0]⟩),
 (32,⟨.slice 5,1,24,[.slice none 0 0]⟩),
 (33,⟨.struct [(3,0),(9,1),(29,2),(31,3),(32,15),(2,16)],17,72,[.int .i64 0,.string ByteArray.empty,.int .u32 0,.int .u8 0,.int .u8 0,.int .u8 0,.int .u8 0,.int .u8 0,.int .u8 0,.int .u8 0,.int .u8 0,.int .u8 0,.int .u8 0,.int .u8 0,.int .u8 0,.slice none 0 0,.int .i64 0]⟩),
 (34,⟨.struct [(3,0),(9,1),(29,2),(31,3),(32,15),(2,16)],17,72,[.int .i64 0,.string ByteArray.empty,.int .u32 0,.int .u8 0,.int .u8 0,.int .u8 0,.int .u8 0,.int .u8 0,.int .u8 0,.int .u8 0,.int .u8 0,.int .u8 0,.int .u8 0,.int .u8 0,.int .u8 0,.slice none 0 0,.int .i64 0]⟩),
 (35,⟨.slice 3,1,24,[.slice none 0 0]⟩),
 (36,⟨.int .i64,1,8,[.int .i64 0]⟩),
 (37,⟨.slice 118,1,24,[.slice none 0 0]⟩),
 (38,⟨.struct [(25,0),(3,1),(9,2),(26,3),(28,4),(34,9),(2,26),(35,27),(35,28),(3,29),(4,30),(36,31),(37,32)],33,280,[.int .u64 0,.int .i64 0,.string ByteArray.empty,.slice none 0 0,.string ByteArray.empty,.int .i64 0,.int .i64 0,.int .i64 0,.int .i64 0,.int .i64 0,.string ByteArray.empty,.int .u32 0,.int .u8 0,.int .u8 0,.int .u8 0,.int .u8 0,.int .u8 0,.int .u8 0,.int .u8 0,.int .u8 0,.int .u8 0,.int .u8 0,.int .u8 0,.int .u8 0,.slice none 0 0,.int .i64 0,.int .i64 0,.slice none 0 0,.slice none 0 0,.int .i64 0,.bool false,.int .i64 0,.slice none 0 0]⟩),
 (39,⟨.struct [(25,0),(3,1),(9,2),(26,3),(28,4),(34,9),(2,26),(35,27),(35,28),(3,29),(4,30),(36,31),(37,32)],33,280,[.int .u64 0,.int .i64 0,.string ByteArray.empty,.slice none 0 0,.string ByteArray.empty,.int .i64 0,.int .i64 0,.int .i64 0,.int .i64 0,.int .i64 0,.string ByteArray.empty,.int .u32 0,.int .u8 0,.int .u8 0,.int .u8 0,.int .u8 0,.int .u8 0,.int .u8 0,.int .u8 0,.int .u8 0,.int .u8 0,.int .u8 0,.int .u8 0,.int .u8 0,.slice none 0 0,.int .i64 0,.int .i64 0,.slice none 0 0,.slice none 0 0,.int .i64 0,.bool false,.int .i64 0,.slice none 0 0]⟩),
 (40,⟨.struct [(3,0),(39,1),(25,34),(3,35),(26,36),(36,37)],38,336,[.int .i64 0,.int .u64 0,.int .i64 0,.string ByteArray.empty,.slice none 0 0,.string ByteArray.empty,.int .i64 0,.int .i64 0,.int .i64 0,.int .i64 0,.int .i64 0,.string ByteArray.empty,.int .u32 0,.int .u8 0,.int .u8 0,.int .u8 0,.int .u8 0,.int .u8 0,.int .u8 0,.int .u8 0,.int .u8 0,.int .u8 0,.int .u8 0,.int .u8 0,.int .u8 0,.slice none 0 0,.int .i64 0,.int .i64 0,.slice none 0 0,.slice none 0 0,.int .i64 0,.bool false,.int .i64 0,.slice none 0 0,.int .u64 0,.int .i64 0,.slice none 0 0,.int .i64 0]⟩),
 (41,⟨.struct [(3,0),(39,1),(25,34),(3,35),(26,36),(36,37)],38,336,[.int .i64 0,.int .u64 0,.int .i64 0,.string ByteArray.empty,.slice none 0 0,.string ByteArray.empty,.int .i64 0,.int .i64 0,.int .i64 0,.int .i64 0,.int .i64 0,.string ByteArray.empty,.int .u32 0,.int .u8 0,.int .u8 0,.int .u8 0,.int .u8 0,.int .u8 0,.int .u8 0,.int .u8 0,.int .u8 0,.int .u8 0,.int .u8 0,.int .u8 0,.int .u8 0,.slice none 0 0,.int .i64 0,.int .i64 0,.slice none 0 0,.slice none 0 0,.int .i64 0,.bool false,.int .i64 0,.slice none 0 0,.int .u64 0,.int .i64 0,.slice none 0 0,.int .i64 0]⟩),
 (42,⟨.func,1,8,[.nilFunc]⟩),
 (43,⟨.func,1,8,[.nilFunc]⟩),
 (44,⟨.slice 39,1,24,[.slice none 0 0]⟩),
 (46,⟨.func,1,8,[.nilFunc]⟩),
 (47,⟨.func,1,8,[.nilFunc]⟩),
 (48,⟨.func,1,8,[.nilFunc]⟩),
 (49,⟨.func,1,8,[.nilFunc]⟩),
 (50,⟨.func,1,8,[.nilFunc]⟩),
 (51,⟨.func,1,8,[.nilFunc]⟩),
 (52,⟨.func,1,8,[.nilFunc]⟩),
 (53,⟨.pointer 55,1,8,[.pointer none]⟩),
 (54,⟨.struct [(44,0)],1,24,[.slice none 0 0]⟩),
 (55,⟨.struct [(44,0)],1,24,[.slice none 0 0]⟩),
 (56,⟨.func,1,8,[.nilFunc]⟩),
 (57,⟨.func,1,8,[.nilFunc]⟩),
 (58,⟨.slice 84,1,24,[.slice none 0 0]⟩),
 (59,⟨.func,1,8,[.nilFunc]⟩),
 (60,⟨.func,1,8,[.nilFunc]⟩),
 (61,⟨.map 25 65,1,8,[.map none]⟩),
 (62,⟨.struct [(61,0)],1,8,[.map none]⟩),
 (63,⟨.struct [(61,0)],1,8,[.map none]⟩),
 (64,⟨.func,1,8,[.nilFunc]⟩),
 (65,⟨.pointer 39,1,8,[.pointer none]⟩),
 (67,⟨.func,1,8,[.nilFunc]⟩),
 (68,⟨.func,1,8,[.nilFunc]⟩),
 (69,⟨.func,1,8,[.nilFunc]⟩),
 (71,⟨.func,1,8,[.nilFunc]⟩),
 (72,⟨.func,1,8,[.nilFunc]⟩),
 (73,⟨.slice 25,1,24,[.slice none 0 0]⟩),
 (74,⟨.func,1,8,[.nilFunc]⟩),
 (75,⟨.func,1,8,[.nilFunc]⟩),
 (76,⟨.func,1,8,[.nilFunc]⟩),
 (77,⟨.func,1,8,[.nilFunc]⟩),
 (78,⟨.func,1,8,[.nilFunc]⟩),
 (79,⟨.func,1,8,[.nilFunc]⟩),
 (80,⟨.func,1,8,[.nilFunc]⟩),
 (82,⟨.func,1,8,[.nilFunc]⟩),
 (83,⟨.struct [(25,0),(3,1)],2,16,[.int .u64 0,.int .i64 0]⟩),
 (84,⟨.struct [(25,0),(3,1)],2,16,[.int .u64 0,.int .i64 0]⟩),
 (85,⟨.int .u16,1,2,[.int .u16 0]⟩),
 (86,⟨.struct [(25,0),(85,1)],2,16,[.int .u64 0,.int .u16 0]⟩),
 (87,⟨.struct [(25,0),(85,1)],2,16,[.int .u64 0,.int .u16 0]⟩),
 (88,⟨.struct [(9,0),(2,1),(2,2),(87,3)],5,48,[.string ByteArray.empty,.int .i64 0,.int .i64 0,.int .u64 0,.int .u16 0]⟩),
 (89,⟨.struct [(9,0),(2,1),(2,2),(87,3)],5,48,[.string ByteArray.empty,.int .i64 0,.int .i64 0,.int .u64 0,.int .u16 0]⟩),
 (90,⟨.func,1,8,[.nilFunc]⟩),
 (91,⟨.slice 26,1,24,[.slice none 0 0]⟩),
 (92,⟨.map 95 89,1,8,[.map none]⟩),
 (93,⟨.func,1,8,[.nilFunc]⟩),
 (94,⟨.struct [(9,0),(2,1)],2,24,[.string ByteArray.empty,.int .i64 0]⟩),
 (95,⟨.struct [(9,0),(2,1)],2,24,[.string ByteArray.empty,.int .i64 0]⟩),
 (97,⟨.func,1,8,[.nilFunc]⟩),
 (98,⟨.func,1,8,[.nilFunc]⟩),
 (99,⟨.func,1,8,[.nilFunc]⟩),
 (100,⟨.func,1,8,[.nilFunc]⟩),
 (101,⟨.func,1,8,[.nilFunc]⟩),
 (102,⟨.func,1,8,[.nilFunc]⟩),
 (103,⟨.func,1,8,[.nilFunc]⟩),
 (104,⟨.func,1,8,[.nilFunc]⟩),
 (106,⟨.func,1,8,[.nilFunc]⟩),
 (107,⟨.func,1,8,[.nilFunc]⟩),
 (108,⟨.func,1,8,[.nilFunc]⟩),
 (109,⟨.func,1,8,[.nilFunc]⟩),
 (110,⟨.func,1,8,[.nilFunc]⟩),
 (111,⟨.func,1,8,[.nilFunc]⟩),
 (112,⟨.func,1,8,[.nilFunc]⟩),
 (113,⟨.func,1,8,[.nilFunc]⟩),
 (114,⟨.func,1,8,[.nilFunc]⟩),
 (115,⟨.struct [(2,0),(25,1)],2,16,[.int .i64 0,.int .u64 0]⟩),
 (116,⟨.struct [(2,0),(25,1)],2,16,[.int .i64 0,.int .u64 0]⟩),
 (117,⟨.struct [(9,0),(2,1),(116,2)],4,40,[.string ByteArray.empty,.int .i64 0,.int .i64 0,.int .u64 0]⟩),
 (118,⟨.struct [(9,0),(2,1),(116,2)],4,40,[.string ByteArray.empty,.int .i64 0,.int .i64 0,.int .u64 0]⟩),
 (119,⟨.func,1,8,[.nilFunc]⟩),
 (120,⟨.func,1,8,[.nilFunc]⟩),
 (121,⟨.func,1,8,[.nilFunc]⟩),
 (122,⟨.func,1,8,[.nilFunc]⟩),
 (123,⟨.func,1,8,[.nilFunc]⟩),
 (125,⟨.func,1,8,[.nilFunc]⟩),
 (126,⟨.func,1,8,[.nilFunc]⟩),
 (127,⟨.func,1,8,[.nilFunc]⟩),
 (129,⟨.func,1,8,[.nilFunc]⟩),
 (130,⟨.func,1,8,[.nilFunc]⟩),
 (131,⟨.func,1,8,[.nilFunc]⟩),
 (132,⟨.func,1,8,[.nilFunc]⟩),
 (133,⟨.func,1,8,[.nilFunc]⟩),
 (134,⟨.func,1,8,[.nilFunc]⟩),
 (135,⟨.func,1,8,[.nilFunc]⟩),
 (136,⟨.func,1,8,[.nilFunc]⟩),
 (137,⟨.slice 174,1,24,[.slice none 0 0]⟩),
 (138,⟨.struct [(9,0),(137,1)],2,40,[.string ByteArray.empty,.slice none 0 0]⟩),
 (139,⟨.struct [(9,0),(137,1)],2,40,[.string ByteArray.empty,.slice none 0 0]⟩),
 (141,⟨.func,1,8,[.nilFunc]⟩),
 (142,⟨.map 9 4,1,8,[.map none]⟩),
 (143,⟨.func,1,8,[.nilFunc]⟩),
 (145,⟨.slice 178,1,24,[.slice none 0 0]⟩),
 (146,⟨.struct [(9,0),(145,1)],2,40,[.string ByteArray.empty,.slice none 0 0]⟩),
 (147,⟨.struct [(9,0),(145,1)],2,40,[.string ByteArray.empty,.slice none 0 0]⟩),
 (149,⟨.func,1,8,[.nilFunc]⟩),
 (150,⟨.func,1,8,[.nilFunc]⟩),
 (151,⟨.func,1,8,[.nilFunc]⟩),
 (152,⟨.func,1,8,[.nilFunc]⟩),
 (154,⟨.func,1,8,[.nilFunc]⟩),
 (155,⟨.func,1,8,[.nilFunc]⟩),
 (156,⟨.func,1,8,[.nilFunc]⟩),
 (157,⟨.func,1,8,[.nilFunc]⟩),
 (159,⟨.func,1,8,[.nilFunc]⟩),
 (161,⟨.func,1,8,[.nilFunc]⟩),
 (162,⟨.func,1,8,[.nilFunc]⟩),
 (163,⟨.func,1,8,[.nilFunc]⟩),
 (164,⟨.func,1,8,[.nilFunc]⟩),
 (165,⟨.func,1,8,[.nilFunc]⟩),
 (166,⟨.func,1,8,[.nilFunc]⟩),
 (167,⟨.int .u64,1,8,[.int .u64 0]⟩),
 (168,⟨.func,1,8,[.nilFunc]⟩),
 (170,⟨.func,1,8,[.nilFunc]⟩),
 (172,⟨.func,1,8,[.nilFunc]⟩),
 (173,⟨.struct [(9,0),(3,1),(9,2)],3,40,[.string ByteArray.empty,.int .i64 0,.string ByteArray.empty]⟩),
 (174,⟨.struct [(9,0),(3,1),(9,2)],3,40,[.string ByteArray.empty,.int .i64 0,.string ByteArray.empty]⟩),
 (176,⟨.func,1,8,[.nilFunc]⟩),
 (177,⟨.struct [(9,0),(9,1)],2,32,[.string ByteArray.empty,.string ByteArray.empty]⟩),
 (178,⟨.struct [(9,0),(9,1)],2,32,[.string ByteArray.empty,.string ByteArray.empty]⟩),
 (179,⟨.func,1,8,[.nilFunc]⟩),
 (180,⟨.func,1,8,[.nilFunc]⟩),
 (181,⟨.func,1,8,[.nilFunc]⟩),
 (182,⟨.func,1,8,[.nilFunc]⟩),
 (184,⟨.func,1,8,[.nilFunc]⟩),
 (186,⟨.func,1,8,[.nilFunc]⟩),
 (187,⟨.func,1,8,[.nilFunc]⟩),
 (188,⟨.func,1,8,[.nilFunc]⟩),
 (189,⟨.func,1,8,[.nilFunc]⟩),
 (190,⟨.slice 9,1,24,[.slice none 0 0]⟩),
 (192,⟨.func,1,8,[.nilFunc]⟩),
 (193,⟨.func,1,8,[.nilFunc]⟩),
 (194,⟨.func,1,8,[.nilFunc]⟩),
 (195,⟨.int .i64,1,8,[.int .i64 0]⟩),
 (197,⟨.func,1,8,[.nilFunc]⟩),
 (198,⟨.func,1,8,[.nilFunc]⟩),
 (199,⟨.func,1,8,[.nilFunc]⟩),
 (201,⟨.func,1,8,[.nilFunc]⟩),
 (202,⟨.func,1,8,[.nilFunc]⟩),
 (203,⟨.func,1,8,[.nilFunc]⟩),
 (204,⟨.func,1,8,[.nilFunc]⟩),
 (205,⟨.func,1,8,[.nilFunc]⟩),
 (206,⟨.func,1,8,[.nilFunc]⟩),
 (207,⟨.func,1,8,[.nilFunc]⟩),
 (208,⟨.func,1,8,[.nilFunc]⟩),
 (209,⟨.func,1,8,[.nilFunc]⟩),
 (211,⟨.func,1,8,[.nilFunc]⟩),
 (212,⟨.func,1,8,[.nilFunc]⟩),
 (213,⟨.func,1,8,[.nilFunc]⟩),
 (214,⟨.func,1,8,[.nilFunc]⟩),
 (215,⟨.func,1,8,[.nilFunc]⟩),
 (216,⟨.func,1,8,[.nilFunc]⟩),
 (217,⟨.func,1,8,[.nilFunc]⟩),
 (218,⟨.int .u64,1,8,[.int .u64 0]⟩),
 (219,⟨.func,1,8,[.nilFunc]⟩),
 (220,⟨.func,1,8,[.nilFunc]⟩),
 (221,⟨.func,1,8,[.nilFunc]⟩),
 (222,⟨.pointer 3,1,8,[.pointer none]⟩),
 (223,⟨.func,1,8,[.nilFunc]⟩),
 (224,⟨.func,1,8,[.nilFunc]⟩),
 (225,⟨.func,1,8,[.nilFunc]⟩),
 (226,⟨.func,1,8,[.nilFunc]⟩),
 (227,⟨.func,1,8,[.nilFunc]⟩),
 (228,⟨.func,1,8,[.nilFunc]⟩),
 (229,⟨.pointer 218,1,8,[.pointer none]⟩),
 (231,⟨.func,1,8,[.nilFunc]⟩),
 (232,⟨.func,1,8,[.nilFunc]⟩),
 (233,⟨.func,1,8,[.nilFunc]⟩),
 (235,⟨.func,1,8,[.nilFunc]⟩),
 (236,⟨.func,1,8,[.nilFunc]⟩),
 (237,⟨.struct [(17,0),(17,1),(17,2),(9,3)],4,40,[.pointer none,.pointer none,.pointer none,.string ByteArray.empty]⟩),
 (238,⟨.struct [(17,0),(17,1),(17,2),(9,3)],4,40,[.pointer none,.pointer none,.pointer none,.string ByteArray.empty]⟩),
 (239,⟨.array 0 16,0,0,[]⟩),
 (240,⟨.struct [(239,0)],0,0,[]⟩),
 (241,⟨.struct [(239,0)],0,0,[]⟩),
 (242,⟨.func,1,8,[.nilFunc]⟩),
 (243,⟨.int .u8,1,1,[.int .u8 0]⟩),
 (244,⟨.int .u8,1,1,[.int .u8 0]⟩),
 (245,⟨.func,1,8,[.nilFunc]⟩),
 (246,⟨.pointer 5,1,8,[.pointer none]⟩),
 (247,⟨.int .i32,1,4,[.int .i32 0]⟩),
 (248,⟨.int .i32,1,4,[.int .i32 0]⟩),
 (249,⟨.struct [(12,0),(12,1),(29,2),(243,3),(5,4),(5,5),(244,6),(245,7),(246,8),(247,9),(248,10)],11,48,[.int .u64 0,.int .u64 0,.int .u32 0,.int .u8 0,.int .u8 0,.int .u8 0,.int .u8 0,.nilFunc,.pointer none,.int .i32 0,.int .i32 0]⟩),
 (250,⟨.struct [(12,0),(12,1),(29,2),(243,3),(5,4),(5,5),(244,6),(245,7),(246,8),(247,9),(248,10)],11,48,[.int .u64 0,.int .u64 0,.int .u32 0,.int .u8 0,.int .u8 0,.int .u8 0,.int .u8 0,.nilFunc,.pointer none,.int .i32 0,.int .i32 0]⟩)]
theorem tok:TOk Go.Proofs.Tryz.prog tab:=TOk_of (by kernel_rfl)
end Go.Q.Yq
end
section
/- Effects that have no order among themselves: whichever comes first. -/
namespace Go.Q
section
variable {c:Cx} {lops:List Oper} {Q:Exit->Act->World->Prop} {done dead:List Nat} {pend D:List Pn} {e:Env} {h:Heap} {listed:Array Bool} {a:Act}
/-- operation i comes up -/
def SimI (c:Cx) (lops:List Oper) (Q:Exit->Act->World->Prop) (done dead:List Nat) (pend:List Pn) (e:Env) (h:Heap) (i:Nat):Prop :=
 ∀ fuel D listed a w,cnt listed<=fuel + 1->Inv c lops done dead pend e D listed a->WW c.D c.W0 h w->i ∉ done->un listed i->(∀ p,isPred lops p i=true->¬ un listed p) ->
  wpOp c.P lops.toArray Q i (wpAny c.P .any lops.toArray Q fuel (listed.setIfInBounds i true)) a w
def sideI (lops:List Oper) (done dead dead' A:List Nat) (i:Nat):Bool:=!mem done i && !mem dead i && ancOk lops i A && dead'.all fun x=>mem A x || mem dead x
def onlyL (lops:List Oper) (done L:List Nat):Bool :=
 (List.range lops.length).all fun j=>mem (L ++ done) j || (List.range j).any fun p=>isPred lops p j && !mem done p
theorem sim_ei (i:Nat) (A dead':List Nat) {o:Oper} {Φ:Value->Heap->Prop} {ei:Env} (hwf:wfR lops=true) (hp:PFs c lops h dead pend) (hside:sideI lops done dead dead' A i=true) (hs:Sub ei e) (hk:slotsOk lops done i ei=true)
  (ho:lops[i]? = some o) (hdk:dOk c.N o.dst=true) (hw:wnt lops ei o=some true) (hy:YE c.D c.P ei h o Φ)
  (H:∀ v h',Φ v h'->Sim c lops Q (i :: done) dead' pend (pu e o.dst v) h'):SimI c lops Q done dead pend e h i:=by
 simp only [wfR,Bool.and_eq_true] at hwf
 simp only [sideI,Bool.and_eq_true,Bool.not_eq_true',List.all_eq_true,Bool.or_eq_true] at hside
 obtain ⟨⟨⟨hi,hid⟩,hA⟩,hdd⟩:=hside
 have hlt:i < lops.length:=(List.getElem?_eq_some_iff.1 ho).1
 have hi':=not_mem hi
 intro fuel D listed a w hf I hww hj hu hpre
 have hjl:=hlt
 obtain ⟨j,hji⟩:∃ j,j=i:=⟨i,rfl⟩
 subst hji
 have av:Fr c.N ei a:=I.fr (x:=⟨j,undef,ei⟩) hu (I.look hwf.2 hs hk) hpre
 have hds:dst? lops j=o.dst:=by simp [dst?,ho]
 unfold wpOp
 simp only [List.getElem?_toArray,ho,wnt_spec hw av,if_true]
 left
 refine hy a w av.agr hww.heap _ _ fun v w' hw' hΦ=>?_
 have I1:=I.fix (v:=v) hwf.2 hi' (not_mem hid) hlt hs hk
 have I2:=I1.come hwf.2 (x:=⟨j,v,ei⟩) (by simp) hu hpre (by rw [hds]; exact hdk)
 rw [hds] at I2
 -- those that 'i' waited for have come up
 have anc:∀ n x,lops.length - x<=n->x∈A->¬ un listed x:=by
  intro n
  induction n with
  | zero =>
   intro x hx hxA
   simp only [ancOk,List.all_eq_true,List.any_eq_true] at hA
   obtain ⟨b,_,hb⟩:=hA x hxA
   have:=pred_lt hwf.1 hb
   omega
  | succ n ih =>
   intro x hx hxA
   have hA':=hA
   simp only [ancOk,List.all_eq_true,List.any_eq_true] at hA'
   obtain ⟨b,hbm,hb⟩:=hA' x hxA
   have hbl:=pred_lt hwf.1 hb
   rcases List.mem_cons.1 hbm with rfl | hbm
   ·exact hpre x hb
   ·exact I.dc b hbl.2 (ih b (by omega) hbm) x hb
 refine H v w'.heap hΦ fuel (⟨j,v,ei⟩ :: D) _ _ _ (by have:=cnt_set hu; omega) ?_ (hww.trans hw')
 have pl:∀ x∈(⟨j,v,ei⟩:Pn) :: D,un (listed.setIfInBounds j true) x.j->x∈pend/\x.j ∉ dead':=fun x hx hl=>by
  obtain ⟨h1,h3⟩:=I2.pd x hx hl
  have h2:=(un_set (un_lt hu)).1 hl
  rcases List.mem_cons.1 h1 with rfl | h1
  ·exact absurd rfl h2.2
  ·refine ⟨h1,fun hh=>?_⟩
   rcases hdd x.j hh with hA1 | hA1
   ·exact anc _ _ (Nat.le_refl _) (mem_iff.1 hA1) h2.1
   ·exact h3 (mem_iff.1 hA1)
 exact ⟨I2.sz,I2.d,I2.n,I2.jd,I2.dj,I2.uq,I2.dn,I2.dc,pl,fun x hx=>I2.pin x (List.mem_cons_of_mem _ hx),I2.val,I2.env,I2.ops⟩
/-- two effects, in either order -/
theorem sim_or (i j:Nat) {A B:Prop} (hwf:wfR lops=true) (hp:PFs c lops h dead pend) (honly:onlyL lops done [i,j]=true) (hi:(!mem done i && Nat.blt i lops.length)=true) (H:A/\B) (h1:A->SimI c lops Q done dead pend e h i) (h2:B->SimI c lops Q done dead pend e h j):Sim c lops Q done dead pend e h:=by
 simp only [wfR,Bool.and_eq_true] at hwf
 simp only [Bool.and_eq_true,Bool.not_eq_true',Nat.blt_eq] at hi
 refine sim_core hwf.1 hwf.2 hp (fun D listed a w I hw hn=>absurd (I.dn i hi.2 (hn i)) (not_mem hi.1)) fun fuel D listed a w x hf I hww hx hxl hu hpre=>?_
 simp only [onlyL,List.all_eq_true,List.mem_range,Bool.or_eq_true,List.any_eq_true,Bool.and_eq_true,Bool.not_eq_true'] at honly
 rcases honly x hxl with h3 | ⟨p,hpj,hp1,hp2⟩
 ·rcases List.mem_append.1 (mem_iff.1 h3) with h4 | h4
  ·simp only [List.mem_cons,List.not_mem_nil,or_false] at h4
   rcases h4 with rfl | rfl
   ·exact h1 H.1 fuel D listed a w hf I hww hx hu hpre
   ·exact h2 H.2 fuel D listed a w hf I hww hx hu hpre
  ·exact absurd h4 hx
 ·exact absurd (I.dn p (by omega) (hpre p hp1)) (not_mem hp2)
end
end Go.Q
end
section
/- A call of a function value in a region that draws its order. -/
namespace Go.Q
section
variable {c:Cx} {lops:List Oper} {Q:Exit->Act->World->Prop} {done dead:List Nat} {pend:List Pn} {e:Env} {h:Heap}
end
end Go.Q
end
section
/- Short words for what the printed proofs say often. -/
namespace Go.Q
open Go.RowKit
abbrev ad (b:Nat):Addr:=⟨b,0,none⟩
abbrev pt (b:Nat):Value:=.pointer (some ⟨b,0,none⟩)
section
variable {c:Cx} {lops:List Oper} {Q:Exit->Act->World->Prop} {done dead:List Nat} {pend D:List Pn} {e:Env} {h:Heap}
end
section
variable {c:Cx} {lops l:List Oper} {x:Code} {Q:Exit->Act->World->Prop} {K:Act->World->Prop} {e:Env} {h:Heap}
theorem xJ {α:Type} {E:α->Env} {Φ:α->Heap->Prop} (s:α) (H:Φ s h) (hs:Sub (E s) e:=by repeat (first | exact trivial | refine ⟨rfl,?_⟩)):gex c (Exit.then (Jn c E Φ) Q) .normal e h:=x_join s H hs
theorem wJ {α:Type} {E:α->Env} {Φ:α->Heap->Prop} (s:α) (H:Φ s h) (hs:Sub (E s) e:=by repeat (first | exact trivial | refine ⟨rfl,?_⟩)):gop c lops Q (Jn c E Φ) [] e h:=w_jn s H hs
end
end Go.Q
end

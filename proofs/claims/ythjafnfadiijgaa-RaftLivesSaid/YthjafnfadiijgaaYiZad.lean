/- A part of the proof of statements of this seat: lemmas, no statement of their own. -/
import Derived.Test.YthjafnfadiijgaaYiZab
import Derived.OpenShut
import Derived.Test.YthjafnfadiijgaaYiZac
import Derived.Laws.BytesString
import Derived.Test.YthjafnfadiijgaaProg
set_option linter.unusedVariables false
set_option linter.unusedSimpArgs false
set_option maxRecDepth 100000
section
/- Reasoning on heaps, for the plain laws. -/
namespace Go.Q
/-- below block number B nothing has turned -/
structure Ext (B:Nat) (h h':Heap):Prop where
 size:h.size<=h'.size
 block:∀ i,i < B->h'[i]? = h[i]?
theorem Ext.refl (B:Nat) (h:Heap):Ext B h h:=⟨Nat.le_refl _,fun _ _=>rfl⟩
theorem Ext.trans {B:Nat} {a b c:Heap} (p:Ext B a b) (q:Ext B b c):Ext B a c:=⟨Nat.le_trans p.size q.size,fun i hi=>(q.block i hi).trans (p.block i hi)⟩
theorem Ext.mono {B B':Nat} {a b:Heap} (p:Ext B a b) (h:B'<=B):Ext B' a b:=⟨p.size,fun i hi=>p.block i (Nat.lt_of_lt_of_le hi h)⟩
theorem Ext.push (h:Heap) (o:Obj) {B:Nat} (hB:B<=h.size):Ext B h (h.push o) :=
 ⟨by simp,fun i hi=>by rw [Array.getElem?_push,if_neg (by omega)]⟩
theorem jg {h:Heap} {a:Addr} {v:Value} {i:Nat} (hi:i≠a.block):(setH h a v)[i]? = h[i]?:=by
 unfold setH
 rw [Array.getElem?_modify,if_neg (fun e=>hi e.symm)]
theorem jQ {h:Heap} {a:Addr} {v:Value}:(setH h a v).size=h.size:=by simp [setH]
theorem Ext.set (h:Heap) {a:Addr} (v:Value) {B:Nat} (hB:B<=a.block):Ext B h (setH h a v) :=
 ⟨by rw [jQ]; exact Nat.le_refl _,fun i hi=>jg (by omega)⟩
theorem GM {h h':Heap} {a:Addr} (e:h'[a.block]? = h[a.block]?):af h' a=af h a:=by simp [af,e]
theorem Ext.cell {B:Nat} {h h':Heap} (p:Ext B h h') {a:Addr} (ha:a.block < B):af h' a=af h a:=GM (p.block _ ha)
theorem yI {h:Heap} {a:Addr} {v:Value} (hc:af h a=some v):a.block < h.size:=by
 unfold af at hc
 rcases Nat.lt_or_ge a.block h.size with h1 | h1
 ·exact h1
 ·rw [Array.getElem?_eq_none h1] at hc; cases hc
theorem Ext.cellAt {h h':Heap} (p:Ext h.size h h') {a:Addr} {v:Value} (hc:af h a=some v):af h' a=some v:=by rw [p.cell (yI hc)]; exact hc
@[simp] theorem add_mk (b o i:Nat):(⟨b,o,none⟩:Addr).add i=⟨b,o + i,none⟩:=by unfold Addr.add; split <;> simp_all
@[simp] theorem add_block (a:Addr) (i:Nat):(a.add i).block=a.block:=by unfold Addr.add; split <;> rfl
/-- a block of cells, none of them frozen -/
def Blk (h:Heap) (b:Nat) (cs:List Value) (E:Nat):Prop:=∃ lo hi,h[b]? = some (.cells cs.toArray E (lo,hi))/\(hi<=lo∨cs.length<=lo)
theorem Blk.lt {h:Heap} {b E:Nat} {cs:List Value} (k:Blk h b cs E):b < h.size:=by obtain ⟨_,_,k,_⟩:=k; exact (Array.getElem?_eq_some_iff.1 k).1
theorem Blk.cell {h:Heap} {b E i:Nat} {cs:List Value} (k:Blk h b cs E):af h ⟨b,i,none⟩=cs[i]?:=by obtain ⟨_,_,k,_⟩:=k; simp [af,show h[b]? = _ from k]
theorem Blk.NJ {h:Heap} {b E i:Nat} {cs:List Value} (k:Blk h b cs E) (hi:i < cs.length):yG h ⟨b,i,none⟩=false:=by obtain ⟨lo,hh,k,d⟩:=k; simp [yG,show h[b]? = _ from k]; omega
theorem Blk.wr {h:Heap} {b E i:Nat} {cs:List Value} (k:Blk h b cs E) (hi:i < cs.length):WrH h ⟨b,i,none⟩:=⟨⟨cs[i],by rw [k.cell]; simp [hi]⟩,k.NJ hi⟩
theorem Blk.push (h:Heap) (cs:List Value) (E:Nat):Blk (h.push (.cells cs.toArray E)) h.size cs E:=⟨0,0,by simp,.inl (Nat.le_refl _)⟩
theorem Blk.JY (h:Heap) (cs:List Value) (E:Nat) {lo hi:Nat} (hl:cs.length<=lo):Blk (h.push (.cells cs.toArray E (lo,hi))) h.size cs E:=⟨lo,hi,by simp,.inr hl⟩
theorem Blk.old {h h':Heap} {b E:Nat} {cs:List Value} (k:Blk h b cs E) (e:h'[b]? = h[b]?):Blk h' b cs E:=by rw [Blk,e]; exact k
theorem Blk.ext {h h':Heap} {b B E:Nat} {cs:List Value} (k:Blk h b cs E) (p:Ext B h h') (hb:b < B):Blk h' b cs E:=k.old (p.block b hb)
theorem Blk.set {h:Heap} {b E i:Nat} {cs:List Value} {v:Value} (k:Blk h b cs E):Blk (setH h ⟨b,i,none⟩ v) b (cs.set i v) E:=by
 obtain ⟨lo,hi,k,d⟩:=k
 refine ⟨lo,hi,?_,by simpa using d⟩
 unfold setH at *
 rw [Array.getElem?_modify,if_pos rfl,k]
 simp
theorem Blk.inj {h:Heap} {b E E':Nat} {cs cs':List Value} (k:Blk h b cs E) (k':Blk h b cs' E'):cs=cs'/\E=E':=by
 obtain ⟨_,_,k,_⟩:=k
 obtain ⟨_,_,k',_⟩:=k'
 have e:=k.symm.trans k'
 simp at e
 exact ⟨e.1,e.2.1⟩
theorem Blk.sets {E b:Nat}:∀ (vs:List Value) {h:Heap} (o i:Nat) {cs:List Value} (k:Blk h b cs E),o + i + vs.length<=cs.length ->
  Blk (aU h ⟨b,o,none⟩ i vs) b (cs.take (o + i) ++ vs ++ cs.drop (o + i + vs.length)) E
 | [],h,o,i,cs,k,_=>by simpa [aU] using k
 | v :: r,h,o,i,cs,k,hl=>by
  simp only [aU,add_mk]
  simp only [List.length_cons] at hl
  have:=Blk.sets r o (i + 1) (k.set (i:=o + i) (v:=v)) (by simp; omega)
  have e1:(cs.set (o + i) v).take (o + (i + 1))=cs.take (o + i) ++ [v]:=by
   rw [show o + (i + 1)=(o + i) + 1 from by omega,List.take_succ_eq_append_getElem (by simp; omega)]
   simp [List.take_set]
   rw [List.set_eq_of_length_le (by simp; omega)]
  have e2:(cs.set (o + i) v).drop (o + (i + 1) + r.length)=cs.drop (o + i + (r.length + 1)):=by
   rw [List.drop_set_of_lt (by omega)]
   congr 1
   omega
  rw [e1,e2] at this
  simpa using this
theorem tV:∀ (vs:List Value) {h:Heap} {a:Addr} (i:Nat),(aU h a i vs).size=h.size
 | [],h,a,i=>rfl
 | v :: r,h,a,i=>by simp only [aU]; rw [tV r,jQ]
theorem lD:∀ (vs:List Value) {h:Heap} {a:Addr} (i:Nat) {j:Nat},j≠a.block->(aU h a i vs)[j]? = h[j]?
 | [],h,a,i,j,_=>rfl
 | v :: r,h,a,i,j,hj=>by simp only [aU]; rw [lD r _ hj,jg (by simpa using hj)]
theorem Ext.sets (h:Heap) {a:Addr} (i:Nat) (vs:List Value) {B:Nat} (hB:B<=a.block):Ext B h (aU h a i vs) :=
 ⟨by rw [tV]; exact Nat.le_refl _,fun j hj=>lD _ _ (by omega)⟩
/-! ### a row that is one's own -/
/-- the slice s, its elements of type E with w cells each, holds the cells xs, in a block of its own from B on (or is nil) -/
def Row (B:Nat) (h:Heap) (E w:Nat) (s:Slc) (xs:List Value):Prop :=
 xs.length=s.len * w/\s.cap<=maxLen/\((s.a=none/\s.len=0/\s.cap=0)∨∃ g cur,s.a=some ⟨g,0,none⟩/\B<=g/\Blk h g cur E/\s.len<=s.cap/\s.cap * w<=cur.length/\cur.take (s.len * w)=xs)
def Slc.blk (s:Slc):Option Nat:=match s.a with | some a=>some a.block | none=>none
theorem Row.nil (B:Nat) (h:Heap) (E w:Nat):Row B h E w ⟨none,0,0⟩ []:=⟨by simp,by simp [maxLen],.inl ⟨rfl,rfl,rfl⟩⟩
theorem Row.mono {B B':Nat} {h:Heap} {E w:Nat} {s:Slc} {xs:List Value} (r:Row B h E w s xs) (hB:B'<=B):Row B' h E w s xs:=by
 refine ⟨r.1,r.2.1,?_⟩
 rcases r.2.2 with k | ⟨g,cur,h1,h2,k⟩
 ·exact .inl k
 ·exact .inr ⟨g,cur,h1,by omega,k⟩
theorem Row.keep {B:Nat} {h h':Heap} {E w:Nat} {s:Slc} {xs:List Value} (r:Row B h E w s xs) (e:∀ g,s.blk=some g->h'[g]? = h[g]?):Row B h' E w s xs:=by
 refine ⟨r.1,r.2.1,?_⟩
 rcases r.2.2 with k | ⟨g,cur,h1,h2,h3,k⟩
 ·exact .inl k
 ·exact .inr ⟨g,cur,h1,h2,h3.old (e g (by simp [Slc.blk,h1])),k⟩
theorem Row.bd {B:Nat} {h:Heap} {E w:Nat} {s:Slc} {xs:List Value} (r:Row B h E w s xs) {g:Nat} (hg:s.blk=some g):B<=g/\g < h.size:=by
 rcases r.2.2 with ⟨k,_⟩ | ⟨g',cur,h1,h2,h3,_⟩
 ·simp [Slc.blk,k] at hg
 ·simp [Slc.blk,h1] at hg; subst hg; exact ⟨h2,h3.lt⟩
theorem Row.pushed {B:Nat} {h:Heap} {E w:Nat} {s:Slc} {xs:List Value} (r:Row B h E w s xs) (o:Obj):Row B (h.push o) E w s xs :=
 r.keep fun g hg=>(Ext.push h o (Nat.le_refl _)).block g (r.bd hg).2
theorem Row.ext {B C:Nat} {h h':Heap} {E w:Nat} {s:Slc} {xs:List Value} (r:Row B h E w s xs) (p:Ext C h h') (hC:∀ g,s.blk=some g->g < C):Row B h' E w s xs :=
 r.keep fun g hg=>p.block g (hC g hg)
/-- a cell of the row -/
theorem Row.at {B:Nat} {h:Heap} {E:Nat} {s:Slc} {xs:List Value} {w:Nat} (r:Row B h E w s xs) {j:Nat} (hj:j < s.len * w):∃ a,s.a=some a/\af h (a.add j)=xs[j]?:=by
 rcases r.2.2 with ⟨_,k,_⟩ | ⟨g,cur,h1,h2,h3,h4,h5,h6⟩
 ·rw [k] at hj; simp at hj
 ·refine ⟨_,h1,?_⟩
  rw [add_mk,Nat.zero_add,h3.cell,← h6,List.getElem?_take,if_pos hj]
theorem Row.slc {B:Nat} {h:Heap} {E w:Nat} {s:Slc} {xs:List Value} (r:Row B h E w s xs):SlcAt h s xs:=by
 rcases r.2.2 with ⟨k,k2,_⟩ | ⟨g,cur,h1,h2,h3,h4,h5,h6⟩
 ·refine ⟨fun _=>?_,fun a ha=>(by rw [k] at ha; cases ha)⟩
  have:=r.1; rw [k2] at this; simpa using this
 ·refine ⟨fun hn=>(by rw [h1] at hn; cases hn),fun a ha j v hj=>?_⟩
  rw [h1] at ha; cases ha
  rw [add_mk,Nat.zero_add,h3.cell]
  rw [← h6,List.getElem?_take] at hj
  split at hj
  ·exact hj
  ·cases hj
/-- an append to a row of one's own -/
theorem App.BR {B E w bytes:Nat} {z:List Value} {h:Heap} {s:Slc} {m:Nat} {news xs:List Value} {k:Slc->Heap->Prop} (r:Row B h E w s xs) (hB:B<=h.size) (hz:z.length=w) (hl:news.length=m * w) (h1:∀ v∈news,v.oneCell'=true)
  (hb:(s.len + m) * bytes<=140737488355328) (hm:s.len + m<=maxLen)
  (H:∀ s' h',Row B h' E w s' (xs ++ news)->s'.len=s.len + m->h.size<=h'.size->(∀ i,i < h.size->s.blk≠some i->h'[i]? = h[i]?)->((s'.blk=s.blk/\s.len + m<=s.cap)∨s'.blk=some h.size)->(∀ C t ys,Row C h E w t ys->(t.len<=s.len∨t.blk≠s.blk∨s.cap < s.len + m)->Row C h' E w t ys)->k s' h'):App E w bytes z h s m news k:=by
 refine ⟨hl,h1,hb,hm,fun hroom=>?_,fun hgrow=>?_⟩
 ·rcases r.2.2 with ⟨a0,a1,a2⟩ | ⟨g,cur,a1,a2,a3,a4,a5,a6⟩
  ·have hm0:m=0:=by omega
   subst hm0
   have hn:news=[]:=List.eq_nil_of_length_eq_zero (by simpa using hl)
   subst hn
   refine ⟨fun _=>rfl,fun a ha=>(by rw [a0] at ha; cases ha),?_⟩
   rw [a0]
   refine H _ _ ?_ rfl (Nat.le_refl _) (fun _ _ _=>rfl) (.inl ⟨by simp [Slc.blk,a0],hroom⟩) (fun _ _ _ R _=>R)
   simp only [List.append_nil]
   exact ⟨by simpa using r.1,r.2.1,.inl ⟨rfl,by simpa using a1,a2⟩⟩
  ·have hfit:s.len * w + news.length<=cur.length:=by rw [hl,← Nat.add_mul]; exact Nat.le_trans (Nat.mul_le_mul_right _ hroom) a5
   refine ⟨fun hn=>(by rw [a1] at hn; cases hn),fun a ha j hj=>?_,?_⟩
   ·rw [a1] at ha; cases ha
    rw [add_mk,add_mk]
    exact a3.wr (by omega)
   ·rw [a1]
    simp only [add_mk,Nat.zero_add]
    refine H _ _ ?_ rfl (by rw [tV]; exact Nat.le_refl _) (fun i hi hne=>lD _ _ (fun e=>hne (by simp [Slc.blk,a1,e]))) (.inl ⟨by simp [Slc.blk,a1],hroom⟩) (fun C t ys R hc=>?_)
    rotate_left
    ·have k3:=Blk.sets news (s.len * w) 0 a3 (by omega)
     refine ⟨R.1,R.2.1,?_⟩
     rcases R.2.2 with k | ⟨g',cur',b1,b2,b3,b4,b5,b6⟩
     ·exact .inl k
     ·refine .inr ?_
      by_cases hg:g'=g
      ·subst hg
       obtain ⟨rfl,_⟩:=b3.inj a3
       have hlen:t.len<=s.len:=by
        rcases hc with hc | hc | hc
        ·exact hc
        ·exact absurd (by simp [Slc.blk,a1,b1]) hc
        ·omega
       refine ⟨g',_,b1,b2,k3,b4,?_,?_⟩
       ·simp only [List.length_append,List.length_take,List.length_drop,Nat.add_zero]; omega
       ·have hm:=Nat.mul_le_mul_right w hlen
        rw [Nat.add_zero,List.append_assoc,List.take_append_of_le_length (by rw [List.length_take]; omega),List.take_take,Nat.min_eq_left hm]
        exact b6
      ·exact ⟨g',cur',b1,b2,b3.old (lD _ _ (by simpa using hg)),b4,b5,b6⟩
    have k3:=Blk.sets news (s.len * w) 0 a3 (by omega)
    refine ⟨by rw [List.length_append,r.1,hl,Nat.add_mul],r.2.1,.inr ⟨g,_,rfl,a2,k3,hroom,?_,?_⟩⟩
    ·simp only [List.length_append,List.length_take,List.length_drop,Nat.add_zero]; omega
    ·simp only [Nat.add_zero]
     rw [a6,Nat.add_mul,← r.1,← hl,← List.length_append]
     exact List.take_left
 ·refine ⟨xs,r.1,r.slc,fun c hc hcm=>?_⟩
  have hzz:(Builtin.zeroCells z.toArray (c - (s.len + m))).size=(c - (s.len + m)) * w:=by simp [size_zeroCells,hz]
  have hcells:xs.toArray ++ news.toArray ++ Builtin.zeroCells z.toArray (c - (s.len + m))=(xs ++ news ++ (Builtin.zeroCells z.toArray (c - (s.len + m))).toList).toArray:=by
   apply Array.toList_inj.1; simp
  rw [hcells]
  refine H _ _ ⟨by rw [List.length_append,r.1,hl,Nat.add_mul],hcm,.inr ⟨h.size,_,rfl,hB,Blk.push _ _ _,hc,?_,?_⟩⟩ rfl (by simp) (fun i hi _=>(Ext.push h _ (Nat.le_refl _)).block i hi) (.inr (by simp [Slc.blk])) (fun C t ys R _=>R.pushed _)
  ·simp only [List.length_append,Array.length_toList,hzz,r.1,hl,← Nat.add_mul]
   exact Nat.le_of_eq (by congr 1; omega)
  ·have:(s.len + m) * w=(xs ++ news).length:=by rw [List.length_append,r.1,hl,Nat.add_mul]
   simp only [this]
   exact List.take_left
theorem App.row {B E w bytes:Nat} {z:List Value} {h:Heap} {s:Slc} {m:Nat} {news xs:List Value} {k:Slc->Heap->Prop} (r:Row B h E w s xs) (hB:B<=h.size) (hz:z.length=w) (hl:news.length=m * w) (h1:∀ v∈news,v.oneCell'=true)
  (hb:(s.len + m) * bytes<=140737488355328) (hm:s.len + m<=maxLen)
  (H:∀ s' h',Row B h' E w s' (xs ++ news)->s'.len=s.len + m->h.size<=h'.size->(∀ i,i < h.size->s.blk≠some i->h'[i]? = h[i]?)->(s'.blk=s.blk∨s'.blk=some h.size)->k s' h'):App E w bytes z h s m news k :=
 App.BR r hB hz hl h1 hb hm fun s' h' a b c d e _=>H s' h' a b c d (e.elim (fun x=>.inl x.1) .inr)
/-! whole blocks -/
theorem aJ.eQ {h:Heap} {b E:Nat} {cs:List Value} (k:Blk h b cs E):aJ h ⟨b,0,none⟩ cs:=fun j v hj=>by rw [add_mk,Nat.zero_add,k.cell]; exact hj
theorem dE.eQ {h:Heap} {b E n:Nat} {cs:List Value} (k:Blk h b cs E) (hn:n<=cs.length):dE h ⟨b,0,none⟩ n:=fun j hj=>by rw [add_mk,Nat.zero_add]; exact k.wr (by omega)
theorem Blk.jZ {h:Heap} {b E:Nat} {cs vs:List Value} (k:Blk h b cs E) (hl:vs.length=cs.length):Blk (aU h ⟨b,0,none⟩ 0 vs) b vs E:=by
 have:=Blk.sets vs 0 0 k (by omega)
 simpa [hl] using this
theorem Row.len {B E:Nat} {h:Heap} {s:Slc} {xs:List Value} (r:Row B h E 1 s xs):s.len=xs.length:=by have:=r.1; omega
theorem Row.aZ {B b E E' w:Nat} {h:Heap} {s:Slc} {xs cs:List Value} (R:Row B h E w s xs) (L:Blk h b cs E') (hE:E≠E'):s.blk≠some b:=by
 intro hb
 rcases R.2.2 with ⟨k,_⟩ | ⟨g,cur,h1,h2,h3,_⟩
 ·simp [Slc.blk,k] at hb
 ·simp [Slc.blk,h1] at hb
  subst hb
  exact hE (h3.inj L).2
/-- all blocks but b stay -/
structure Upd (b:Nat) (h h':Heap):Prop where
 size:h.size<=h'.size
 block:∀ i,i < h.size->i≠b->h'[i]? = h[i]?
theorem Upd.trans {b:Nat} {x y z:Heap} (p:Upd b x y) (q:Upd b y z):Upd b x z :=
 ⟨Nat.le_trans p.size q.size,fun i hi hb=>(q.block i (Nat.lt_of_lt_of_le hi p.size) hb).trans (p.block i hi hb)⟩
theorem Upd.refl (b:Nat) (h:Heap):Upd b h h:=⟨Nat.le_refl _,fun _ _ _=>rfl⟩
theorem Upd.blk {b c E:Nat} {h h':Heap} {cs:List Value} (p:Upd b h h') (k:Blk h c cs E) (hc:c≠b):Blk h' c cs E:=k.old (p.block c k.lt hc)
theorem Row.yu {B B' E E' w w':Nat} {h:Heap} {s t:Slc} {xs ys:List Value} (R:Row B h E w s xs) (L:Row B' h E' w' t ys) (hE:E≠E') {g:Nat} (hs:s.blk=some g):t.blk≠some g:=by
 intro ht
 rcases L.2.2 with ⟨k,_⟩ | ⟨g',cur,h1,h2,h3,_⟩
 ·simp [Slc.blk,k] at ht
 ·simp [Slc.blk,h1] at ht
  subst ht
  exact R.aZ h3 hE hs
theorem Row.cap {B E w:Nat} {h:Heap} {s:Slc} {xs:List Value} (R:Row B h E w s xs):s.len<=s.cap:=by
 rcases R.2.2 with ⟨_,k,k2⟩ | ⟨g,cur,h1,h2,h3,h4,h5,h6⟩ <;> omega
/-! ### integers -/
theorem aY {x:Int} (h0:0<=x) (h1:x < 18446744073709551616):IntKind.u64.wrap x=x:=by
 unfold IntKind.wrap; simp [IntKind.signed,IntKind.bits]; omega
theorem az {x:Int} (h0:-9223372036854775808<=x) (h1:x < 9223372036854775808):IntKind.i64.wrap x=x:=by
 unfold IntKind.wrap; simp [IntKind.signed,IntKind.bits]; omega
end Go.Q
end
section
/- Arguments that came in; the way from a walk to the row's own words. -/
namespace Go.Q
open Go.RowKit
theorem wf_u8 {n:Int} (h:(Lit.int .u8 n).wf=true):0<=n/\n < 256:=by
 simp [Lit.wf,IntKind.min,IntKind.max,IntKind.signed,IntKind.bits] at h; omega
/-- from the walk to the row: a law answers true and has written nothing that was there -/
theorem law_calls {P:Program} {f:FuncId} {args:Array Value} {w:World}
  (H:CallsH P f args w.heap fun v h'=>∃ r:Bool,v = .bool r/\r=true/\Ext w.heap.size w.heap h') :
  Calls P f args w fun e w'=>e = .returned (.bool true)/\Below w.heap.size w w' :=
 (H w rfl).mono fun e w' ⟨v,he,hw,r,hv,hr,hx⟩=>by
  subst hr; subst hv
  exact ⟨he,hw.os,hw.tape,hw.output,hx.size,hx.block⟩
end Go.Q
end
section
/- Numbers and rows of bytes: plain laws. -/
namespace Go.Q
abbrev b8 (l:List Int):List Value:=l.map (Value.int .u8)
theorem wU8 (n:Int):IntKind.u8.wrap n=n % 256:=by unfold IntKind.wrap; simp [IntKind.signed,IntKind.bits]
theorem KR (n:Int):IntKind.u64.wrap n=n % 18446744073709551616:=by unfold IntKind.wrap; simp [IntKind.signed,IntKind.bits]
/-! bitwise, on naturals -/
theorem BQ (n a:Nat) (ha:a < 2 ^ n):(BitVec.ofInt n (a:Int)).toNat=a:=by
 rw [BitVec.toNat_ofInt,← Int.natCast_emod,Int.toNat_natCast,Nat.mod_eq_of_lt ha]
theorem LW (n a b:Nat) (ha:a < 2 ^ n) (hb:b < 2 ^ n):(BitVec.ofInt n (a:Int) ||| BitVec.ofInt n (b:Int)).toNat=a ||| b:=by
 rw [BitVec.toNat_or,BQ n a ha,BQ n b hb]
theorem ES (n a b:Nat) (ha:a < 2 ^ n) (hb:b < 2 ^ n):(BitVec.ofInt n (a:Int) &&& BitVec.ofInt n (b:Int)).toNat=a &&& b:=by
 rw [BitVec.toNat_and,BQ n a ha,BQ n b hb]
def isB (l:List Int):Prop:=∀ b∈l,0<=b/\b < 256
theorem LQ (l:List Int):∀ v∈b8 l,v.oneCell'=true:=FZ _ l
end Go.Q
end
section
/- Strings and slices of bytes; copy. -/
namespace Go.Q
def BN (l:List Int):ByteArray:=l.foldl (fun r n=>r.push (UInt8.ofNat n.toNat)) ByteArray.empty
section
variable {P:Program} {T:Tab} {e:Env} {h:Heap} {o:Oper}
theorem JZ (hT:TOk P T) {ts td el n1 b1 n2 b2 n3 b3:Nat} {z1 z2 z3:List Value} {x:Operand} {s:Slc} {l:List Int} (ho:o.op = .convert ts td x) (hx:evO e x=some s.v)
  (ht:tlk T ts=some ⟨.slice el,n1,b1,z1⟩) (hel:tlk T el=some ⟨.int .u8,n2,b2,z2⟩) (hd:tlk T td=some ⟨.string,n3,b3,z3⟩) (hl:l.length=s.len) (hs:SlcAt h s (b8 l)):Yl P e h o (.string (BN l)):=by
 intro ρ w hA hw
 subst hw
 obtain ⟨t1,k1,k3⟩:=fC hT ht
 rw [pI k3] at k1
 obtain ⟨t2,l1,l3⟩:=fC hT hel
 rw [DW l3] at l1
 obtain ⟨t3,m1,m3⟩:=fC hT hd
 rw [uZ m3] at m1
 have hc:=run_convert_bytes_string w ts td el s.a s.len s.cap k1 l1 m1
 have hv:ρ x = .slice s.a s.len s.cap:=hA _ _ hx
 have:(convert ts td (.slice s.a s.len s.cap)).run P w = .ok (.string (BN l)) w:=by
  rw [hc]
  cases ha:s.a with
  | none =>
   have:=hs.1 ha
   simp at this
   subst this
   simp [Conv.bytesToString,BN]
  | some a =>
   refine run_bytesToString w a s.len s.cap l ?_
   have:=run_loadCells_list (P:=P) (w:=w) a (b8 l) (fun j v hj=>hs.2 a ha j v hj)
   rw [List.length_map,hl] at this
   exact this
 simp [execOp,ho,hv,this]
/-- copy: so many cells of the second are written into the first -/
def Cpy (sz:Nat) (h:Heap) (d s:Slc) (news:List Value) (k:Heap->Prop):Prop :=
 (∃ all,SlcAt h s all/\all.length=s.len * sz/\news=all.take (min s.len d.len * sz))/\(∀ v∈news,v.oneCell'=true)/\(d.a=none->news=[])/\(∀ a,d.a=some a->dE h a news.length)/\k (match d.a with | some a=>aU h a 0 news | none=>h)
theorem Kh (hT:TOk P T) {t t' el n1 b1:Nat} {z1:List Value} {i:TI} {x y:Operand} {d s:Slc} {news:List Value} {k:Heap->Prop}
  (ho:o.op = .call { callee:=.builtin .copy,args:=#[x,y],argTypes:=#[t,t'] }) (hx:evO e x=some d.v) (hy:evO e y=some s.v) (ht:tlk T t=some ⟨.slice el,n1,b1,z1⟩) (hi:tlk T el=some i)
  (H:Cpy i.n h d s news k):Ya P e h o fun v h'=>v = .int .i64 (min s.len d.len:Nat)/\k h':=by
 intro ρ w hA hw
 subst hw
 obtain ⟨td,k1,k3⟩:=fC hT ht
 rw [pI k3] at k1
 obtain ⟨⟨all,a1,a2,a3⟩,h1,hn,hwr,K⟩:=H
 have hs2:SlcAt w.heap s news:=by
  refine ⟨fun h0=>?_,fun a ha j v hj=>?_⟩
  ·rw [a3,a1.1 h0]; simp
  ·rw [a3,List.getElem?_take] at hj
   split at hj
   ·exact a1.2 a ha j v hj
   ·cases hj
 have hl2:news.length=min s.len d.len * i.n:=by
  rw [a3,List.length_take,a2]
  exact Nat.min_eq_left (Nat.mul_le_mul_right _ (Nat.min_le_left _ _))
 have hf:(Builtin.firstCells i.n (min s.len d.len) s.v).run P w = .ok news.toArray w:=oJ w hl2 hs2 (fun _=>.inr trivial)
 obtain ⟨a,len,cap⟩:=d
 cases a with
 | none =>
  refine ⟨_,w,WW.self w,⟨rfl,K⟩,?_⟩
  simp only [Slc.v] at hf ⊢
  simp [execOp,ho,resolve,invoke,builtin,hA _ _ hx,hA _ _ hy,Builtin.copy_,run_underlying k1,bW (hT _ _ hi),Builtin.lenOf,goInt,Nat.min_def]
  rw [Nat.min_def] at hf
  have hf':(Builtin.firstCells i.n (if s.len<=len then s.len else len) s.v).run P w = .ok news.toArray w:=hf
  simp [hf']
 | some a =>
  obtain ⟨w',k5,k6⟩:=pG P a news 0 w (by simpa [dE] using hwr a rfl) h1
  refine ⟨_,w',⟨k5.os,k5.tape,k5.output,rfl,k5.dr⟩,⟨rfl,by rw [k5.heap]; exact K⟩,?_⟩
  simp only [Slc.v] at hf ⊢
  simp [execOp,ho,resolve,invoke,builtin,hA _ _ hx,hA _ _ hy,Builtin.copy_,run_underlying k1,bW (hT _ _ hi),Builtin.lenOf,hf,goInt,k6]
end
/-! ### arrays of numbers, each place written out -/
theorem uu {l:List Value} (h:l.all (fun v=>v.oneCell')=true):∀ v∈l,v.oneCell'=true:=fun v hv=>List.all_eq_true.1 h v hv
section
variable {P:Program} {T:Tab} {e:Env} {h:Heap} {o:Oper}
end
/-! ### functions as values -/
theorem KM (vs cap:List Value):(#[] ++ vs.toArray ++ cap.toArray:Array Value)=(vs ++ cap).toArray:=by simp
theorem IV {c:Cx} {lops:List Oper} {Q:Exit->Act->World->Prop} {K:Act->World->Prop} {l:List Oper} {e:Env} {h:Heap} {o:Oper} {f:FuncId} {x:Operand} {as':List Operand} {ts:Array TypeId} {vs cap:List Value} {Φ:Value->Heap->Prop}
  (hf:aB c.P f) (hc:CallsHD c.D c.P f (vs ++ cap).toArray h Φ) (ho:o.op = .call { callee:=.value x,args:=as'.toArray,argTypes:=ts }) (hx:evO e x=some (.func (.func f) #[] cap.toArray)) (hv:evs e as'=some vs) (hw:wnt lops e o=some true) (hd:dOk c.N o.dst=true)
  (H:∀ v h',Φ v h'->gop c lops Q K l (pu e o.dst v) h'):gop c lops Q K (o :: l) e h:=by
 have:=zz (P:=c.P) (e:=e) (o:=o) hf ho hx hv
 rw [KM] at this
 exact w_c hc this hw hd H
theorem Mk {P:Program} {e:Env} {h:Heap} {o:Oper} {fn:Fn} {as':List Operand} {vs:List Value} (ho:o.op = .makeFunc fn #[] as'.toArray) (hv:evs e as'=some vs):Yl P e h o (.func fn #[] vs.toArray):=by
 intro ρ w hA hw
 have hm:=wz hA _ _ hv
 simp [execOp,ho,Instr.makeFunc,hm]
end Go.Q
end
section
namespace Go.Q.Yi
structure ah where
 oZ:Int
 cZ:Int
 mg:Int
 sw:Int
 sH:Int
 Db:Bool
 dR:Slc
 nK:Slc
def ah.cs (x:ah):List Value:=[.int .i64 x.oZ,.int .u64 x.cZ,.int .u64 x.mg,.int .u64 x.sw,.int .u64 x.sH,.bool x.Db,Slc.v x.dR,Slc.v x.nK]
structure aG where
 uz:Int
 f_M:ah
def aG.cs (x:aG):List Value:=[.int .i64 x.uz] ++ (ah.cs x.f_M)
structure S_quaestorlaw26_Act where
 oZ:Int
 f_N:Int
 KO:Int
def S_quaestorlaw26_Act.cs (x:S_quaestorlaw26_Act):List Value:=[.int .i64 x.oZ,.int .i64 x.f_N,.int .i64 x.KO]
structure bJ where
 f_L:Slc
 FC:Slc
 Jk:Slc
 FP:Slc
 Mh:Bool
def bJ.cs (x:bJ):List Value:=[Slc.v x.f_L,Slc.v x.FC,Slc.v x.Jk,Slc.v x.FP,.bool x.Mh]
structure ax where
 f_R:Option Addr
 f_S:Option Addr
def ax.cs (x:ax):List Value:=[.pointer x.f_R,.pointer x.f_S]
structure ae where
 cZ:Int
 oH:Slc
def ae.cs (x:ae):List Value:=[.int .u64 x.cZ,Slc.v x.oH]
structure aD where
 cZ:Int
 za:Int
 MJ:Option Addr
 nK:Slc
def aD.cs (x:aD):List Value:=[.int .u64 x.cZ,.int .i64 x.za,.pointer x.MJ,Slc.v x.nK]
structure aH where
 mg:Int
 cZ:Int
 f_L:Slc
def aH.cs (x:aH):List Value:=[.int .u64 x.mg,.int .u64 x.cZ,Slc.v x.f_L]
structure ja where
 NU:Int
 f_n:Int
 D9:Int
 Lc:Int
 Mi:Option Addr
 Kz:Slc
 GU:Int
 Lx:Int
 G6:Int
 IE:Int
 F6:Option Addr
 LU:Slc
 Nc:Slc
 IM:Slc
def ja.cs (x:ja):List Value:=[.int .i64 x.NU,.int .i64 x.f_n,.int .u64 x.D9,.int .i64 x.Lc,.pointer x.Mi,Slc.v x.Kz,.int .u64 x.GU,.int .i64 x.Lx,.int .i64 x.G6,.int .i64 x.IE,.pointer x.F6,Slc.v x.LU,Slc.v x.Nc,Slc.v x.IM]
structure aj where
 oZ:Int
 cZ:Int
 za:Int
 mg:Int
 dR:Slc
 nK:Slc
def aj.cs (x:aj):List Value:=[.int .i64 x.oZ,.int .u64 x.cZ,.int .i64 x.za,.int .u64 x.mg,Slc.v x.dR,Slc.v x.nK]
structure ai where
 uw:Int
 Dt:Int
 f_M:ah
def ai.cs (x:ai):List Value:=[.int .i64 x.uw,.int .i64 x.Dt] ++ (ah.cs x.f_M)
structure mE where
 Ju:Int
 D9:Int
 f_l:Slc
def mE.cs (x:mE):List Value:=[.int .u64 x.Ju,.int .u64 x.D9,Slc.v x.f_l]
structure iZ where
 f_n:Int
 Nb:Int
def iZ.cs (x:iZ):List Value:=[.int .i64 x.f_n,.int .u64 x.Nb]
def tab:Tab:=[
 (1,⟨.func,1,8,[.nilFunc]⟩),
 (2,⟨.int .i64,1,8,[.int .i64 0]⟩),
 (3,⟨.int .i64,1,8,[.int .i64 0]⟩),
 (4,⟨.bool,1,1,[.bool false]⟩),
 (5,⟨.int .u8,1,1,[.int .u8 0]⟩),
 (6,⟨.int .u8,1,1,[.int .u8 0]⟩),
 (7,⟨.struct [(2,0),(3,1),(4,2),(6,3)],4,24,[.int .i64 0,.int .i64 0,.bool false,.int .u8 0]⟩),
 (8,⟨.struct [(2,0),(3,1),(4,2),(6,3)],4,24,[.int .i64 0,.int .i64 0,.bool false,.int .u8 0]⟩),
 (9,⟨.string,1,16,[.string ByteArray.empty]⟩),
 (10,⟨.string,1,16,[.string ByteArray.empty]⟩),
 (11,⟨.string,1,16,[.string ByteArray.empty]⟩),
 (12,⟨.int .u64,1,8,[.int .u64 0]⟩),
 (13,⟨.struct [(9,0),(12,1)],2,24,[.string ByteArray.empty,.int .u64 0]⟩),
 (14,⟨.struct [(9,0),(12,1)],2,24,[.string ByteArray.empty,.int .u64 0]⟩),
 (15,⟨.pointer 169,1,8,[.pointer none]⟩),
 (16,⟨.pointer 172,1,8,[.pointer none]⟩),
 (17,⟨.pointer 180,1,8,[.pointer none]⟩),
 (18,⟨.struct [(17,0)],1,8,[.pointer none]⟩),
 (19,⟨.struct [(17,0)],1,8,[.pointer none]⟩),
 (20,⟨.iface,1,16,[.nilIface]⟩),
 (21,⟨.int .i32,1,4,[.int .i32 0]⟩),
 (22,⟨.int .u64,1,8,[.int .u64 0]⟩),
 (23,⟨.slice 65,1,24,[.slice none 0 0]⟩),
 (24,⟨.slice 5,1,24,[.slice none 0 0]⟩),
 (25,⟨.struct [(3,0),(22,1),(22,2),(22,3),(22,4),(4,5),(23,6),(24,7)],8,96,[.int .i64 0,.int .u64 0,.int .u64 0,.int .u64 0,.int .u64 0,.bool false,.slice none 0 0,.slice none 0 0]⟩),
 (26,⟨.struct [(3,0),(22,1),(22,2),(22,3),(22,4),(4,5),(23,6),(24,7)],8,96,[.int .i64 0,.int .u64 0,.int .u64 0,.int .u64 0,.int .u64 0,.bool false,.slice none 0 0,.slice none 0 0]⟩),
 (27,⟨.func,1,8,[.nilFunc]⟩),
 (28,⟨.func,1,8,[.nilFunc]⟩),
 (29,⟨.func,1,8,[.nilFunc]⟩),
 (30,⟨.int .i64,1,8,[.int .i64 0]⟩),
 (32,⟨.func,1,8,[.nilFunc]⟩),
 (33,⟨.func,1,8,[.nilFunc]⟩),
 (34,⟨.func,1,8,[.nilFunc]⟩),
 (35,⟨.slice 3,1,24,[.slice none 0 0]⟩),
 (36,⟨.slice 26,1,24,[.slice none 0 0]⟩),
 (37,⟨.pointer 94,1,8,[.pointer none]⟩),
 (38,⟨.func,1,8,[.nilFunc]⟩),
 (39,⟨.slice 45,1,24,[.slice none 0 0]⟩),
 (40,⟨.func,1,8,[.nilFunc]⟩),
 (41,⟨.func,1,8,[.nilFunc]⟩),
 (42,⟨.func,1,8,[.nilFunc]⟩),
 (43,⟨.func,1,8,[.nilFunc]⟩),
 (44,⟨.struct [(3,0),(26,1)],9,104,[.int .i64 0,.int .i64 0,.int .u64 0,.int .u64 0,.int .u64 0,.int .u64 0,.bool false,.slice none 0 0,.slice none 0 0]⟩),
 (45,⟨.struct [(3,0),(26,1)],9,104,[.int .i64 0,.int .i64 0,.int .u64 0,.int .u64 0,.int .u64 0,.int .u64 0,.bool false,.slice none 0 0,.slice none 0 0]⟩),
 (46,⟨.func,1,8,[.nilFunc]⟩),
 (47,⟨.slice 52,1,24,[.slice none 0 0]⟩),
 (48,⟨.pointer 56,1,8,[.pointer none]⟩),
 (49,⟨.func,1,8,[.nilFunc]⟩),
 (50,⟨.func,1,8,[.nilFunc]⟩),
 (51,⟨.struct [(3,0),(3,1),(3,2)],3,24,[.int .i64 0,.int .i64 0,.int .i64 0]⟩),
 (52,⟨.struct [(3,0),(3,1),(3,2)],3,24,[.int .i64 0,.int .i64 0,.int .i64 0]⟩),
 (53,⟨.slice 60,1,24,[.slice none 0 0]⟩),
 (54,⟨.slice 109,1,24,[.slice none 0 0]⟩),
 (55,⟨.struct [(53,0),(54,1),(23,2),(35,3),(4,4)],5,104,[.slice none 0 0,.slice none 0 0,.slice none 0 0,.slice none 0 0,.bool false]⟩),
 (56,⟨.struct [(53,0),(54,1),(23,2),(35,3),(4,4)],5,104,[.slice none 0 0,.slice none 0 0,.slice none 0 0,.slice none 0 0,.bool false]⟩),
 (57,⟨.func,1,8,[.nilFunc]⟩),
 (58,⟨.pointer 73,1,8,[.pointer none]⟩),
 (59,⟨.struct [(37,0),(58,1)],2,16,[.pointer none,.pointer none]⟩),
 (60,⟨.struct [(37,0),(58,1)],2,16,[.pointer none,.pointer none]⟩),
 (62,⟨.func,1,8,[.nilFunc]⟩),
 (63,⟨.func,1,8,[.nilFunc]⟩),
 (64,⟨.struct [(22,0),(24,1)],2,32,[.int .u64 0,.slice none 0 0]⟩),
 (65,⟨.struct [(22,0),(24,1)],2,32,[.int .u64 0,.slice none 0 0]⟩),
 (67,⟨.func,1,8,[.nilFunc]⟩),
 (68,⟨.func,1,8,[.nilFunc]⟩),
 (70,⟨.func,1,8,[.nilFunc]⟩),
 (71,⟨.pointer 75,1,8,[.pointer none]⟩),
 (72,⟨.struct [(22,0),(3,1),(71,2),(24,3)],4,48,[.int .u64 0,.int .i64 0,.pointer none,.slice none 0 0]⟩),
 (73,⟨.struct [(22,0),(3,1),(71,2),(24,3)],4,48,[.int .u64 0,.int .i64 0,.pointer none,.slice none 0 0]⟩),
 (74,⟨.struct [(22,0),(22,1),(23,2)],3,40,[.int .u64 0,.int .u64 0,.slice none 0 0]⟩),
 (75,⟨.struct [(22,0),(22,1),(23,2)],3,40,[.int .u64 0,.int .u64 0,.slice none 0 0]⟩),
 (77,⟨.func,1,8,[.nilFunc]⟩),
 (78,⟨.func,1,8,[.nilFunc]⟩),
 (79,⟨.func,1,8,[.nilFunc]⟩),
 (80,⟨.func,1,8,[.nilFunc]⟩),
 (81,⟨.slice 22,1,24,[.slice none 0 0]⟩),
 (82,⟨.func,1,8,[.nilFunc]⟩),
 (83,⟨.func,1,8,[.nilFunc]⟩),
 (84,⟨.pointer 86,1,8,[.pointer none]⟩),
 (85,⟨.struct [(24,0),(4,1)],2,32,[.slice none 0 0,.bool false]⟩),
 (86,⟨.struct [(24,0),(4,1)],2,32,[.slice none 0 0,.bool false]⟩),
 (87,⟨.func,1,8,[.nilFunc]⟩),
 (88,⟨.func,1,8,[.nilFunc]⟩),
 (89,⟨.pointer 117,1,8,[.pointer none]⟩),
 (90,⟨.func,1,8,[.nilFunc]⟩),
 (91,⟨.pointer 123,1,8,[.pointer none]⟩),
 (92,⟨.slice 107,1,24,[.slice none 0 0]⟩),
 (93,⟨.struct [(3,0),(3,1),(22,2),(3,3),(89,4),(24,5),(22,6),(3,7),(3,8),(3,9),(91,10),(81,11),(81,12),(92,13)],14,176,[.int .i64 0,.int .i64 0,.int .u64 0,.int .i64 0,.pointer none,.slice none 0 0,.int .u64 0,.int .i64 0,.int .i64 0,.int .i64 0,.pointer none,.slice none 0 0,.slice none 0 0,.slice none 0 0]⟩),
 (94,⟨.struct [(3,0),(3,1),(22,2),(3,3),(89,4),(24,5),(22,6),(3,7),(3,8),(3,9),(91,10),(81,11),(81,12),(92,13)],14,176,[.int .i64 0,.int .i64 0,.int .u64 0,.int .i64 0,.pointer none,.slice none 0 0,.int .u64 0,.int .i64 0,.int .i64 0,.int .i64 0,.pointer none,.slice none 0 0,.slice none 0 0,.slice none 0 0]⟩),
 (95,⟨.func,1,8,[.nilFunc]⟩),
 (96,⟨.func,1,8,[.nilFunc]⟩),
 (97,⟨.func,1,8,[.nilFunc]⟩),
 (98,⟨.func,1,8,[.nilFunc]⟩),
 (99,⟨.func,1,8,[.nilFunc]⟩),
 (100,⟨.func,1,8,[.nilFunc]⟩),
 (101,⟨.func,1,8,[.nilFunc]⟩),
 (102,⟨.func,1,8,[.nilFunc]⟩),
 (103,⟨.func,1,8,[.nilFunc]⟩),
 (104,⟨.func,1,8,[.nilFunc]⟩),
 (105,⟨.func,1,8,[.nilFunc]⟩),
 (106,⟨.struct [(3,0),(22,1),(3,2),(22,3),(23,4),(24,5)],6,80,[.int .i64 0,.int .u64 0,.int .i64 0,.int .u64 0,.slice none 0 0,.slice none 0 0]⟩),
 (107,⟨.struct [(3,0),(22,1),(3,2),(22,3),(23,4),(24,5)],6,80,[.int .i64 0,.int .u64 0,.int .i64 0,.int .u64 0,.slice none 0 0,.slice none 0 0]⟩),
 (108,⟨.struct [(3,0),(3,1),(26,2)],10,112,[.int .i64 0,.int .i64 0,.int .i64 0,.int .u64 0,.int .u64 0,.int .u64 0,.int .u64 0,.bool false,.slice none 0 0,.slice none 0 0]⟩),
 (109,⟨.struct [(3,0),(3,1),(26,2)],10,112,[.int .i64 0,.int .i64 0,.int .i64 0,.int .u64 0,.int .u64 0,.int .u64 0,.int .u64 0,.bool false,.slice none 0 0,.slice none 0 0]⟩),
 (110,⟨.func,1,8,[.nilFunc]⟩),
 (112,⟨.func,1,8,[.nilFunc]⟩),
 (113,⟨.int .u64,1,8,[.int .u64 0]⟩),
 (115,⟨.func,1,8,[.nilFunc]⟩),
 (116,⟨.struct [(22,0),(22,1),(23,2)],3,40,[.int .u64 0,.int .u64 0,.slice none 0 0]⟩),
 (117,⟨.struct [(22,0),(22,1),(23,2)],3,40,[.int .u64 0,.int .u64 0,.slice none 0 0]⟩),
 (118,⟨.func,1,8,[.nilFunc]⟩),
 (119,⟨.func,1,8,[.nilFunc]⟩),
 (120,⟨.func,1,8,[.nilFunc]⟩),
 (121,⟨.func,1,8,[.nilFunc]⟩),
 (122,⟨.struct [(3,0),(22,1)],2,16,[.int .i64 0,.int .u64 0]⟩),
 (123,⟨.struct [(3,0),(22,1)],2,16,[.int .i64 0,.int .u64 0]⟩),
 (124,⟨.func,1,8,[.nilFunc]⟩),
 (125,⟨.func,1,8,[.nilFunc]⟩),
 (126,⟨.func,1,8,[.nilFunc]⟩),
 (127,⟨.func,1,8,[.nilFunc]⟩),
 (129,⟨.func,1,8,[.nilFunc]⟩),
 (130,⟨.func,1,8,[.nilFunc]⟩),
 (131,⟨.func,1,8,[.nilFunc]⟩),
 (132,⟨.func,1,8,[.nilFunc]⟩),
 (134,⟨.func,1,8,[.nilFunc]⟩),
 (135,⟨.func,1,8,[.nilFunc]⟩),
 (136,⟨.func,1,8,[.nilFunc]⟩),
 (137,⟨.int .u32,1,4,[.int .u32 0]⟩),
 (139,⟨.func,1,8,[.nilFunc]⟩),
 (140,⟨.func,1,8,[.nilFunc]⟩),
 (141,⟨.func,1,8,[.nilFunc]⟩),
 (142,⟨.func,1,8,[.nilFunc]⟩),
 (143,⟨.func,1,8,[.nilFunc]⟩),
 (144,⟨.func,1,8,[.nilFunc]⟩),
 (145,⟨.func,1,8,[.nilFunc]⟩),
 (146,⟨.func,1,8,[.nilFunc]⟩),
 (147,⟨.func,1,8,[.nilFunc]⟩),
 (148,⟨.func,1,8,[.nilFunc]⟩),
 (149,⟨.func,1,8,[.nilFunc]⟩),
 (150,⟨.func,1,8,[.nilFunc]⟩),
 (151,⟨.int .i64,1,8,[.int .i64 0]⟩),
 (153,⟨.func,1,8,[.nilFunc]⟩),
 (154,⟨.func,1,8,[.nilFunc]⟩),
 (155,⟨.func,1,8,[.nilFunc]⟩),
 (157,⟨.func,1,8,[.nilFunc]⟩),
 (158,⟨.func,1,8,[.nilFunc]⟩),
 (159,⟨.int .u64,1,8,[.int .u64 0]⟩),
 (160,⟨.func,1,8,[.nilFunc]⟩),
 (161,⟨.func,1,8,[.nilFunc]⟩),
 (162,⟨.pointer 3,1,8,[.pointer none]⟩),
 (163,⟨.func,1,8,[.nilFunc]⟩),
 (164,⟨.pointer 159,1,8,[.pointer none]⟩),
 (166,⟨.func,1,8,[.nilFunc]⟩),
 (167,⟨.func,1,8,[.nilFunc]⟩),
 (168,⟨.struct [(17,0),(17,1),(17,2),(9,3)],4,40,[.pointer none,.pointer none,.pointer none,.string ByteArray.empty]⟩),
 (169,⟨.struct [(17,0),(17,1),(17,2),(9,3)],4,40,[.pointer none,.pointer none,.pointer none,.string ByteArray.empty]⟩),
 (170,⟨.array 0 16,0,0,[]⟩),
 (171,⟨.struct [(170,0)],0,0,[]⟩),
 (172,⟨.struct [(170,0)],0,0,[]⟩),
 (173,⟨.int .u8,1,1,[.int .u8 0]⟩),
 (174,⟨.int .u8,1,1,[.int .u8 0]⟩),
 (175,⟨.func,1,8,[.nilFunc]⟩),
 (176,⟨.pointer 5,1,8,[.pointer none]⟩),
 (177,⟨.int .i32,1,4,[.int .i32 0]⟩),
 (178,⟨.int .i32,1,4,[.int .i32 0]⟩),
 (179,⟨.struct [(12,0),(12,1),(137,2),(173,3),(5,4),(5,5),(174,6),(175,7),(176,8),(177,9),(178,10)],11,48,[.int .u64 0,.int .u64 0,.int .u32 0,.int .u8 0,.int .u8 0,.int .u8 0,.int .u8 0,.nilFunc,.pointer none,.int .i32 0,.int .i32 0]⟩),
 (180,⟨.struct [(12,0),(12,1),(137,2),(173,3),(5,4),(5,5),(174,6),(175,7),(176,8),(177,9),(178,10)],11,48,[.int .u64 0,.int .u64 0,.int .u32 0,.int .u8 0,.int .u8 0,.int .u8 0,.int .u8 0,.nilFunc,.pointer none,.int .i32 0,.int .i32 0]⟩)]
theorem Z:TOk Go.Proofs.Try.prog tab:=Gb (by kernel_rfl)
end Go.Q.Yi
end
section
/- Effects that have no order among themselves: whichever comes first. -/
namespace Go.Q
section
variable {c:Cx} {lops:List Oper} {Q:Exit->Act->World->Prop} {done dead:List Nat} {pend D:List Pn} {e:Env} {h:Heap} {listed:Array Bool} {a:Act}
/-- operation i comes up -/
def Jl (c:Cx) (lops:List Oper) (Q:Exit->Act->World->Prop) (done dead:List Nat) (pend:List Pn) (e:Env) (h:Heap) (i:Nat):Prop :=
 ∀ fuel D listed a w,cnt listed<=fuel + 1->Inv c lops done dead pend e D listed a->WW c.D c.W0 h w->i ∉ done->un listed i->(∀ p,gy lops p i=true->¬ un listed p) ->
  wpOp c.P lops.toArray Q i (wpAny c.P .any lops.toArray Q fuel (listed.setIfInBounds i true)) a w
def Ii (lops:List Oper) (done dead dead' A:List Nat) (i:Nat):Bool:=!mem done i && !mem dead i && AB lops i A && dead'.all fun x=>mem A x || mem dead x
def HV (lops:List Oper) (done L:List Nat):Bool :=
 (List.range lops.length).all fun j=>mem (L ++ done) j || (List.range j).any fun p=>gy lops p j && !mem done p
theorem Lu (i:Nat) (A dead':List Nat) {o:Oper} {Φ:Value->Heap->Prop} {ei:Env} (hwf:wfR lops=true) (hp:PFs c lops h dead pend) (hside:Ii lops done dead dead' A i=true) (hs:Sub ei e) (hk:qa lops done i ei=true)
  (ho:lops[i]? = some o) (hdk:dOk c.N o.dst=true) (hw:wnt lops ei o=some true) (hy:YE c.D c.P ei h o Φ)
  (H:∀ v h',Φ v h'->Sim c lops Q (i :: done) dead' pend (pu e o.dst v) h'):Jl c lops Q done dead pend e h i:=by
 simp only [wfR,Bool.and_eq_true] at hwf
 simp only [Ii,Bool.and_eq_true,Bool.not_eq_true',List.all_eq_true,Bool.or_eq_true] at hside
 obtain ⟨⟨⟨hi,hid⟩,hA⟩,hdd⟩:=hside
 have hlt:i < lops.length:=(List.getElem?_eq_some_iff.1 ho).1
 have hi':=qW hi
 intro fuel D listed a w hf I hww hj hu hpre
 have hjl:=hlt
 obtain ⟨j,hji⟩:∃ j,j=i:=⟨i,rfl⟩
 subst hji
 have av:Fr c.N ei a:=I.fr (x:=⟨j,undef,ei⟩) hu (I.look hwf.2 hs hk) hpre
 have hds:dst? lops j=o.dst:=by simp [dst?,ho]
 unfold wpOp
 simp only [List.getElem?_toArray,ho,mH hw av,if_true]
 left
 refine hy a w av.agr hww.heap _ _ fun v w' hw' hΦ=>?_
 have I1:=I.fix (v:=v) hwf.2 hi' (qW hid) hlt hs hk
 have I2:=I1.come hwf.2 (x:=⟨j,v,ei⟩) (by simp) hu hpre (by rw [hds]; exact hdk)
 rw [hds] at I2
 -- those that 'i' waited for have come up
 have anc:∀ n x,lops.length - x<=n->x∈A->¬ un listed x:=by
  intro n
  induction n with
  | zero =>
   intro x hx hxA
   simp only [AB,List.all_eq_true,List.any_eq_true] at hA
   obtain ⟨b,_,hb⟩:=hA x hxA
   have:=rO hwf.1 hb
   omega
  | succ n ih =>
   intro x hx hxA
   have hA':=hA
   simp only [AB,List.all_eq_true,List.any_eq_true] at hA'
   obtain ⟨b,hbm,hb⟩:=hA' x hxA
   have hbl:=rO hwf.1 hb
   rcases List.mem_cons.1 hbm with rfl | hbm
   ·exact hpre x hb
   ·exact I.dc b hbl.2 (ih b (by omega) hbm) x hb
 refine H v w'.heap hΦ fuel (⟨j,v,ei⟩ :: D) _ _ _ (by have:=vo hu; omega) ?_ (hww.trans hw')
 have pl:∀ x∈(⟨j,v,ei⟩:Pn) :: D,un (listed.setIfInBounds j true) x.j->x∈pend/\x.j ∉ dead':=fun x hx hl=>by
  obtain ⟨h1,h3⟩:=I2.pd x hx hl
  have h2:=(D6 (Cq hu)).1 hl
  rcases List.mem_cons.1 h1 with rfl | h1
  ·exact absurd rfl h2.2
  ·refine ⟨h1,fun hh=>?_⟩
   rcases hdd x.j hh with hA1 | hA1
   ·exact anc _ _ (Nat.le_refl _) (mem_iff.1 hA1) h2.1
   ·exact h3 (mem_iff.1 hA1)
 exact ⟨I2.sz,I2.d,I2.n,I2.jd,I2.dj,I2.uq,I2.dn,I2.dc,pl,fun x hx=>I2.pin x (List.mem_cons_of_mem _ hx),I2.val,I2.env,I2.ops⟩
/-- two effects, in either order -/
theorem KN (i j:Nat) {A B:Prop} (hwf:wfR lops=true) (hp:PFs c lops h dead pend) (honly:HV lops done [i,j]=true) (hi:(!mem done i && Nat.blt i lops.length)=true) (H:A/\B) (h1:A->Jl c lops Q done dead pend e h i) (h2:B->Jl c lops Q done dead pend e h j):Sim c lops Q done dead pend e h:=by
 simp only [wfR,Bool.and_eq_true] at hwf
 simp only [Bool.and_eq_true,Bool.not_eq_true',Nat.blt_eq] at hi
 refine zh hwf.1 hwf.2 hp (fun D listed a w I hw hn=>absurd (I.dn i hi.2 (hn i)) (qW hi.1)) fun fuel D listed a w x hf I hww hx hxl hu hpre=>?_
 simp only [HV,List.all_eq_true,List.mem_range,Bool.or_eq_true,List.any_eq_true,Bool.and_eq_true,Bool.not_eq_true'] at honly
 rcases honly x hxl with h3 | ⟨p,hpj,hp1,hp2⟩
 ·rcases List.mem_append.1 (mem_iff.1 h3) with h4 | h4
  ·simp only [List.mem_cons,List.not_mem_nil,or_false] at h4
   rcases h4 with rfl | rfl
   ·exact h1 H.1 fuel D listed a w hf I hww hx hu hpre
   ·exact h2 H.2 fuel D listed a w hf I hww hx hu hpre
  ·exact absurd h4 hx
 ·exact absurd (I.dn p (by omega) (hpre p hp1)) (qW hp2)
end
end Go.Q
end
section
/- A call of a function value in a region that draws its order. -/
namespace Go.Q
section
variable {c:Cx} {lops:List Oper} {Q:Exit->Act->World->Prop} {done dead:List Nat} {pend:List Pn} {e:Env} {h:Heap}
end
end Go.Q
end
section
/- Short words for what the printed proofs say often. -/
namespace Go.Q
open Go.RowKit
abbrev ad (b:Nat):Addr:=⟨b,0,none⟩
abbrev pt (b:Nat):Value:=.pointer (some ⟨b,0,none⟩)
section
variable {c:Cx} {lops:List Oper} {Q:Exit->Act->World->Prop} {done dead:List Nat} {pend D:List Pn} {e:Env} {h:Heap}
end
section
variable {c:Cx} {lops l:List Oper} {x:Code} {Q:Exit->Act->World->Prop} {K:Act->World->Prop} {e:Env} {h:Heap}
theorem xJ {α:Type} {E:α->Env} {Φ:α->Heap->Prop} (s:α) (H:Φ s h) (hs:Sub (E s) e:=by repeat (first | exact trivial | refine ⟨rfl,?_⟩)):gex c (Exit.then (Jn c E Φ) Q) .normal e h:=Ll s H hs
theorem wJ {α:Type} {E:α->Env} {Φ:α->Heap->Prop} (s:α) (H:Φ s h) (hs:Sub (E s) e:=by repeat (first | exact trivial | refine ⟨rfl,?_⟩)):gop c lops Q (Jn c E Φ) [] e h:=Mv s H hs
end
end Go.Q
end

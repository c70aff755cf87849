/- A part of the proof of statements of this seat: lemmas, no statement of their own. -/
import Derived.Test.YtmilimlmimckbaaGreatDoorYoZab
import Derived.OpenShut
import Derived.Test.YtmilimlmimckbaaGreatDoorYoZac
import Derived.Laws.BytesString
set_option linter.unusedVariables false
set_option linter.unusedSimpArgs false
section
namespace Go.Q
structure Ext (B:Nat) (h h':zaa):Prop where
 size:h.size<=h'.size
 block:∀ i,i<B->h'[i]? = h[i]?
theorem Ext.refl (B:Nat) (h:zaa):Ext B h h:=⟨Nat.le_refl _,fun _ _=>rfl⟩
theorem Ext.trans {B:Nat} {a b c:zaa} (p:Ext B a b) (q:Ext B b c):Ext B a c:=⟨Nat.le_trans p.size q.size,fun i hi=>(q.block i hi).trans (p.block i hi)⟩
theorem Ext.mono {B B':Nat} {a b:zaa} (p:Ext B a b) (h:B'<=B):Ext B' a b:=⟨p.size,fun i hi=>p.block i (Nat.lt_of_lt_of_le hi h)⟩
theorem Ext.push (h:zaa) (o:Obj) {B:Nat} (hB:B<=h.size):Ext B h (h.push o) :=
 ⟨by simp,fun i hi=>by rw [Array.getElem?_push,if_neg (by omega)]⟩
theorem setH_other {h:zaa} {a:Addr} {v:Value} {i:Nat} (hi:i≠a.block):(zd7 h a v)[i]? = h[i]?:=by
 unfold zd7;rw [Array.getElem?_modify,if_neg (fun e=>hi e.symm)]
theorem setH_size {h:zaa} {a:Addr} {v:Value}:(zd7 h a v).size=h.size:=by simp [zd7]
theorem Ext.set (h:zaa) {a:Addr} (v:Value) {B:Nat} (hB:B<=a.block):Ext B h (zd7 h a v) :=
 ⟨by rw [setH_size];exact Nat.le_refl _,fun i hi=>setH_other (by omega)⟩
theorem zi3 {h h':zaa} {a:Addr} (e:h'[a.block]? = h[a.block]?):zab h' a=zab h a:=by simp [zab,e]
theorem Ext.cell {B:Nat} {h h':zaa} (p:Ext B h h') {a:Addr} (ha:a.block<B):zab h' a=zab h a:=zi3 (p.block _ ha)
theorem zdu {h:zaa} {a:Addr} {v:Value} (hc:zab h a=some v):a.block<h.size:=by
 unfold zab at hc;rcases Nat.lt_or_ge a.block h.size with h1 | h1
 ·exact h1
 ·rw [Array.getElem?_eq_none h1] at hc;cases hc
theorem Ext.cellAt {h h':zaa} (p:Ext h.size h h') {a:Addr} {v:Value} (hc:zab h a=some v):zab h' a=some v:=by rw [p.cell (zdu hc)];exact hc
@[simp] theorem add_mk (b o i:Nat):(⟨b,o,none⟩:Addr).add i=⟨b,o+i,none⟩:=by unfold Addr.add;split <;> simp_all
@[simp] theorem add_block (a:Addr) (i:Nat):(a.add i).block=a.block:=by unfold Addr.add;split <;> rfl
def Blk (h:zaa) (b:Nat) (cs:List Value) (E:Nat):Prop:=∃ lo hi,h[b]? = some (.cells cs.toArray E (lo,hi))/\(hi<=lo∨cs.length<=lo)
theorem Blk.lt {h:zaa} {b E:Nat} {cs:List Value} (k:Blk h b cs E):b<h.size:=by obtain⟨_,_,k,_⟩:=k;exact(Array.getElem?_eq_some_iff.1 k).1
theorem Blk.cell {h:zaa} {b E i:Nat} {cs:List Value} (k:Blk h b cs E):zab h ⟨b,i,none⟩=cs[i]?:=by obtain⟨_,_,k,_⟩:=k;simp [zab,show h[b]? = _ from k]
theorem Blk.froz {h:zaa} {b E i:Nat} {cs:List Value} (k:Blk h b cs E) (hi:i<cs.length):zq6 h ⟨b,i,none⟩=false:=by obtain⟨lo,hh,k,d⟩:=k;simp [zq6,show h[b]? = _ from k];omega
theorem Blk.wr {h:zaa} {b E i:Nat} {cs:List Value} (k:Blk h b cs E) (hi:i<cs.length):WrH h ⟨b,i,none⟩:=⟨⟨cs[i],by rw [k.cell];simp [hi]⟩,k.froz hi⟩
theorem Blk.push (h:zaa) (cs:List Value) (E:Nat):Blk (h.push (.cells cs.toArray E)) h.size cs E:=⟨0,0,by simp,.inl (Nat.le_refl _)⟩
theorem Blk.pushM (h:zaa) (cs:List Value) (E:Nat) {lo hi:Nat} (hl:cs.length<=lo):Blk (h.push (.cells cs.toArray E (lo,hi))) h.size cs E:=⟨lo,hi,by simp,.inr hl⟩
theorem Blk.old {h h':zaa} {b E:Nat} {cs:List Value} (k:Blk h b cs E) (e:h'[b]? = h[b]?):Blk h' b cs E:=by rw [Blk,e];exact k
theorem Blk.ext {h h':zaa} {b B E:Nat} {cs:List Value} (k:Blk h b cs E) (p:Ext B h h') (hb:b<B):Blk h' b cs E:=k.old (p.block b hb)
theorem Blk.pushed {h:zaa} {b E:Nat} {cs:List Value} (k:Blk h b cs E) (o:Obj):Blk (h.push o) b cs E:=k.old ((Ext.push h o (Nat.le_refl _)).block b k.lt)
theorem Blk.set {h:zaa} {b E i:Nat} {cs:List Value} {v:Value} (k:Blk h b cs E):Blk (zd7 h ⟨b,i,none⟩ v) b (cs.set i v) E:=by
 obtain⟨lo,hi,k,d⟩:=k;refine⟨lo,hi,?_,by simpa using d⟩;unfold zd7 at *;rw [Array.getElem?_modify,if_pos rfl,k];simp
theorem Blk.inj {h:zaa} {b E E':Nat} {cs cs':List Value} (k:Blk h b cs E) (k':Blk h b cs' E'):cs=cs'/\E=E':=by
 obtain⟨_,_,k,_⟩:=k;obtain⟨_,_,k',_⟩:=k';have e:=k.symm.trans k';simp at e;exact⟨e.1,e.2.1⟩
theorem Blk.sets {E b:Nat}:∀(vs:List Value) {h:zaa} (o i:Nat) {cs:List Value} (k:Blk h b cs E),o+i+vs.length<=cs.length ->
  Blk (zak h ⟨b,o,none⟩ i vs) b (cs.take (o+i)++vs++cs.drop (o+i+vs.length)) E
 | [],h,o,i,cs,k,_=>by simpa [zak] using k
 | v :: r,h,o,i,cs,k,hl=>by
  simp only [zak,add_mk];simp only [List.length_cons] at hl;have:=Blk.sets r o (i+1) (k.set (i:=o+i) (v:=v)) (by simp;omega)
  have e1:(cs.set (o+i) v).take (o+(i+1))=cs.take (o+i)++[v]:=by
   rw [show o+(i+1)=(o+i)+1 from by omega,List.take_succ_eq_append_getElem (by simp;omega)];simp [List.take_set];rw [List.set_eq_of_length_le (by simp;omega)]
  have e2:(cs.set (o+i) v).drop (o+(i+1)+r.length)=cs.drop (o+i+(r.length+1)):=by
   rw [List.drop_set_of_lt (by omega)];congr 1;omega
  rw [e1,e2] at this;simpa using this
theorem setsH_size:∀(vs:List Value) {h:zaa} {a:Addr} (i:Nat),(zak h a i vs).size=h.size
 | [],h,a,i=>rfl
 | v :: r,h,a,i=>by simp only [zak];rw [setsH_size r,setH_size]
theorem setsH_other:∀(vs:List Value) {h:zaa} {a:Addr} (i:Nat) {j:Nat},j≠a.block->(zak h a i vs)[j]? = h[j]?
 | [],h,a,i,j,_=>rfl
 | v :: r,h,a,i,j,hj=>by simp only [zak];rw [setsH_other r _ hj,setH_other (by simpa using hj)]
theorem Ext.sets (h:zaa) {a:Addr} (i:Nat) (vs:List Value) {B:Nat} (hB:B<=a.block):Ext B h (zak h a i vs) :=
 ⟨by rw [setsH_size];exact Nat.le_refl _,fun j hj=>setsH_other _ _ (by omega)⟩
def Row (B:Nat) (h:zaa) (E w:Nat) (s:Slc) (xs:List Value):Prop :=
 xs.length=s.len*w/\s.cap<=maxLen/\((s.a=none/\s.len=0/\s.cap=0)∨∃ g cur,s.a=some ⟨g,0,none⟩/\B<=g/\Blk h g cur E/\s.len<=s.cap/\s.cap*w<=cur.length/\cur.take (s.len*w)=xs)
def Slc.blk (s:Slc):Option Nat:=match s.a with | some a=>some a.block | none=>none
theorem Row.nil (B:Nat) (h:zaa) (E w:Nat):Row B h E w ⟨none,0,0⟩ []:=⟨by simp,by simp [maxLen],.inl ⟨rfl,rfl,rfl⟩⟩
theorem Row.mono {B B':Nat} {h:zaa} {E w:Nat} {s:Slc} {xs:List Value} (r:Row B h E w s xs) (hB:B'<=B):Row B' h E w s xs:=by
 refine⟨r.1,r.2.1,?_⟩;rcases r.2.2 with k | ⟨g,cur,h1,h2,k⟩
 ·exact .inl k
 ·exact .inr ⟨g,cur,h1,by omega,k⟩
theorem Row.keep {B:Nat} {h h':zaa} {E w:Nat} {s:Slc} {xs:List Value} (r:Row B h E w s xs) (e:∀ g,s.blk=some g->h'[g]? = h[g]?):Row B h' E w s xs:=by
 refine⟨r.1,r.2.1,?_⟩;rcases r.2.2 with k | ⟨g,cur,h1,h2,h3,k⟩
 ·exact .inl k
 ·exact .inr ⟨g,cur,h1,h2,h3.old (e g (by simp [Slc.blk,h1])),k⟩
theorem Row.bd {B:Nat} {h:zaa} {E w:Nat} {s:Slc} {xs:List Value} (r:Row B h E w s xs) {g:Nat} (hg:s.blk=some g):B<=g/\g<h.size:=by
 rcases r.2.2 with⟨k,_⟩ | ⟨g',cur,h1,h2,h3,_⟩
 ·simp [Slc.blk,k] at hg
 ·simp [Slc.blk,h1] at hg;subst hg;exact⟨h2,h3.lt⟩
theorem Row.pushed {B:Nat} {h:zaa} {E w:Nat} {s:Slc} {xs:List Value} (r:Row B h E w s xs) (o:Obj):Row B (h.push o) E w s xs :=
 r.keep fun g hg=>(Ext.push h o (Nat.le_refl _)).block g (r.bd hg).2
theorem Row.ext {B C:Nat} {h h':zaa} {E w:Nat} {s:Slc} {xs:List Value} (r:Row B h E w s xs) (p:Ext C h h') (hC:∀ g,s.blk=some g->g<C):Row B h' E w s xs :=
 r.keep fun g hg=>p.block g (hC g hg)
theorem Row.at {B:Nat} {h:zaa} {E:Nat} {s:Slc} {xs:List Value} {w:Nat} (r:Row B h E w s xs) {j:Nat} (hj:j<s.len*w):∃ a,s.a=some a/\zab h (a.add j)=xs[j]?:=by
 rcases r.2.2 with⟨_,k,_⟩ | ⟨g,cur,h1,h2,h3,h4,h5,h6⟩
 ·rw [k] at hj;simp at hj
 ·refine⟨_,h1,?_⟩
  rw [add_mk,Nat.zero_add,h3.cell,← h6,List.getElem?_take,if_pos hj]
theorem Row.slc {B:Nat} {h:zaa} {E w:Nat} {s:Slc} {xs:List Value} (r:Row B h E w s xs):SlcAt h s xs:=by
 rcases r.2.2 with⟨k,k2,_⟩ | ⟨g,cur,h1,h2,h3,h4,h5,h6⟩
 ·refine⟨fun _=>?_,fun a ha=>(by rw [k] at ha;cases ha)⟩
  have:=r.1;rw [k2] at this;simpa using this
 ·refine⟨fun hn=>(by rw [h1] at hn;cases hn),fun a ha j v hj=>?_⟩
  rw [h1] at ha;cases ha;rw [add_mk,Nat.zero_add,h3.cell];rw [← h6,List.getElem?_take] at hj;split at hj
  ·exact hj
  ·cases hj
theorem App.row2 {B E w bytes:Nat} {z:List Value} {h:zaa} {s:Slc} {m:Nat} {news xs:List Value} {k:Slc->zaa->Prop} (r:Row B h E w s xs) (hB:B<=h.size) (hz:z.length=w) (hl:news.length=m*w) (h1:∀ v∈news,v.oneCell'=true)
  (hb:(s.len+m)*bytes<=140737488355328) (hm:s.len+m<=maxLen)
  (H:∀ s' h',Row B h' E w s' (xs++news)->s'.len=s.len+m->h.size<=h'.size->(∀ i,i<h.size->s.blk≠some i->h'[i]? = h[i]?)->((s'.blk=s.blk/\s.len+m<=s.cap)∨s'.blk=some h.size)->(∀ C t ys,Row C h E w t ys->(t.len<=s.len∨t.blk≠s.blk∨s.cap<s.len+m)->Row C h' E w t ys)->k s' h'):App E w bytes z h s m news k:=by
 refine⟨hl,h1,hb,hm,fun hroom=>?_,fun hgrow=>?_⟩
 ·rcases r.2.2 with⟨a0,a1,a2⟩ | ⟨g,cur,a1,a2,a3,a4,a5,a6⟩
  ·have hm0:m=0:=by omega
   subst hm0;have hn:news=[]:=List.eq_nil_of_length_eq_zero (by simpa using hl);subst hn;refine⟨fun _=>rfl,fun a ha=>(by rw [a0] at ha;cases ha),?_⟩;rw [a0];refine H _ _ ?_ rfl (Nat.le_refl _) (fun _ _ _=>rfl) (.inl ⟨by simp [Slc.blk,a0],hroom⟩) (fun _ _ _ R _=>R);simp only [List.append_nil];exact⟨by simpa using r.1,r.2.1,.inl ⟨rfl,by simpa using a1,a2⟩⟩
  ·have hfit:s.len*w+news.length<=cur.length:=by rw [hl,← Nat.add_mul];exact Nat.le_trans (Nat.mul_le_mul_right _ hroom) a5
   refine⟨fun hn=>(by rw [a1] at hn;cases hn),fun a ha j hj=>?_,?_⟩
   ·rw [a1] at ha;cases ha
    rw [add_mk,add_mk];exact a3.wr (by omega)
   ·rw [a1]
    simp only [add_mk,Nat.zero_add];refine H _ _ ?_ rfl (by rw [setsH_size];exact Nat.le_refl _) (fun i hi hne=>setsH_other _ _ (fun e=>hne (by simp [Slc.blk,a1,e]))) (.inl ⟨by simp [Slc.blk,a1],hroom⟩) (fun C t ys R hc=>?_)
    rotate_left
    ·have k3:=Blk.sets news (s.len*w) 0 a3 (by omega)
     refine⟨R.1,R.2.1,?_⟩;rcases R.2.2 with k | ⟨g',cur',b1,b2,b3,b4,b5,b6⟩
     ·exact .inl k
     ·refine .inr ?_
      by_cases hg:g'=g
      ·subst hg
       obtain⟨rfl,_⟩:=b3.inj a3
       have hlen:t.len<=s.len:=by
        rcases hc with hc | hc | hc
        ·exact hc
        ·exact absurd (by simp [Slc.blk,a1,b1]) hc
        ·omega
       refine⟨g',_,b1,b2,k3,b4,?_,?_⟩
       ·simp only [List.length_append,List.length_take,List.length_drop,Nat.add_zero];omega
       ·have hm:=Nat.mul_le_mul_right w hlen
        rw [Nat.add_zero,List.append_assoc,List.take_append_of_le_length (by rw [List.length_take];omega),List.take_take,Nat.min_eq_left hm];exact b6
      ·exact⟨g',cur',b1,b2,b3.old (setsH_other _ _ (by simpa using hg)),b4,b5,b6⟩
    have k3:=Blk.sets news (s.len*w) 0 a3 (by omega);refine⟨by rw [List.length_append,r.1,hl,Nat.add_mul],r.2.1,.inr ⟨g,_,rfl,a2,k3,hroom,?_,?_⟩⟩
    ·simp only [List.length_append,List.length_take,List.length_drop,Nat.add_zero];omega
    ·simp only [Nat.add_zero]
     rw [a6,Nat.add_mul,← r.1,← hl,← List.length_append];exact List.take_left
 ·refine⟨xs,r.1,r.slc,fun c hc hcm=>?_⟩
  have hzz:(Builtin.zeroCells z.toArray (c-(s.len+m))).size=(c-(s.len+m))*w:=by simp [size_zeroCells,hz]
  have hcells:xs.toArray++news.toArray++Builtin.zeroCells z.toArray (c-(s.len+m))=(xs++news++(Builtin.zeroCells z.toArray (c-(s.len+m))).toList).toArray:=by
   apply Array.toList_inj.1;simp
  rw [hcells];refine H _ _ ⟨by rw [List.length_append,r.1,hl,Nat.add_mul],hcm,.inr ⟨h.size,_,rfl,hB,Blk.push _ _ _,hc,?_,?_⟩⟩ rfl (by simp) (fun i hi _=>(Ext.push h _ (Nat.le_refl _)).block i hi) (.inr (by simp [Slc.blk])) (fun C t ys R _=>R.pushed _)
  ·simp only [List.length_append,Array.length_toList,hzz,r.1,hl,← Nat.add_mul]
   exact Nat.le_of_eq (by congr 1;omega)
  ·have:(s.len+m)*w=(xs++news).length:=by rw [List.length_append,r.1,hl,Nat.add_mul]
   simp only [this];exact List.take_left
theorem App.row {B E w bytes:Nat} {z:List Value} {h:zaa} {s:Slc} {m:Nat} {news xs:List Value} {k:Slc->zaa->Prop} (r:Row B h E w s xs) (hB:B<=h.size) (hz:z.length=w) (hl:news.length=m*w) (h1:∀ v∈news,v.oneCell'=true)
  (hb:(s.len+m)*bytes<=140737488355328) (hm:s.len+m<=maxLen)
  (H:∀ s' h',Row B h' E w s' (xs++news)->s'.len=s.len+m->h.size<=h'.size->(∀ i,i<h.size->s.blk≠some i->h'[i]? = h[i]?)->(s'.blk=s.blk∨s'.blk=some h.size)->k s' h'):App E w bytes z h s m news k :=
 App.row2 r hB hz hl h1 hb hm fun s' h' a b c d e _=>H s' h' a b c d (e.elim (fun x=>.inl x.1) .inr)
theorem CellsAt.of_blk {h:zaa} {b E:Nat} {cs:List Value} (k:Blk h b cs E):CellsAt h ⟨b,0,none⟩ cs:=fun j v hj=>by rw [add_mk,Nat.zero_add,k.cell];exact hj
theorem WrsAt.of_blk {h:zaa} {b E n:Nat} {cs:List Value} (k:Blk h b cs E) (hn:n<=cs.length):WrsAt h ⟨b,0,none⟩ n:=fun j hj=>by rw [add_mk,Nat.zero_add];exact k.wr (by omega)
theorem Blk.sets_all {h:zaa} {b E:Nat} {cs vs:List Value} (k:Blk h b cs E) (hl:vs.length=cs.length):Blk (zak h ⟨b,0,none⟩ 0 vs) b vs E:=by
 have:=Blk.sets vs 0 0 k (by omega);simpa [hl] using this
theorem Row.len {B E:Nat} {h:zaa} {s:Slc} {xs:List Value} (r:Row B h E 1 s xs):s.len=xs.length:=by have:=r.1;omega
structure Upd (b:Nat) (h h':zaa):Prop where
 size:h.size<=h'.size
 block:∀ i,i<h.size->i≠b->h'[i]? = h[i]?
theorem Upd.trans {b:Nat} {x y z:zaa} (p:Upd b x y) (q:Upd b y z):Upd b x z :=
 ⟨Nat.le_trans p.size q.size,fun i hi hb=>(q.block i (Nat.lt_of_lt_of_le hi p.size) hb).trans (p.block i hi hb)⟩
theorem Upd.refl (b:Nat) (h:zaa):Upd b h h:=⟨Nat.le_refl _,fun _ _ _=>rfl⟩
theorem Upd.ext {b B:Nat} {h h':zaa} (p:Upd b h h') (hB:B<=b) (hs:B<=h.size):Ext B h h':=⟨p.size,fun i hi=>p.block i (by omega) (by omega)⟩
theorem Upd.blk {b c E:Nat} {h h':zaa} {cs:List Value} (p:Upd b h h') (k:Blk h c cs E) (hc:c≠b):Blk h' c cs E:=k.old (p.block c k.lt hc)
theorem Row.opened {B E w:Nat} {h:zaa} {s:Slc} {xs:List Value} (R:Row B h E w s xs) (hs:0<s.len):∃ g zs,s=⟨some ⟨g,0,none⟩,s.len,s.cap⟩/\B<=g/\Blk h g (xs++zs) E/\s.len<=s.cap/\s.blk=some g:=by
 rcases R.2.2 with⟨_,k,_⟩ | ⟨g,cur,h1,h2,h3,h4,h5,h6⟩
 ·omega
 ·refine⟨g,cur.drop (s.len*w),by rw [← h1],h2,?_,h4,by simp [Slc.blk,h1]⟩
  rw [← h6,List.take_append_drop];exact h3
theorem Row.of_blk {B E g n c:Nat} {h:zaa} {xs zs:List Value} (k:Blk h g (xs++zs) E) (hB:B<=g) (hl:xs.length=n) (hc:(xs++zs).length=c) (hm:c<=maxLen):Row B h E 1 ⟨some ⟨g,0,none⟩,n,c⟩ xs :=
 ⟨by simpa using hl,hm,.inr ⟨g,_,rfl,hB,k,by rw [← hl,← hc];simp,by rw [Nat.mul_one,hc];exact Nat.le_refl _,by simp [← hl]⟩⟩
theorem Row.cap {B E w:Nat} {h:zaa} {s:Slc} {xs:List Value} (R:Row B h E w s xs):s.len<=s.cap:=by
 rcases R.2.2 with⟨_,k,k2⟩ | ⟨g,cur,h1,h2,h3,h4,h5,h6⟩ <;> omega
theorem zqu {x:Int} (h0:0<=x) (h1:x<256):IntKind.u8.wrap x=x:=by
 unfold IntKind.wrap;simp [IntKind.signed,IntKind.bits];omega
theorem zdp {x:Int} (h0:0<=x) (h1:x<18446744073709551616):IntKind.u64.wrap x=x:=by
 unfold IntKind.wrap;simp [IntKind.signed,IntKind.bits];omega
theorem zac {x:Int} (h0:-9223372036854775808<=x) (h1:x<9223372036854775808):IntKind.i64.wrap x=x:=by
 unfold IntKind.wrap;simp [IntKind.signed,IntKind.bits];omega
end Go.Q
end
section
namespace Go.Q
open Go.RowKit
theorem qo2 {n:Int} (h:(Lit.int .u8 n).wf=true):0<=n/\n<256:=by
 simp [Lit.wf,IntKind.min,IntKind.max,IntKind.signed,IntKind.bits] at h;omega
theorem wf_i64 {n:Int} (h:(Lit.int .i64 n).wf=true):-9223372036854775808<=n/\n<9223372036854775808:=by
 simp [Lit.wf,IntKind.min,IntKind.max,IntKind.signed,IntKind.bits] at h;omega
theorem law_calls {P:Program} {f:FuncId} {args:Array Value} {w:World}
  (H:CallsH P f args w.heap fun v h'=>∃ r:Bool,v = .bool r/\r=true/\Ext w.heap.size w.heap h') :
  Calls P f args w fun e w'=>e = .returned (.bool true)/\Below w.heap.size w w' :=
 (H w rfl).mono fun e w' ⟨v,he,hw,r,hv,hr,hx⟩=>by
  subst hr;subst hv;exact⟨he,hw.os,hw.tape,hw.output,hx.size,hx.block⟩
end Go.Q
end
section
namespace Go.Q
abbrev b8 (l:List Int):List Value:=l.map (Value.int .u8)
abbrev b32 (l:List Int):List Value:=l.map (Value.int .u32)
abbrev qoh (l:List Int):List Value:=l.map (Value.int .i64)
theorem wU8 (n:Int):IntKind.u8.wrap n=n % 256:=by unfold IntKind.wrap;simp [IntKind.signed,IntKind.bits]
theorem ztx (n:Int):IntKind.u32.wrap n=n % 4294967296:=by unfold IntKind.wrap;simp [IntKind.signed,IntKind.bits]
theorem zji (n:Int):IntKind.u64.wrap n=n % 18446744073709551616:=by unfold IntKind.wrap;simp [IntKind.signed,IntKind.bits]
theorem zqz (n a:Nat) (ha:a<2 ^ n):(BitVec.ofInt n (a:Int)).toNat=a:=by
 rw [BitVec.toNat_ofInt,← Int.natCast_emod,Int.toNat_natCast,Nat.mod_eq_of_lt ha]
theorem qdq (n a b:Nat) (ha:a<2 ^ n) (hb:b<2 ^ n):(BitVec.ofInt n (a:Int) ||| BitVec.ofInt n (b:Int)).toNat=a ||| b:=by
 rw [BitVec.toNat_or,zqz n a ha,zqz n b hb]
theorem zzx (n a b:Nat) (ha:a<2 ^ n) (hb:b<2 ^ n):(BitVec.ofInt n (a:Int) ^^^ BitVec.ofInt n (b:Int)).toNat=a ^^^ b:=by
 rw [BitVec.toNat_xor,zqz n a ha,zqz n b hb]
theorem zs8 {a b:Nat} (ha:a<4294967296) (hb:b<4294967296):zlj .u32 a b=((a ||| b:Nat):Int):=by
 have h:a ||| b<2 ^ 32:=Nat.or_lt_two_pow (by omega) (by omega)
 show IntKind.u32.wrap ((BitVec.ofInt 32 (a:Int) ||| BitVec.ofInt 32 (b:Int)).toNat)=_
 rw [qdq 32 a b (by omega) (by omega),ztx];omega
theorem zrj {a b i:Nat} (hb:b<2 ^ i):a*2 ^ i ||| b=a*2 ^ i+b:=by
 rw [← Nat.shiftLeft_eq,← Nat.shiftLeft_add_eq_or_of_lt hb]
theorem zyz (a b:Int):0<=zaq .u8 a b/\zaq .u8 a b<256:=by unfold zaq;rw [wU8];omega
theorem zoq {a b:Nat} (ha:a<256) (hb:b<256):zaq .u8 a b=((a ^^^ b:Nat):Int):=by
 have h:a ^^^ b<2 ^ 8:=Nat.xor_lt_two_pow (by omega) (by omega);show IntKind.u8.wrap ((BitVec.ofInt 8 (a:Int) ^^^ BitVec.ofInt 8 (b:Int)).toNat)=_;rw [zzx 8 a b (by omega) (by omega),wU8];omega
def qsb (x:Int) (n:Nat):Int:=(x*2 ^ n) % 4294967296+x / 2 ^ (32-n)
theorem qi7 {x:Int} {n m:Nat} (h:2 ^ n*2 ^ m=4294967296) (x0:0<=x) (x1:x<4294967296):zlj .u32 ((x*2 ^ n) % 4294967296) (x / 2 ^ m)=(x*2 ^ n) % 4294967296+x / 2 ^ m:=by
 obtain⟨x,rfl⟩:=Int.eq_ofNat_of_zero_le x0;have hx:x<4294967296:=by omega
 have e1:((x:Int)*2 ^ n) % 4294967296=((x % 2 ^ m*2 ^ n:Nat):Int):=by
  have:(x*2 ^ n) % 4294967296=x % 2 ^ m*2 ^ n:=by rw [← h,Nat.mul_comm (2 ^ n),Nat.mul_mod_mul_right]
  rw [← this,Int.natCast_emod,Int.natCast_mul,Int.natCast_pow];rfl
 have e2:(x:Int) / 2 ^ m=((x / 2 ^ m:Nat):Int):=by rw [Int.natCast_ediv,Int.natCast_pow];rfl
 have hd:x / 2 ^ m<2 ^ n:=by
  rw [Nat.div_lt_iff_lt_mul (Nat.two_pow_pos m),h];exact hx
 have b1:x % 2 ^ m*2 ^ n<4294967296:=by
  have:=Nat.mod_lt x (Nat.two_pow_pos m)
  calc x % 2 ^ m*2 ^ n<2 ^ m*2 ^ n:=Nat.mul_lt_mul_of_pos_right this (Nat.two_pow_pos n)
   _=4294967296:=by rw [Nat.mul_comm,h]
 have b2:x / 2 ^ m<4294967296:=Nat.lt_of_le_of_lt (Nat.div_le_self _ _) hx;rw [e1,e2,zs8 b1 b2,zrj hd,Int.natCast_add]
def zmp:List Int->Int
 | []=>0
 | b :: r=>b+256*zmp r
def formL:Int->Nat->List Int
 | _,0=>[]
 | n,w+1=>n % 256 :: formL (n / 256) w
theorem zbc:∀(w:Nat) (n:Int),(formL n w).length=w
 | 0,_=>rfl
 | w+1,n=>by simp [formL,zbc w]
def isB (l:List Int):Prop:=∀ b∈l,0<=b/\b<256
theorem formL_B:∀(w:Nat) (n:Int),isB (formL n w)
 | 0,_=>by intro b hb;simp [formL] at hb
 | w+1,n=>by
  intro b hb;simp only [formL,List.mem_cons] at hb;rcases hb with rfl | hb
  ·omega
  ·exact formL_B w _ b hb
theorem numL_bd:∀ {l:List Int},isB l->0<=zmp l/\zmp l<256 ^ l.length
 | [],_=>by simp [zmp]
 | b :: r,h=>by
  have h1:=h b (by simp);have h2:=numL_bd (l:=r) fun x hx=>h x (List.mem_cons_of_mem _ hx);simp only [zmp,List.length_cons,Int.pow_succ];omega
theorem qcd {a b:Nat} (h:a<=b):(256:Int) ^ a<=256 ^ b:=by
 have:(256:Nat) ^ a<=256 ^ b:=Nat.pow_le_pow_right (by decide) h;have h2:((256 ^ a:Nat):Int)<=((256 ^ b:Nat):Int):=by omega
 simpa using h2
theorem znk (l:List Int):∀ v∈b8 l,v.oneCell'=true:=zt3 _ l
end Go.Q
end
section
namespace Go.Q
def sB (s:ByteArray):List Int:=s.data.toList.map fun b=>(b.toNat:Int)
def qih (l:List Int):ByteArray:=l.foldl (fun r n=>r.push (UInt8.ofNat n.toNat)) ByteArray.empty
theorem zev (s:ByteArray):(sB s).length=s.size:=by simp [sB]
theorem qkj (s:ByteArray):isB (sB s):=by
 intro x hx;simp only [sB,List.mem_map] at hx;obtain⟨b,_,rfl⟩:=hx;have:=b.toNat_lt;omega
theorem qfr (l:List Int):∀ s:ByteArray,(l.foldl (fun r n=>r.push (UInt8.ofNat n.toNat)) s).data.toList=s.data.toList++l.map fun n=>UInt8.ofNat n.toNat:=by
 induction l with
 | nil=>intro s;simp
 | cons n l ih=>intro s;rw [List.foldl_cons,ih];simp [ByteArray.push]
theorem zx3 (l:List Int):(qih l).data.toList=l.map fun n=>UInt8.ofNat n.toNat:=by
 rw [qih,qfr];rfl
section
variable {P:Program} {T:Tab} {e:Env} {h:zaa} {o:Oper}
theorem qo6 (hT:TOk P T) {ts td el n1 b1 n2 b2 n3 b3:Nat} {z1 z2 z3:List Value} {x:Operand} {s:Slc} {l:List Int} (ho:o.op = .convert ts td x) (hx:evO e x=some s.v)
  (ht:tlk T ts=some ⟨.slice el,n1,b1,z1⟩) (hel:tlk T el=some ⟨.int .u8,n2,b2,z2⟩) (hd:tlk T td=some ⟨.string,n3,b3,z3⟩) (hl:l.length=s.len) (hs:SlcAt h s (b8 l)):Yl P e h o (.string (qih l)):=by
 intro ρ w hA hw;subst hw;obtain⟨t1,k1,k3⟩:=zai hT ht;rw [zce k3] at k1;obtain⟨t2,l1,l3⟩:=zai hT hel;rw [zjx l3] at l1;obtain⟨t3,m1,m3⟩:=zai hT hd;rw [zen m3] at m1;have hc:=run_convert_bytes_string w ts td el s.a s.len s.cap k1 l1 m1;have hv:ρ x = .slice s.a s.len s.cap:=hA _ _ hx
 have:(convert ts td (.slice s.a s.len s.cap)).run P w = .ok (.string (qih l)) w:=by
  rw [hc]
  cases ha:s.a with
  | none =>
   have:=hs.1 ha;simp at this;subst this
   simp [Conv.bytesToString,qih]
  | some a =>
   refine run_bytesToString w a s.len s.cap l ?_;have:=run_loadCells_list (P:=P) (w:=w) a (b8 l) (fun j v hj=>hs.2 a ha j v hj);rw [List.length_map,hl] at this;exact this
 simp [execOp,ho,hv,this]
def S2B (el:Nat) (h:zaa) (s:ByteArray) (k:Slc->zaa->Prop):Prop :=
 ∀ c,s.size<=c->c<=maxLen->k ⟨some ⟨h.size,0,none⟩,s.size,c⟩ (h.push (.cells (b8 (sB s)++List.replicate (c-s.size) (Value.int .u8 0)).toArray el (c,c+1)))
theorem qas (hT:TOk P T) {ts td el n1 b1 n2 b2 n3 b3:Nat} {z1 z2 z3:List Value} {x:Operand} {s:ByteArray} {k:Slc->zaa->Prop} (ho:o.op = .convert td ts x) (hx:evO e x=some (.string s))
  (ht:tlk T ts=some ⟨.slice el,n1,b1,z1⟩) (hel:tlk T el=some ⟨.int .u8,n2,b2,z2⟩) (hd:tlk T td=some ⟨.string,n3,b3,z3⟩) (hm:s.size<=maxLen)
  (H:S2B el h s k):Ya P e h o fun v h'=>∃ s',v=s'.v/\k s' h':=by
 intro ρ w hA hw;subst hw;obtain⟨t1,k1,k3⟩:=zai hT ht;rw [zce k3] at k1;obtain⟨t2,l1,l3⟩:=zai hT hel;rw [zjx l3] at l1;obtain⟨t3,m1,m3⟩:=zai hT hd;rw [zen m3] at m1;have hge:=grownCap_ge w s.size 0 el;have hle:=grownCap_le_maxLen w s.size 0 el hm;have K:=H _ hge hle;generalize hc:grownCap w s.size 0 el=c at *
 have hcells:(s.data.map fun b=>Value.int .u8 (b.toNat:Int))++Array.replicate (c-s.size) (Value.int .u8 0)=(b8 (sB s)++List.replicate (c-s.size) (Value.int .u8 0)).toArray:=by
  apply Array.toList_inj.1;simp [sB,Function.comp_def]
 have hlen:(b8 (sB s)++List.replicate (c-s.size) (Value.int .u8 0)).length=c:=by
  simp [zev];omega
 generalize b8 (sB s)++List.replicate (c-s.size) (Value.int .u8 0)=cs at *;refine⟨(⟨some ⟨w.heap.size,0,none⟩,s.size,c⟩:Slc).v,(w.drew.alloc (.cells cs.toArray el)).freeze ⟨w.heap.size,c,none⟩ 1,⟨rfl,rfl,rfl,rfl,fun _=>by first | exact Nat.le_refl _ | exact Nat.le_succ _⟩,⟨_,rfl,?_⟩,?_⟩
 ·have e:((w.drew.alloc (.cells cs.toArray el)).freeze ⟨w.heap.size,c,none⟩ 1).heap=w.heap.push (.cells cs.toArray el (c,c+1)):=by
   unfold World.freeze;rw [if_neg (by decide)];simp only [show (w.drew.alloc (.cells cs.toArray el)).heap=w.heap.push (.cells cs.toArray el) from rfl];apply Array.ext
   ·simp
   ·intro i h1 h2
    simp only [Array.getElem_modify,Array.getElem_push];by_cases hi:w.heap.size=i
    ·subst hi;simp
    ·have:i<w.heap.size:=by simp at h1;omega
     simp [hi,this]
  rw [e];exact K
 ·have hs:(w.drew.alloc (.cells cs.toArray el)).shape? w.heap.size=some (el,cs.length):=by
   have:(w.drew.alloc (.cells cs.toArray el)).heap[w.heap.size]? = some (.cells cs.toArray el):=by
    show (w.heap.push (.cells cs.toArray el))[w.heap.size]? = _
    simp
   unfold World.shape?;rw [this];simp
  have hq:Question.cut (.appendCap s.size 0 el) (w.tape w.drawn (.appendCap s.size 0 el))=c:=hc;simp [execOp,ho,hA _ _ hx,convert,run_underlying k1,run_underlying l1,run_underlying m1,Conv.stringToBytes,Question.forced,newRow,markStringish];rw [hq,hcells,hs];simp [hlen,Slc.v]
theorem zfr {n:Nat} {s:ByteArray} (w:World):(Builtin.firstCells n s.size (.string s)).run P w = .ok (b8 (sB s)).toArray w:=by
 have:s.extract 0 s.size=s:=by
  apply ByteArray.ext;simp
 simp [Builtin.firstCells,this];apply Array.toList_inj.1;simp [sB,Function.comp_def]
theorem zwj (hT:TOk P T) {t ts el n1 b1 n3 b3:Nat} {z1 z3:List Value} {i:TI} {x y:Operand} {s:Slc} {str:ByteArray} {k:Slc->zaa->Prop}
  (ho:o.op = .call { callee:=.builtin .append,args:=#[x,y],argTypes:=#[t,ts] }) (hx:evO e x=some s.v) (hy:evO e y=some (.string str)) (ht:tlk T t=some ⟨.slice el,n1,b1,z1⟩) (hd:tlk T ts=some ⟨.string,n3,b3,z3⟩) (hi:tlk T el=some i)
  (H:App el i.n i.b i.z h s str.size (b8 (sB str)) k):Ya P e h o fun v h'=>∃ s',v=s'.v/\k s' h':=by
 intro ρ w hA hw;subst hw;obtain⟨td,k1,k3⟩:=zai hT ht;rw [zce k3] at k1;obtain⟨t3,m1,m3⟩:=zai hT hd;rw [zen m3] at m1;obtain⟨ti,i1,i2,i3,zv,i4,i5⟩:=tI hT hi;obtain⟨g1,g2,g3,g4,g5,g6⟩:=H;have hzv:zv.cells=i.z.toArray:=Array.toList_inj.1 (by simpa using i5);by_cases hroom:s.len+str.size<=s.cap
 ·obtain⟨c1,c2,c3⟩:=g5 hroom
  have hf:=zfr (P:=P) (n:=i.n) (s:=str) w;obtain⟨a,len,cap⟩:=s
  cases a with
  | none =>
   refine⟨(⟨none,len+str.size,cap⟩:Slc).v,w,WW.self w,⟨⟨none,len+str.size,cap⟩,rfl,c3⟩,?_⟩;simp [execOp,ho,resolve,invoke,builtin,hA _ _ hx,hA _ _ hy,Builtin.append_,run_underlying k1,run_underlying m1,sizeOf,typeInfo,i1,i2];simp only at hroom
   simp [Builtin.lenOf,hroom,hf]
  | some a =>
   obtain⟨w',k5,k6⟩:=zck P (a.add (len*i.n)) (b8 (sB str)) 0 w (by simpa [WrsAt] using c2 a rfl) g2;refine⟨(⟨some a,len+str.size,cap⟩:Slc).v,w',?_,⟨⟨some a,len+str.size,cap⟩,rfl,?_⟩,?_⟩
   ·exact⟨k5.os,k5.tape,k5.output,rfl,k5.dr⟩
   ·rw [k5.heap];exact c3
   ·simp only at hroom
    simp [execOp,ho,resolve,invoke,builtin,hA _ _ hx,hA _ _ hy,Builtin.append_,run_underlying k1,run_underlying m1,sizeOf,typeInfo,i1,i2];simp [Builtin.lenOf,hroom,hf,k6]
 ·obtain⟨olds,o1,o2,o3⟩:=g6 (by omega)
  have hge:=grownCap_ge w (s.len+str.size) s.cap el;have hle:=grownCap_le_maxLen w (s.len+str.size) s.cap el g4;have hfo:=zcl (P:=P) (n:=s.len) (sz:=i.n) w.drew (s:=s) o1 o2 (fun _=>.inr trivial);have hfn:=zfr (P:=P) (n:=i.n) (s:=str) w.drew;refine⟨(⟨some ⟨w.heap.size,0,none⟩,s.len+str.size,grownCap w (s.len+str.size) s.cap el⟩:Slc).v,w.drew.alloc (.cells (olds.toArray++(b8 (sB str)).toArray++Builtin.zeroCells i.z.toArray (grownCap w (s.len+str.size) s.cap el-(s.len+str.size))) el),?_,⟨⟨some ⟨w.heap.size,0,none⟩,s.len+str.size,grownCap w (s.len+str.size) s.cap el⟩,rfl,?_⟩,?_⟩
  ·exact⟨rfl,rfl,rfl,rfl,fun _=>by first | exact Nat.le_refl _ | exact Nat.le_succ _⟩
  ·exact o3 _ hge hle
  ·have h63:s.len+str.size<=9223372036854775807:=by simp only [maxLen] at g4;omega
   have hfit:=growslice_fits (need:=s.len+str.size) (old:=s.cap) (bytes:=i.b) (by omega) g3;have h63':¬ (9223372036854775807<((s.len:Int)+(str.size:Int))):=by omega
   have h48':¬ (281474976710656<Builtin.nextslicecap (s.len+str.size) s.cap*i.b):=by omega
   simp [execOp,ho,resolve,invoke,builtin,hA _ _ hx,hA _ _ hy,Builtin.append_,run_underlying k1,run_underlying m1,sizeOf,typeInfo,zeroValue,i1,i2,i3,i4,Builtin.lenOf,hroom,h63',h48',Question.forced,newRow,grownCap];simp [hfo,hfn];rw [hzv];congr 2;apply Array.ext';simp
def Cpy (sz:Nat) (h:zaa) (d s:Slc) (news:List Value) (k:zaa->Prop):Prop :=
 (∃ all,SlcAt h s all/\all.length=s.len*sz/\news=all.take (min s.len d.len*sz))/\(∀ v∈news,v.oneCell'=true)/\(d.a=none->news=[])/\(∀ a,d.a=some a->WrsAt h a news.length)/\k (match d.a with | some a=>zak h a 0 news | none=>h)
theorem zw1 (hT:TOk P T) {t t' el n1 b1:Nat} {z1:List Value} {i:TI} {x y:Operand} {d s:Slc} {news:List Value} {k:zaa->Prop}
  (ho:o.op = .call { callee:=.builtin .copy,args:=#[x,y],argTypes:=#[t,t'] }) (hx:evO e x=some d.v) (hy:evO e y=some s.v) (ht:tlk T t=some ⟨.slice el,n1,b1,z1⟩) (hi:tlk T el=some i)
  (H:Cpy i.n h d s news k):Ya P e h o fun v h'=>v = .int .i64 (min s.len d.len:Nat)/\k h':=by
 intro ρ w hA hw;subst hw;obtain⟨td,k1,k3⟩:=zai hT ht;rw [zce k3] at k1;obtain⟨⟨all,a1,a2,a3⟩,h1,hn,hwr,K⟩:=H
 have hs2:SlcAt w.heap s news:=by
  refine⟨fun h0=>?_,fun a ha j v hj=>?_⟩
  ·rw [a3,a1.1 h0];simp
  ·rw [a3,List.getElem?_take] at hj
   split at hj
   ·exact a1.2 a ha j v hj
   ·cases hj
 have hl2:news.length=min s.len d.len*i.n:=by
  rw [a3,List.length_take,a2];exact Nat.min_eq_left (Nat.mul_le_mul_right _ (Nat.min_le_left _ _))
 have hf:(Builtin.firstCells i.n (min s.len d.len) s.v).run P w = .ok news.toArray w:=zcl w hl2 hs2 (fun _=>.inr trivial);obtain⟨a,len,cap⟩:=d
 cases a with
 | none =>
  refine⟨_,w,WW.self w,⟨rfl,K⟩,?_⟩;simp only [Slc.v] at hf ⊢;simp [execOp,ho,resolve,invoke,builtin,hA _ _ hx,hA _ _ hy,Builtin.copy_,run_underlying k1,zah (hT _ _ hi),Builtin.lenOf,goInt,Nat.min_def];rw [Nat.min_def] at hf;have hf':(Builtin.firstCells i.n (if s.len<=len then s.len else len) s.v).run P w = .ok news.toArray w:=hf
  simp [hf']
 | some a =>
  obtain⟨w',k5,k6⟩:=zck P a news 0 w (by simpa [WrsAt] using hwr a rfl) h1;refine⟨_,w',⟨k5.os,k5.tape,k5.output,rfl,k5.dr⟩,⟨rfl,by rw [k5.heap];exact K⟩,?_⟩;simp only [Slc.v] at hf ⊢;simp [execOp,ho,resolve,invoke,builtin,hA _ _ hx,hA _ _ hy,Builtin.copy_,run_underlying k1,zah (hT _ _ hi),Builtin.lenOf,hf,goInt,k6]
theorem qni {ty t:Nat} {x y:Operand} {a b:ByteArray} (ho:o.op = .binOp .add t x y ty) (hx:evO e x=some (.string a)) (hy:evO e y=some (.string b)) (hl:a.size+b.size<=9223372036854775807):Yl P e h o (.string (a++b)):=by
 intro ρ w hA hw;have:¬ (((a.size+b.size:Nat):Int) > IntKind.i64.max):=by simp [IntKind.max,IntKind.signed,IntKind.bits];omega
 simp [execOp,ho,hA _ _ hx,hA _ _ hy,binOp,Op.stringOp,za5,this];omega
end
def qnf (k:IntKind) (l:List Int):Nat->Nat->List Value
 | 0,_=>[]
 | n+1,i=>Value.int k (l.getD i 0) :: qnf k l n (i+1)
def arr (n:Nat) (k:IntKind) (l:List Int):List Value:=qnf k l n 0
def nrm (n:Nat) (l:List Int):List Int:=(List.range n).map fun i=>l.getD i 0
theorem zt2 (k:IntKind) (l:List Int):∀ n i,qnf k l n i=(List.range n).map fun j=>Value.int k (l.getD (i+j) 0)
 | 0,i=>rfl
 | n+1,i=>by
  rw [qnf,zt2 k l n (i+1),List.range_succ_eq_map];simp only [List.map_cons,List.map_map,Nat.add_zero];congr 1;apply List.map_congr_left;intro j _;simp only [Function.comp,Nat.succ_eq_add_one];rw [show i+1+j=i+(j+1) from by omega]
theorem zde (n:Nat) (k:IntKind) (l:List Int):arr n k l=(nrm n l).map (Value.int k):=by
 rw [arr,zt2,nrm,List.map_map];apply List.map_congr_left;intro j _;simp
theorem zhb (n:Nat) (l:List Int):(nrm n l).length=n:=by simp [nrm]
theorem zaj (n:Nat) (k:IntKind) (l:List Int):(arr n k l).length=n:=by rw [zde,List.length_map,zhb]
theorem zgf (n:Nat) (l:List Int) {i:Nat} (hi:i<n):(nrm n l)[i]? = some (l.getD i 0):=by
 simp [nrm,hi]
theorem qj3 {n:Nat} {l:List Int} (h:l.length=n):nrm n l=l:=by
 apply List.ext_getElem?;intro i;by_cases hi:i<n
 ·rw [zgf n l hi,List.getElem?_eq_getElem (by omega),List.getD_eq_getElem?_getD,List.getElem?_eq_getElem (by omega)];rfl
 ·rw [List.getElem?_eq_none (by rw [zhb];omega),List.getElem?_eq_none (by omega)]
theorem arr_id {n:Nat} {k:IntKind} {l:List Int} (h:l.length=n):arr n k l=l.map (Value.int k):=by rw [zde,qj3 h]
theorem qin {l:List Value} (h:l.all (fun v=>v.oneCell')=true):∀ v∈l,v.oneCell'=true:=fun v hv=>List.all_eq_true.1 h v hv
section
variable {P:Program} {T:Tab} {e:Env} {h:zaa} {o:Oper}
theorem qn0 (hT:TOk P T) {t el n:Nat} {x y:Operand} {xs:List Int} {kk k:IntKind} {ix:Int} {n1 b1 n2 b2:Nat} {z1 z2:List Value} (ho:o.op = .index t x y) (hx:evO e x=some (.agg (arr n kk xs).toArray)) (hy:evO e y=some (.int k ix))
  (ht:tlk T t=some ⟨.array n el,n1,b1,z1⟩) (hi:tlk T el=some ⟨.int kk,n2,b2,z2⟩) (hn2:Nat.beq n2 1=true) (h0:0<=ix) (h1:ix<n):Yl P e h o (.int kk (xs.getD ix.toNat 0)):=by
 have e1:n2=1:=Nat.eq_of_beq_eq_true hn2;subst e1;refine qjh hT ho hx hy ht hi rfl h0 h1 ?_;show (arr n kk xs)[ix.toNat*1]? = _;rw [Nat.mul_one,zde,List.getElem?_map,zgf n xs (by omega)];rfl
end
theorem qos {P:Program} {e:Env} {h:zaa} {o:Oper} {fn:Fn} {as':List Operand} {vs:List Value} (ho:o.op = .makeFunc fn #[] as'.toArray) (hv:evs e as'=some vs):Yl P e h o (.func fn #[] vs.toArray):=by
 intro ρ w hA hw;have hm:=zlp hA _ _ hv;simp [execOp,ho,Instr.makeFunc,hm]
end Go.Q
end

/- A part of the proof of statements of this seat: lemmas, no statement of their own. -/
import Derived.Test.YtmilimlmimckbaaGreatDoorYoZas
import Derived.RangeFuncBox
import Derived.RangeFuncNested
import Derived.RangeFuncLeaves
import Derived.Shelf.Abstract
import Derived.WalkKit
import Derived.OwnWalkIn
import Derived.TacticsInMore
import Derived.LoopNIn
import Derived.LoopIn
import Derived.Maps.AppendAt
import Derived.Maps.RangeRun
import Derived.RangeFuncStops
import Derived.Sort.MapsRangeIn
import Derived.Test.YtmilimlmimckbaaGreatDoorProg
set_option linter.unusedVariables false
set_option linter.unusedSimpArgs false
section
namespace Go.V
open Go.Q
noncomputable section
theorem Rel.grow {base:zaa} {φ:Ph} {h:HS} {hc hc':zaa} (R:Rel base φ h hc) (hs:hc.size<=hc'.size) (he:∀ i,i<hc.size->hc'[i]? = hc[i]?):Rel base φ h hc' :=
 ⟨R.lt,R.nx,R.un,R.gl,fun b bl x hb hg e=>let ⟨r,w⟩:=R.blk b bl x hb hg e;⟨r.heap hs (he _ r.lt),w⟩,R.sep,Nat.le_trans R.sz hs,fun i hi=>by rw [he i (Nat.lt_of_lt_of_le hi R.sz)];exact R.old i hi⟩
theorem Rel.newAt {base:zaa} {φ:Ph} {h:HS} {hc hc':zaa} (R:Rel base φ h hc) (hs:hc.size<=hc'.size) (he:∀ i,i<hc.size->hc'[i]? = hc[i]?) {x:Pl} {bl:Blk} (hx:hc.size<=x.b) (hn:h.nx<4 ^ DH) (r:RelO (φ.up h.nx x) bl x hc') :
  Rel base (φ.up h.nx x) ⟨h.nx+1,st DH h.nx (some bl) h.h⟩ hc'/\Ex φ h (φ.up h.nx x) ⟨h.nx+1,st DH h.nx (some bl) h.h⟩:=by
 have hle:=Ph.up_le (x:=x) R.fresh;obtain⟨R1,X1⟩:=(R.grow hs he).add bl hn;have hlt:∀ b' bl' y,b'<4 ^ DH->gt DH b' h.h=some bl'->φ b'=some y->y.b<hc.size:=fun b' bl' y l g e=>(R.blk b' bl' y l g e).1.lt
 have old:∀ b' bl' y,b'<4 ^ DH->φ b'=some y->gt DH b' (st DH h.nx (some bl) h.h)=some bl'->gt DH b' h.h=some bl':=fun b' bl' y l e g=>by
  rw [zar _ _ _ _ _ hn l (Nat.ne_of_gt (R.lt _ _ e))] at g;exact g
 refine⟨⟨fun b' y e=>?_,hn,R1.un,fun g hg=>hle _ _ (R.gl g hg),fun b' bl' y hb' hg e2=>?_,fun b1 b2 bl1 bl2 x1 x2 l1 l2 g1 g2 p1 p2 hne w1=>?_,Nat.le_trans R.sz hs,R1.old⟩,hle,Nat.le_succ _,fun c hc n=>⟨?_,(X1.un c hc n).2⟩⟩
 ·by_cases hbb:b'=h.nx
  ·subst hbb;exact Nat.lt_succ_self _
  ·rw [Ph.up_ne hbb] at e;exact Nat.lt_succ_of_lt (R.lt _ _ e)
 ·by_cases hbb:b'=h.nx
  ·subst hbb
   rw [Ph.up_eq] at e2;cases e2;have hg':gt DH h.nx (st DH h.nx (some bl) h.h)=some bl':=hg;rw [zht] at hg';cases hg';exact⟨r,fun _=>Nat.le_trans R.sz hx⟩
  ·rw [Ph.up_ne hbb] at e2
   obtain⟨rb2,hb2⟩:=R1.blk b' bl' y hb' hg e2;exact⟨rb2.mono hle,hb2⟩
 ·by_cases n1:b1=h.nx
  ·subst n1
   rw [Ph.up_eq] at p1;cases p1;rw [Ph.up_ne (Ne.symm hne)] at p2;have:=hlt _ _ _ l2 (old _ _ _ l2 p2 g2) p2;omega
  ·rw [Ph.up_ne n1] at p1
   by_cases n2:b2=h.nx
   ·subst n2
    rw [Ph.up_eq] at p2;cases p2;have:=hlt _ _ _ l1 (old _ _ _ l1 p1 g1) p1;omega
   ·rw [Ph.up_ne n2] at p2
    exact R1.sep b1 b2 bl1 bl2 x1 x2 l1 l2 g1 g2 p1 p2 hne w1
 ·rw [Ph.up_ne (Nat.ne_of_lt hc)];exact n
def Z0 (h:zaa) (s:Slc) (el:Nat):Prop:=∀ g,s.a=some ⟨g,0,none⟩->∃ cur,h[g]? = some (.cells cur el (0,0))
theorem Row.relB {φ:Ph} {B E w:Nat} {h:zaa} {s:Slc} {us:List Value} {l:List AV} {d:Nat} {c:T AV d} (R:Row B h E w s us) (hz:Z0 h s E) (h0:0<s.len) (hl:l.length=s.len*w) (hd:l.length<=4 ^ d) (hg:∀ j,j<l.length->gt d j c=l[j]?) (hv:cvs φ l=some us) (h1:∀ u∈us,u.oneCell'=true) :
  ∃ g,s.a=some ⟨g,0,none⟩/\B<=g/\g<h.size/\s.len<=s.cap/\RelB φ ⟨s.len*w,true,true,E,w,d,c⟩ ⟨g,0,s.cap⟩ h:=by
 obtain⟨r1,r2,r3⟩:=R;rcases r3 with⟨_,r3,_⟩ | ⟨g,cur,r3,r4,r5,r6,r7,r8⟩
 ·omega
 obtain⟨lo,hi,k1,k2⟩:=r5;have hlt:=(Array.getElem?_eq_some_iff.1 k1).1
 have hlh:lo=hi:=by
  obtain⟨cur',e⟩:=hz g r3;rw [k1] at e;cases e;rfl
 refine⟨g,r3,r4,hlt,r6,hlt,by show s.len*w<=4 ^ d;omega,?_,fun j hj=>?_,fun _=>⟨cur.toArray,E,lo,hi,k1,?_,?_⟩⟩
 ·show s.len*w<=CB.room _ _
  unfold CB.room;simp only [if_true];exact Nat.mul_le_mul_right _ r6
 ·have hj':j<s.len*w:=hj
  have hj2:j<l.length:=by omega
  obtain⟨u,hu,hc⟩:=zdn _ _ hv j l[j] (List.getElem?_eq_getElem hj2);refine⟨l[j],u,?_,hc,h1 _ (List.mem_of_getElem? hu),?_⟩
  ·show gt d j c=_
   rw [hg j hj2,List.getElem?_eq_getElem hj2]
  ·show zab h ⟨g,0+j,none⟩=_
   rw [Nat.zero_add];have:cur[j]? = some u:=by rw [← r8,List.getElem?_take,if_pos hj'] at hu;exact hu
   simp [zab,k1,this]
 ·exact .inl hlh
 ·show 0+CB.room _ _<=_
  unfold CB.room;simp only [if_true,Nat.zero_add,List.size_toArray];exact r7
end
end Go.V
end
section
namespace Go.V
open Go.Q
noncomputable section
def zvw {α:Type} (a:α):List α->List (List α)
 | []=>[[a]]
 | b :: r=>(a :: b :: r) :: (zvw a r).map (fun l=>b :: l)
def pms {α:Type}:List α->List (List α)
 | []=>[[]]
 | a :: r=>(pms r).flatMap (zvw a)
theorem ztn {α:Type} {a:α}:∀ {x y:List α},(x++a :: y)∈zvw a (x++y)
 | [],[]=>by simp [zvw]
 | [],b :: y=>by simp [zvw]
 | b :: x,y=>by
  simp only [List.cons_append,zvw,List.mem_cons,List.mem_map];exact .inr ⟨x++a :: y,ztn,rfl⟩
theorem zsy {α:Type}:∀ {l xs:List α},xs.Perm l->xs∈pms l
 | [],xs,h=>by have:=h.eq_nil;subst this;simp [pms]
 | a :: r,xs,h=>by
  obtain⟨x,y,rfl⟩:=List.append_of_mem (h.symm.subset List.mem_cons_self)
  have h2:(x++y).Perm r:=by
   have h3:(a :: (x++y)).Perm (a :: r):=(List.perm_middle.symm).trans h;exact List.Perm.cons_inv h3
  simp only [pms,List.mem_flatMap];exact⟨x++y,zsy h2,ztn⟩
theorem insA_map {α β:Type} (f:α->β) (a:α):∀ l:List α,zvw (f a) (l.map f)=(zvw a l).map (List.map f)
 | []=>rfl
 | b :: r=>by simp [zvw,insA_map f a r,Function.comp]
theorem zwv {α β:Type} (f:α->β):∀ l:List α,pms (l.map f)=(pms l).map (List.map f)
 | []=>rfl
 | a :: r=>by
  simp only [List.map_cons,pms,zwv f r,List.flatMap_map,List.map_flatMap];congr 1;funext x;exact insA_map f a x
def zge (v:AV):Bool:=match v with | .b _=>true | .i _ _=>true | .s _=>true | _=>false
def flat:AV->Bool | .ag l=>l.all zge | v=>zge v
theorem zuc {φ ψ:Ph} {v:AV} (h:zge v=true):cv φ v=cv ψ v:=by cases v <;> first | rfl | cases h
theorem zkl {φ ψ:Ph}:∀ {l:List AV},l.all zge=true->cvs φ l=cvs ψ l
 | [],_=>rfl
 | v :: r,h=>by
  simp only [List.all_cons,Bool.and_eq_true] at h;simp only [cvs,zuc (φ:=φ) (ψ:=ψ) h.1,zkl (φ:=φ) (ψ:=ψ) h.2]
def cel (v:AV):List AV:=match v with | .ag l=>l | v=>[v]
def zo9 (l:List AV):List AV:=l.flatMap cel
def zsj (g k:Nat):Ph:=fun b=>if b<GN then some ⟨b,0,0⟩ else if b=GN then some ⟨g,0,k⟩ else none
theorem zyg {g k b:Nat} (h:b<GN):zsj g k b=some ⟨b,0,0⟩:=by simp [zsj,h]
theorem zk1 {g k:Nat}:zsj g k GN=some ⟨g,0,k⟩:=by simp [zsj]
def qck (bl:Blk):HS:=⟨GN+1,st DH GN (some bl) (mt Blk DH)⟩
theorem Rel.one {base hc:zaa} {g k:Nat} {bl:Blk} (hs:base.size<=hc.size) (ho:∀ i,i<base.size->hc[i]? = base[i]?) (hg:base.size<=g) (r:RelO (zsj g k) bl ⟨g,0,k⟩ hc):Rel base (zsj g k) (qck bl) hc:=by
 have only:∀ b' bl',b'<4 ^ DH->gt DH b' (qck bl).h=some bl'->b'=GN/\bl'=bl:=fun b' bl' l h=>by
  have h':gt DH b' (st DH GN (some bl) (mt Blk DH))=some bl':=h;by_cases hb:b'=GN
  ·subst hb;rw [zht] at h';cases h';exact⟨rfl,rfl⟩
  ·rw [zar _ _ _ _ _ (by decide) l (Ne.symm hb),zmk] at h';cases h'
 refine⟨fun b x e=>?_,(by show GN+1<=4 ^ DH;decide),fun b h1 h2=>?_,fun b hb=>zyg hb,fun b bl' x hb hgt e=>?_,fun b b' bl1 bl2 x x' hb hb' g1 g2 e1 e2 hne _=>?_,hs,ho⟩
 ·show b<GN+1
  unfold zsj at e;split at e
  ·omega
  ·split at e
   ·omega
   ·cases e
 ·cases hq:gt DH b (qck bl).h with
  | none=>rfl
  | some y =>
   have:=(only b y h2 hq).1;have h1':GN+1<=b:=h1;omega
 ·obtain⟨rfl,rfl⟩:=only b bl' hb hgt
  rw [zk1] at e;cases e;exact⟨r,fun _=>hg⟩
 ·have:=(only b bl1 hb g1).1
  have:=(only b' bl2 hb' g2).1;omega
def qcy (es n:Nat) (L:List AV) (h:HS):Bool:=zuz h GN fun bn u w el es' d c=>Bool.rec (motive:=fun _=>Rs) false (rd d c bn 0 fun l=>qd8 l L) (and (and u w) (and (Nat.beq es' es) (Nat.beq bn (Nat.mul n es))))
def znl (call:zbk) (f:Nat) (more:List AV) (el es n:Nat) (ks L:List AV):Bool:=(pms ks).all fun p=>zb3 (dep (Nat.mul n es)) fun d=>Bool.rec (motive:=fun _=>Rs) false
 (wt d (zo9 p) 0 (mt AV d) fun c=>call f (.sl GN 0 n BIG :: more) (qck (.c ⟨Nat.mul n es,true,true,el,es,d,c⟩)) fun v h=>Bool.rec (motive:=fun _=>Rs) false (qcy es n L h) (veq v (.tu []))) (Nat.ble (Nat.mul n es) (Nat.pow 4 d))
theorem zzq {es n:Nat} {L:List AV} {h:HS} (H:qcy es n L h=true):∃ bl:CB,gt DH GN h.h=some (.c bl)/\bl.u=true/\bl.w=true/\bl.es=es/\bl.n=n*es/\L.length=bl.n/\∀ j,j<bl.n->gt bl.d j bl.c=L[j]?:=by
 obtain⟨bl,hb,H2⟩:=zd3 H;obtain⟨hh,H3⟩:=zbz H2;obtain⟨h1,h2⟩:=zag.1 hh;obtain⟨h3,h4⟩:=zag.1 h1;obtain⟨h5,h6⟩:=zag.1 h2;obtain⟨l,H4,hl,hg⟩:=zsc _ _ _ H3;have:=zrv H4;subst this;exact⟨bl,hb,h3,h4,Nat.eq_of_beq_eq_true h5,Nat.eq_of_beq_eq_true h6,hl,fun j hj=>by have:=hg j hj;rwa [Nat.zero_add] at this⟩
theorem zln {P:Program} {call:zbk} (CO:za7 P call) {f el es n:Nat} {more:List AV} {ks L:List AV} (H:znl call f more el es n ks L=true) (hn:0<n) (hL:L.all zge=true) {base hc:zaa} {s:Slc} {us ms:List Value} {p:List AV} (hp:p∈pms ks)
  (hpl:(zo9 p).length=n*es) (hpf:(zo9 p).all zge=true) (hv:∀ φ,cvs φ (zo9 p)=some us) (h1:∀ u∈us,u.oneCell'=true) (hs:base.size<=hc.size) (ho:∀ i,i<base.size->hc[i]? = base[i]?) (R:Row base.size hc el es s us) (hz:Z0 hc s el) (hsn:s.len=n) (hm:∀ φ,cvs φ more=some ms) :
  ∃ g,s.a=some ⟨g,0,none⟩/\base.size<=g/\s.len<=s.cap/\CallsHD false P f (Slc.v s :: ms).toArray hc fun u hc'=>u = .tuple #[]/\base.size<=hc'.size/\(∀ i,i<base.size->hc'[i]? = base[i]?) /\
   ∀(φ:Ph) (d:Nat) (c:T AV d),n*es<=4 ^ d->(∀ j,j<n*es->gt d j c=L[j]?)->RelB φ ⟨n*es,true,true,el,es,d,c⟩ ⟨g,0,s.cap⟩ hc':=by
 unfold znl at H;rw [List.all_eq_true] at H;have H1:=H p hp;rw [natK_eq] at H1;obtain⟨hd,H2⟩:=zhu H1;rw [zoc] at H2;replace hd:n*es<=4 ^ dep (Nat.mul n es):=hd;generalize dep (Nat.mul n es)=d at *;obtain⟨ok,v,h',H3,hc1⟩:=CO _ _ _ _ H2;obtain⟨hvq,H4⟩:=zbz H3;have hvq':=zmg hvq;subst hvq';obtain⟨bl,b1,b2,b3,b4,b5,b6,b7⟩:=zzq H4
 have hg:∀ j,j<(zo9 p).length->gt d j (sts d (zo9 p) 0 (mt AV d))=(zo9 p)[j]?:=fun j hj=>by
  rw [zl3 _ _ _ _ (by omega) (by omega),if_pos (by omega),Nat.sub_zero]
 obtain⟨g,g1,g2,g3,g4,rb⟩:=Row.relB (φ:=fun _=>none) R hz (by omega) (by rw [hpl,hsn]) (by omega) hg (hv _) h1;obtain⟨g',g1',_,_,_,rb⟩:=Row.relB (φ:=zsj g s.cap) R hz (by omega) (by rw [hpl,hsn]) (by omega) hg (hv _) h1;have:g'=g:=by rw [g1] at g1';cases g1';rfl
 subst this;rw [hsn] at rb;refine⟨g',g1,g2,g4,?_⟩;have R1:=Rel.one (bl:=.c ⟨n*es,true,true,el,es,d,sts d (zo9 p) 0 (mt AV d)⟩) hs ho g2 rb
 have hsv:cv (zsj g' s.cap) (.sl GN 0 n BIG)=some (Slc.v s):=by
  refine zdj.2 ⟨_,zk1,by rw [zbx];show n<=s.cap;omega,?_⟩;rw [zbx];obtain⟨sa,sl,sc⟩:=s;simp only at g1 hsn;subst g1;subst hsn;rfl
 refine(hc1 base (zsj g' s.cap) hc _ R1 (zbh hsv (hm _))).mono ?_;rintro u hc' ⟨φ',X,R2,hu⟩
 cases hu
 refine⟨rfl,R2.sz,R2.old,fun φ d' c' hd' hg'=>?_⟩;have rb2:RelB φ' bl ⟨g',0,s.cap⟩ hc':=(R2.blk GN _ _ (by decide) b1 (X.le _ _ zk1)).1;refine⟨rb2.lt,hd',?_,fun j hj=>?_,fun _=>?_⟩
 ·show n*es<=CB.room _ _
  unfold CB.room;simp only [if_true];exact Nat.mul_le_mul_right _ (by omega)
 ·have hj':j<n*es:=hj
  obtain⟨v,u,q1,q2,q3,q4⟩:=rb2.cell j (by omega);rw [b7 j (by omega)] at q1
  have hf:zge v=true:=by
   rw [List.all_eq_true] at hL;exact hL v (List.mem_of_getElem? q1)
  exact⟨v,u,by show gt d' j c'=_;rw [hg' j hj',q1],by rw [zuc (ψ:=φ') hf];exact q2,q3,q4⟩
 ·obtain⟨c,el',lo,hi,w1,w2,w3⟩:=rb2.wr b3
  refine⟨c,el',lo,hi,w1,w2,?_⟩;have e1:bl.room ⟨g',0,s.cap⟩=s.cap*es:=by unfold CB.room;rw [b2,if_pos rfl,b4]
  rw [e1] at w3;show 0+CB.room _ _<=_;unfold CB.room;simp only [if_true];exact w3
end
end Go.V
end
section
namespace Go.V
open Go.Q Go.MapKept
noncomputable section
def qfm (P:Program) (fC cl el:Nat) (kt:KT):Prop:=∀(h:zaa) (bx om r ck:Nat) (es:Array MapEntry),zab h ⟨bx,om,none⟩=some (.map (some r))->h[r]? = some (.map es ck)->Stamped es ck->(∀ x∈es.toList,okV kt x.key)->es.size<=1000000 ->
 CallsH P fC #[.func (.func cl) #[] #[.pointer (some ⟨bx,om,none⟩)]] h fun v h'=>∃(s:Slc) (ys:List Value),v=s.v/\ys.Perm (es.toList.map (·.key))/\Row h.size h' el 1 s ys/\s.len=ys.length/\(ys=[]->s=⟨none,0,0⟩)/\Ext h.size h h'/\Z0 h' s el
def qak (P:Program) (fS fC fT:Nat):Prop:=∀(p0:Value) (k:Slc->zaa->Prop) (h:zaa),(CallsH P fC #[p0] h fun v h'=>∃ s:Slc,v=s.v/\CallsH P fT #[s.v] h' fun v' h4=>v' = .tuple #[]/\k s h4)->CallsH P fS #[p0] h fun v h'=>∃ s:Slc,v=s.v/\k s h'
def qsa (a b:AV):Bool:=match a,b with
 | .i _ x,.i _ y=>ilt x y
 | .s x,.s y=>(lLt x y)
 | _,_=>false
def qri (v:AV) (l:List AV):List AV:=match l with
 | []=>[v]
 | u :: r=>match qsa u v with | true=>u :: qri v r | false=>v :: u :: r
def zu2 (l:List AV):List AV:=match l with | []=>[] | v :: r=>qri v (zu2 r)
def qpb (call0:zbk) (fT el:Nat) (ks:List AV) (h:HS) (K:AV->HS->Rs):Rs:=match ks with
 | []=>Bool.rec (motive:=fun _=>Rs) false (K (.nl 1) h) (call0 fT [.nl 1] ⟨GN,mt Blk DH⟩ fun v _=>veq v (.tu []))
 | _=>zb3 (zgs ks) fun n=>Bool.rec (motive:=fun _=>Rs) false (zrk el 1 n true (zu2 ks) h fun b h=>K (.sl b 0 n BIG) h) (and (znl call0 fT [] el 1 n ks (zu2 ks)) (and (Nat.beq (zgs (zu2 ks)) n) ((zu2 ks).all zge)))
def zxo {α:Type} (l:List α):Bool:=List.rec true (fun _ _ _=>false) l
def qik (call0:zbk) (kt:KT) (cl fT el:Nat) (vs:List AV) (h:HS) (K:AV->HS->Rs):Rs:=a1 vs fun f=>dF.x f fun g fs cs=>a1 cs fun p=>dP.x p fun b o=>zuz h b fun bn _ _ _ _ d c=>Bool.rec (motive:=fun _=>Rs) false
 ((ac d o).x Rs c fun x=>opt x false fun m=>dM.x m false fun mb=>qcz h mb fun _ l=>Bool.rec (motive:=fun _=>Rs) false (qpb call0 fT el (l.map fun p=>p.1) h K) (and (qf7 kt l) (and (Nat.ble (zgs l) 1000) (l.all fun p=>zge p.1))))
 (and (Nat.blt o bn) (and (Nat.beq g cl) (zxo fs)))
theorem Rel.zero {base hc:zaa} (hs:base.size<=hc.size) (ho:∀ i,i<base.size->hc[i]? = base[i]?):Rel base (fun b=>if b<GN then some ⟨b,0,0⟩ else none) ⟨GN,mt Blk DH⟩ hc:=by
 refine⟨fun b x e=>?_,(by show GN<=4 ^ DH;decide),fun b _ h2=>zmk _ _,fun b hb=>by simp [hb],fun b bl' x hb hgt e=>?_,fun b b' bl1 bl2 x x' hb hb' g1=>?_,hs,ho⟩
 ·split at e
  ·assumption
  ·cases e
 ·have h':gt DH b (mt Blk DH)=some bl':=hgt
  rw [zmk] at h';cases h'
 ·have h':gt DH b (mt Blk DH)=some bl1:=g1
  rw [zmk] at h';cases h'
theorem zqj {α:Type} {a:α}:∀ {l p:List α},p∈zvw a l->p.Perm (a :: l)
 | [],p,h=>by simp [zvw] at h;subst h;exact .refl _
 | b :: r,p,h=>by
  simp only [zvw,List.mem_cons,List.mem_map] at h;rcases h with rfl | ⟨q,hq,rfl⟩
  ·exact .refl _
  ·exact((zqj hq).cons b).trans (.swap a b r)
theorem zug {α:Type}:∀ {l p:List α},p∈pms l->p.Perm l
 | [],p,h=>by simp [pms] at h;subst h;exact .refl _
 | a :: r,p,h=>by
  simp only [pms,List.mem_flatMap] at h;obtain⟨q,hq,hp⟩:=h;exact(zqj hp).trans ((zug hq).cons a)
theorem zop {φ:Ph}:∀ {l:List AV} {us:List Value},cvs φ l=some us->us=l.map fun a=>(cv φ a).getD undef
 | [],us,h=>by cases h;rfl
 | v :: r,us,h=>by
  obtain⟨u,w,rfl,h1,h2⟩:=zcp h;rw [List.map_cons,h1,← zop h2];rfl
theorem ztz {φ:Ph} {l:List AV} {us ys:List Value} (h:cvs φ l=some us) (hp:ys.Perm us):∃ p∈pms l,cvs φ p=some ys/\p.Perm l:=by
 have hu:=zop h;have hm:ys∈pms (l.map fun a=>(cv φ a).getD undef):=by rw [← hu];exact zsy hp
 rw [zwv] at hm;obtain⟨p,hp1,rfl⟩:=List.mem_map.1 hm;have hpp:p.Perm l:=zug hp1;refine⟨p,hp1,?_,hpp⟩
 have all:∀ a∈l,∃ u,cv φ a=some u:=fun a ha=>by
  obtain⟨j,hj⟩:=List.getElem?_of_mem ha;obtain⟨u,_,hc⟩:=zdn _ _ h j a hj;exact⟨u,hc⟩
 have key:∀ q:List AV,(∀ a∈q,∃ u,cv φ a=some u)->cvs φ q=some (q.map fun a=>(cv φ a).getD undef):=fun q=>by
  induction q with
  | nil=>intro _;rfl
  | cons a r ih =>
   intro hq;obtain⟨u,hu⟩:=hq a List.mem_cons_self;have:=ih fun b hb=>hq b (List.mem_cons_of_mem _ hb);rw [zbh hu this,List.map_cons,hu];rfl
 exact key p fun a ha=>all a (hpp.subset ha)
theorem zt4 {φ:Ph}:∀ {l:List (AV × AV)} {us:List (Value × Value)},cvp φ l=some us->cvs φ (l.map fun p=>p.1)=some (us.map fun p=>p.1)
 | [],us,h=>by cases h;rfl
 | p :: r,us,h=>by
  obtain⟨k,v,w,rfl,h1,h2,h3⟩:=zmr h;exact zbh h1 (zt4 h3)
theorem zm2:∀ {l:List AV},l.all zge=true->zo9 l=l
 | [],_=>rfl
 | v :: r,h=>by
  simp only [List.all_cons,Bool.and_eq_true] at h;have hc:cel v=[v]:=by cases v <;> first | rfl | cases h.1
  show cel v++zo9 r=_
  rw [hc,zm2 h.2];rfl
theorem zw6 {P:Program} {call0:zbk} {kt:KT} {fS fC fT cl el:Nat} (CO:za7 P call0) (ok:zad P fS) (col:qfm P fC cl el kt) (srt:qak P fS fC fT):FnOk P fS fun _=>qik call0 kt cl fT el:=fun call _ vs h K H=>by
 refine⟨ok,?_⟩;obtain⟨f,hvs,H1⟩:=zq0 H;obtain⟨g,fs,cs,hf,H2⟩:=zxi H1;obtain⟨p,hcs,H3⟩:=zq0 H2;obtain⟨b,o,hp,H4⟩:=znv H3;obtain⟨bl,hb,H5⟩:=zd3 H4;obtain⟨hh,H6⟩:=zbz H5;obtain⟨ho,hh⟩:=zag.1 hh;obtain⟨hg,hn⟩:=zag.1 hh;rw [Nat.blt_eq] at ho;have hg':=Nat.eq_of_beq_eq_true hg;have hfs:fs=[]:=by cases fs with | nil=>rfl | cons a r=>cases hn
 rw [zmm] at H6;obtain⟨m,hm,H7⟩:=zjz H6;rcases zsi H7 with⟨_,hq⟩ | ⟨mb,hmb,H8⟩
 ·cases hq
 obtain⟨kk,l,hl,H9⟩:=zj2 H8;obtain⟨hh,H10⟩:=zbz H9;obtain⟨hk,hh⟩:=zag.1 hh;obtain⟨hlen,hflat⟩:=zag.1 hh;replace hlen:=Nat.le_of_ble_eq_true hlen;rw [zav] at hlen;clear H H1 H2 H3 H4 H5 H6 H7 H8 H9 hh hg hn;subst hvs hf hcs hp hfs hmb hg'
 -- what the call does there
 have run:∀(v:AV) (h1:HS),(∀(base:zaa) (φ:Ph) (hc:zaa),Rel base φ h hc->∀(s:Slc) (q:List AV) (ys:List Value) (h':zaa),q∈pms (l.map fun p=>p.1)->q.Perm (l.map fun p=>p.1)->cvs φ q=some ys->(∀ u∈ys,u.oneCell'=true)->Row hc.size h' el 1 s ys->s.len=ys.length->(ys=[]->s=⟨none,0,0⟩)->Ext hc.size hc h'->Z0 h' s el ->
   CallsH P fT #[s.v] h' fun v' h4=>v' = .tuple #[]/\∃ φ',Ex φ h φ' h1/\Rel base φ' h1 h4/\cv φ' v=some s.v)->∀(base:zaa) (φ:Ph) (hc:zaa) (us:List Value),Rel base φ h hc->cvs φ [.f g [] [.p b o]]=some us ->
   CallsHD false P fS us.toArray hc fun u hc'=>∃ φ',Ex φ h φ' h1/\Rel base φ' h1 hc'/\cv φ' v=some u:=fun v h1 S base φ hc us R hv=>by
  obtain⟨u,rfl,c1⟩:=qmy hv;simp only [cv,cvs] at c1
  cases hpb:φ b with
  | none=>rw [hpb] at c1;cases c1
  | some x =>
   rw [hpb] at c1
   cases c1
   obtain⟨v0,u0,q1,q2,_,q4⟩:=R.toR.read hpb hb ho;rw [hm] at q1;cases q1;simp only [cv,Option.map_eq_some_iff,if_true] at q2;obtain⟨y,hy,rfl⟩:=q2;obtain⟨_,es,ck,m1,m2,m3⟩:RelM φ kk l y hc:=(R.blk mb _ y (R.idlt hy) hl hy).1;have hks:=zt4 m3;rw [List.map_map] at hks;have hes:es.size=l.length:=by have:=zpm m3;simpa using this
   have hok:∀ e∈es.toList,okV kt e.key/\e.key.oneCell'=true:=fun e he=>by
    obtain⟨j,hj⟩:=List.getElem?_of_mem he;have h1:(es.toList.map (Prod.fst ∘ fun e=>(e.key,e.val)))[j]? = some e.key:=by rw [List.getElem?_map,hj];rfl
    have hjl:j<(l.map fun p=>p.1).length:=by
     have:=(List.getElem?_eq_some_iff.1 hj).1;rw [Array.length_toList] at this;rw [List.length_map];omega
    obtain⟨w,hw,hc1⟩:=zdn _ _ hks j _ (List.getElem?_eq_getElem hjl);rw [h1] at hw;cases hw;have hmem:=List.getElem_mem hjl;obtain⟨pr,hpr,e2⟩:=List.mem_map.1 hmem;rw [← e2] at hc1;simp only [qf7,List.all_eq_true] at hk hflat;refine⟨(ziz (hk pr hpr) hc1).1,?_⟩;have hf:=hflat pr hpr;generalize pr.1=a at hf hc1;have hc1':cv φ a=some e.key:=hc1;generalize e.key=ek at hc1' ⊢
    cases a with
    | b x=>cases hc1';rfl
    | i k x=>cases hc1';rfl
    | s q=>obtain⟨_,e3⟩:=zog.1 hc1';rw [e3];rfl
    | _=>cases hf
   refine(srt _ (fun s h4=>∃ φ',Ex φ h φ' h1/\Rel base φ' h1 h4/\cv φ' v=some s.v) hc ((col hc x.b (x.o+o) y.b ck es q4 m1 m2 (fun e he=>(hok e he).1) (by omega)).mono ?_)).mono ?_
   ·rintro v' h' ⟨s,ys,rfl,hp,hr,hsl,hnil,hx,hz⟩
    have hpe:(es.toList.map (Prod.fst ∘ fun e=>(e.key,e.val)))=es.toList.map (·.key):=rfl;rw [hpe] at hks;obtain⟨q,hq1,hq2,hq3⟩:=ztz hks hp;refine⟨s,rfl,S base φ hc R s q ys h' hq1 hq3 hq2 (fun u hu=>?_) hr hsl hnil hx hz⟩;obtain⟨e,he,rfl⟩:=List.mem_map.1 (hp.subset hu);exact(hok e he).2
   ·rintro v' h' ⟨s,rfl,hh⟩
    obtain⟨φ',X,R',hcv⟩:=hh;exact⟨φ',X,R',hcv⟩
 generalize hks:(l.map fun p=>p.1)=ks at H10 run;have hfk:ks.all zge=true:=by rw [← hks,List.all_map];exact hflat
 cases ks with
 | nil =>
  have H11:Bool.rec (motive:=fun _=>Rs) false (K (.nl 1) h) (call0 fT [.nl 1] ⟨GN,mt Blk DH⟩ fun v _=>veq v (.tu []))=true:=H10;obtain⟨hc0,H12⟩:=zbz H11;obtain⟨_,v0,h0,hv0,hc1⟩:=CO _ _ _ _ hc0;have:=zmg hv0;subst this;refine⟨.nl 1,h,H12,run (.nl 1) h fun base φ hc R s q ys h' hq hqp hqv h1 hr hsl hnil hx hz=>?_⟩;have hqn:q=[]:=by have:=hqp.length_eq;cases q with | nil=>rfl | cons a r=>simp at this
  subst hqn
  cases hqv
  have hs:=hnil rfl;subst hs;have R0:=Rel.zero (base:=hc) (hc:=h') hx.size hx.block;refine(hc1 hc _ h' [.slice none 0 0] R0 rfl).mono ?_;rintro u h4 ⟨φ',_,R4,hu⟩
  cases hu
  exact⟨rfl,φ,Ex.rfl,R.grow R4.sz R4.old,rfl⟩
 | cons a r =>
  have H11:zb3 (zgs (a :: r)) (fun n=>Bool.rec (motive:=fun _=>Rs) false (zrk el 1 n true (zu2 (a :: r)) h fun b h=>K (.sl b 0 n BIG) h) (and (znl call0 fT [] el 1 n (a :: r) (zu2 (a :: r))) (and (Nat.beq (zgs (zu2 (a :: r))) n) ((zu2 (a :: r)).all zge))))=true:=H10;rw [natK_eq,zav] at H11;obtain⟨hh,H12⟩:=zbz H11;obtain⟨hchk,hh⟩:=zag.1 hh;obtain⟨hLn,hLf⟩:=zag.1 hh;replace hLn:=Nat.eq_of_beq_eq_true hLn;rw [zav] at hLn;obtain⟨d,t,hn,hd,hg,H13⟩:=zfj hLn H12;generalize hnn:(a :: r).length=n at *;have hn0:0<n:=by rw [← hnn];simp
  refine⟨_,_,H13,run _ _ fun base φ hc R s q ys h' hq hqp hqv h1 hr hsl hnil hx hz=>?_⟩
  have hqf:q.all zge=true:=by
   rw [List.all_eq_true] at hfk ⊢;exact fun v hv=>hfk v (hqp.subset hv)
  have hql:q.length=n:=by rw [hqp.length_eq,hnn]
  have hcq:zo9 q=q:=zm2 hqf;have hsn:s.len=n:=by rw [hsl,cvs_len _ _ hqv,hql]
  obtain⟨g1,e1,e2,e3,hcall⟩:=zln (base:=hc) (ms:=[]) CO hchk hn0 hLf hq (by rw [hcq,hql,Nat.mul_one]) (by rw [hcq];exact hqf) (fun ψ=>by rw [hcq,zkl (ψ:=φ) hqf];exact hqv) h1 hx.size hx.block hr hz hsn (fun _=>rfl);refine CallsH.mono hcall ?_;rintro u h4 ⟨rfl,z1,z2,z3⟩
  obtain⟨R5,X5⟩:=R.newAt (x:=⟨g1,0,s.cap⟩) (bl:=.c ⟨n,true,true,el,1,d,t⟩) z1 z2 e2 hn (by
   have:=z3 (φ.up h.nx ⟨g1,0,s.cap⟩) d t (by omega) (fun j hj=>hg j (by omega));rw [Nat.mul_one] at this
   exact this)
  refine⟨rfl,_,X5,R5,zdj.2 ⟨_,Ph.up_eq,by rw [zbx];show n<=s.cap;omega,?_⟩⟩;rw [zbx];obtain⟨sa,sl,sc⟩:=s;simp only at e1 hsn;subst e1;subst hsn;rfl
end
end Go.V
end
section
namespace Go.Proofs
open Go.RowKit Go.Shelf Go.Maps
open Go.ChangeMaps (setBlock)
attribute [local go_sem] Oper.semAt_some
namespace YwYo
abbrev PT:=ByteArray × Int × Int × Int × Int
def pcs (x:PT):List Value:=[.string x.1,.int .i64 x.2.1,.int .i64 x.2.2.1,.int .u64 x.2.2.2.1,.int .u16 x.2.2.2.2]
def pv (x:PT):Value:=.agg #[.string x.1,.int .i64 x.2.1,.int .i64 x.2.2.1,.int .u64 x.2.2.2.1,.int .u16 x.2.2.2.2]
section
variable {F:Fence} {n:Nat} {P:Program} {ops:Array Oper} {Q:Exit->Act->World->Prop} {a:Act} {w:World} {rest:List Oper} {o:Oper}
theorem zdv (hg:o.guard=none) (m:Operand) (t:TypeId) (hop:o.op=Op.range t m) (k e:TypeId) (ht:P.underlying t=some (.map k e)) (b ck:Nat) (es:Array MapEntry)
  (hm:a.eval m = .map (some b)) (hb:w.heap[b]? = some (.map es ck))
  (hK:wpListIn F n P ops Q rest (a.put o.dst (.pointer (some ⟨w.heap.size,0,none⟩))) (w.alloc (.mapIter (some b) ck #[] ck))) :
  wpListIn F n P ops Q (o :: rest) a w:=by
 refine wpListIn_plain hg fun K' hK'=>?_;unfold Oper.wpIn;refine⟨by simp [Oper.about,hop],?_⟩;rw [Oper.semAt_plain F _ _ (by rw [hop];intro c hc';cases hc')];simp [execOp,hop,hm,run_range_map w t k e b es ck ht hb,Result.andThen];exact hK' _ _ hK
theorem ze4 (hg:o.guard=none) (it:Operand) (hop:o.op=Op.next it false) (r bm since c0:Nat) (seen:Array Nat) (es:Array MapEntry) (ck:Nat)
  (hit:a.eval it = .pointer (some ⟨r,0,none⟩)) (hr:w.heap[r]? = some (.mapIter (some bm) since seen c0)) (hb:w.heap[bm]? = some (.map es ck)) (hold:∀ x∈es.toList,x.born<since) (hsc:since<=c0)
  (hDone:(leftOf es seen).size=0->wpListIn F n P ops Q rest (a.put o.dst (.tuple #[.bool false])) w)
  (hMore:∀(x:MapEntry) (w':World),x∈(leftOf es seen).toList->w.grownBy w' (some r)->w'.heap.size=w.heap.size->w'.heap[r]? = some (.mapIter (some bm) since (seen.push x.born) ck) ->
   wpListIn F n P ops Q rest (a.put o.dst (.tuple #[.bool true,x.key,x.val])) w') :
  wpListIn F n P ops Q (o :: rest) a w:=by
 refine wpListIn_plain hg fun K' hK'=>?_;unfold Oper.wpIn;refine⟨by simp [Oper.about,hop],?_⟩;rw [Oper.semAt_plain F _ _ (by rw [hop];intro c hc';cases hc')];rcases run_next_at (P:=P) w o.type r bm since c0 seen es ck hr hb hold hsc with⟨h0,hrun⟩ | ⟨x,hx,w1,hw1,hrun⟩
 ·simp [execOp,hop,hit,hrun,Result.andThen]
  exact hK' _ _ (hDone h0)
 ·simp [execOp,hop,hit,hrun,Result.andThen]
  refine hK' _ _ (hMore x _ hx ?_ ?_ ?_)
  ·rcases hw1 with rfl | rfl <;> exact⟨rfl,rfl,rfl,by simp [setBlock],fun i hi hne=>by
    show (Array.setIfInBounds _ _ _)[i]? = _
    rw [Array.getElem?_setIfInBounds_ne (fun e=>hne (by rw [e]))];try rfl⟩
  ·rcases hw1 with rfl | rfl <;> simp [setBlock]
  ·have hl:r<w1.heap.size:=by rcases hw1 with rfl | rfl <;> exact(Array.getElem?_eq_some_iff.1 hr).1
   simp [setBlock,hl]
end
theorem zcc {α β:Type} (f:α->β):∀ {l:List α},(l.map f).Nodup->l.Nodup/\∀ x∈l,∀ y∈l,f x=f y->x=y
 | [],_=>⟨List.nodup_nil,fun x hx=>by simp at hx⟩
 | a :: r,h=>by
  rw [List.map_cons,List.nodup_cons] at h;obtain⟨h1,h2⟩:=zcc f h.2;refine⟨List.nodup_cons.2 ⟨fun ha=>h.1 (List.mem_map.2 ⟨a,ha,rfl⟩),h1⟩,fun x hx y hy e=>?_⟩;rcases List.mem_cons.1 hx with ex | hx <;> rcases List.mem_cons.1 hy with ey | hy
  ·rw [ex,ey]
  ·exact absurd (List.mem_map.2 ⟨y,hy,by rw [← e,ex]⟩) h.1
  ·exact absurd (List.mem_map.2 ⟨x,hx,by rw [e,ey]⟩) h.1
  ·exact h2 x hx y hy e
theorem zjs:∀(l m:List Nat),l.Nodup->(∀ a∈l,a∈m)->l.length<=m.length
 | [],m,_,_=>Nat.zero_le _
 | a :: r,m,h,hm=>by
  rw [List.nodup_cons] at h;have h1:=zjs r (m.erase a) h.2 fun b hb=>(List.mem_erase_of_ne (fun e:b=a=>h.1 (by rw [← e];exact hb))).2 (hm b (List.mem_cons_of_mem _ hb));rw [List.length_erase_of_mem (hm a (by simp))] at h1;have:0<m.length:=List.length_pos_of_mem (hm a (by simp));simp only [List.length_cons];omega
theorem mem_left {es:Array MapEntry} {seen:Array Nat} {x:MapEntry} (h:x∈(leftOf es seen).toList):x∈es.toList/\x.born ∉ seen.toList:=by
 unfold leftOf at h;simp at h;exact⟨by simpa using h.1,by simpa using h.2⟩
theorem zey {es:Array MapEntry} {seen:Array Nat} {ys:List MapEntry} (hnd:(es.toList.map (·.born)).Nodup) (hse:seen.toList=ys.map (·.born)) (hys:∀ y∈ys,y∈es.toList) (hyn:(ys.map (·.born)).Nodup)
  (hl:leftOf es seen = #[]):ys.Perm es.toList:=by
 have inj:∀ x∈es.toList,∀ y∈es.toList,x.born=y.born->x=y:=(zcc _ hnd).2;have n1:ys.Nodup:=(zcc _ hyn).1;have n2:es.toList.Nodup:=(zcc _ hnd).1;refine(List.perm_ext_iff_of_nodup n1 n2).2 fun x=>⟨hys x,fun hx=>?_⟩
 have h1:x.born∈seen.toList:=by
  apply Classical.byContradiction;intro hn;have:x∈(leftOf es seen).toList:=by unfold leftOf;simp;exact⟨by simpa using hx,by simpa using hn⟩
  rw [hl] at this;simp at this
 rw [hse] at h1;obtain⟨y,hy,e⟩:=List.mem_map.1 h1;rw [← inj y (hys y hy) x hx e];exact hy
set_option maxRecDepth 100000 in
set_option maxHeartbeats 2000000 in
theorem values1_in (F:Fence) (n:Nat) (h7:F.fn 456) (hro:F.round=none) (hn:1<=n) (l Bm b ck:Nat) (es:Array MapEntry) (J Jx:List PT->World->Prop)
  (hcs:∀ x∈es.toList,∃ q:PT,x.val=pv q) (hold:∀ x∈es.toList,x.born<ck) (hnd:(es.toList.map (·.born)).Nodup)
  (hY:∀ pre x W,J pre W->pre.length<es.size->YieldAt F (n-1) Tryz.prog l #[pv x] W fun e W' =>
   (e = .returned (.bool true)/\J (pre++[x]) W'/\KeepsWalks W W')∨(e = .returned (.bool false)/\Jx (pre++[x]) W'))
  (W:World) (hJ:AbidesFrom W.heap.size J) (hm:W.cell? ⟨Bm,0,none⟩=some (.map (some b))) (hb:W.heap[b]? = some (.map es ck)) (h0:J [] W) :
  CallsIn F n Tryz.prog 456 #[.func (.yield l) #[] #[],.pointer (some ⟨Bm,0,none⟩)] W fun e W'=>(∃ v,e = .returned v) /\
   ((∃ ys,(ys.map pv).Perm (es.toList.map (·.val))/\J ys W')∨(∃ pre,True/\Jx pre W')):=by
 refine callsIn_of_wp Tryz.func456 rfl h7 ?_ hro;simp only [Tryz.ntmps456,List.size_toArray,List.length_cons,List.length_nil,Nat.reduceAdd,Nat.reduceSub,Array.replicate_succ,Array.replicate_zero,List.push_toArray,List.append_toArray,List.nil_append,List.cons_append]
 gi_wp2_with (first
  | (gi_at_range;refine zdv rfl _ 546 rfl 549 99 Tryz.underlying546 b ck es rfl hb ?_)
  | gi_in)
 go_frame
 gi_loopw [4] (fun _ wr=>∃(seen:Array Nat) (ys:List MapEntry) (c0:Nat),wr.heap[W.heap.size]? = some (.mapIter (some b) ck seen c0)/\ck<=c0/\wr.heap[b]? = some (.map es ck)/\seen.toList=ys.map (·.born)/\(∀ y∈ys,y∈es.toList)/\(ys.map (·.born)).Nodup/\∃ qs,qs.map pv=ys.map (·.val)/\J qs wr)
  (fun _ wr=>match wr.heap[W.heap.size]? with | some (.mapIter _ _ seen _)=>es.size-seen.size | _=>0)
 case atStart =>
  refine⟨#[],[],ck,World.alloc_heap_new _ _,Nat.le_refl _,?_,rfl,by simp,by simp,[],rfl,hJ [] W _ none h0 ⟨rfl,rfl,rfl,by simp,fun k hk _=>Below.heap_alloc _ _ k hk⟩ (fun r e=>by cases e)⟩;exact(Below.heap_alloc _ _ b (Array.getElem?_eq_some_iff.1 hb).1).trans hb
 case round =>
  obtain⟨seen,ys,c0,hr,hc0,hbr,hse,hys,hyn,qs,hqs,hJs⟩:=hrel
  gi_wp2_with (first
   | (gi_at_next;refine ze4 rfl _ rfl W.heap.size b ck c0 seen es ck rfl hr hbr hold hc0 ?_ ?_)
   | gi_in)
  ·intro hl
   gi_wp2
   go_end0
   exact⟨⟨_,rfl⟩,.inl ⟨qs,hqs ▸ (zey hnd hse hys hyn hl).map _,hJs⟩⟩
  ·intro x w2 hx hg2 hs2 hr2
   have hxm:x∈es.toList:=(mem_left (by simpa using hx)).1;have hbw:b≠W.heap.size:=by have:=(Array.getElem?_eq_some_iff.1 hb).1;omega
   have hb2:w2.heap[b]? = some (.map es ck):=(hg2.block b (Array.getElem?_eq_some_iff.1 hbr).1 (fun e=>hbw (Option.some.inj e))).trans hbr;have hen:=run_entry_at (P:=Tryz.prog) w2 W.heap.size b ck seen es ck x hr2 hb2 hxm hnd;obtain⟨⟨s',t',v',m',d'⟩,hv⟩:=hcs x hxm;have hY':=hY qs (s',t',v',m',d');simp only [pv] at hY';rw [hv] at hen ⊢;simp only [pv] at hen ⊢;have hx2:x.born ∉ seen.toList:=(mem_left (by simpa using hx)).2
   have hlen:ys.length<es.size:=by
    have:=zjs ((x :: ys).map (·.born)) (es.toList.map (·.born)) (by rw [List.map_cons,List.nodup_cons,← hse];exact⟨hx2,hse ▸ hyn⟩) (fun k hk=>by
     obtain⟨y,hy,rfl⟩:=List.mem_map.1 hk
     exact List.mem_map.2 ⟨y,(List.mem_cons.1 hy).elim (fun e=>e ▸ hxm) (hys y),rfl⟩)
    simp at this;omega
   have hJ2:J qs w2:=hJ qs wr w2 (some W.heap.size) hJs hg2 (fun r e=>by cases e;exact⟨Nat.le_refl _,_,hr,rfl⟩)
   have hJ3:J qs (w2.alloc (.cells #[.string s',.int .i64 t',.int .i64 v',.int .u64 m',.int .u16 d'] 99))
    := hJ qs w2 _ none hJ2 ⟨rfl,rfl,rfl,by simp,fun k hk _=>Below.heap_alloc _ _ k hk⟩ (fun r e=>by cases e)
   have hr3:(w2.alloc (.cells #[.string s',.int .i64 t',.int .i64 v',.int .u64 m',.int .u16 d'] 99)).heap[W.heap.size]? = some (.mapIter (some b) ck (seen.push x.born) ck):=(Below.heap_alloc _ _ _ (Array.getElem?_eq_some_iff.1 hr2).1).trans hr2;have hb3:(w2.alloc (.cells #[.string s',.int .i64 t',.int .i64 v',.int .u64 m',.int .u16 d'] 99)).heap[b]? = some (.map es ck):=(Below.heap_alloc _ _ _ (Array.getElem?_eq_some_iff.1 hb2).1).trans hb2;obtain⟨fn,tmps,assign,body,hy,hR⟩:=hY' _ hJ3 (by have:=congrArg List.length hqs;simp at this;omega);clear hs2
   gi_wp2
   refine hR.mono ?_;rintro e W3 (⟨rfl,hJ4,hk4⟩ | ⟨rfl,hJx4⟩)
   ·gi_wp2
    have hr4:=hk4.same _ _ hr3 rfl;have hb4:=hk4.same _ _ hb3 rfl
    go_roundw
    case rel =>
     refine⟨seen.push x.born,ys++[x],ck,hr4,Nat.le_refl _,hb4,by simp [hse],fun y hy=>(List.mem_append.1 hy).elim (hys y) (fun e=>by simp at e;exact e ▸ hxm),?_,qs++[(s',t',v',m',d')],by rw [List.map_append,List.map_append,hqs];simp [hv],hJ4⟩;rw [List.map_append,List.nodup_append];refine⟨hyn,by simp,fun a ha b hb e=>?_⟩;simp at hb;subst hb;rw [← hse] at ha;exact hx2 (e ▸ ha)
    case measure =>
     rw [hr4,hr];have:seen.size=ys.length:=by rw [← Array.length_toList,hse,List.length_map]
     simp;omega
   ·gi_wp2
    refine bodyPost_ret (results_none rfl _ _ _) rfl ?_;exact⟨⟨_,rfl⟩,.inr ⟨_,trivial,hJx4⟩⟩
theorem values_stops (F:Fence) (n:Nat) (h7:F.fn 456) (hro:F.round=none) (hn:1<=n) (Bm b ck:Nat) (es:Array MapEntry) (w:World)
  (hcs:∀ x∈es.toList,∃ q:PT,x.val=pv q) (hold:∀ x∈es.toList,x.born<ck) (hnd:(es.toList.map (·.born)).Nodup)
  (hBm:Bm<w.heap.size) (hm:w.cell? ⟨Bm,0,none⟩=some (.map (some b))) (hb:w.heap[b]? = some (.map es ck)) :
  SeqStopsK F n Tryz.prog 456 #[.pointer (some ⟨Bm,0,none⟩)] (fun x:PT=>#[pv x]) KeepsWalks (fun ys=>(ys.map pv).Perm (es.toList.map (·.val))) (fun _=>True) es.size w:=fun l J Jx W hW hJ _ hY h0 =>
 values1_in F n h7 hro hn l Bm b ck es J Jx hcs hold hnd hY W hJ ((hW.cell (p:=⟨Bm,0,none⟩) hBm).trans hm) ((hW.block b (Array.getElem?_eq_some_iff.1 hb).1).trans hb) h0
theorem infoP:(Tryz.prog.info? 99).map (fun i=>(i.zero,i.size,i.bytes))=some (some (.agg #[.string ⟨#[]⟩,.int .i64 0,.int .i64 0,.int .u64 0,.int .u16 0]),5,48):=by kernel_rfl
theorem cells5_new (w:World) (x:PT) (t:TypeId):∀ j u,(pcs x)[j]? = some u->(w.alloc (.cells #[.string x.1,.int .i64 x.2.1,.int .i64 x.2.2.1,.int .u64 x.2.2.2.1,.int .u16 x.2.2.2.2] t)).cell? ((⟨w.heap.size,0,none⟩:Addr).add j)=some u:=by
 intro j u hj
 match j,hj with
 | 0,hj=>simp [pcs] at hj;subst hj;simp [Addr.add]
 | 1,hj=>simp [pcs] at hj;subst hj;simp [Addr.add]
 | 2,hj=>simp [pcs] at hj;subst hj;simp [Addr.add]
 | 3,hj=>simp [pcs] at hj;subst hj;simp [Addr.add]
 | 4,hj=>simp [pcs] at hj;subst hj;simp [Addr.add]
 | k+5,hj=>simp [pcs] at hj
theorem cell_at {W:World} {B:Nat} {c:Array Value} {t:TypeId} (h:W.heap[B]? = some (.cells c t (0,0))) (j:Nat) (v:Value) (hj:c[j]? = some v):W.cell? ⟨B,j,none⟩=some v:=by simp [World.cell?,h,hj]
set_option maxRecDepth 100000 in
set_option maxHeartbeats 2000000 in
theorem appendSeq_in (F:Fence) (n:Nat) (h3:F.fn 514) (h7:F.fn 456) (hro:F.round=none) (hn:3<=n) (Bs b ck:Nat) (es:Array MapEntry) (w:World)
  (hcs:∀ x∈es.toList,∃ q:PT,x.val=pv q) (hold:∀ x∈es.toList,x.born<ck) (hnd:(es.toList.map (·.born)).Nodup) (hlen:es.size<=1000000)
  (hBs:Bs<w.heap.size) (hm:w.cell? ⟨Bs,0,none⟩=some (.map (some b))) (hb:w.heap[b]? = some (.map es ck)) :
  CallsIn F n Tryz.prog 514 #[.slice none 0 0,.func (.func 456) #[] #[.pointer (some ⟨Bs,0,none⟩)]] w fun e W'=>∃(v:Value) (ys:List PT),e = .returned v/\(ys.map pv).Perm (es.toList.map (·.val))/\W'.ownsRow w.heap.size 99 5 v ys.length (ys.flatMap pcs)/\Below w.heap.size w W':=by
 have h1:1<=n:=by omega
 obtain⟨i0,hi,hz0,hz1,hz2⟩:=info_parts infoP;refine callsIn_of_wp_marks Tryz.func514 rfl h3 ?_ hro;simp only [Tryz.ntmps514,List.size_toArray,List.length_cons,List.length_nil,Nat.reduceAdd,Nat.reduceSub,Array.replicate_succ,Array.replicate_zero,List.push_toArray,List.append_toArray,List.nil_append,List.cons_append]
 gi_wp2
 have bO:=Boxed.new w 48 (.slice none 0 0);have hB0:Below w.heap.size w (w.alloc (.cells #[.slice none 0 0] 48)):=(Below.refl _ w).alloc (Nat.le_refl _) _
 refine wpIn_rangeFunc_ownH hro h1 (gf:=456) (lb:=#[.pointer (some ⟨Bs,0,none⟩)]) rfl h7 (enters_of Tryz.func456 (by kernel_rfl) rfl)
  (values_stops F (n-1) h7 hro (by omega) Bs b ck es _ hcs hold hnd (by simp;omega) ((hB0.cell (p:=⟨Bs,0,none⟩) hBs).trans hm) ((hB0.block b (Array.getElem?_eq_some_iff.1 hb).1).trans hb)) walksK_t walksK_b (Below.refl _ _) (fun _=>rfl)
  (fun pre W=>(∃ v,Boxed W w.heap.size 48 v/\W.ownsRow w.heap.size 99 5 v pre.length (pre.flatMap pcs)/\True)/\Below w.heap.size w W)
  (fun _ _ _=>False)
  (OwnFrom.and (Own.from (holdsRow_own w.heap.size w.heap.size 48 99 5 (fun pre:List PT=>pre.length) (fun pre=>pre.flatMap pcs) (fun pre v=>True)) _) (ownFrom_below (Nat.le_refl _) (by simp)))
  (fun _ _ _ _ _ hs _ _=>hs)
  ⟨⟨_,bO,World.ownsRow_nil _ _ _ _,trivial⟩,hB0⟩
  (fun x a' W=>∃ B,w.heap.size+1<=B/\W.heap[B]? = some (.cells #[.string x.1,.int .i64 x.2.1,.int .i64 x.2.2.1,.int .u64 x.2.2.2.1,.int .u16 x.2.2.2.2] 99 (0,0)) /\
   a' = { tmps:=#[.slice none 0 0,.func (.func 456) #[] #[.pointer (some ⟨Bs,0,none⟩)],.pointer (some ⟨w.heap.size,0,none⟩),undef,.slice none 0 0,.pointer (some ⟨B,0,none⟩),.func (.func 456) #[] #[.pointer (some ⟨Bs,0,none⟩)],pv x,undef,undef,undef,undef,undef],defers:=[] })
  ?ax ?assign ?body ?done ?stop
 case ax =>
  rintro x a' _ X Y row ⟨B,h1,h2,h3⟩ hg hr;refine⟨B,h1,(hg.block B (Array.getElem?_eq_some_iff.1 h2).1 (fun e=>?_)).trans h2,h3⟩;obtain⟨_,o,ho,hc⟩:=hr B e.symm;rw [h2] at ho;cases ho;cases hc
 case assign =>
  intro l pre x W K hI hK;obtain⟨x0,x1,x2,x3,x4⟩:=x;simp only [pv];have hsz:w.heap.size<=W.heap.size:=hI.2.size;obtain⟨⟨v,hv,hrow,_⟩,hB⟩:=hI;have hvl:w.heap.size<W.heap.size:=(Array.getElem?_eq_some_iff.1 hv).1
  gi_wp2
  refine hK _ _ ?_ ?_ ?_ ⟨W.heap.size,by omega,World.alloc_heap_new _ _,rfl⟩
  ·exact(KeepsOthers.alloc W _).from _
  ·exact KeepsWalks.alloc W _
  ·exact⟨⟨v,hv.alloc _,hrow.alloc _,trivial⟩,hB.trans ((Below.refl _ W).alloc (by omega) _)⟩
 case body =>
  rintro l pre x a' W hwl - ⟨⟨v,hv,hrow,_⟩,hB⟩ ⟨B,hB1,hB2,rfl⟩ hlt;obtain⟨x0,x1,x2,x3,x4⟩:=x;have hc:=hv.cell;have k0:=cell_at hB2 0 _ rfl;have k1:=cell_at hB2 1 _ rfl;have k2:=cell_at hB2 2 _ rfl;have k3:=cell_at hB2 3 _ rfl;have k4:=cell_at hB2 4 _ rfl
  gi_wp2_with (gi_at_builtin;refine wpListIn_append_own _ rfl _ _ 48 rfl w.heap.size 99 i0 _ 5 48 Tryz.underlying48 hi hz0 hz1 hz2 rfl (by decide) _ _ _ rfl (hrow.alloc _) ⟨W.heap.size,0,none⟩ 1 1 (pcs (x0,x1,x2,x3,x4)) rfl rfl (cells5_new _ _ _) (by simp [pcs,Value.oneCell']) (by simp [maxLen];omega) (by omega) (by have:=hB.size;simp;omega) ?_;intro v' w1 hown' hgrow _;obtain⟨g',cap',rfl⟩:=ownsRow_succ hown';obtain⟨hv1,hv2,hr2,hk2,hb2⟩:=hv.appended (by decide) hrow hB.size (Nat.le_refl _) hown' hgrow;have hc1:=hv1.cell;have hf1:=hv1.frozen)
  exact⟨hk2.from _,⟨hk2.size,fun k o hk hw=>hk2.same k o hk (Obj.not_cells_of_walk hw)⟩,⟨_,hv2,by rw [show (pre++[(x0,x1,x2,x3,x4)]).length=pre.length+1 from by simp,show (pre++[(x0,x1,x2,x3,x4)]).flatMap pcs=pre.flatMap pcs++pcs (x0,x1,x2,x3,x4) from by rw [List.flatMap_append,List.flatMap_cons,List.flatMap_nil,List.append_nil]];exact hr2⟩,hB.trans hb2⟩
 case done =>
  rintro D ys W hD hS ⟨⟨v,hv,hrow,_⟩,hB⟩ hK;have hc:=hv.cell
  gi_wp2
  refine⟨by simp,.inl ⟨_,_,rfl,run_takeDeferred hK,?_⟩⟩;exact⟨_,results_tmp rfl _ _ _,v,ys,rfl,hS,ownsRow_putObj hrow _ hK rfl,hB.trans (belowK_b (w:=w) (Nat.le_refl _) W D _ _ (by simp at hD;omega) hK rfl rfl)⟩
 case stop =>
  rintro D c pre W _ _ h _;exact h.elim
set_option maxHeartbeats 1000000 in
theorem collect_in (F:Fence) (n:Nat) (h8:F.fn 454) (h3:F.fn 514) (h7:F.fn 456) (hro:F.round=none) (hn:4<=n) (Bs b ck:Nat) (es:Array MapEntry) (w:World)
  (hcs:∀ x∈es.toList,∃ q:PT,x.val=pv q) (hold:∀ x∈es.toList,x.born<ck) (hnd:(es.toList.map (·.born)).Nodup) (hlen:es.size<=1000000)
  (hBs:Bs<w.heap.size) (hm:w.cell? ⟨Bs,0,none⟩=some (.map (some b))) (hb:w.heap[b]? = some (.map es ck)) :
  CallsIn F n Tryz.prog 454 #[.func (.func 456) #[] #[.pointer (some ⟨Bs,0,none⟩)]] w fun e W'=>∃(v:Value) (ys:List PT),e = .returned v/\(ys.map pv).Perm (es.toList.map (·.val))/\W'.ownsRow w.heap.size 99 5 v ys.length (ys.flatMap pcs)/\Below w.heap.size w W':=by
 have h1:1<=n:=by omega
 refine callsIn_of_wp Tryz.func454 rfl h8 ?_ hro;simp only [Tryz.ntmps454,List.size_toArray,List.length_cons,List.length_nil,Nat.reduceAdd,Nat.reduceSub,Array.replicate_succ,Array.replicate_zero,List.push_toArray,List.append_toArray,List.nil_append,List.cons_append]
 gi_wp2_with (gi_at_call 514;refine(appendSeq_in F (n-1) h3 h7 hro (by omega) Bs b ck es _ hcs hold hnd hlen hBs hm hb).mono ?_;rintro e w' ⟨v,ys,rfl,hS,hrow,hb2⟩)
 go_ret
 exact⟨v,ys,rfl,hS,hrow,hb2⟩
end YwYo
end Go.Proofs
end

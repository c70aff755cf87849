/- A part of the proof of statements of this seat: lemmas, no statement of their own. -/
import Derived.Test.YtmilimlmimckbaaGreatDoorYoZan
import Derived.Test.YtmilimlmimckbaaGreatDoorYoZaf
import Derived.Test.YtmilimlmimckbaaGreatDoorYoZag
set_option linter.unusedVariables false
set_option linter.unusedSimpArgs false
section
namespace Go.V
open Go.Q
noncomputable section
theorem Rel.moved {base:zaa} {φ:Ph} {h:HS} {hc hc':zaa} (R:Rel base φ h hc) {b:Nat} {bl bl':Blk} {x y:Pl} (e:φ b=some x) (hb:gt DH b h.h=some bl) (hw:bl.wr=true) (hn:h.nx<4 ^ DH) (hy:y.b=x.b)
  (hs:hc'.size=hc.size) (ho:∀ i,i≠x.b->hc'[i]? = hc[i]?) (r:RelO (φ.up h.nx y) bl' y hc') :
  Rel base (φ.up h.nx y) ⟨h.nx+1,st DH h.nx (some bl') (st DH b none h.h)⟩ hc'/\Ex φ h (φ.up h.nx y) ⟨h.nx+1,st DH h.nx (some bl') (st DH b none h.h)⟩:=by
 have hle:=Ph.up_le (x:=y) R.fresh;have hid:=R.idlt e;have hbase:=(R.blk b bl x hid hb e).2 hw
 have old:∀ b' bl'',b'<4 ^ DH->gt DH b' (st DH h.nx (some bl') (st DH b none h.h))=some bl''->(b'=h.nx/\bl''=bl')∨(b'≠h.nx/\b'≠b/\gt DH b' h.h=some bl''):=by
  intro b' bl'' l g;by_cases n1:b'=h.nx
  ·subst n1;rw [zht] at g;cases g;exact .inl ⟨rfl,rfl⟩
  ·rw [zar _ _ _ _ _ hn l (Ne.symm n1)] at g
   by_cases n2:b'=b
   ·subst n2;rw [zht] at g;cases g
   ·rw [zar _ _ _ _ _ hid l (Ne.symm n2)] at g;exact .inr ⟨n1,n2,g⟩
 refine⟨⟨fun b' z e1=>?_,hn,fun c hc hl=>by rw [zar _ _ _ _ _ hn hl (Nat.ne_of_lt hc),zar _ _ _ _ _ hid hl (Nat.ne_of_lt (Nat.lt_of_lt_of_le (R.lt _ _ e) (Nat.le_of_succ_le hc)))];exact R.un c (Nat.le_of_succ_le hc) hl,fun g hg=>hle _ _ (R.gl g hg),fun b' bl'' z hb' hg e2=>?_,fun b1 b2 bl1 bl2 x1 x2 l1 l2 g1 g2 p1 p2 hne w1=>?_,by rw [hs];exact R.sz,fun i hi=>?_⟩,hle,Nat.le_succ _,fun c hc n=>⟨?_,?_⟩⟩
 ·by_cases n1:b'=h.nx
  ·subst n1;exact Nat.lt_succ_self _
  ·rw [Ph.up_ne n1] at e1;exact Nat.lt_succ_of_lt (R.lt _ _ e1)
 ·rcases old b' bl'' hb' hg with⟨rfl,rfl⟩ | ⟨n1,n2,g⟩
  ·rw [Ph.up_eq] at e2;cases e2
   exact⟨r,fun _=>by rw [hy];exact hbase⟩
  ·rw [Ph.up_ne n1] at e2
   obtain⟨rb2,hb2⟩:=R.blk b' bl'' z hb' g e2;exact⟨(rb2.mono hle).heap (by rw [hs];exact Nat.le_refl _) (ho _ (R.sep b b' bl bl'' x z hid hb' hb g e e2 (Ne.symm n2) hw).symm),hb2⟩
 ·rcases old b1 bl1 l1 g1 with⟨rfl,rfl⟩ | ⟨n1,m1,k1⟩ <;> rcases old b2 bl2 l2 g2 with⟨rfl,rfl⟩ | ⟨n2,m2,k2⟩
  ·exact absurd rfl hne
  ·rw [Ph.up_eq] at p1;cases p1
   rw [Ph.up_ne n2] at p2;rw [hy];exact R.sep b b2 bl bl2 x x2 hid l2 hb k2 e p2 (Ne.symm m2) hw
  ·rw [Ph.up_eq] at p2;cases p2
   rw [Ph.up_ne n1] at p1;rw [hy];exact R.sep b1 b bl1 bl x1 x l1 hid k1 hb p1 e m1 w1
  ·rw [Ph.up_ne n1] at p1;rw [Ph.up_ne n2] at p2
   exact R.sep b1 b2 bl1 bl2 x1 x2 l1 l2 k1 k2 p1 p2 hne w1
 ·rw [ho i (by omega)];exact R.old i hi
 ·rw [Ph.up_ne (Nat.ne_of_lt hc)];exact n
 ·have l:=Nat.lt_of_lt_of_le hc R.nx
  show gt DH c (st DH h.nx (some bl') (st DH b none h.h))=_
  rw [zar _ _ _ _ _ hn l (Nat.ne_of_gt hc),zar _ _ _ _ _ hid l (zsk e n)]
def grow (need:Nat) (f:Nat) (d:Nat) (c:T AV d) (K:(d:Nat)->T AV d->Rs):Rs :=
 Nat.rec (motive:=fun _=>(d:Nat)->T AV d->Rs) (fun _ _=>false) (fun _ ih d c=>Bool.rec (motive:=fun _=>Rs) (ih (Nat.succ d) (Q.mk (α:=T AV d) c (mt AV d) (mt AV d) (mt AV d))) (K d c) (Nat.ble need (Nat.pow 4 d))) f d c
theorem zxt {need:Nat} {K:(d:Nat)->T AV d->Rs}:∀(f d:Nat) (c:T AV d),grow need f d c K=true->∃ d' c',K d' c'=true/\need<=4 ^ d'/\4 ^ d<=4 ^ d'/\∀ j,j<4 ^ d->gt d' j c'=gt d j c
 | 0,d,c,H=>by cases H
 | f+1,d,c,H=>by
  replace H:Bool.rec (motive:=fun _=>Rs) (grow need f (d+1) (Q.mk (α:=T AV d) c (mt AV d) (mt AV d) (mt AV d)) K) (K d c) (Nat.ble need (Nat.pow 4 d))=true:=H
  cases hb:Nat.ble need (Nat.pow 4 d) with
  | true =>
   rw [hb] at H
   exact⟨d,c,H,Nat.le_of_ble_eq_true hb,Nat.le_refl _,fun _ _=>rfl⟩
  | false =>
   rw [hb] at H;obtain⟨d',c',h1,h2,h3,h4⟩:=zxt f (d+1) _ H;have hp:4 ^ (d+1)=4 ^ d*4:=Nat.pow_succ 4 d;have hpos:0<4 ^ d:=Nat.pow_pos (by decide);refine⟨d',c',h1,h2,by omega,fun j hj=>?_⟩;rw [h4 j (by omega)];show gt d (j % 4 ^ d) (pk0 (j / 4 ^ d) c (mt AV d) (mt AV d) (mt AV d))=_;rw [Nat.div_eq_of_lt hj,Nat.mod_eq_of_lt hj];rfl
structure DA where
 f:AV->Rs->Rs->(Nat->Nat->Nat->Nat->Rs)->Rs
def DA.x (x:DA):AV->Rs->Rs->(Nat->Nat->Nat->Nat->Rs)->Rs:=DA.rec (fun f=>f) x
def dA:DA:=⟨fun v Z E K=>AV.rec (motive_1:=fun _=>Rs) (motive_2:=fun _=>Unit) (fun x=>false) (fun k x=>false) (fun l=>false) (fun b o=>false) (fun b o l c=>K b o l c) (fun b o r c=>E) (fun k b=>false) (fun k=>Bool.rec (motive:=fun _=>Rs) false Z (Nat.beq k 1)) (fun g fs cs _ _=>false) (fun t v _=>false) (fun l _=>false) (fun l _=>false) () (fun _ _ _ _=>()) v⟩
theorem qow {v:AV} {Z E:Rs} {K:Nat->Nat->Nat->Nat->Rs} (h:dA.x v Z E K=true):(v = .nl 1/\Z=true)∨(∃ b o r c,v = .es b o r c/\E=true)∨∃ b o l c,v = .sl b o l c/\K b o l c=true:=by
 cases v with
 | sl b o l c=>exact .inr (.inr ⟨_,_,_,_,rfl,h⟩)
 | es b o r c=>exact .inr (.inl ⟨_,_,_,_,rfl,h⟩)
 | nl k=>obtain⟨rfl,h⟩:=zjf (a:=k) h;exact .inl ⟨rfl,h⟩
 | _=>cases h
def z0 (m:Nat) (x y:Rs):Rs:=Nat.rec (motive:=fun _=>Rs) x (fun _ _=>y) m
theorem qeo {m:Nat} {x y:Rs} (h:z0 m x y=true):(m=0/\x=true)∨(0<m/\y=true):=by
 cases m with
 | zero=>exact .inl ⟨rfl,h⟩
 | succ m=>exact .inr ⟨Nat.succ_pos _,h⟩
def qrh:Nat:=140737488355328
def aOk (bts tot:Nat):Bool:=and (Nat.ble (Nat.mul tot bts) qrh) (Nat.ble tot qrh)
theorem qdj {bts tot:Nat} (h:aOk bts tot=true):tot*bts<=140737488355328/\tot<=maxLen:=by
 obtain⟨h1,h2⟩:=zag.1 h;refine⟨Nat.le_of_ble_eq_true h1,?_⟩;have h2':tot<=140737488355328:=Nat.le_of_ble_eq_true h2;simp only [maxLen];omega
def qjg (el es bts:Nat) (v:AV) (h:HS) (m:Nat) (news:List AV) (K:AV->HS->Rs):Rs :=
 dA.x v (z0 m (K (.nl 1) h) (Bool.rec (motive:=fun _=>Rs) false (zb3 (Nat.mul m es) fun q=>zrk el es q true news h fun b h=>K (.sl b 0 m BIG) h) (aOk bts m)))
  (z0 m (K v h) false)
  fun b o len c=>zb3 (Nat.add len m) fun tot=>Bool.rec (motive:=fun _=>Rs) false (z0 m (K v h) (zuz h b fun bn u w el' es' d t=>zb3 (Nat.mul len es) fun le=>zb3 (Nat.mul tot es) fun q =>
   Bool.rec (motive:=fun _=>Rs)
    (Bool.rec (motive:=fun _=>Rs) false
     (Bool.rec (motive:=fun _=>Rs)
      (rd d t le o fun olds=>qdy olds news fun l=>zv0 h b none fun h=>zrk el es q true l h fun b h=>K (.sl b 0 tot BIG) h)
      (grow q 24 d t fun d t=>wt d news bn t fun t=>zv0 h b none fun h=>qdb h (.c ⟨q,true,true,el,es,d,t⟩) fun b h=>K (.sl b 0 tot BIG) h)
      (and (Nat.beq o 0) (Nat.beq bn le)))
     (and u (and w (and (Nat.beq es' es) (and (Nat.beq o (Nat.mul (Nat.sub BIG c) es)) (Nat.ble (Nat.add o le) bn))))))
    (Bool.rec (motive:=fun _=>Rs)
     (Bool.rec (motive:=fun _=>Rs) false (rd d t le o fun olds=>qdy olds news fun l=>zrk el es q true l h fun b h=>K (.sl b 0 tot BIG) h) (Nat.ble (Nat.add o le) bn))
     (Bool.rec (motive:=fun _=>Rs) false (wt d news (Nat.add o le) t fun t=>zv0 h b (some (.c ⟨bn,u,w,el',es',d,t⟩)) fun h=>K (.sl b o tot c) h) (and w (Nat.ble (Nat.add o q) bn)))
     (Nat.ble tot c))
    (Nat.blt c SM))) (aOk bts tot)
theorem zr3 {base:zaa} {φ:Ph} {h:HS} {hc:zaa} {el es tot d:Nat} {t:T AV d} {l:List AV} {us z:List Value} (R:Rel base φ h hc) (hn:h.nx<4 ^ DH) (hl:l.length=tot*es) (hd:tot*es<=4 ^ d) (hg:∀ j,j<tot*es->gt d j t=l[j]?)
  (hv:cvs φ l=some us) (h1:∀ w∈us,w.oneCell'=true) (hz:z.length=es) {c:Nat} (hc':tot<=c):∃ φ',Ex φ h φ' ⟨h.nx+1,st DH h.nx (some (.c ⟨tot*es,true,true,el,es,d,t⟩)) h.h⟩ /\
   Rel base φ' ⟨h.nx+1,st DH h.nx (some (.c ⟨tot*es,true,true,el,es,d,t⟩)) h.h⟩ (hc.push (.cells (us.toArray++Builtin.zeroCells z.toArray (c-tot)) el))/\cv φ' (.sl h.nx 0 tot BIG)=some (.slice (some ⟨hc.size,0,none⟩) tot c):=by
 have ha:us.toArray++Builtin.zeroCells z.toArray (c-tot)=(us++zkc z (c-tot)).toArray:=by
  apply Array.toList_inj.1;rw [Array.toList_append,zcm]
 rw [ha];have hle:=Ph.up_le (x:=⟨hc.size,0,c⟩) R.fresh
 obtain⟨R',X⟩:=R.new (k:=c) (bl:=.c ⟨tot*es,true,true,el,es,d,t⟩) (ob:=.cells (us++zkc z (c-tot)).toArray el) hn
  (RelB.row (φ:=φ.up h.nx ⟨hc.size,0,c⟩) hl hd hg (ze0 hle _ _ hv) h1 (.inl ⟨rfl,by
   rw [List.length_append,cvs_len _ _ hv,hl,qba,hz,← Nat.add_mul];congr 1;omega⟩) (.inl rfl))
 exact⟨_,X,R',zdj.2 ⟨_,Ph.up_eq,by rw [zbx];exact hc',by rw [zbx]⟩⟩
theorem ztw {k c:Nat} (h:¬ c<SM):za1 k c=k-(BIG-c):=by unfold za1;rw [if_neg h]
theorem zs4 {el es bts:Nat} {v:AV} {h:HS} {m:Nat} {news:List AV} {K:AV->HS->Rs} {z:List Value} (hz:z.length=es) (hnl:news.length=m*es) (H:qjg el es bts v h m news K=true) :
  ∃ v' h1,K v' h1=true/\∀ base φ hc u ns,Rel base φ h hc->cv φ v=some u->cvs φ news=some ns->(∀ w∈ns,w.oneCell'=true)->∃ s:Slc,u=s.v/\App el es bts z hc s m ns fun s' h'=>∃ φ',Ex φ h φ' h1/\Rel base φ' h1 h'/\cv φ' v'=some s'.v:=by
 have z0s:0*bts<=140737488355328/\0<=maxLen:=⟨by simp,by simp [maxLen]⟩
 rcases qow H with⟨hq,H2⟩ | ⟨b,o',r,c,hq,H2⟩ | ⟨b,o',len,c,hq,H2⟩ <;> clear H <;> (first | subst hq | skip) <;> revert H2 <;> intro H
 ·rcases qeo H with⟨hq,H2⟩ | ⟨hm,H2⟩ <;> clear H <;> (first | subst hq | skip) <;> revert H2 <;> intro H
  ·refine⟨_,_,H,fun base φ hc u ns R hu hv h1=>?_⟩
   cases hu
   have hns:ns=[]:=List.eq_nil_of_length_eq_zero (by rw [cvs_len _ _ hv,hnl];simp);subst hns;exact⟨⟨none,0,0⟩,rfl,by simp,by simp,by simp,by simp [maxLen],fun _=>⟨fun _=>rfl,(fun a ha=>by cases ha),φ,Ex.rfl,R,rfl⟩,fun hh=>absurd hh (by simp)⟩
  ·obtain⟨hok,H⟩:=zbz H
   rw [natK_eq] at H;obtain⟨d,t,hn,hd,hg,H⟩:=zfj hnl H;obtain⟨s1,s2⟩:=qdj hok;refine⟨_,_,H,fun base φ hc u ns R hu hv h1=>?_⟩
   cases hu
   refine⟨⟨none,0,0⟩,rfl,by rw [cvs_len _ _ hv,hnl],h1,by simpa using s1,by simpa using s2,fun hh=>absurd hh (by simp;omega),fun _=>⟨[],by simp,⟨fun _=>rfl,(fun a ha=>by cases ha)⟩,fun cp k1 k2=>?_⟩⟩;simp only [Nat.zero_add] at k1 ⊢;obtain⟨φ',X,R',hcv⟩:=zr3 (el:=el) (z:=z) R hn hnl hd hg hv h1 hz k1;refine⟨φ',X,?_,hcv⟩;simpa using R'
 ·rcases qeo H with⟨hq,H2⟩ | ⟨hm,H2⟩ <;> clear H <;> (first | subst hq | skip) <;> revert H2 <;> intro H
  ·refine⟨_,_,H,fun base φ hc u ns R hu hv h1=>?_⟩
   have hu':=hu;obtain⟨x,hx,rfl⟩:=zu8 hu;have hns:ns=[]:=List.eq_nil_of_length_eq_zero (by rw [cvs_len _ _ hv,hnl];simp);subst hns;exact⟨⟨some _,0,_⟩,rfl,by simp,by simp,by simp,by simp [maxLen],fun _=>⟨(fun hh=>by cases hh),(fun a ha j hj=>absurd hj (by simp)),φ,Ex.rfl,R,hu'⟩,fun hh=>absurd hh (by simp)⟩
  ·cases H
 ·rw [natK_eq] at H
  obtain⟨hok,H⟩:=zbz H;obtain⟨s1,s2⟩:=qdj hok;replace s1:(len+m)*bts<=140737488355328:=s1;replace s2:len+m<=maxLen:=s2;rcases qeo H with⟨hq,H2⟩ | ⟨hm,H2⟩ <;> clear H <;> (first | subst hq | skip) <;> revert H2 <;> intro H
  ·refine⟨_,_,H,fun base φ hc u ns R hu hv h1=>?_⟩
   have hu':=hu;obtain⟨x,hx,hcap,rfl⟩:=zdj.1 hu;have hns:ns=[]:=List.eq_nil_of_length_eq_zero (by rw [cvs_len _ _ hv,hnl];simp);subst hns;exact⟨⟨some _,len,za1 x.k c⟩,rfl,by simp,by simp,s1,s2,fun _=>⟨(fun hh=>by cases hh),(fun a ha j hj=>absurd hj (by simp)),φ,Ex.rfl,R,hu'⟩,fun hh=>absurd hh (by simp only [Nat.add_zero];omega)⟩
  ·obtain⟨bl,hb,H⟩:=zd3 H
   rw [natK_eq,natK_eq] at H
   have rdl:∀ {K2:List AV->Rs},o'+len*es<=bl.n->rd bl.d bl.c (len*es) o' K2=true->∃ olds,K2 olds=true/\olds.length=len*es/\(∀ j,j<len*es->gt bl.d (o'+j) bl.c=olds[j]?) /\
     ∀ base φ hc x,Rel base φ h hc->φ b=some x->∃ us,cvs φ olds=some us/\us.length=len*es/\(∀ w∈us,w.oneCell'=true)/\CellsAt hc (x.at o') us:=fun hle H=>by
    obtain⟨olds,H,hl,hg⟩:=zsc _ _ _ H;exact⟨olds,H,hl,hg,fun base φ hc x R hx=>zi1 R.toR hx hb hle hl hg⟩
   rcases qnt H with⟨hsm,H⟩ | ⟨hsm,H⟩
   ·have hcp:∀ k,za1 k c=c:=fun k=>zld hsm
    cases htc:Nat.ble (len+m) c with
    | true =>
     have H':Bool.rec (motive:=fun _=>Rs) false (wt bl.d news (o'+len*es) bl.c fun t=>zv0 h b (some (.c ⟨bl.n,bl.u,bl.w,bl.el,bl.es,bl.d,t⟩)) fun h=>K (.sl b o' (len+m) c) h) (and bl.w (Nat.ble (o'+(len+m)*es) bl.n))=true:=by
      have e:Nat.ble (Nat.add len m) c=true:=htc;rw [e] at H;exact H
     obtain⟨hh,H'⟩:=zbz H';obtain⟨hw,hle⟩:=zag.1 hh;replace hle:=Nat.le_of_ble_eq_true hle;replace htc:=Nat.le_of_ble_eq_true htc;rw [zoc,ziw] at H';refine⟨_,_,H',fun base φ hc u ns R hu hv h1=>?_⟩;obtain⟨x,hx,hcap,rfl⟩:=zdj.1 hu;rw [hcp] at hcap ⊢;have hnn:o'+len*es+news.length<=bl.n:=by rw [hnl,Nat.add_assoc,← Nat.add_mul];exact hle
     obtain⟨W,R',X⟩:=R.writes hx hb hw hnn hv h1;refine⟨⟨some (x.at o'),len,c⟩,rfl,by rw [cvs_len _ _ hv,hnl],h1,s1,s2,fun _=>⟨(fun hh=>by cases hh),(fun a ha=>by cases ha;rw [Pl.at_add];exact W),φ,X,?_,zdj.2 ⟨x,hx,by rw [hcp];exact htc,by rw [hcp];rfl⟩⟩,fun hh=>absurd hh (by simp only;omega)⟩
     simp only [Pl.at_add];exact R'
    | false =>
     have H':Bool.rec (motive:=fun _=>Rs) false (rd bl.d bl.c (len*es) o' fun olds=>qdy olds news fun l=>zrk el es ((len+m)*es) true l h fun b h=>K (.sl b 0 (len+m) BIG) h) (Nat.ble (o'+len*es) bl.n)=true:=by
      have e:Nat.ble (Nat.add len m) c=false:=htc;rw [e] at H;exact H
     have htc':c<len+m:=by
      have:¬ len+m<=c:=fun hh=>by rw [Nat.ble_eq_true_of_le hh] at htc;cases htc
      omega
     obtain⟨hle,H'⟩:=zhu H';obtain⟨olds,H',hol,_,hold⟩:=rdl hle H';rw [zlk] at H';have hll:(olds++news).length=(len+m)*es:=by rw [List.length_append,hol,hnl,Nat.add_mul]
     obtain⟨d,t,hn,hd,hg,H'⟩:=zfj hll H';refine⟨_,_,H',fun base φ hc u ns R hu hv h1=>?_⟩;obtain⟨x,hx,hcap,rfl⟩:=zdj.1 hu;rw [hcp] at hcap ⊢;obtain⟨us,k1,k2,k3,k4⟩:=hold base φ hc x R hx;refine⟨⟨some (x.at o'),len,c⟩,rfl,by rw [cvs_len _ _ hv,hnl],h1,s1,s2,fun hh=>absurd hh (by simp only;omega),fun _=>⟨us,k2,⟨by simp,fun a ha=>by cases ha;exact k4⟩,fun cp p1 p2=>?_⟩⟩;obtain⟨φ',X,R',hcv⟩:=zr3 (el:=el) (z:=z) R hn hll hd hg (zg5 _ _ _ _ k1 hv) (fun w hw=>(List.mem_append.1 hw).elim (k3 w) (h1 w)) hz p1;refine⟨φ',X,?_,hcv⟩;simpa using R'
   ·have hsm':¬ c<SM:=by omega
    obtain⟨hh,H⟩:=zbz H;obtain⟨hu1,hh⟩:=zag.1 hh;obtain⟨hw,hh⟩:=zag.1 hh;obtain⟨hes,hh⟩:=zag.1 hh;obtain⟨hoc,hle⟩:=zag.1 hh;replace hes:bl.es=es:=Nat.eq_of_beq_eq_true hes;replace hoc:o'=(BIG-c)*es:=Nat.eq_of_beq_eq_true hoc;replace hle:o'+len*es<=bl.n:=Nat.le_of_ble_eq_true hle
    -- what stands there, once it is known by its new number
    have fin:∀(d:Nat) (t:T AV d),(len+m)*es<=4 ^ d->(∀ j,j<len*es->gt d j t=gt bl.d (o'+j) bl.c)->(∀ j,len*es<=j->j<(len+m)*es->gt d j t=news[j-len*es]?)->h.nx<4 ^ DH ->
      ∀ base φ hc u ns,Rel base φ h hc->cv φ (.sl b o' len c)=some u->cvs φ news=some ns->(∀ w∈ns,w.oneCell'=true)->∃ s:Slc,u=s.v/\App el es bts z hc s m ns fun s' h'=>∃ φ',Ex φ h φ' ⟨h.nx+1,st DH h.nx (some (.c ⟨(len+m)*es,true,true,el,es,d,t⟩)) (st DH b none h.h)⟩ /\
       Rel base φ' ⟨h.nx+1,st DH h.nx (some (.c ⟨(len+m)*es,true,true,el,es,d,t⟩)) (st DH b none h.h)⟩ h'/\cv φ' (.sl h.nx 0 (len+m) BIG)=some s'.v:=by
     intro d t hd hg1 hg2 hn base φ hc u ns R hu hv h1;obtain⟨x,hx,hcap,rfl⟩:=zdj.1 hu;have rb:RelB φ bl x hc:=(R.blk b _ x (R.idlt hx) hb hx).1;have hadd:(len+m)*es=len*es+m*es:=Nat.add_mul _ _ _
     have hcells:∃ us,us.length=len*es/\(∀ w∈us,w.oneCell'=true)/\CellsAt hc (x.at o') us/\∃ l,l.length=len*es/\cvs φ l=some us/\∀ j,j<len*es->gt bl.d (o'+j) bl.c=l[j]?:=by
      have key:∀ k,k<=len*es->∃ l:List AV,l.length=k/\∀ j,j<k->gt bl.d (o'+j) bl.c=l[j]?:=by
       intro k
       induction k with
       | zero=>intro _;exact⟨[],rfl,fun j hj=>absurd hj (Nat.not_lt_zero _)⟩
       | succ k ih =>
        intro hk;obtain⟨l,hl,hg⟩:=ih (by omega);obtain⟨v,_,hv',_⟩:=rb.cell (o'+k) (by omega);refine⟨l++[v],by simp [hl],fun j hj=>?_⟩;by_cases hjk:j<k
        ·rw [hg j hjk,List.getElem?_append_left (by omega)]
        ·have:j=k:=by omega
         subst this;rw [hv',List.getElem?_append_right (by omega),hl];simp
      obtain⟨l,hl,hg⟩:=key _ (Nat.le_refl _);obtain⟨us,k1,k2,k3,k4⟩:=zi1 R.toR hx hb hle hl hg;exact⟨us,k2,k3,k4,l,hl,k1,hg⟩
     obtain⟨us,ul,uo,uc,l,ll,lc,lg⟩:=hcells
     have hall:∀ j,j<(len+m)*es->gt d j t=(l++news)[j]?:=fun j hj=>by
      by_cases hjl:j<len*es
      ·rw [hg1 j hjl,lg j hjl,List.getElem?_append_left (by omega)]
      ·rw [hg2 j (by omega) hj,List.getElem?_append_right (by omega),ll]
     refine⟨⟨some (x.at o'),len,za1 x.k c⟩,rfl,by rw [cvs_len _ _ hv,hnl],h1,s1,s2,fun hroom=>⟨(fun hh=>by cases hh),(fun a ha=>?_),?_⟩,fun _=>⟨us,ul,⟨by simp,fun a ha=>by cases ha;exact uc⟩,fun cp p1 p2=>?_⟩⟩
     ·cases ha
      rw [Pl.at_add];refine rb.wrs hw ?_;have hr:len+m<=za1 x.k c:=hroom;rw [ztw hsm'] at hr
      have hr2:BIG-c+(len+m)<=x.k:=by
       clear hroom hall hcap s1 s2;generalize BIG-c=q at *;omega
      unfold CB.room;rw [hu1,if_pos rfl,hes,cvs_len _ _ hv,hnl,hoc,Nat.add_assoc,← Nat.add_mul,← Nat.add_mul];exact Nat.mul_le_mul_right _ hr2
     ·simp only at hroom
      have hk:za1 x.k c=x.k-(BIG-c):=ztw hsm';have hge:(BIG-c)+za1 x.k c=x.k:=by omega
      -- the slice as a block of its own
      have sh:RelB φ ⟨len*es,true,true,el,es,d,t⟩ ⟨x.b,x.o+o',za1 x.k c⟩ hc:=by
       refine⟨rb.lt,by show len*es<=4 ^ d;omega,?_,fun j hj=>?_,fun _=>?_⟩
       ·show len*es<=CB.room _ _
        unfold CB.room;simp only [if_true];exact Nat.mul_le_mul_right _ hcap
       ·have hj':j<len*es:=hj
        obtain⟨v,u,q1,q2,q3,q4⟩:=rb.cell (o'+j) (by omega);refine⟨v,u,by show gt d j t=_;rw [hg1 j hj',q1],q2,q3,?_⟩;rw [← q4];simp only [Pl.at,Nat.add_assoc]
       ·obtain⟨ca,el2,lo,hi,w1,w2,w3⟩:=rb.wr hw
        refine⟨ca,el2,lo,hi,w1,w2,?_⟩;have e1:CB.room ⟨len*es,true,true,el,es,d,t⟩ ⟨x.b,x.o+o',za1 x.k c⟩=za1 x.k c*es:=by unfold CB.room;simp
        have e2:bl.room x=x.k*es:=by unfold CB.room;rw [hu1,if_pos rfl,hes]
        rw [e1];rw [e2] at w3;show x.o+o'+za1 x.k c*es<=_;rw [hoc,Nat.add_assoc,← Nat.add_mul,hge];exact w3
      have hroom2:CB.room ⟨len*es,true,true,el,es,d,t⟩ ⟨x.b,x.o+o',za1 x.k c⟩=za1 x.k c*es:=by unfold CB.room;simp
      have ss:=sh.sets rfl (o':=len*es) (n':=(len+m)*es) (d':=d) (c':=t) hv h1 (by rw [hnl];omega) (by rw [hroom2];exact Nat.mul_le_mul_right _ hroom) (.inl rfl) hd (fun j hj=>by
       show j<len*es∨_
       rw [hnl];omega) fun j hj=>by
       by_cases hin:len*es<=j/\j<len*es+news.length
       ·rw [if_pos hin];exact hg2 j hin.1 hj
       ·rw [if_neg hin]
      have hle2:=Ph.up_le (x:=⟨x.b,x.o+o',za1 x.k c⟩) R.fresh
      obtain⟨R',X⟩:=R.moved (y:=⟨x.b,x.o+o',za1 x.k c⟩) (bl':=.c ⟨(len+m)*es,true,true,el,es,d,t⟩) (hc':=zak hc ((x.at o').add (len*es)) 0 ns) hx hb hw hn rfl (Go.Q.setsH_size _ _) (fun i hi=>Go.Q.setsH_other _ _ (by rw [add_block];exact hi)) (by
       have e3:(x.at o').add (len*es)=Pl.at ⟨x.b,x.o+o',za1 x.k c⟩ (len*es):=by rw [Pl.at_add];simp only [Pl.at,Nat.add_assoc]
       rw [e3]
       exact RelB.mono hle2 ss)
      exact⟨_,X,R',zdj.2 ⟨_,Ph.up_eq,by rw [zbx];exact hroom,by rw [zbx];rfl⟩⟩
     ·obtain⟨R1,X1⟩:=R.kill hx
      have hlen2:(l++news).length=(len+m)*es:=by rw [List.length_append,ll,hnl,hadd]
      obtain⟨φ',X,R',hcv⟩:=zr3 (el:=el) (z:=z) R1 hn hlen2 hd hall (zg5 _ _ _ _ lc hv) (fun w hw=>(List.mem_append.1 hw).elim (uo w) (h1 w)) hz p1;refine⟨φ',X1.trans X,?_,hcv⟩;simpa using R'
    cases hfast:and (Nat.beq o' 0) (Nat.beq bl.n (len*es)) with
    | false =>
     have H':rd bl.d bl.c (len*es) o' (fun olds=>qdy olds news fun l=>zv0 h b none fun h=>zrk el es ((len+m)*es) true l h fun b h=>K (.sl b 0 (len+m) BIG) h)=true:=by
      have e:and (Nat.beq o' 0) (Nat.beq bl.n (Nat.mul len es))=false:=hfast;rw [e] at H;exact H
     obtain⟨olds,H',hol,hog,hold⟩:=rdl hle H';rw [zlk,ziw] at H';have hll:(olds++news).length=(len+m)*es:=by rw [List.length_append,hol,hnl,Nat.add_mul]
     obtain⟨d,t,hn,hd,hg,H'⟩:=zfj hll H';refine⟨_,_,H',fin d t hd (fun j hj=>?_) (fun j h2 h3=>?_) hn⟩
     ·rw [hg j (by rw [Nat.add_mul];omega),hog j hj,List.getElem?_append_left (by omega)]
     ·rw [hg j h3,List.getElem?_append_right (by omega),hol]
    | true =>
     have H':grow ((len+m)*es) 24 bl.d bl.c (fun d t=>wt d news bl.n t fun t=>zv0 h b none fun h=>qdb h (.c ⟨(len+m)*es,true,true,el,es,d,t⟩) fun b h=>K (.sl b 0 (len+m) BIG) h)=true:=by
      have e:and (Nat.beq o' 0) (Nat.beq bl.n (Nat.mul len es))=true:=hfast;rw [e] at H;exact H
     obtain⟨f1,f2⟩:=zag.1 hfast;replace f1:=Nat.eq_of_beq_eq_true f1;replace f2:=Nat.eq_of_beq_eq_true f2;obtain⟨d,t,H',hd,hd2,hg⟩:=zxt _ _ _ H';rw [zoc,ziw] at H';obtain⟨hn,H'⟩:=znz H';have hadd:(len+m)*es=len*es+m*es:=Nat.add_mul _ _ _;have hbig:∀ base φ hc x,Rel base φ h hc->φ b=some x->bl.n<=4 ^ bl.d:=fun base φ hc x R hx=>RelB.dn (R.blk b _ x (R.idlt hx) hb hx).1;refine⟨_,_,H',fun base φ hc u ns R hu hv h1=>?_⟩;obtain⟨x,hx,_,_⟩:=zdj.1 hu;have hdn:=hbig base φ hc x R hx;refine fin d (sts d news bl.n t) hd (fun j hj=>?_) (fun j h2 h3=>?_) hn base φ hc u ns R hu hv h1
     ·rw [zl3 _ _ _ _ (by omega) (by omega),if_neg (by omega),hg j (by omega),f1,Nat.zero_add]
     ·rw [zl3 _ _ _ _ (by omega) (by omega),if_pos (by omega),f2]
section
variable {P:Program} {T:Tab} {tb:TT} {σ:Sg} {n:Nat} {o:Oper}
def qpt (σ:Sg) (n el es bts:Nat) (x y:Operand):EO:=⟨fun _ st e h K=>(opd σ n x).x st e fun v=>(opd σ n y).x st e fun w=>slc es w h fun m news=>qjg el es bts v h m news K⟩
theorem qf1 (B:TbOk P T tb) {t el n1 b1:Nat} {z1:List Value} {i:TI} {x y:Operand} (ho:o.op = .call { callee:=.builtin .append,args:=#[x,y],argTypes:=#[t,t] }) (ht:tif tb t=some ⟨.slice el,n1,b1,z1⟩) (hi:tif tb el=some i) (hzl:Nat.beq i.z.length i.n=true):EOk P σ n o (qpt σ n el i.n i.b x y):=fun call CO st e h K H=>by
 obtain⟨v,hv,H⟩:=zaf H;obtain⟨w,hw,H⟩:=zaf H;obtain⟨m,news,H,hnl,hs⟩:=zmd H;obtain⟨v',h1,H,ha⟩:=zs4 (z:=i.z) (Nat.eq_of_beq_eq_true hzl) hnl H;refine⟨v',h1,H,fun N base φ a hc F R=>?_⟩;obtain⟨u1,e1,c1⟩:=F.ev hv;obtain⟨u2,e2,c2⟩:=F.ev hw;obtain⟨r,rfl,rm,us,k1,k2,k3,k4⟩:=hs φ hc u2 R.toR c2;obtain⟨s,rfl,hA⟩:=ha base φ hc u1 us R c1 k1 k3;rw [← rm] at hA;refine(YE.of_a (zat B.ok ho e1 e2 (B.get ht) (B.get hi) k4 hA)).mono ?_;rintro u hc' ⟨s',rfl,φ',X,R',hcv⟩;exact⟨φ',X,R',hcv⟩
def u8s (l:List Nat):List AV:=l.map fun n=>.i .u8 (.ofNat n)
def qj0 (σ:Sg) (n el es bts:Nat) (x y:Operand):EO:=⟨fun _ st e h K=>(opd σ n x).x st e fun v=>(opd σ n y).x st e fun w=>dZ.x w fun l=>zb3 (zgs l) fun m=>qjg el es bts v h m (u8s l) K⟩
theorem qav (B:TbOk P T tb) {t ts el n1 b1 n3 b3:Nat} {z1 z3:List Value} {i:TI} {x y:Operand} (ho:o.op = .call { callee:=.builtin .append,args:=#[x,y],argTypes:=#[t,ts] }) (ht:tif tb t=some ⟨.slice el,n1,b1,z1⟩) (hd:tif tb ts=some ⟨.string,n3,b3,z3⟩) (hi:tif tb el=some i) (hzl:Nat.beq i.z.length i.n=true) (h1n:Nat.beq i.n 1=true):EOk P σ n o (qj0 σ n el i.n i.b x y):=fun call CO st e h K H=>by
 obtain⟨v,hv,H⟩:=zaf H;obtain⟨w,hw,H⟩:=zaf H;obtain⟨l,hq,H2⟩:=zm8 H;clear H;subst hq;revert H2;intro H;rw [natK_eq,zav] at H;obtain⟨v',h1,H,ha⟩:=zs4 (z:=i.z) (Nat.eq_of_beq_eq_true hzl) (by rw [Nat.eq_of_beq_eq_true h1n];simp [u8s]) H;refine⟨v',h1,H,fun N base φ a hc F R=>?_⟩;obtain⟨u1,e1,c1⟩:=F.ev hv;obtain⟨u2,e2,c2⟩:=F.ev hw;obtain⟨hl,rfl⟩:=zog.1 c2;obtain⟨s,rfl,hA⟩:=ha base φ hc u1 _ R c1 (zlw l) (fun w hw=>by obtain⟨q,_,rfl⟩:=List.mem_map.1 hw;rfl);rw [← zbq l,← zt7 hl] at hA;refine(YE.of_a (zwj B.ok ho e1 e2 (B.get ht) (B.get hd) (B.get hi) hA)).mono ?_;rintro u hc' ⟨s',rfl,φ',X,R',hcv⟩;exact⟨φ',X,R',hcv⟩
def qqo (σ:Sg) (n es:Nat) (x y:Operand):EO:=⟨fun _ st e h K=>(opd σ n x).x st e fun v=>(opd σ n y).x st e fun w=>slc es w h fun m all=>dR.x v (K (.i .i64 (.ofNat 0)) h) fun b o len=>zb3 (Nat.min m len) fun k=>zve (Nat.mul k es) all fun news=>zuz h b fun bn u w el' es' d t =>
 Bool.rec (motive:=fun _=>Rs) false (wt d news o t fun t=>zv0 h b (some (.c ⟨bn,u,w,el',es',d,t⟩)) fun h=>K (.i .i64 (.ofNat k)) h) (and w (Nat.ble (Nat.add o (Nat.mul k es)) bn))⟩
theorem qha (B:TbOk P T tb) {t t' el n1 b1:Nat} {z1:List Value} {i:TI} {x y:Operand} (ho:o.op = .call { callee:=.builtin .copy,args:=#[x,y],argTypes:=#[t,t'] }) (ht:tif tb t=some ⟨.slice el,n1,b1,z1⟩) (hi:tif tb el=some i):EOk P σ n o (qqo σ n i.n x y):=fun call CO st e h K H=>by
 obtain⟨v,hv,H⟩:=zaf H;obtain⟨w,hw,H⟩:=zaf H;obtain⟨m,all,H,hal,hs⟩:=zmd H
 have emp:∀(v:AV),K (.i .i64 (.ofNat 0)) h=true->(∀ φ u,cv φ v=some u->∃ a c,u=(⟨a,0,c⟩:Slc).v)->den n st e (zsa σ x)=some v->∃ v h1,K v h1=true /\
   ∀(N:Nat) (base:zaa) (φ:Ph) (a:Act) (hc:zaa),FrV N φ σ n st e a->Rel base φ h hc->YE false P (eA a) hc o fun u hc'=>∃ φ',Ex φ h φ' h1/\Rel base φ' h1 hc'/\cv φ' v=some u:=fun v H hsh hv=>by
  refine⟨_,_,H,fun N base φ a hc F R=>?_⟩;obtain⟨u1,e1,c1⟩:=F.ev hv;obtain⟨u2,e2,c2⟩:=F.ev hw;obtain⟨ad,cp,rfl⟩:=hsh φ u1 c1;obtain⟨r,rfl,rm,us,k1,k2,k3,k4⟩:=hs φ hc u2 R.toR c2
  have hC:Cpy i.n hc ⟨ad,0,cp⟩ r [] (fun h'=>h'=hc):=by
   refine⟨⟨us,k4,by rw [k2,rm],by simp⟩,by simp,fun _=>rfl,fun a ha j hj=>absurd hj (by simp),?_⟩
   cases ad <;> rfl
  refine(YE.of_a (zw1 B.ok ho e1 e2 (B.get ht) (B.get hi) hC)).mono ?_;rintro u hc' ⟨rfl,rfl⟩;exact⟨φ,Ex.rfl,R,by simp [cv]⟩
 rcases qme H with⟨hq,H2⟩ | ⟨b,o',r,c,hq,H2⟩ | ⟨b,o',len,c,hq,H2⟩ <;> clear H <;> (first | subst hq | skip) <;> revert H2 <;> intro H
 ·exact emp _ H (fun φ u hu=>by cases hu;exact⟨none,0,rfl⟩) hv
 ·exact emp _ H (fun φ u hu=>by obtain⟨x,_,rfl⟩:=zu8 hu;exact⟨_,_,rfl⟩) hv
 ·rw [natK_eq] at H
  obtain⟨hle,H⟩:=zjd _ _ _ H;obtain⟨bl,hb,H⟩:=zd3 H;obtain⟨hh,H⟩:=zbz H;obtain⟨hwr,hbn⟩:=zag.1 hh;replace hbn:o'+Nat.min m len*i.n<=bl.n:=Nat.le_of_ble_eq_true hbn;replace hle:Nat.min m len*i.n<=all.length:=hle;rw [zoc,ziw] at H;refine⟨_,_,H,fun N base φ a hc F R=>?_⟩;obtain⟨u1,e1,c1⟩:=F.ev hv;obtain⟨u2,e2,c2⟩:=F.ev hw;obtain⟨p,hp,_,rfl⟩:=zdj.1 c1;obtain⟨r,rfl,rm,us,k1,k2,k3,k4⟩:=hs φ hc u2 R.toR c2;have ht1:=zmv k1 (Nat.min m len*i.n);have htl:(all.take (Nat.min m len*i.n)).length=Nat.min m len*i.n:=by rw [List.length_take];omega
  have hone:∀ w∈us.take (Nat.min m len*i.n),w.oneCell'=true:=fun w hw=>k3 w (List.mem_of_mem_take hw);obtain⟨W,R',X⟩:=R.writes hp hb hwr (o':=o') (by rw [htl];exact hbn) ht1 hone
  have hC:Cpy i.n hc ⟨some (p.at o'),len,za1 p.k c⟩ r (us.take (Nat.min m len*i.n)) (fun h'=>h'=zak hc (p.at o') 0 (us.take (Nat.min m len*i.n))) :=
   ⟨⟨us,k4,by rw [k2,rm],by rw [rm]⟩,hone,(fun hh=>by cases hh),(fun a ha=>by cases ha;exact W),rfl⟩
  refine(YE.of_a (zw1 B.ok ho e1 e2 (B.get ht) (B.get hi) hC)).mono ?_;rintro u hc' ⟨rfl,rfl⟩;exact⟨φ,X,R',by rw [rm];rfl⟩
end
end
end Go.V
end
section
namespace Go.V
open Go.Q Go.MapKept
noncomputable section
def l0:List Nat->List Nat->Bool:=lEq
def zqe (a b:AV):Bool:=match a,b with
 | .b x,.b y=>(match x,y with | true,true=>true | false,false=>true | _,_=>false)
 | .i k x,.i k' y=>and (keq k k') (ieq x y)
 | .s l,.s m=>lEq l m
 | .p b o,.p b' o'=>and (Nat.beq b b') (Nat.beq o o')
 | .sl b o l c,.sl b' o' l' c'=>and (and (Nat.beq b b') (Nat.beq o o')) (and (Nat.beq l l') (Nat.beq c c'))
 | .es b o l c,.es b' o' l' c'=>and (and (Nat.beq b b') (Nat.beq o o')) (and (Nat.beq l l') (Nat.beq c c'))
 | .r k b,.r k' b'=>and (Nat.beq k k') (Nat.beq b b')
 | .nl k,.nl k'=>Nat.beq k k'
 | _,_=>false
theorem zg4 {a b:AV} (h:zqe a b=true):a=b:=by
 unfold zqe at h;split at h
 ·split at h <;> first | rfl | cases h
 ·obtain⟨h1,h2⟩:=zag.1 h
  rw [znc,beq_iff_eq] at h2;rw [zhi h1,h2]
 ·rw [zqt,decide_eq_true_iff] at h;rw [h]
 ·obtain⟨h1,h2⟩:=zag.1 h
  rw [Nat.eq_of_beq_eq_true h1,Nat.eq_of_beq_eq_true h2]
 ·obtain⟨h1,h2⟩:=zag.1 h
  obtain⟨h3,h4⟩:=zag.1 h1;obtain⟨h5,h6⟩:=zag.1 h2;rw [Nat.eq_of_beq_eq_true h3,Nat.eq_of_beq_eq_true h4,Nat.eq_of_beq_eq_true h5,Nat.eq_of_beq_eq_true h6]
 ·obtain⟨h1,h2⟩:=zag.1 h
  obtain⟨h3,h4⟩:=zag.1 h1;obtain⟨h5,h6⟩:=zag.1 h2;rw [Nat.eq_of_beq_eq_true h3,Nat.eq_of_beq_eq_true h4,Nat.eq_of_beq_eq_true h5,Nat.eq_of_beq_eq_true h6]
 ·obtain⟨h1,h2⟩:=zag.1 h
  rw [Nat.eq_of_beq_eq_true h1,Nat.eq_of_beq_eq_true h2]
 ·rw [Nat.eq_of_beq_eq_true h]
 ·cases h
def qd8:List AV->List AV->Bool
 | [],[]=>true
 | a :: r,b :: s=>and (zqe a b) (qd8 r s)
 | _,_=>false
theorem zrv:∀ {a b:List AV},qd8 a b=true->a=b
 | [],[],_=>rfl
 | a :: r,b :: s,h=>by
  obtain⟨h1,h2⟩:=zag.1 h
  rw [zg4 h1,zrv h2]
 | [],b :: s,h=>by cases h
 | a :: r,[],h=>by cases h
mutual
def veq:AV->AV->Bool
 | .ag l,w=>(match w with | .ag m=>zv2 l m | _=>false)
 | .tu l,w=>(match w with | .tu m=>zv2 l m | _=>false)
 | .ic t v,w=>(match w with | .ic t' v'=>and (Nat.beq t t') (veq v v') | _=>false)
 | .f g x y,w=>(match w with | .f g' x' y'=>and (Nat.beq g g') (and (zv2 x x') (zv2 y y')) | _=>false)
 | .b x,w=>zqe (.b x) w
 | .i k x,w=>zqe (.i k x) w
 | .s l,w=>zqe (.s l) w
 | .p b o,w=>zqe (.p b o) w
 | .sl b o l c,w=>zqe (.sl b o l c) w
 | .es b o l c,w=>zqe (.es b o l c) w
 | .r k b,w=>zqe (.r k b) w
 | .nl k,w=>zqe (.nl k) w
def zv2:List AV->List AV->Bool
 | [],m=>(match m with | []=>true | _=>false)
 | a :: r,m=>(match m with | []=>false | b :: s=>and (veq a b) (zv2 r s))
end
mutual
theorem zmg:∀ {a b:AV},veq a b=true->a=b
 | .ag l,w,h=>by
  unfold veq at h
  cases w <;> simp only [Bool.false_eq_true] at h
  rw [zny h]
 | .tu l,w,h=>by
  unfold veq at h
  cases w <;> simp only [Bool.false_eq_true] at h
  rw [zny h]
 | .ic t v,w,h=>by
  unfold veq at h
  cases w <;> simp only [Bool.false_eq_true] at h
  obtain⟨h1,h2⟩:=zag.1 h
  rw [Nat.eq_of_beq_eq_true h1,zmg h2]
 | .f g x y,w,h=>by
  unfold veq at h
  cases w <;> simp only [Bool.false_eq_true] at h
  obtain⟨h1,h2⟩:=zag.1 h;obtain⟨h3,h4⟩:=zag.1 h2
  rw [Nat.eq_of_beq_eq_true h1,zny h3,zny h4]
 | .b x,w,h=>by unfold veq at h;exact zg4 h
 | .i k x,w,h=>by unfold veq at h;exact zg4 h
 | .s l,w,h=>by unfold veq at h;exact zg4 h
 | .p b o,w,h=>by unfold veq at h;exact zg4 h
 | .sl b o l c,w,h=>by unfold veq at h;exact zg4 h
 | .es b o l c,w,h=>by unfold veq at h;exact zg4 h
 | .r k b,w,h=>by unfold veq at h;exact zg4 h
 | .nl k,w,h=>by unfold veq at h;exact zg4 h
theorem zny:∀ {a b:List AV},zv2 a b=true->a=b
 | [],m,h=>by
  unfold zv2 at h
  cases m <;> simp only [Bool.false_eq_true] at h
  rfl
 | a :: r,m,h=>by
  unfold zv2 at h
  cases m <;> simp only [Bool.false_eq_true] at h
  obtain⟨h1,h2⟩:=zag.1 h;rw [zmg h1,zny h2]
end
theorem zsm {a b:AV} (h:zqe a b=true):veq a b=true:=by cases a <;> first | (unfold veq;exact h) | (unfold zqe at h;cases b <;> cases h)
theorem ztq:∀ {l m:List AV},qd8 l m=true->zv2 l m=true
 | [],[],_=>by unfold zv2;rfl
 | a :: r,b :: s,h=>by
  obtain⟨h1,h2⟩:=zag.1 h;unfold zv2
  exact zag.2 ⟨zsm h1,ztq h2⟩
 | [],b :: s,h=>by cases h
 | a :: r,[],h=>by cases h
theorem zq2 (k:IntKind) (n:Int):k.min<=k.wrap n/\k.wrap n<=k.max:=by
 cases k <;> simp only [IntKind.wrap,IntKind.min,IntKind.max,IntKind.bits,IntKind.signed] <;> simp <;> (try split) <;> omega
theorem qcl (x:Bool):(match x,x with | true,true=>true | false,false=>true | _,_=>false)=true:=by cases x <;> rfl
inductive KT | i (k:IntKind) | s | o (z:List Value)
def la1 (z:Value) (v:AV):Bool:=match z,v with
 | .int k _,.i k' x=>and (keq k k') (ieq (wr k x) x)
 | .string _,.s l=>Nat.ble (zgs l) 1000000
 | .bool _,.b _=>true
 | _,_=>false
def laL:List Value->List AV->Bool
 | [],[]=>true
 | z :: r,v :: s=>and (la1 z v) (laL r s)
 | _,_=>false
def kab (k:KT) (a:AV):Bool:=match k,a with
 | .i k,.i k' _=>keq k k'
 | .s,.s _=>true
 | .o z,.ag l=>laL z l
 | _,_=>false
def Lv1 (z v:Value):Prop:=match z,v with
 | .int k _,.int k' x=>k=k'/\(Lit.int k x).wf=true
 | .string _,.string s=>s.size<=maxLen
 | .bool _,.bool _=>True
 | _,_=>False
def LvL:List Value->List Value->Prop
 | [],[]=>True
 | z :: r,v :: s=>Lv1 z v/\LvL r s
 | _,_=>False
def okV:KT->Value->Prop
 | .i k,v=>IsKey (.int k) v
 | .s,v=>IsKey .string v
 | .o z,v=>∃ us,v = .agg us.toArray/\LvL z us
theorem qma {φ:Ph} {z:Value} {v:AV} {u:Value} (h:la1 z v=true) (hv:cv φ v=some u):Lv1 z u/\zqe v v=true/\∀ w,la1 z w=true->cv φ w=some u->w=v:=by
 unfold la1 at h;split at h
 ·rename_i k x k' y
  obtain⟨h1,h2⟩:=zag.1 h;have:=zhi h1;subst this;rw [znc,beq_iff_eq,zmh] at h2
  cases hv
  refine⟨⟨rfl,?_⟩,?_,fun w h3 h4=>?_⟩
  ·have:=zq2 k y
   rw [h2] at this;simp [Lit.wf,this.1,this.2]
  ·simp [zqe,h1,znc]
  ·cases w <;> simp [la1] at h3
   all_goals (cases h4;rfl)
 ·rename_i x l
  obtain⟨hl,rfl⟩:=zog.1 hv;replace h:=Nat.le_of_ble_eq_true h;rw [zav] at h;refine⟨?_,?_,fun w h3 h4=>?_⟩
  ·show (bytes l).size<=maxLen
   rw [zbq];simp only [maxLen];omega
  ·simp [zqe,zqt]
  ·cases w <;> simp [la1] at h3
   obtain⟨hl2,h5⟩:=zog.1 h4;rw [znx hl2 hl (Value.string.inj h5).symm]
 ·rename_i x y
  cases hv
  refine⟨trivial,qcl y,fun w h3 h4=>?_⟩
  cases w <;> simp [la1] at h3
  all_goals (cases h4;rfl)
 ·cases h
theorem zuj {φ:Ph}:∀ {z:List Value} {l:List AV} {us:List Value},laL z l=true->cvs φ l=some us->LvL z us/\qd8 l l=true/\∀ m,laL z m=true->cvs φ m=some us->m=l
 | [],[],us,h,hv=>by
  cases hv
  refine⟨trivial,rfl,fun m h3 h4=>?_⟩
  cases m with
  | nil=>rfl
  | cons a r=>cases h3
 | z :: r,v :: s,us,h,hv=>by
  obtain⟨h1,h2⟩:=zag.1 h;obtain⟨u,ul,rfl,k1,k2⟩:=zcp hv;obtain⟨a1,a2,a3⟩:=qma h1 k1;obtain⟨b1,b2,b3⟩:=zuj h2 k2;refine⟨⟨a1,b1⟩,zag.2 ⟨a2,b2⟩,fun m h3 h4=>?_⟩
  cases m with
  | nil=>cases h3
  | cons w m =>
   obtain⟨h5,h6⟩:=zag.1 h3;obtain⟨u',ul',k5,k3,k4⟩:=zcp h4
   cases k5
   rw [a3 w h5 k3,b3 m h6 k4]
 | [],v :: s,us,h,hv=>by cases h
 | z :: r,[],us,h,hv=>by cases h
theorem ziz {φ:Ph} {k:KT} {a:AV} {u:Value} (h:kab k a=true) (hv:cv φ a=some u):okV k u/\veq a a=true/\∀ b,kab k b=true->cv φ b=some u->b=a:=by
 unfold kab at h;split at h
 ·rename_i k k' x
  have:=zhi h;subst this
  cases hv
  refine⟨rfl,zsm ?_,fun w h3 h4=>?_⟩
  ·simp [zqe,h,znc]
  ·cases w <;> simp [kab] at h3
   all_goals (cases h4;rfl)
 ·rename_i l
  obtain⟨hl,rfl⟩:=zog.1 hv;refine⟨trivial,zsm (by simp [zqe,zqt]),fun w h3 h4=>?_⟩
  cases w <;> simp [kab] at h3
  obtain⟨hl2,h5⟩:=zog.1 h4;rw [znx hl2 hl (Value.string.inj h5).symm]
 ·rename_i z l
  obtain⟨us,hl,h1,rfl⟩:=zfn.1 hv;obtain⟨a1,a2,a3⟩:=zuj h hl;refine⟨⟨us,rfl,a1⟩,(by unfold veq;exact ztq a2),fun w h3 h4=>?_⟩
  cases w <;> simp [kab] at h3
  obtain⟨us',hl2,_,e⟩:=zfn.1 h4;have e':us=us':=by simpa using e
  subst e';rw [a3 _ h3 hl2]
 ·cases h
theorem zst:∀ {z us:List Value},LvL z us->z.length=us.length
 | [],[],_=>rfl
 | z :: r,v :: s,h=>by rw [List.length_cons,List.length_cons,zst h.2]
 | [],v :: s,h=>h.elim
 | z :: r,[],h=>h.elim
theorem zpv:∀(n:Nat) {z us:List Value},LvL z us->LvL (z.drop n) (us.drop n)
 | 0,z,us,h=>h
 | n+1,[],[],h=>trivial
 | n+1,z :: r,v :: s,h=>zpv n h.2
 | n+1,[],v :: s,h=>h.elim
 | n+1,z :: r,[],h=>h.elim
theorem zpf:∀(n:Nat) {z us:List Value},LvL z us->LvL (z.take n) (us.take n)
 | 0,z,us,h=>trivial
 | n+1,[],[],h=>trivial
 | n+1,z :: r,v :: s,h=>⟨h.1,zpf n h.2⟩
 | n+1,[],v :: s,h=>h.elim
 | n+1,z :: r,[],h=>h.elim
theorem mapM_all {α β:Type} {f g:α->Option β}:∀ {l:List α} {as':List β},l.mapM f=some as'->(∀ x∈l,∀ a,f x=some a->∃ b,g x=some b)->∃ bs,l.mapM g=some bs
 | [],as',_,_=>⟨[],rfl⟩
 | x :: l,as',h,k=>by
  rw [List.mapM_cons] at h
  cases hx:f x with
  | none=>rw [hx] at h;cases h
  | some a =>
   rw [hx] at h
   cases hl:l.mapM f with
   | none=>rw [hl] at h;cases h
   | some as' =>
    obtain⟨b,hb⟩:=k x (by simp) a hx;obtain⟨bs,hbs⟩:=mapM_all hl fun y hy=>k y (by simp [hy]);exact⟨b :: bs,by rw [List.mapM_cons,hb,hbs];rfl⟩
theorem zhd {P:Program}:∀(D:Nat) (t:TypeId) {z us:List Value} {L:List Lit},P.keyLits D t z=some L->LvL z us->∃ L',P.keyLits D t us=some L'
 | 0,t,z,us,L,h,_=>by cases h
 | D+1,t,z,us,L,h,hs=>by
  have one:∀ {v0:Value},z=[v0]->∃ v,us=[v]/\Lv1 v0 v:=fun {v0} hz=>by
   subst hz
   cases us with
   | nil=>exact hs.elim
   | cons v s =>
    cases s with
    | cons w s=>exact hs.2.elim
    | nil=>exact⟨v,rfl,hs.1⟩
  have hlen:=zst hs;have sc:∀(X:TypeDesc) ,(∀ v0,z=[v0]->∃ L',P.keyLits (D+1) t us=some L')->(∃ v0,z=[v0])->∃ L',P.keyLits (D+1) t us=some L':=fun _ h1 ⟨v0,h2⟩=>h1 v0 h2;unfold Program.keyLits at h ⊢
  cases hu:P.underlying t with
  | none=>simp [hu] at h
  | some d =>
   rw [hu] at h
   cases d with
   | bool =>
    match z,h with
    | [.bool b],h =>
     obtain⟨v,rfl,hv⟩:=one rfl
     cases v <;> simp [Lv1] at hv
     exact⟨_,rfl⟩
   | int q =>
    match z,h with
    | [.int q' n],h =>
     obtain⟨v,rfl,hv⟩:=one rfl
     cases v <;> simp only [Lv1] at hv
     obtain⟨rfl,hv⟩:=hv;simp only at h;split at h
     ·rename_i hq
      exact⟨_,if_pos ⟨hq.1,by rw [← hq.1];exact hv⟩⟩
     ·cases h
   | string =>
    match z,h with
    | [.string s],h =>
     obtain⟨v,rfl,hv⟩:=one rfl
     cases v <;> simp only [Lv1] at hv
     exact⟨_,if_pos hv⟩
   | array n e =>
    simp only at h ⊢;split at h
    ·rename_i hl
     rw [if_pos (by rw [← hlen];exact hl)];simp only [Option.map_eq_some_iff] at h;obtain⟨as',ha,_⟩:=h;obtain⟨bs,hb⟩:=mapM_all (g:=fun i=>P.keyLits D e ((us.drop (i*P.cellsOf e)).take (P.cellsOf e))) ha fun i _ a hx=>zhd D e hx (zpf _ (zpv _ hs));exact⟨_,by rw [hb];rfl⟩
    ·cases h
   | struct fs =>
    simp only at h ⊢;split at h
    ·rename_i hl
     rw [if_pos ⟨by rw [← hlen];exact hl.1,hl.2⟩];simp only [Option.map_eq_some_iff] at h;obtain⟨as',ha,_⟩:=h;obtain⟨bs,hb⟩:=mapM_all (g:=fun f:Field=>P.keyLits D f.type ((us.drop f.offset).take (P.cellsOf f.type))) ha fun f _ a hx=>zhd D f.type hx (zpf _ (zpv _ hs));exact⟨_,by rw [hb];rfl⟩
    ·cases h
   | _=>simp at h
abbrev KV (k:KT):={v:Value // okV k v}
instance (k:KT):DecidableEq (KV k):=fun a b=>Classical.propDecidable (a=b)
theorem zmx {P:Program} {t:TypeId} {z:List Value} (D:KD P t z) {v:Value} (h:okV (.o z) v):∃ l,keyOf P t v=some l:=by
 obtain⟨us,rfl,hs⟩:=h;obtain⟨l0,h0⟩:=Option.isSome_iff_exists.1 D.sm;have hl:=zst hs
 have key:∀(x:Bool),(if P.keyType t&&(Value.agg z.toArray).formed P t then (P.keyLits (P.types.size+1) t (Value.agg z.toArray).cells.toList).map fun ls=>Lit.string (keyBytes ls) else none)=some l0 ->
   ∃ l,(if P.keyType t&&(Value.agg us.toArray).formed P t then (P.keyLits (P.types.size+1) t (Value.agg us.toArray).cells.toList).map fun ls=>Lit.string (keyBytes ls) else none)=some l:=fun _ h=>by
  split at h
  ·rename_i hc
   have hc':(P.keyType t&&(Value.agg us.toArray).formed P t)=true:=by
    rw [← hc];simp only [Value.formed,List.size_toArray,hl]
   rw [if_pos hc'];simp only [Option.map_eq_some_iff] at h;obtain⟨L,h1,_⟩:=h;obtain⟨L',h2⟩:=zhd _ _ (z:=z) h1 hs;exact⟨_,by rw [show (Value.agg us.toArray).cells.toList=us from rfl,h2];rfl⟩
  ·cases h
 have hw:=D.wide;unfold keyOf at h0 ⊢;split at h0
 ·exact key true h0
 ·exact key true h0
 ·rename_i h1 h2;split at hw <;> simp_all
theorem zqs:∀ {z us ws:List Value},LvL z us->LvL z ws->(zku us ws=true ↔ us=ws)
 | [],[],[],_,_=>by simp [zku]
 | z :: r,v :: s,w :: q,h,k=>by
  have ih:=zqs h.2 k.2
  have h1:zzl v w=true ↔ v=w:=by
   have a:=h.1;have b:=k.1
   cases z <;> cases v <;> simp only [Lv1] at a <;> cases w <;> simp only [Lv1] at b <;> simp [zzl]
  simp only [zku,Bool.and_eq_true,ih,h1,List.cons.injEq]
 | [],v :: s,_,h,_=>h.elim
 | z :: r,[],_,h,_=>h.elim
 | [],[],w :: q,_,k=>k.elim
 | z :: r,v :: s,[],_,k=>k.elim
theorem zv7 {P:Program} {t:TypeId} {z:List Value} (D:KD P t z):KeyS P t (fun v:KV (.o z)=>v.1):=by
 obtain⟨m,m1,m2,m3⟩:=D.m;have law:=deep_law m1 m2 m3 D.wide;refine⟨D.wide,fun a b=>?_,fun b k w=>?_,fun a b w=>?_,fun k w=>?_⟩
 ·obtain⟨_,us,rfl,h1⟩:=a
  obtain⟨_,ws,rfl,h2⟩:=b;show zku us ws=_;have:=zqs h1 h2;rw [Bool.eq_iff_iff,this,decide_eq_true_eq];constructor
  ·intro h;subst h;rfl
  ·intro h
   have:=congrArg Subtype.val h;simpa using this
 ·obtain⟨l,hl⟩:=zmx D k.2
  exact law.check w b hl
 ·obtain⟨la,ha⟩:=zmx D a.2
  obtain⟨lb,hb⟩:=zmx D b.2;obtain⟨r,hr,hi⟩:=run_equal_deep w (by omega) m2 D.wide ha hb;rw [hr];congr 1;rw [Bool.eq_iff_iff,hi,decide_eq_true_eq];constructor
  ·intro h;subst h;exact Subtype.ext (law.inj ha hb)
  ·intro h
   subst h;rw [ha] at hb;exact Option.some.inj hb
 ·obtain⟨l,hl⟩:=zmx D k.2
  exact law.stays w hl
end
end Go.V
end

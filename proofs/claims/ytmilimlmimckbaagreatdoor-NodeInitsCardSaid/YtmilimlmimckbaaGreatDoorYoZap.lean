/- A part of the proof of statements of this seat: lemmas, no statement of their own. -/
import Derived.Test.YtmilimlmimckbaaGreatDoorYoZao
import Derived.Test.YtmilimlmimckbaaGreatDoorYoZaf
set_option linter.unusedVariables false
set_option linter.unusedSimpArgs false
section
namespace Go.V
open Go.Q Go.MapKept
noncomputable section
section
variable {P:Program} {T:Tab} {tb:TT} {σ:Sg} {n:Nat} {o:Oper}
def qq5 (σ:Sg) (n:Nat) (z:List Value) (ng:Bool) (x y:Operand):PO:=⟨fun st e _ K=>(opd σ n x).x st e fun v=>dG.x v fun l=>(opd σ n y).x st e fun w=>dG.x w fun m =>
 Bool.rec (motive:=fun _=>Rs) false (zru (Bool.rec (qd8 l m) (not (qd8 l m)) ng) fun r=>K (.b r)) (and (laL z l) (laL z m))⟩
theorem qfq {t:TypeId} {z:List Value} (D:KD P t z) {op:BinOp} {t':TypeId} {ng:Bool} {x y:Operand} (ho:o.op = .binOp op t x y t') (hop:(op = .eql/\ng=false)∨(op = .neq/\ng=true)):QOk P σ n o (qq5 σ n z ng x y):=fun st e h K H=>by
 obtain⟨v,hv,H⟩:=zaf H;obtain⟨l,hq,H2⟩:=zsn H;clear H;subst hq;revert H2;intro H;obtain⟨w,hw,H⟩:=zaf H;obtain⟨m,hq,H2⟩:=zsn H;clear H;subst hq;revert H2;intro H;obtain⟨hh,H⟩:=zbz H;obtain⟨k1,k2⟩:=zag.1 hh;rw [boolK_eq] at H;refine⟨_,H,fun N φ a hc F=>⟨_,?_,rfl⟩⟩;obtain⟨u1,e1,c1⟩:=F.ev hv;obtain⟨u2,e2,c2⟩:=F.ev hw;obtain⟨us,h1,h2,rfl⟩:=zfn.1 c1;obtain⟨ws,h3,h4,rfl⟩:=zfn.1 c2;obtain⟨a1,a2,a3⟩:=zuj k1 h1;obtain⟨b1,b2,b3⟩:=zuj k2 h3;have S:=zv7 D
 have hb:(decide ((⟨.agg us.toArray,us,rfl,a1⟩:KV (.o z))=⟨.agg ws.toArray,ws,rfl,b1⟩))=qd8 l m:=by
  rw [Bool.eq_iff_iff,decide_eq_true_eq];constructor
  ·intro hh
   have:us=ws:=by have:=congrArg Subtype.val hh;simpa using this
   subst this;rw [b3 l k1 h1];exact b2
  ·intro hh
   have:=zrv hh;subst this;rw [h1] at h3;cases h3;rfl
 have:=qn4 (P:=P) (h:=hc) (o:=o) (yt:=t') (hop.imp (·.1) (·.1)) ho e1 e2 (fun w=>S.eq ⟨.agg us.toArray,us,rfl,a1⟩ ⟨.agg ws.toArray,ws,rfl,b1⟩ w) D.eg;rw [hb] at this;rcases hop with⟨rfl,rfl⟩ | ⟨rfl,rfl⟩
 ·exact this
 ·exact this
def zxz (k:AV) (l:List (AV × AV)):Option AV:=match l with
 | []=>none
 | p :: r=>Bool.rec (zxz k r) (some p.2) (veq p.1 k)
def qh9 (k v:AV) (l:List (AV × AV)):List (AV × AV):=match l with
 | []=>[(k,v)]
 | p :: r=>Bool.rec (p :: qh9 k v r) ((k,v) :: r) (veq p.1 k)
def qf7 (kt:KT) (l:List (AV × AV)):Bool:=l.all fun p=>kab kt p.1
theorem zmr {φ:Ph} {p:AV × AV} {r:List (AV × AV)} {us:List (Value × Value)} (h:cvp φ (p :: r)=some us):∃ k v w,us=(k,v) :: w/\cv φ p.1=some k/\cv φ p.2=some v/\cvp φ r=some w:=by
 simp only [cvp] at h;split at h
 ·rename_i k v l h1 h2 h3
  cases h
  exact⟨k,v,l,rfl,h1,h2,h3⟩
 ·cases h
theorem zw9 {φ:Ph} {p:AV × AV} {r:List (AV × AV)} {k v:Value} {w:List (Value × Value)} (h1:cv φ p.1=some k) (h2:cv φ p.2=some v) (h3:cvp φ r=some w):cvp φ (p :: r)=some ((k,v) :: w):=by simp only [cvp,h1,h2,h3]
theorem zwe {φ:Ph} {kt:KT}:∀ {l:List (AV × AV)} {us:List (Value × Value)},cvp φ l=some us->qf7 kt l=true->∃ lK:List (KV kt × Value),lK.map (fun p=>(p.1.1,p.2))=us /\
  ∀(a:AV) (u:KV kt),kab kt a=true->cv φ a=some u.1->(∀ v,zxz a l=some v->∃ w,cv φ v=some w/\zi5 lK u=some w)/\(zxz a l=none->zi5 lK u=none) /\
   ∀ v w,cv φ v=some w->cvp φ (qh9 a v l)=some ((zuk lK u w).map fun p=>(p.1.1,p.2))
 | [],us,h,_=>by
  cases h
  exact⟨[],rfl,fun a u hk hu=>⟨fun v hv=>(by cases hv),⟨fun _=>rfl,fun v w hv=>zw9 (p:=(a,v)) (r:=[]) (w:=[]) hu hv rfl⟩⟩⟩
 | p :: r,us,h,hk=>by
  obtain⟨k,v,us',rfl,h1,h2,h3⟩:=zmr h;simp only [qf7,List.all_cons,Bool.and_eq_true] at hk;obtain⟨lK,g1,g2⟩:=zwe h3 hk.2;obtain⟨o1,o2,o3⟩:=ziz hk.1 h1;refine⟨(⟨k,o1⟩,v) :: lK,by rw [List.map_cons,g1],fun a u ha hu=>?_⟩;obtain⟨q1,q2,q3⟩:=g2 a u ha hu
  cases hb:veq p.1 a with
  | true =>
   have he:=zmg hb;subst he;have hku:(⟨k,o1⟩:KV kt)=u:=Subtype.ext (by rw [h1] at hu;exact Option.some.inj hu);refine⟨fun v' hv'=>?_,fun hn=>?_,fun v' w hv'=>?_⟩
   ·unfold zxz at hv';rw [hb] at hv';cases hv'
    exact⟨v,h2,by unfold zi5;rw [if_pos hku]⟩
   ·unfold zxz at hn;rw [hb] at hn;cases hn
   ·unfold qh9 zuk
    rw [hb,if_pos hku]
    exact zw9 hu hv' (by rw [g1];exact h3)
  | false =>
   have hku:¬ (⟨k,o1⟩:KV kt)=u:=fun hh=>by
    subst hh;have:=o3 a ha hu;subst this;rw [o2] at hb;cases hb
   refine⟨fun v' hv'=>?_,fun hn=>?_,fun v' w hv'=>?_⟩
   ·unfold zxz at hv';rw [hb] at hv'
    obtain⟨w,e1,e2⟩:=q1 v' hv';exact⟨w,e1,by unfold zi5;rw [if_neg hku];exact e2⟩
   ·unfold zxz at hn;rw [hb] at hn
    unfold zi5;rw [if_neg hku];exact q2 hn
   ·unfold qh9 zuk
    rw [hb,if_neg hku];exact zw9 h1 h2 (q3 v' w hv')
def qkh (P:Program) (kt:TypeId):KT->Prop
 | .i q=>P.underlying kt=some (.int q)
 | .s=>P.underlying kt=some .string
 | .o z=>KeyS P kt (fun v:KV (.o z)=>v.1)
theorem qnm {kt:TypeId} {K V:Type} [DecidableEq K] {kf:K->Value} {vf:V->Value} {h:zaa} {l:List (K × V)} {e:Env} {m:Option Nat} {t et:Nat} {x y:Operand} {k:K} {z:V} (ho:o.op = .lookup t x y false) (hx:evO e x=some (.map m)) (hy:evO e y=some (kf k)) (ht:P.underlying t=some (.map kt et)) (S:KeyS P kt kf)
  (hz:∀ w,(zeroValue et).run P w = .ok (vf z) w) (hm:zzc kf vf h m l):Yl P e h o (vf ((zi5 l k).getD z)):=by
 cases m with
 | some r =>
  intro ρ w hA hw;subst hw;obtain⟨es,ck,h1,h2,h4,hl,hn,C⟩:=MapSt.find S hm k;rcases C with⟨_,c2,c3⟩ | ⟨j,u,e',_,c2,_,_,_,c3⟩
  ·simp [execOp,ho,hA _ _ hx,hA _ _ hy,Instr.lookup,run_underlying ht,MapKept.run_getObj_map h1,S.chk,c3,hz,ziy c2,Result.andThen]
  ·simp [execOp,ho,hA _ _ hx,hA _ _ hy,Instr.lookup,run_underlying ht,MapKept.run_getObj_map h1,S.chk,c3,(zj7 c2 hn).1,Result.andThen]
 | none =>
  have hl:l=[]:=hm;subst hl;intro ρ w hA hw;subst hw
  have hfk:(Instr.findKey kt (kf k) []).run P w = .ok none w:=by
   rw [run_findKey_eq w S.und];rfl
  simp [execOp,ho,hA _ _ hx,hA _ _ hy,Instr.lookup,run_underlying ht,S.chk,hfk,hz,zi5,Result.andThen]
def MapU (kt:KT) (h:zaa):Option Nat->List (KV kt × Value)->Prop
 | none,l=>l=[]
 | some r,l=>∃ es ck,h[r]? = some (.map es ck)/\Stamped es ck/\es.toList.map (fun e=>(e.key,e.val))=l.map (fun p=>(p.1.1,p.2))
theorem MapU.key {d:TypeDesc} {kt:KT} {h:zaa} {m:Option Nat} {l:List (KV kt × Value)} (hk:∀ v,okV kt v->IsKey d v) (M:MapU kt h m l):MapAt d (fun v:KV kt=>v.1) id h m l:=by
 cases m with
 | none=>exact M
 | some r =>
  obtain⟨es,ck,h1,h2,h3⟩:=M;refine⟨es,ck,h1,h2,fun x hx=>?_,h3⟩;have:(x.key,x.val)∈es.toList.map (fun e=>(e.key,e.val)):=List.mem_map.2 ⟨x,hx,rfl⟩;rw [h3] at this;obtain⟨p,_,hp⟩:=List.mem_map.1 this;have hp':p.1.1=x.key:=congrArg Prod.fst hp;rw [← hp'];exact hk _ p.1.2
theorem MapU.str {z:List Value} {h:zaa} {m:Option Nat} {l:List (KV (.o z) × Value)} (M:MapU (.o z) h m l):zzc (fun v:KV (.o z)=>v.1) id h m l:=by
 cases m with
 | none=>exact M
 | some r=>exact M
theorem qhb {kt:KT} {kty:TypeId} (X:qkh P kty kt) {ok:Bool} {e:Env} {h:zaa} {l:List (KV kt × Value)} {m:Option Nat} {t et:Nat} {x y:Operand} {k:KV kt} {z:Value} (ho:o.op = .lookup t x y ok) (hx:evO e x=some (.map m)) (hy:evO e y=some k.1) (ht:P.underlying t=some (.map kty et))
  (hz:∀ w,(zeroValue et).run P w = .ok z w) (M:MapU kt h m l):Yl P e h o (if ok then .tuple #[(zi5 l k).getD z,.bool (zi5 l k).isSome] else (zi5 l k).getD z):=by
 cases kt with
 | i q =>
  have KO:KOk (.int q) (fun v:KV (.i q)=>v.1):=⟨fun a b h=>Subtype.ext h,fun k=>k.2⟩
  cases ok with
  | true=>exact qix (vf:=id) ho hx hy ht X KO hz (MapU.key (fun v h=>h) M)
  | false=>exact qrg (vf:=id) ho hx hy ht X KO hz (MapU.key (fun v h=>h) M)
 | s =>
  have KO:KOk .string (fun v:KV .s=>v.1):=⟨fun a b h=>Subtype.ext h,fun k=>k.2⟩
  cases ok with
  | true=>exact qix (vf:=id) ho hx hy ht X KO hz (MapU.key (fun v h=>h) M)
  | false=>exact qrg (vf:=id) ho hx hy ht X KO hz (MapU.key (fun v h=>h) M)
 | o zz =>
  cases ok with
  | true=>exact qde (vf:=id) ho hx hy ht X hz M.str
  | false=>exact qnm (vf:=id) ho hx hy ht X hz M.str
theorem qof {kt:KT} {kty:TypeId} (X:qkh P kty kt) {e:Env} {h h':zaa} {l:List (KV kt × Value)} {r:Nat} {t et:Nat} {x y z:Operand} {k:KV kt} {v:Value} (ho:o.op = .mapUpdate t x y z) (hx:evO e x=some (.map (some r))) (hy:evO e y=some k.1) (hz:evO e z=some v) (ht:P.underlying t=some (.map kty et))
  (M:MapU kt h (some r) l) (he:h'=setM h r k.1 v):Yh P e h o undef h'/\MapU kt (setM h r k.1 v) (some r) (zuk l k v):=by
 cases kt with
 | i q =>
  have KO:KOk (.int q) (fun v:KV (.i q)=>v.1):=⟨fun a b h=>Subtype.ext h,fun k=>k.2⟩
  have M':=MapU.key (kt:=.i q) (d:=.int q) (fun v h=>h) M;obtain⟨es,ck,h1,h2,_,h4⟩:=M'.put KO k v
  exact⟨qq0 (vf:=id) ho hx hy hz ht X KO rfl M' he,es,ck,h1,h2,h4⟩
 | s =>
  have KO:KOk .string (fun v:KV .s=>v.1):=⟨fun a b h=>Subtype.ext h,fun k=>k.2⟩
  have M':=MapU.key (kt:=.s) (d:=.string) (fun v h=>h) M;obtain⟨es,ck,h1,h2,_,h4⟩:=M'.put KO k v
  exact⟨qq0 (vf:=id) ho hx hy hz ht X KO rfl M' he,es,ck,h1,h2,h4⟩
 | o zz =>
  have M':MapSt (fun v:KV (.o zz)=>v.1) id h r l:=M.str;exact⟨qlj (vf:=id) ho hx hy hz ht X rfl M' he,MapSt.put X M' k v⟩
theorem RelM.u {φ:Ph} {kk:KK} {l:List (AV × AV)} {x:Pl} {hc:zaa} (r:RelM φ kk l x hc) {kt:KT} (hk:qf7 kt l=true):∃ lK:List (KV kt × Value),MapU kt hc (some x.b) lK /\
  ∀(a:AV) (u:KV kt),kab kt a=true->cv φ a=some u.1->(∀ v,zxz a l=some v->∃ w,cv φ v=some w/\zi5 lK u=some w)/\(zxz a l=none->zi5 lK u=none) /\
   ∀ v w,cv φ v=some w->cvp φ (qh9 a v l)=some ((zuk lK u w).map fun p=>(p.1.1,p.2)):=by
 obtain⟨_,es,ck,h1,h2,h3⟩:=r;obtain⟨lK,g1,g2⟩:=zwe h3 hk;exact⟨lK,⟨es,ck,h1,h2,g1.symm⟩,g2⟩
def lkK (ok:Bool) (K:AV->Rs) (v:AV) (b:Bool):Rs:=Bool.rec (K v) (K (.tu [v,.b b])) ok
def pLk (σ:Sg) (n:Nat) (kt:KT) (zv:AV) (ok:Bool) (x y:Operand):PO:=⟨fun st e h K=>(opd σ n x).x st e fun v=>(opd σ n y).x st e fun w=>Bool.rec (motive:=fun _=>Rs) false
 (dM.x v (lkK ok K zv false) fun b=>qcz h b fun _ l=>Bool.rec (motive:=fun _=>Rs) false (opt (zxz w l) (lkK ok K zv false) fun v=>lkK ok K v true) (qf7 kt l)) (kab kt w)⟩
theorem qla {φ:Ph} {v:AV} {u:Value} {b:Bool} (h:cv φ v=some u):cv φ (.tu [v,.b b])=some (.tuple #[u,.bool b]):=zzw.2 ⟨[u,.bool b],zbh h rfl,rfl⟩
theorem qjd {kt:KT} {kty t et:TypeId} (X:qkh P kty kt) (ht:P.underlying t=some (.map kty et)) {zv:AV} {z:Value} (hz:∀ w,(zeroValue et).run P w = .ok z w) (hzv:∀ φ,cv φ zv=some z) {ok:Bool} {x y:Operand} (ho:o.op = .lookup t x y ok):POk P σ n o (pLk σ n kt zv ok x y):=fun st e h K H=>by
 obtain⟨v,hv,H⟩:=zaf H;obtain⟨w,hw,H⟩:=zaf H;obtain⟨hk,H⟩:=zbz H
 have fin:∀ {v:AV} {b:Bool},lkK ok K v b=true->∃ v',K v'=true/\∀ {φ:Ph} {u:Value},cv φ v=some u->cv φ v'=some (if ok then .tuple #[u,.bool b] else u):=fun {v b} h=>by
  cases ok with
  | true=>exact⟨_,h,fun hu=>qla hu⟩
  | false=>exact⟨_,h,fun hu=>hu⟩
 rcases zsi H with⟨hq,H2⟩ | ⟨b,hq,H2⟩ <;> clear H <;> subst hq <;> revert H2 <;> intro H
 ·obtain⟨v',H,hc'⟩:=fin H
  refine⟨v',H,fun N φ a hc F R=>?_⟩;obtain⟨u1,e1,c1⟩:=F.ev hv;obtain⟨u2,e2,c2⟩:=F.ev hw
  cases c1
  exact⟨_,qhb X (k:=⟨u2,(ziz hk c2).1⟩) (l:=[]) ho e1 e2 ht hz rfl,hc' (hzv φ)⟩
 ·obtain⟨kk,l,hb,H⟩:=zj2 H
  obtain⟨hka,H⟩:=zbz H
  cases hg:zxz w l with
  | none =>
   rw [hg] at H;obtain⟨v',H,hc'⟩:=fin H;refine⟨v',H,fun N φ a hc F R=>?_⟩;obtain⟨u1,e1,c1⟩:=F.ev hv;obtain⟨u2,e2,c2⟩:=F.ev hw;simp only [cv,Option.map_eq_some_iff,if_true] at c1;obtain⟨p,hp,rfl⟩:=c1;obtain⟨lK,M,hl⟩:=RelM.u (R.blk b _ p (R.idlt _ _ hp) hb hp) hka;obtain⟨q1,q2,q3⟩:=hl w ⟨u2,(ziz hk c2).1⟩ hk c2;have:=qhb X (k:=⟨u2,(ziz hk c2).1⟩) (l:=lK) ho e1 e2 ht hz M;rw [q2 hg] at this
   exact⟨_,this,hc' (hzv φ)⟩
  | some v0 =>
   rw [hg] at H;obtain⟨v',H,hc'⟩:=fin H;refine⟨v',H,fun N φ a hc F R=>?_⟩;obtain⟨u1,e1,c1⟩:=F.ev hv;obtain⟨u2,e2,c2⟩:=F.ev hw;simp only [cv,Option.map_eq_some_iff,if_true] at c1;obtain⟨p,hp,rfl⟩:=c1;obtain⟨lK,M,hl⟩:=RelM.u (R.blk b _ p (R.idlt _ _ hp) hb hp) hka;obtain⟨q1,q2,q3⟩:=hl w ⟨u2,(ziz hk c2).1⟩ hk c2;obtain⟨u0,r1,r2⟩:=q1 v0 hg;have:=qhb X (k:=⟨u2,(ziz hk c2).1⟩) (l:=lK) ho e1 e2 ht hz M;rw [r2] at this;exact⟨_,this,hc' r1⟩
def eMu (σ:Sg) (n:Nat) (kt:KT) (x y z:Operand):EO:=⟨fun _ st e h K=>(opd σ n x).x st e fun v=>(opd σ n y).x st e fun w=>(opd σ n z).x st e fun u=>Bool.rec (motive:=fun _=>Rs) false
 (dM.x v false fun b=>qcz h b fun _ l=>Bool.rec (motive:=fun _=>Rs) false (zv0 h b (some (.m .s (qh9 w u l))) fun h=>K und h) (qf7 kt l)) (kab kt w)⟩
theorem qjy {kt:KT} {kty t et:TypeId} (X:qkh P kty kt) (ht:P.underlying t=some (.map kty et)) {x y z:Operand} (ho:o.op = .mapUpdate t x y z):EOk P σ n o (eMu σ n kt x y z):=fun call CO st e h K H=>by
 obtain⟨v,hv,H⟩:=zaf H;obtain⟨w,hw,H⟩:=zaf H;obtain⟨u,hu,H⟩:=zaf H;obtain⟨hk,H⟩:=zbz H;rcases zsi H with⟨hq,H2⟩ | ⟨b,hq,H2⟩ <;> clear H <;> subst hq <;> revert H2 <;> intro H
 ·cases H
 ·obtain⟨kk,l,hb,H⟩:=zj2 H
  obtain⟨hka,H⟩:=zbz H;rw [ziw] at H;refine⟨_,_,H,fun N base φ a hc F R=>?_⟩;obtain⟨u1,e1,c1⟩:=F.ev hv;obtain⟨u2,e2,c2⟩:=F.ev hw;obtain⟨u3,e3,c3⟩:=F.ev hu;simp only [cv,Option.map_eq_some_iff,if_true] at c1;obtain⟨p,hp,rfl⟩:=c1;have rm:RelM φ kk l p hc:=(R.blk b _ p (R.idlt hp) hb hp).1;obtain⟨lK,M,hl⟩:=RelM.u rm hka;obtain⟨q1,q2,q3⟩:=hl w ⟨u2,(ziz hk c2).1⟩ hk c2;obtain⟨Y,M'⟩:=qof X (k:=⟨u2,(ziz hk c2).1⟩) (l:=lK) ho e1 e2 e3 ht M rfl
  obtain⟨R',X'⟩:=R.set (bl':=.m .s (qh9 w u l)) hp hb rfl rfl (zre (h:=hc) (r:=p.b) (k:=u2) (v:=u3)) (fun i hi=>zi6 hi) (by
   obtain⟨es,ck,m1,m2,m3⟩:=M'
   exact⟨rm.o,es,ck,m1,m2,by rw [m3];exact q3 u u3 c3⟩)
  refine(YE.of_h Y).mono ?_;rintro _ _ ⟨rfl,rfl⟩;exact⟨φ,X',R',rfl⟩
def lMm:LO:=⟨fun _ _ h K=>qdb h (.m .s []) fun b h=>K (.r 2 b) h⟩
theorem qlm {t:TypeId} (ho:o.op = .makeMap t none):LOk P σ n o lMm:=fun st e h K H=>by
 have H':qdb h (.m .s []) (fun b h=>K (.r 2 b) h)=true:=H;obtain⟨hn,H⟩:=znz H';refine⟨hn,.m .s [],fun b=>.r 2 b,H,fun N φ a hc F=>?_⟩;refine(YE.of_h (qk9 (h':=hc.push (.map #[] 0)) ho rfl rfl)).mono ?_;rintro _ _ ⟨rfl,rfl⟩;refine⟨.map #[] 0,0,rfl,fun b=>?_,fun φ' hle=>⟨rfl,#[],0,by simp,stamped_empty 0,rfl⟩⟩;simp only [cv,Ph.up_eq,Option.map_some,if_true]
def qrk (σ:Sg) (n:Nat) (x:Operand):PO:=⟨fun st e h K=>(opd σ n x).x st e fun v=>dM.x v (K (.i .i64 (.ofNat 0))) fun b=>qcz h b fun _ l=>zb3 (zgs l) fun m=>K (.i .i64 (.ofNat m))⟩
theorem zpm {φ:Ph}:∀ {l:List (AV × AV)} {us:List (Value × Value)},cvp φ l=some us->us.length=l.length
 | [],us,h=>by cases h;rfl
 | p :: r,us,h=>by
  obtain⟨k,v,us',rfl,_,_,h3⟩:=zmr h;rw [List.length_cons,List.length_cons,zpm h3]
theorem qhw (B:TbOk P T tb) {t kty et:TypeId} (ht:P.underlying t=some (.map kty et)) {x:Operand} (ho:o.op = .call { callee:=.builtin .len,args:=#[x],argTypes:=#[t] }):POk P σ n o (qrk σ n x):=fun st e h K H=>by
 obtain⟨v,hv,H⟩:=zaf H;rcases zsi H with⟨hq,H2⟩ | ⟨b,hq,H2⟩ <;> clear H <;> subst hq <;> revert H2 <;> intro H
 ·refine⟨_,H,fun N φ a hc F R=>?_⟩
  obtain⟨u1,e1,c1⟩:=F.ev hv
  cases c1
  refine⟨.int .i64 0,?_,rfl⟩;intro ρ w hA hw;simp [execOp,ho,resolve,invoke,builtin,hA _ _ e1,qh1,Builtin.len_,run_underlying ht,Result.andThen,goInt]
 ·obtain⟨kk,l,hb,H⟩:=zj2 H
  rw [natK_eq,zav] at H;refine⟨_,H,fun N φ a hc F R=>?_⟩;obtain⟨u1,e1,c1⟩:=F.ev hv;simp only [cv,Option.map_eq_some_iff,if_true] at c1;obtain⟨p,hp,rfl⟩:=c1;obtain⟨_,es,ck,h1,h2,h3⟩:RelM φ kk l p hc:=R.blk b _ p (R.idlt _ _ hp) hb hp;have hl:=zpm h3;rw [List.length_map,Array.length_toList] at hl;refine⟨.int .i64 (l.length:Int),?_,rfl⟩;intro ρ w hA hw;subst hw;simp [execOp,ho,resolve,invoke,builtin,hA _ _ e1,Builtin.len_,run_underlying ht,MapKept.run_getObj_map h1,Result.andThen,goInt,hl]
def qqb (σ:Sg) (n:Nat) (x:Operand):EO:=⟨fun _ st e h K=>(opd σ n x).x st e fun v=>dM.x v false fun b=>qcz h b fun _ _=>zv0 h b (some (.m .s [])) fun h=>K (.tu []) h⟩
theorem qgi {t kty et:TypeId} (ht:P.underlying t=some (.map kty et)) {x:Operand} (ho:o.op = .call { callee:=.builtin .clear,args:=#[x],argTypes:=#[t] }):EOk P σ n o (qqb σ n x):=fun call CO st e h K H=>by
 obtain⟨v,hv,H⟩:=zaf H;rcases zsi H with⟨hq,H2⟩ | ⟨b,hq,H2⟩ <;> clear H <;> subst hq <;> revert H2 <;> intro H
 ·cases H
 ·obtain⟨kk,l,hb,H⟩:=zj2 H
  rw [ziw] at H;refine⟨_,_,H,fun N base φ a hc F R=>?_⟩;obtain⟨u1,e1,c1⟩:=F.ev hv;simp only [cv,Option.map_eq_some_iff,if_true] at c1;obtain⟨p,hp,rfl⟩:=c1;obtain⟨ro,es,ck,h1,h2,h3⟩:RelM φ kk l p hc:=(R.blk b _ p (R.idlt hp) hb hp).1;have hcl:(qbr hc p.b)[p.b]? = some (.map #[] ck):=by unfold qbr;rw [Array.getElem?_modify,if_pos rfl,h1];rfl
  obtain⟨R',X'⟩:=R.set (bl':=.m .s []) hp hb rfl rfl (zwh (h:=hc) (r:=p.b)) (fun i hi=>zou hi) ⟨ro,#[],ck,hcl,stamped_empty ck,rfl⟩
  have Y:Yh P (eA a) hc o (.tuple #[]) (qbr hc p.b):=by
   intro ρ w hA hw;subst hw
   have hs:w.heap.setIfInBounds p.b (.map #[] ck)=qbr w.heap p.b:=by
    apply Array.ext_getElem?;intro i;have hlt:=(Array.getElem?_eq_some_iff.1 h1).1;by_cases hi:i=p.b
    ·subst hi;rw [hcl];simp [hlt]
    ·rw [zou hi];simp [Ne.symm hi]
   refine⟨{ w with heap:=qbr w.heap p.b },⟨rfl,rfl,rfl,rfl,fun _=>by first | exact Nat.le_refl _ | exact Nat.le_succ _⟩,.inl ?_⟩;simp [execOp,ho,resolve,invoke,builtin,hA _ _ e1,Builtin.clear_,run_underlying ht,MapKept.run_setObj_map _ h1,MapKept.run_getObj_map h1,Result.andThen,hs]
  refine(YE.of_h Y).mono ?_;rintro _ _ ⟨rfl,rfl⟩;exact⟨φ,X',R',rfl⟩
end
end
end Go.V
end
section
namespace Go.Q
section
variable {P:Program} {T:Tab} {e:Env} {h:zaa} {o:Oper}
theorem qhk (hT:TOk P T) {t ts el n1 b1 n3 b3:Nat} {z1 z3:List Value} {i:TI} {x y:Operand} {s:Slc} {n:Int} {k:Slc->zaa->Prop}
  (ho:o.op = .call { callee:=.builtin .append,args:=#[x,y],argTypes:=#[t,ts] }) (hx:evO e x=some s.v) (hy:evO e y=some (.int .i64 n)) (ht:tlk T t=some ⟨.slice el,n1,b1,z1⟩) (hd:tlk T ts=some ⟨.int .i64,n3,b3,z3⟩) (hi:tlk T el=some i)
  (hn:0<=n) (h0:0<n.toNat*i.n) (H:App el i.n i.b i.z h s n.toNat (Builtin.zeroCells i.z.toArray n.toNat).toList k):Ya P e h o fun v h'=>∃ s',v=s'.v/\k s' h':=by
 by_cases hg:s.cap<s.len+n.toNat
 ·exact qd2 hT ho hx hy ht hd hi hn hg h0 H
 intro ρ w hA hw;subst hw;obtain⟨td,k1,k3⟩:=zai hT ht;rw [zce k3] at k1;obtain⟨t3,m1,m3⟩:=zai hT hd;rw [zjx m3] at m1;obtain⟨ti,i1,i2,i3,zv,i4,i5⟩:=tI hT hi;obtain⟨g1,g2,g3,g4,g5,g6⟩:=H;obtain⟨m,rfl⟩:=Int.eq_ofNat_of_zero_le hn;simp only [Int.toNat_natCast] at *;have hzv:zv.cells=i.z.toArray:=Array.toList_inj.1 (by simpa using i5);have hroom:s.len+m<=s.cap:=by omega
 obtain⟨c1,c2,c3⟩:=g5 hroom;have hw:IntKind.i64.wrap (m:Int)=m:=zac (by omega) (by simp only [maxLen] at g4;omega)
 have hb:¬ (281474976710656<(m:Int)*(i.b:Int)):=by
  have h1:m*i.b<=(s.len+m)*i.b:=Nat.mul_le_mul_right _ (by omega);have h2:((m*i.b:Nat):Int)=(m:Int)*(i.b:Int):=by simp
  omega
 have hneg:¬ ((m:Int)<0):=by omega
 have hz0:¬ (m=0∨i.n=0):=fun c=>by rcases c with c | c <;> rw [c] at h0 <;> simp at h0
 have hz1:¬ m*i.n=0:=by omega
 obtain⟨a,len,cap⟩:=s
 cases a with
 | none =>
  refine⟨(⟨none,len+m,cap⟩:Slc).v,w,WW.self w,⟨⟨none,len+m,cap⟩,rfl,c3⟩,?_⟩;simp only at hroom
  simp [execOp,ho,resolve,invoke,builtin,hA _ _ hx,hA _ _ hy,Slc.v,Builtin.append_,run_underlying k1,run_underlying m1,sizeOf,typeInfo,zeroValue,i1,i2,i3,i4,asInt,asIntOf,hw,hb,hneg,hroom]
 | some a =>
  obtain⟨w',k5,k6⟩:=zck P (a.add (len*i.n)) (Builtin.zeroCells i.z.toArray m).toList 0 w (by simpa [WrsAt] using c2 a rfl) g2;refine⟨(⟨some a,len+m,cap⟩:Slc).v,w',?_,⟨⟨some a,len+m,cap⟩,rfl,?_⟩,?_⟩
  ·exact⟨k5.os,k5.tape,k5.output,rfl,k5.dr⟩
  ·rw [k5.heap];exact c3
  ·simp only at hroom
   simp [execOp,ho,resolve,invoke,builtin,hA _ _ hx,hA _ _ hy,Slc.v,Builtin.append_,run_underlying k1,run_underlying m1,sizeOf,typeInfo,zeroValue,i1,i2,i3,i4,asInt,asIntOf,hw,hb,hneg,hroom];rw [hzv,if_neg hz1];simp [k6]
end
end Go.Q
end
section
namespace Go.V
open Go.Q Go.MapKept
noncomputable section
section
variable {P:Program} {T:Tab} {tb:TT} {σ:Sg} {n:Nat} {o:Oper}
def qmj (σ:Sg) (n el es bts:Nat) (z:List AV) (x y:Operand):EO:=⟨fun _ st e h K=>(opd σ n x).x st e fun v=>(opd σ n y).x st e fun w=>dI.x w fun k m=>Bool.rec (motive:=fun _=>Rs) false
 (Int.rec (motive:=fun _=>Rs) (fun m=>Bool.rec (motive:=fun _=>Rs) false (qjg el es bts v h m (zr z m) K) (Nat.blt 0 (Nat.mul m es))) (fun _=>false) m) (keq .i64 k)⟩
theorem qa7 (B:TbOk P T tb) {t ts el n1 b1 n3 b3:Nat} {z1 z3:List Value} {i:TI} {z:List AV} {x y:Operand} (ho:o.op = .call { callee:=.builtin .append,args:=#[x,y],argTypes:=#[t,ts] }) (ht:tif tb t=some ⟨.slice el,n1,b1,z1⟩) (hd:tif tb ts=some ⟨.int .i64,n3,b3,z3⟩) (hi:tif tb el=some i) (hz:zAs i.z=some z) (hzl:Nat.beq i.z.length i.n=true) (hzz:Nat.beq (zgs z) i.n=true):EOk P σ n o (qmj σ n el i.n i.b z x y):=fun call CO st e h K H=>by
 obtain⟨v,hv,H⟩:=zaf H;obtain⟨w,hw,H⟩:=zaf H;obtain⟨k,m,hq,H2⟩:=zha H;clear H;subst hq;revert H2;intro H;obtain⟨hk,H⟩:=zbz H;have hk':=zhi hk;subst hk'
 cases m with
 | negSucc m=>cases H
 | ofNat m =>
  have H':Bool.rec (motive:=fun _=>Rs) false (qjg el i.n i.b v h m (zr z m) K) (Nat.blt 0 (Nat.mul m i.n))=true:=H;obtain⟨h0,H⟩:=zbz H';rw [Nat.blt_eq] at h0;have hzz':=Nat.eq_of_beq_eq_true hzz;rw [zav] at hzz';obtain⟨v',h1,H,ha⟩:=zs4 (z:=i.z) (Nat.eq_of_beq_eq_true hzl) (by rw [zwk,hzz']) H;refine⟨v',h1,H,fun N base φ a hc F R=>?_⟩;obtain⟨z2,z3'⟩:=zme _ _ hz;obtain⟨u1,e1,c1⟩:=F.ev hv;obtain⟨u2,e2,c2⟩:=F.ev hw
  cases c2
  obtain⟨s,rfl,hA⟩:=ha base φ hc u1 _ R c1 (qaw (z2 φ) m) (fun w hw=>z3' w (zpu hw));have hzr:zkc i.z m=(Builtin.zeroCells i.z.toArray m).toList:=(zcm _ _).symm;rw [hzr] at hA;refine(YE.of_a (qhk B.ok ho e1 e2 (B.get ht) (B.get hd) (B.get hi) (by simp) (by simpa using h0) (by simpa using hA))).mono ?_;rintro u hc' ⟨s',rfl,φ',X,R',hcv⟩;exact⟨φ',X,R',hcv⟩
def lMc (σ:Sg) (n:Nat) (x:Operand):LO:=⟨fun st e h K=>(opd σ n x).x st e fun v=>dN.x v fun c=>Bool.rec (motive:=fun _=>Rs) false (qdb h (.q c []) fun b h=>K (.r 5 b) h) (Nat.ble c 1048576)⟩
theorem qlq (B:TbOk P T tb) {t:TypeId} {x:Operand} (ho:o.op = .makeChan t x) {d:ChanDir} {el:TypeId} {i:TI} (ht:P.underlying t=some (.chan d el)) (hi:tlk T el=some i) (hb:i.b<=1048576):LOk P σ n o (lMc σ n x):=fun st e h K H=>by
 obtain⟨v,hv,H⟩:=zaf H;obtain⟨k1,c,hq,H2⟩:=zok H;clear H;subst hq;revert H2;intro H;obtain⟨hc',H⟩:=zhu H;obtain⟨hn,H⟩:=znz H;refine⟨hn,.q c [],fun b=>.r 5 b,H,fun N φ a hc F=>?_⟩;obtain⟨u1,e1,c1⟩:=F.ev hv
 cases c1
 obtain⟨ti,i1,i2,i3,_⟩:=tI B.ok hi
 have Y:Yh P (eA a) hc o (.chan (some hc.size)) (hc.push (.chan c #[] false 0 0 false)):=by
  intro ρ w hA hw;subst hw;refine⟨{ w with heap:=w.heap.push (.chan c #[] false 0 0 false) },⟨rfl,rfl,rfl,rfl,fun _=>by first | exact Nat.le_refl _ | exact Nat.le_succ _⟩,.inl ?_⟩
  have hb2:¬ (281474976710544:Int)<(ti.bytes:Int)*(c:Int):=by
   rw [i3];have:i.b*c<=1048576*1048576:=Nat.mul_le_mul hb hc';have:((i.b*c:Nat):Int)<=((1048576*1048576:Nat):Int):=Int.ofNat_le.2 this;rw [Int.natCast_mul] at this;omega
  have hb1:¬ (9223372036854775807:Int)<(c:Int):=by omega
  have hb3:¬ (c:Int)<0:=by omega
  simp [execOp,ho,hA _ _ e1,Instr.makeChan,asInt,asIntOf,run_underlying ht,typeInfo,i1,hb2,hb1,hb3,newObj,Sem.run,Result.andThen,IntKind.max,IntKind.bits,IntKind.signed]
 refine(YE.of_h Y).mono ?_;rintro _ _ ⟨rfl,rfl⟩;exact⟨.chan c #[] false 0 0 false,0,rfl,fun b=>by simp [cv,Ph.up_eq],fun φ' hle=>⟨rfl,#[],0,0,by simp,rfl⟩⟩
end
end
end Go.V
end

/- A part of the proof of statements of this seat: lemmas, no statement of their own. -/
import Derived.Test.YtmilimlmimckbaaGreatDoorYoZaq
set_option linter.unusedVariables false
set_option linter.unusedSimpArgs false
section
namespace Go.V
open Go.Q
noncomputable section
def zz5 (t:Nat):List Oper->Nat->Option Nat
  | [],_=>none
  | o :: r,i=>match o.dst with
    | some d=>Bool.rec (zz5 t r (i+1)) (some i) (Nat.beq d t)
    | none=>zz5 t r (i+1)
theorem zyr (o:Oper) (r:List Oper) (k:Nat):za9 (o :: r) (k+1)=za9 r k:=by simp [za9]
theorem zq7 {t:Nat}:∀(l:List Oper) (i p:Nat),zz5 t l i=some p->i<=p/\za9 l (p-i)=some t
  | [],i,p,h=>by cases h
  | o :: r,i,p,h=>by
    have rec':zz5 t r (i+1)=some p->i<=p/\za9 (o :: r) (p-i)=some t:=fun h=>by
      obtain⟨h1,h2⟩:=zq7 r (i+1) p h;exact⟨by omega,by rw [show p-i=(p-(i+1))+1 from by omega,zyr];exact h2⟩
    unfold zz5 at h
    cases hd:o.dst with
    | none=>rw [hd] at h;exact rec' h
    | some d =>
      rw [hd] at h;replace h:(Bool.rec (zz5 t r (i+1)) (some i) (Nat.beq d t):Option Nat)=some p:=h;by_cases hdt:d=t
      · subst hdt
        rw [show Nat.beq d d=true from by simp] at h
        cases h
        exact⟨Nat.le_refl _,by simp [za9,hd]⟩
      · rw [show Nat.beq d t=false from by rw [← Bool.not_eq_true];simpa using hdt] at h
        exact rec' h
theorem zna {t:Nat}:∀(l:List Oper) (i:Nat),zz5 t l i=none->zdo l t=false
  | [],i,h=>rfl
  | o :: r,i,h=>by
    unfold zz5 at h;have st:zdo (o :: r) t=((match o.dst with | some d=>Nat.beq d t | none=>false)||zdo r t):=rfl;rw [st]
    cases hd:o.dst with
    | none=>rw [hd] at h;simp only [Bool.false_or];exact zna r _ h
    | some d =>
      rw [hd] at h;replace h:(Bool.rec (zz5 t r (i+1)) (some i) (Nat.beq d t):Option Nat)=none:=h
      cases hb:Nat.beq d t with
      | true=>rw [hb] at h;cases h
      | false=>rw [hb] at h;simp only [hb,Bool.false_or];exact zna r _ h
def zu3 (o:Oper) (p:Nat):Bool:=o.after.toList.any fun e=>Region.binds .any e&&Nat.beq e.on p
theorem ztb {ops:List Oper} {i:Nat} {o:Oper} (h:ops[i]? = some o) (p:Nat):zu3 o p=zao ops p i:=by unfold zao zu3;rw [h]
def zjr (o:Oper):List Nat:=o.after.toList.filterMap fun e=>match Region.binds .any e with | true=>some e.on | false=>none
theorem zi7 {ops:List Oper} {i:Nat} {o:Oper} (h:ops[i]? = some o) (p:Nat):p∈zjr o ↔ zao ops p i=true:=by
  rw [← ztb h];unfold zu3 zjr;rw [List.any_eq_true,List.mem_filterMap];constructor
  · rintro⟨e,he,hp⟩
    refine⟨e,he,?_⟩;split at hp
    · rename_i hb;cases hp;simp [hb]
    · cases hp
  · rintro⟨e,he,hp⟩
    simp only [Bool.and_eq_true] at hp;exact⟨e,he,by rw [hp.1];simp [Nat.eq_of_beq_eq_true hp.2]⟩
def opT:List Operand->List Nat
  | []=>[]
  | .tmp t :: r=>t :: opT r
  | _ :: r=>opT r
def rdT (ops:List Oper) (o:Oper):List Nat:=(match o.guard with | some (j,_)=>(match qig ops j with | some q=>[q] | none=>[]) | none=>[])++opT o.op.operands.toList
def qk1 (ops:List Oper) (j:Nat) (o:Oper) (σ:Sg) (t:Nat):Nat × Src:=match zz5 t ops 0 with
  | none=>(t,.en t)
  | some p=>Bool.rec (Bool.rec (t,.no) (t,.en t) (zao ops j p)) (t,slk t σ) (zu3 o p)
def qdn:List Oper->Sg
  | []=>[]
  | o :: r=>match o.dst with | some d=>(d,.no) :: qdn r | none=>qdn r
def sgI (ops:List Oper) (j:Nat) (o:Oper) (σ:Sg):Sg:=(rdT ops o).map (qk1 ops j o σ)++qdn ops
theorem zyk (t:Nat) (b:Sg):∀ a:Sg,(inS t a/\slk t (a++b)=slk t a)∨(¬ inS t a/\slk t (a++b)=slk t b)
  | []=>.inr ⟨fun h=>h,rfl⟩
  | (s,v) :: r=>by
    rw [List.cons_append,zcf,zcf];by_cases h:s=t
    · rw [if_pos h,if_pos h];exact .inl ⟨.inl h,rfl⟩
    · rw [if_neg h,if_neg h]
      rcases zyk t b r with⟨h1,h2⟩ | ⟨h1,h2⟩
      · exact .inl ⟨.inr h1,h2⟩
      · exact .inr ⟨fun k=>k.elim h h1,h2⟩
theorem zyt {f:Nat->Nat × Src} (hf:∀ t,(f t).1=t) (t:Nat):∀ l:List Nat,inS t (l.map f)->slk t (l.map f)=(f t).2
  | [],h=>h.elim
  | s :: r,h=>by
    rw [List.map_cons];have e:f s=((f s).1,(f s).2):=rfl;rw [e,zcf,hf s];by_cases hs:s=t
    · subst hs;rw [if_pos rfl]
    · rw [if_neg hs]
      refine zyt hf t r ?_;rw [List.map_cons,e,hf s] at h;exact h.resolve_left hs
theorem zp9 (t:Nat):∀ ops:List Oper,zdo ops t=true->slk t (qdn ops) = .no
  | [],h=>by cases h
  | o :: r,h=>by
    have st:zdo (o :: r) t=((match o.dst with | some d=>Nat.beq d t | none=>false)||zdo r t):=rfl;rw [st] at h;unfold qdn
    cases hd:o.dst with
    | none=>rw [hd] at h;simp only [Bool.false_or] at h;exact zp9 t r h
    | some d =>
      rw [hd] at h;simp only;rw [zcf];by_cases hdt:d=t
      · rw [if_pos hdt]
      · rw [if_neg hdt]
        refine zp9 t r ?_;replace h:(Nat.beq d t||zdo r t)=true:=h;rw [show Nat.beq d t=false from by rw [← Bool.not_eq_true];simpa using hdt] at h;simpa using h
theorem zm4 (t:Nat):∀ ops:List Oper,zdo ops t=false->slk t (qdn ops) = .en t
  | [],h=>rfl
  | o :: r,h=>by
    have st:zdo (o :: r) t=((match o.dst with | some d=>Nat.beq d t | none=>false)||zdo r t):=rfl;rw [st] at h;unfold qdn
    cases hd:o.dst with
    | none=>rw [hd] at h;simp only [Bool.false_or] at h;exact zm4 t r h
    | some d =>
      rw [hd] at h;simp only [Bool.or_eq_false_iff] at h;simp only;rw [zcf,if_neg (fun hdt=>by subst hdt;simp at h)];exact zm4 t r h.2
def Sees (ops:List Oper) (V:Nat->AV) (e:En) (j t:Nat) (v:AV):Prop :=
  (∃ p,za9 ops p=some t/\zao ops p j=true/\V p=v)∨((zdo ops t=false∨∃ q,za9 ops q=some t/\zao ops j q=true)/\gt DE t e=some v)
structure FrO (N:Nat) (φ:Ph) (S:Nat->AV->Prop) (a:Act):Prop where
  gl:∀ g,g<GN->φ g=some ⟨g,0,0⟩
  d:a.defers=[]
  sz:a.tmps.size=N
  v:∀ t v,t<4 ^ DE->S t v->∃ u,a.tmps[t]? = some u/\cv φ v=some u
theorem qe2 {ops:List Oper} {V:Nat->AV} {e:En} {j n:Nat} {o:Oper} {σ:Sg} {st:St} {done:List Nat} (ho:ops[j]? = some o) (hp:∀ p,zao ops p j=true->p∈done) (link:∀ p∈done,∀ d,za9 ops p=some d->den n st e (slk d σ)=some (V p))
    {N:Nat} {φ:Ph} {a:Act} (F:FrO N φ (Sees ops V e j) a):FrV N φ (sgI ops j o σ) n st e a:=by
  refine⟨F.gl,F.d,F.sz,fun t v ht hv=>F.v t v ht ?_⟩
  have hent:∀ t,(qk1 ops j o σ t).1=t:=fun t=>by
    unfold qk1;split
    · rfl
    · rename_i p hp
      cases zu3 o p with
      | true=>rfl
      | false=>cases zao ops j p <;> rfl
  unfold sgI at hv;rcases zyk t (qdn ops) ((rdT ops o).map (qk1 ops j o σ)) with⟨h1,h2⟩ | ⟨h1,h2⟩
  · rw [h2,zyt hent t _ h1] at hv
    unfold qk1 at hv;split at hv
    · rename_i hn
      exact .inr ⟨.inl (zna _ _ hn),hv⟩
    · rename_i p hpos
      have hd:=(zq7 _ _ _ hpos).2;rw [Nat.sub_zero] at hd
      cases hb:zu3 o p with
      | true =>
        rw [hb] at hv;rw [ztb ho] at hb;have:=link p (hp p hb) t hd
        exact .inl ⟨p,hd,hb,by have hv':den n st e (slk t σ)=some v:=hv;rw [this] at hv';exact Option.some.inj hv'⟩
      | false =>
        rw [hb] at hv
        cases hs:zao ops j p with
        | true=>rw [hs] at hv;exact .inr ⟨.inr ⟨p,hd,hs⟩,hv⟩
        | false=>rw [hs] at hv;cases hv
  · rw [h2] at hv
    cases hdt:zdo ops t with
    | true=>rw [zp9 t ops hdt] at hv;cases hv
    | false=>rw [zm4 t ops hdt] at hv;exact .inr ⟨.inl hdt,hv⟩
def gdR (ops:List Oper) (o:Oper) (σ:Sg) (n:Nat) (run skip:RG):RG:=match o.guard with
  | none=>run
  | some (j,want)=>match qig ops j with
    | some q=>⟨fun call st e h K=>(opd σ n (.tmp q)).x st e fun v=>(dW want).x v fun b=>Bool.rec (motive:=fun _=>Rs) (skip.x call st e h K) (run.x call st e h K) (zn2 want b)⟩
    | none=>noR
theorem zqw {ops:List Oper} {o:Oper} {σ:Sg} {n:Nat} {run skip:RG} {call:zbk} {st:St} {e:En} {h:HS} {K:En->HS->Rs} (H:(gdR ops o σ n run skip).x call st e h K=true) :
    (run.x call st e h K=true/\∀ N φ a,FrV N φ σ n st e a->Region.wanted o (yielded ops.toArray a.tmps)=true)∨(skip.x call st e h K=true/\∀ N φ a,FrV N φ σ n st e a->Region.wanted o (yielded ops.toArray a.tmps)=false):=by
  unfold gdR at H;split at H
  · rename_i hg;exact .inl ⟨H,fun N φ a F=>zne hg⟩
  · rename_i j want hg
    split at H
    · rename_i q hq
      obtain⟨v,hv,H⟩:=zaf H
      have key:∃ b,(v = .b b∨(v = .tu []/\b = !want))/\Bool.rec (motive:=fun _=>Rs) (skip.x call st e h K) (run.x call st e h K) (zn2 want b)=true:=by
        rcases qlk H with⟨b,hq,h1⟩ | ⟨hq,h1⟩
        · exact⟨b,.inl hq,h1⟩
        · exact⟨!want,.inr ⟨hq,rfl⟩,h1⟩
      obtain⟨b,hvb,H1⟩:=key
      have hwt:∀ N φ a,FrV N φ σ n st e a->Region.wanted o (yielded ops.toArray a.tmps)=zn2 want b:=fun N φ a F=>by
        obtain⟨w1,w2⟩:=znp hg hq F hv;rcases hvb with rfl | ⟨rfl,rfl⟩
        · rw [w1 b rfl,zmy]
        · rw [w2 rfl,zmy];cases want <;> rfl
      cases hgb:zn2 want b with
      | true=>rw [hgb] at H1;exact .inl ⟨H1,fun N φ a F=>by rw [hwt N φ a F,hgb]⟩
      | false=>rw [hgb] at H1;exact .inr ⟨H1,fun N φ a F=>by rw [hwt N φ a F,hgb]⟩
    · cases H
def psh (d:Option Nat) (v:AV) (st:St):St:=match d with | some _=>v :: st | none=>st
def sgN (d:Option Nat) (n:Nat) (σ:Sg):Sg:=match d with | some d=>(d,.st n) :: σ | none=>σ
def nN (d:Option Nat) (n:Nat):Nat:=match d with | some _=>n+1 | none=>n
def qip (cx:Cx) (ops:List Oper) (σ:Sg) (n:Nat) (N1:RG):List Nat->RG
  | []=>N1
  | p :: r=>match ops[p]? with
    | some o=>(match cop cx.tb (sgI ops p o σ) n o.op,o.dst with
      | .p g,some d=>gdR ops o (sgI ops p o σ) n ⟨fun call st e h K=>g.x st e h fun v=>(qkm n (slk d σ)).x st e fun w=>Bool.rec (motive:=fun _=>Rs) false ((qip cx ops σ n N1 r).x call st e h K) (veq w v)⟩ (qip cx ops σ n N1 r)
      | _,_=>noR)
    | none=>noR
def zri (done:List Nat) (o:Oper):Bool:=(zjr o).all (mem done)
def isE (o:Oper):Bool:=match o.op with
  | .store ..=>true | .mapUpdate ..=>true | .insert ..=>true | .mapEntry ..=>true | .entryStore ..=>true | .select ..=>true
  | .call c=>(match c.callee with | .builtin .len=>false | .builtin .cap=>false | .builtin .min=>false | .builtin .max=>false | _=>true)
  | .convert s t _=>Nat.beq s t
  | _=>false
def qex (ops:List Oper) (done:List Nat) (ef:Bool):List Oper->Nat->Option Nat
  | [],_=>none
  | o :: r,i=>Bool.rec (qex ops done ef r (i+1)) (some i) (and (not (mem done i)) (and (or ef (not (isE o))) (zri done o)))
def pick (ops:List Oper) (done:List Nat):Option Nat:=match qex ops done false ops 0 with
  | some i=>some i
  | none=>qex ops done true ops 0
def only (ops:List Oper) (done:List Nat):List Oper->Nat->Bool
  | [],_=>true
  | o :: r,i=>and (or (mem done i) (not (zri done o))) (only ops done r (i+1))
def qan (ops:List Oper) (done:List Nat) (i:Nat):Bool:=(ops.zipIdx 0).all fun p=>or (Nat.beq p.2 i) (or (mem done p.2) (not (zri done p.1)))
def ancs (ops:List Oper):Nat->List Nat->List Nat
  | 0,A=>A
  | k+1,A=>ancs ops k (Bool.rec A ((match ops[k]? with | some o=>zjr o | none=>[])++A) (mem A k))
def qop (cx:Cx) (σ:Sg) (n:Nat):RG:=⟨fun _ st e h K=>(wrs cx.E n σ).x st e e fun e=>K e h⟩
def dgo (cx:Cx) (ops:List Oper):Nat->Sg->Nat->List Nat->List Nat->RG
  | 0,σ,n,done,pend=>Bool.rec noR (qop cx σ n) ((List.range ops.length).all (mem done))
  | f+1,σ,n,done,pend=>match pick ops done with
    | none=>Bool.rec noR (qop cx σ n) ((List.range ops.length).all (mem done))
    | some i=>match ops[i]? with
      | none=>noR
      | some o=>Bool.rec noR (match cop cx.tb (sgI ops i o σ) n o.op with
        | .q g=>gdR ops o (sgI ops i o σ) n ⟨fun call st e h K=>g.x st e h fun v=>(dgo cx ops f (sgN o.dst n σ) (nN o.dst n) (i :: done) pend).x call (psh o.dst v st) e h K⟩
            ⟨fun call st e h K=>(dgo cx ops f (sgN o.dst n σ) (nN o.dst n) (i :: done) pend).x call (psh o.dst und st) e h K⟩
        | .p g=>gdR ops o (sgI ops i o σ) n ⟨fun call st e h K=>g.x st e h fun v=>(dgo cx ops f (sgN o.dst n σ) (nN o.dst n) (i :: done) (i :: pend)).x call (psh o.dst v st) e h K⟩
            ⟨fun call st e h K=>(dgo cx ops f (sgN o.dst n σ) (nN o.dst n) (i :: done) (i :: pend)).x call (psh o.dst und st) e h K⟩
        | .l g=>gdR ops o (sgI ops i o σ) n ⟨fun call st e h K=>g.x st e h fun v h=>(dgo cx ops f (sgN o.dst n σ) (nN o.dst n) (i :: done) pend).x call (psh o.dst v st) e h K⟩
            ⟨fun call st e h K=>(dgo cx ops f (sgN o.dst n σ) (nN o.dst n) (i :: done) pend).x call (psh o.dst und st) e h K⟩
        | .e g=>Bool.rec noR (gdR ops o (sgI ops i o σ) n
            ⟨fun call st e h K=>g.x call st e h fun v h=>(qip cx ops (sgN o.dst n σ) (nN o.dst n) (dgo cx ops f (sgN o.dst n σ) (nN o.dst n) (i :: done) (pend.filter fun p=>not (mem (ancs ops ops.length (zjr o)) p))) (pend.filter fun p=>not (mem (ancs ops ops.length (zjr o)) p))).x call (psh o.dst v st) e h K⟩
            ⟨fun call st e h K=>(dgo cx ops f (sgN o.dst n σ) (nN o.dst n) (i :: done) (pend.filter fun p=>not (mem (ancs ops ops.length (zjr o)) p))).x call (psh o.dst und st) e h K⟩) (qan ops done i))
        (and (not (mem done i)) (and (zri done o) (dOk cx.N o.dst)))
def drg (cx:Cx) (ops:List Oper):RG:=Bool.rec noR (dgo cx ops ops.length [] 0 [] []) (wfR ops)
def qsf (P:Program) (cx:Cx) (id:Nat) (ops:Array Oper) (g:RG):Prop :=
  ∀(call:zbk),za7 P call->∀(e:En) (h:HS) (K:En->HS->Rs),g.x call [] e h K=true->zpp cx.E e->∃ e' h1,K e' h1=true/\zpp cx.E e' /\
    ∀(base:zaa) (φ:Ph) (a:Act) (w:World) (Q:Exit->Act->World->Prop),FrE cx.N φ e a->Rel base φ h w.heap ->
      (∀ φ' a' w',Ex φ h φ' h1->FrE cx.N φ' e' a'->Rel base φ' h1 w'.heap->WW false w w'.heap w'->Q .normal a' w')->(Code.region id ops true).wp P Q a w
section
variable {P:Program} {T:Tab} {cx:Cx} {ops:List Oper}
def UpF (P:Program) (N:Nat) (ops:List Oper) (V:Nat->AV) (e:En) (pend:List Nat) (B:Nat->Nat) (h:HS) (φ:Ph) (j:Nat):Prop:=∃ o,ops[j]? = some o /\
  ((∀ φ2 a,FrO N φ2 (Sees ops V e j) a->False) ∨
   ((∀ φ2 a,FrO N φ2 (Sees ops V e j) a->Region.wanted o (yielded ops.toArray a.tmps)=false)/\V j=und) ∨
   ((∀ φ2 a,FrO N φ2 (Sees ops V e j) a->Region.wanted o (yielded ops.toArray a.tmps)=true) /\
    ((∀ φ2 a hc,FrO N φ2 (Sees ops V e j) a->∃ u,Yl P (eA a) hc o u/\cv φ2 (V j)=some u) ∨
     (j∈pend/\∀ φ2 a hc,FrO N φ2 (Sees ops V e j) a->RelR φ2 h hc->∃ u,Yl P (eA a) hc o u/\cv φ2 (V j)=some u) ∨
     (∃(bl:Blk) (mk:Nat->AV),V j=mk (B j)/\φ (B j)=none/\gt DH (B j) h.h=some bl/\∀ φ2 a hc,FrO N φ2 (Sees ops V e j) a->YE false P (eA a) hc o fun u hc'=>∃(ob:Obj) (k:Nat),hc'=hc.push ob/\(∀ b,cv (φ2.up b ⟨hc.size,0,k⟩) (mk b)=some u)/\∀ φ',φ2.le φ'->RelO φ' bl ⟨hc.size,0,k⟩ hc'))))
structure DInv (P:Program) (N:Nat) (ops:List Oper) (V:Nat->AV) (e:En) (pend done:List Nat) (B:Nat->Nat) (φ0:Ph) (h0:HS) (h:HS) (φ:Ph) (listed:Array Bool) (a:Act):Prop where
  sz:listed.size=ops.length
  d:a.defers=[]
  n:a.tmps.size=N
  dn:∀ j,j<ops.length->¬ un listed j->j∈done
  dc:∀ j,j<ops.length->¬ un listed j->∀ p,zao ops p j=true->¬ un listed p
  val:∀ j,j<ops.length->¬ un listed j->∀ d,za9 ops j=some d->∃ u,a.tmps[d]? = some u/\cv φ (V j)=some u
  env:∀ t v,t<4 ^ DE->gt DE t e=some v->(∀ j,za9 ops j=some t->un listed j)->∃ u,a.tmps[t]? = some u/\cv φ v=some u
  up:∀ j∈done,un listed j->UpF P N ops V e pend B h φ j
  bb:∀ j∈done,φ (B j)=none->h0.nx<=B j/\B j<h.nx
  inj:∀ j∈done,∀ j'∈done,φ (B j)=none->B j=B j'->j=j'
  ex:Ex φ0 h0 φ h
theorem ztm {j d:Nat} (h:za9 ops j=some d):j<ops.length:=by
  unfold za9 at h
  cases hj:ops[j]? with
  | none=>simp [hj] at h
  | some o=>exact(List.getElem?_eq_some_iff.1 hj).1
variable {N:Nat} {V V':Nat->AV} {e:En} {pend pend' done done':List Nat} {B B':Nat->Nat} {φ0:Ph} {h0 h h':HS} {φ φ':Ph} {listed:Array Bool} {a:Act}
theorem DInv.fr (hdd:Go.Q.distinct ops=true) (I:DInv P N ops V e pend done B φ0 h0 h φ listed a) (gl:∀ g,g<GN->φ g=some ⟨g,0,0⟩) {j:Nat} (hu:un listed j) (hpre:∀ p,zao ops p j=true->¬ un listed p):FrO N φ (Sees ops V e j) a:=by
  refine⟨gl,I.d,I.n,fun t v ht hs=>?_⟩;rcases hs with⟨p,h1,h2,h3⟩ | ⟨h1,h2⟩
  · obtain⟨u,k1,k2⟩:=I.val p (ztm h1) (hpre p h2) t h1
    rw [h3] at k2;exact⟨u,k1,k2⟩
  · refine I.env t v ht h2 fun q hq=>?_
    rcases h1 with h1 | ⟨q',hq',h3⟩
    · rw [zjc hq] at h1;cases h1
    · rw [← za3 hdd _ _ _ hq hq'] at h3
      exact Classical.byContradiction fun hh=>I.dc q (ztm hq) hh j h3 hu
theorem DInv.step (hdd:Go.Q.distinct ops=true) (I:DInv P N ops V e pend done B φ0 h0 h φ listed a) {i:Nat} {u:Value} (hi:i<ops.length) (hu:un listed i) (hpre:∀ p,zao ops p i=true->¬ un listed p) (hdk:dOk N (za9 ops i)=true) (hle:φ.le φ')
    (hdone:∀ j∈done,j∈done') (hid:i∈done') (hV:∀ j,j<ops.length->j≠i->¬ un listed j->V' j=V j) (hVi:∀ d,za9 ops i=some d->cv φ' (V' i)=some u)
    (up':∀ j∈done',un listed j->j≠i->UpF P N ops V' e pend' B' h' φ' j) (bb':∀ j∈done',φ' (B' j)=none->h0.nx<=B' j/\B' j<h'.nx) (inj':∀ j∈done',∀ j'∈done',φ' (B' j)=none->B' j=B' j'->j=j') (ex':Ex φ0 h0 φ' h') :
    DInv P N ops V' e pend' done' B' φ0 h0 h' φ' (listed.setIfInBounds i true) (a.put (za9 ops i) u):=by
  have hlt:=zvm hu;have us:∀ {j},un (listed.setIfInBounds i true) j ↔ un listed j/\j≠i:=ztt hlt;refine⟨by simp [I.sz],?_,?_,fun j hj hl=>?_,fun j hj hl p hp hq=>?_,fun j hj hl d hd=>?_,fun t v ht hg hall=>?_,fun j hj hl=>?_,bb',inj',ex'⟩
  · cases hd:za9 ops i <;> simp [Act.put,I.d]
  · cases hd:za9 ops i <;> simp [Act.put,I.n]
  · by_cases hji:j=i
    · subst hji;exact hid
    · exact hdone j (I.dn j hj fun q=>hl (us.2 ⟨q,hji⟩))
  · have hq':=us.1 hq
    by_cases hji:j=i
    · subst hji;exact hpre p hp hq'.1
    · exact I.dc j hj (fun q=>hl (us.2 ⟨q,hji⟩)) p hp hq'.1
  · by_cases hji:j=i
    · subst hji
      exact⟨u,by rw [hd];exact qei I.n (by rw [← hd];exact hdk),hVi d hd⟩
    · have hnl:¬ un listed j:=fun q=>hl (us.2 ⟨q,hji⟩)
      obtain⟨u',k1,k2⟩:=I.val j hj hnl d hd;refine⟨u',?_,by rw [hV j hj hji hnl];exact zh9 hle _ _ k2⟩;rw [zor fun hh=>hji (za3 hdd _ _ _ hd hh)];exact k1
  · obtain⟨u',k1,k2⟩:=I.env t v ht hg fun j hj=>(us.1 (hall j hj)).1
    refine⟨u',?_,zh9 hle _ _ k2⟩;rw [zor fun hh=>(us.1 (hall i hh)).2 rfl];exact k1
  · have:=us.1 hl
    exact up' j hj this.1 this.2
theorem qn5 {Q:Exit->Act->World->Prop} {base:zaa} {w0:World} (hwf:wfR ops=true) (hdk:∀ j∈done,dOk N (za9 ops j)=true)
    (G0:∀ φ listed a w,DInv P N ops V e pend done B φ0 h0 h φ listed a->Rel base φ h w.heap->WW false w0 w.heap w->(∀ j,¬ un listed j)->Q .normal a w)
    (G:∀ fuel φ listed a w i,cnt listed<=fuel+1->DInv P N ops V e pend done B φ0 h0 h φ listed a->Rel base φ h w.heap->WW false w0 w.heap w->i ∉ done->i<ops.length->un listed i->(∀ p,zao ops p i=true->¬ un listed p) ->
      wpOp P ops.toArray Q i (wpAny P .any ops.toArray Q fuel (listed.setIfInBounds i true)) a w) :
    ∀ fuel φ listed a w,cnt listed<=fuel->DInv P N ops V e pend done B φ0 h0 h φ listed a->Rel base φ h w.heap->WW false w0 w.heap w->wpAny P .any ops.toArray Q fuel listed a w:=by
  simp only [wfR,Bool.and_eq_true] at hwf;intro fuel
  induction fuel with
  | zero =>
    intro φ listed a w hf I R W;have hn:∀ j,¬ un listed j:=fun j hj=>by have:=zic hj;omega
    refine⟨?_,G0 φ listed a w I R W hn⟩
    cases hr:Region.ready .any ops.toArray listed with
    | nil=>rfl
    | cons i r=>exact absurd ((zli hwf.1 I.sz).1 (by rw [hr];simp:i∈_)).2.1 (hn i)
  | succ fuel ih =>
    intro φ listed a w hf I R W;refine⟨fun hr=>G0 φ listed a w I R W fun j hj=>ztr hwf.1 I.sz hj hr,fun i hi=>?_⟩;obtain⟨hlt,hu,hpre⟩:=(zli hwf.1 I.sz).1 hi;by_cases hin:i∈done
    · obtain⟨o,ho,U⟩:=I.up i hin hu
      have F:=I.fr hwf.2 R.gl hu hpre;have hds:za9 ops i=o.dst:=by simp [za9,ho]
      have hc:=zic hu
      have go:∀(φ':Ph) (u:Value) (w':World),φ.le φ'->(∀ j∈done,un listed j->j≠i->φ (B j)=none->φ' (B j)=none)->Ex φ0 h0 φ' h->cv φ' (V i)=some u->Rel base φ' h w'.heap->WW false w w'.heap w' ->
          wpAny P .any ops.toArray Q fuel (listed.setIfInBounds i true) (a.put o.dst u) w':=fun φ' u w' hle hk hex hcv R' W'=>by
        refine ih φ' _ _ w' (by omega) ?_ R' (W.trans W');rw [← hds];refine I.step hwf.2 hlt hu hpre (hdk i hin) hle (fun j hj=>hj) hin (fun j _ _ _=>rfl) (fun d _=>hcv) (fun j hj hl hji=>?_) (fun j hj hn=>I.bb j hj ?_) (fun j hj j' hj' hn he=>I.inj j hj j' hj' ?_ he) hex
        · obtain⟨o',ho',U'⟩:=I.up j hj hl
          refine⟨o',ho',?_⟩;rcases U' with x | x | ⟨y,x | x | ⟨bl,mk,x1,x2,x3⟩⟩
          · exact .inl x
          · exact .inr (.inl x)
          · exact .inr (.inr ⟨y,.inl x⟩)
          · exact .inr (.inr ⟨y,.inr (.inl x)⟩)
          · exact .inr (.inr ⟨y,.inr (.inr ⟨bl,mk,x1,hk j hj hl hji x2,x3⟩)⟩)
        · cases hq:φ (B j) with
          | none=>rfl
          | some x=>rw [hle _ _ hq] at hn;cases hn
        · cases hq:φ (B j) with
          | none=>rfl
          | some x=>rw [hle _ _ hq] at hn;cases hn
      unfold wpOp;simp only [List.getElem?_toArray,ho];rcases U with x | ⟨x,hv⟩ | ⟨y,U⟩
      · exact(x φ a F).elim
      · simp only [x φ a F,if_false,Bool.false_eq_true]
        exact go φ undef w Ph.le.rfl (fun _ _ _ _ h=>h) I.ex (by rw [hv];exact zq4 φ) R (WW.refl' w)
      · simp only [y φ a F,if_true]
        refine .inl ?_;rcases U with x | ⟨_,x⟩ | ⟨bl,mk,x1,x2,x3,x4⟩
        · obtain⟨u,hy,hcv⟩:=x φ a w.heap F
          simp only [Oper.wp,hy _ _ zrm rfl,Oper.upon];exact go φ u w Ph.le.rfl (fun _ _ _ _ h=>h) I.ex hcv R (WW.refl' w)
        · obtain⟨u,hy,hcv⟩:=x φ a w.heap F R.toR
          simp only [Oper.wp,hy _ _ zrm rfl,Oper.upon];exact go φ u w Ph.le.rfl (fun _ _ _ _ h=>h) I.ex hcv R (WW.refl' w)
        · refine x4 φ a w.heap F a w zrm rfl _ _ ?_
          rintro u w' W' ⟨ob,k,hp,hcv,hro⟩;have hbb:=I.bb i hin x2;have hle:=Ph.up_le (x:=⟨w.heap.size,0,k⟩) x2;refine go (φ.up (B i) ⟨w.heap.size,0,k⟩) u w' hle (fun j hj hl hji hn=>?_) ⟨I.ex.le.trans hle,I.ex.nx,fun c hc hn=>?_⟩ (by rw [x1];exact hcv _) ?_ W'
          · have:B j≠B i:=fun he=>hji (I.inj j hj i hin hn he)
            rw [Ph.up_ne this];exact hn
          · obtain⟨e1,e2⟩:=I.ex.un c hc hn
            have:c≠B i:=by omega
            exact⟨by rw [Ph.up_ne this];exact e1,e2⟩
          · rw [hp]
            exact R.reg hbb.2 x2 x3 (by rw [← hp];exact hro _ hle)
    · exact G fuel φ listed a w i hf I R W hin hlt hu hpre
theorem zxl {a:Bool}:not a=true ↔ a=false:=by cases a <;> simp
theorem zqx (hwf:wfR ops=true) {p j:Nat} (h:zao ops p j=true) (hj:j<ops.length):p<ops.length:=by
  simp only [wfR,Bool.and_eq_true] at hwf;exact Nat.lt_trans (zg6 hwf.1 h).1 hj
def zml {α:Type} (V:Nat->α) (i:Nat) (v:α):Nat->α:=fun j=>if j=i then v else V j
theorem zci {α:Type} {V:Nat->α} {i:Nat} {v:α}:zml V i v i=v:=by simp [zml]
theorem zbb {α:Type} {V:Nat->α} {i j:Nat} {v:α} (h:j≠i):zml V i v j=V j:=by simp [zml,h]
theorem FrO.of {S S':Nat->AV->Prop} (h:∀ t v,S t v->S' t v) (F:FrO N φ S' a):FrO N φ S a:=⟨F.gl,F.d,F.sz,fun t v ht hs=>F.v t v ht (h t v hs)⟩
theorem Sees.upd {i j:Nat} {v:AV} (hp:zao ops i j=false) (t:Nat) (w:AV) (h:Sees ops V e j t w):Sees ops (zml V i v) e j t w:=by
  rcases h with⟨p,h1,h2,h3⟩ | h
  · refine .inl ⟨p,h1,h2,?_⟩
    rw [zbb fun hpi=>by subst hpi;rw [hp] at h2;cases h2];exact h3
  · exact .inr h
theorem UpF.upd {i j:Nat} {v:AV} {b:Nat} (hp:zao ops i j=false) (hji:j≠i) (U:UpF P N ops V e pend B h φ j):UpF P N ops (zml V i v) e pend (zml B i b) h φ j:=by
  obtain⟨o,ho,U⟩:=U;have key:∀ {φ2:Ph} {a:Act},FrO N φ2 (Sees ops (zml V i v) e j) a->FrO N φ2 (Sees ops V e j) a:=fun F=>F.of (Sees.upd hp);refine⟨o,ho,?_⟩;rcases U with x | ⟨x,y⟩ | ⟨y,x | ⟨x1,x2⟩ | ⟨bl,mk,x1,x2,x3,x4⟩⟩
  · exact .inl fun φ2 a F=>x φ2 a (key F)
  · exact .inr (.inl ⟨fun φ2 a F=>x φ2 a (key F),by rw [zbb hji];exact y⟩)
  · exact .inr (.inr ⟨fun φ2 a F=>y φ2 a (key F),.inl fun φ2 a hc F=>by rw [zbb hji];exact x φ2 a hc (key F)⟩)
  · exact .inr (.inr ⟨fun φ2 a F=>y φ2 a (key F),.inr (.inl ⟨x1,fun φ2 a hc F R=>by rw [zbb hji];exact x2 φ2 a hc (key F) R⟩)⟩)
  · refine .inr (.inr ⟨fun φ2 a F=>y φ2 a (key F),.inr (.inr ⟨bl,mk,?_,?_,?_,fun φ2 a hc F=>x4 φ2 a hc (key F)⟩)⟩)
    · rw [zbb hji,zbb hji];exact x1
    · rw [zbb hji];exact x2
    · rw [zbb hji];exact x3
theorem UpF.turn {j:Nat} (U:UpF P N ops V e pend B h φ j) (hle:∀ b,φ b=none->B j=b->φ' b=none/\gt DH b h'.h=gt DH b h.h)
    (hp:∀ o,ops[j]? = some o->j∈pend->(∀ φ2 a,FrO N φ2 (Sees ops V e j) a->Region.wanted o (yielded ops.toArray a.tmps)=true)->(∀ φ2 a hc,FrO N φ2 (Sees ops V e j) a->RelR φ2 h hc->∃ u,Yl P (eA a) hc o u/\cv φ2 (V j)=some u) ->
      (∀ φ2 a,FrO N φ2 (Sees ops V e j) a->False)∨(j∈pend'/\∀ φ2 a hc,FrO N φ2 (Sees ops V e j) a->RelR φ2 h' hc->∃ u,Yl P (eA a) hc o u/\cv φ2 (V j)=some u)):UpF P N ops V e pend' B h' φ' j:=by
  obtain⟨o,ho,U⟩:=U;refine⟨o,ho,?_⟩;rcases U with x | ⟨x,y⟩ | ⟨y,x | ⟨x1,x2⟩ | ⟨bl,mk,x1,x2,x3,x4⟩⟩
  · exact .inl x
  · exact .inr (.inl ⟨x,y⟩)
  · exact .inr (.inr ⟨y,.inl x⟩)
  · rcases hp o ho x1 y x2 with z | z
    · exact .inl z
    · exact .inr (.inr ⟨y,.inr (.inl z)⟩)
  · obtain⟨e1,e2⟩:=hle (B j) x2 rfl
    exact .inr (.inr ⟨y,.inr (.inr ⟨bl,mk,x1,e1,by rw [e2];exact x3,x4⟩)⟩)
theorem DInv.add (I:DInv P N ops V e pend done B φ0 h0 h φ listed a) {i b:Nat} {v:AV} (hi:i ∉ done) (hcl:∀ p∈done,∀ q,zao ops q p=true->q∈done)
    (upi:UpF P N ops (zml V i v) e pend' (zml B i b) h' φ i) (hun:∀ c,c<h.nx->φ c=none->gt DH c h'.h=gt DH c h.h)
    (hp:∀ j∈done,un listed j->∀ o,ops[j]? = some o->j∈pend->(∀ φ2 a hc,FrO N φ2 (Sees ops V e j) a->RelR φ2 h hc->∃ u,Yl P (eA a) hc o u/\cv φ2 (V j)=some u) ->
      j∈pend'/\∀ φ2 a hc,FrO N φ2 (Sees ops V e j) a->RelR φ2 h' hc->∃ u,Yl P (eA a) hc o u/\cv φ2 (V j)=some u)
    (bb':φ b=none->h.nx<=b/\b<h'.nx) (hnx:h.nx<=h'.nx) (ex':Ex φ0 h0 φ h'):DInv P N ops (zml V i v) e pend' (i :: done) (zml B i b) φ0 h0 h' φ listed a:=by
  have ne:∀ {j},j∈done->j≠i:=fun hj he=>hi (he ▸ hj)
  have np:∀ {j},j∈done->zao ops i j=false:=fun {j} hj=>by
    cases hh:zao ops i j with
    | false=>rfl
    | true=>exact absurd (hcl j hj i hh) hi
  refine⟨I.sz,I.d,I.n,fun j hj hl=>List.mem_cons_of_mem _ (I.dn j hj hl),I.dc,fun j hj hl d hd=>?_,I.env,fun j hj hl=>?_,fun j hj hn=>?_,fun j hj j' hj' hn he=>?_,ex'⟩
  · rw [zbb (ne (I.dn j hj hl))];exact I.val j hj hl d hd
  · rcases List.mem_cons.1 hj with rfl | hj
    · exact upi
    · refine UpF.upd (np hj) (ne hj) ((I.up j hj hl).turn (fun c hc hb=>⟨hc,?_⟩) fun o ho h1 h2 h3=>.inr (hp j hj hl o ho h1 h3))
      subst hb;exact hun _ (I.bb j hj hc).2 hc
  · rcases List.mem_cons.1 hj with rfl | hj
    · rw [zci] at hn ⊢
      exact⟨Nat.le_trans I.ex.nx (bb' hn).1,(bb' hn).2⟩
    · rw [zbb (ne hj)] at hn ⊢
      exact⟨(I.bb j hj hn).1,Nat.lt_of_lt_of_le (I.bb j hj hn).2 hnx⟩
  · rcases List.mem_cons.1 hj with h1 | h1 <;> rcases List.mem_cons.1 hj' with h2 | h2
    · rw [h1,h2]
    · subst h1
      rw [zci] at hn he;rw [zbb (ne h2)] at he;have:=I.bb j' h2 (he ▸ hn);have:=bb' hn;omega
    · subst h2
      rw [zci] at he;rw [zbb (ne h1)] at hn he;have:=I.bb j h1 hn;have:=bb' (he ▸ hn);omega
    · rw [zbb (ne h1)] at hn he
      rw [zbb (ne h2)] at he;exact I.inj j h1 j' h2 hn he
structure SInv (P:Program) (cx:Cx) (ops:List Oper) (σ:Sg) (n:Nat) (done pend:List Nat) (st:St) (e:En) (V:Nat->AV):Prop where
  sg:SgOk n σ
  link:∀ p∈done,∀ d,za9 ops p=some d->den n st e (slk d σ)=some (V p)
  dom:∀ t,inS t σ->∃ p∈done,za9 ops p=some t
  cl:∀ p∈done,∀ q,zao ops q p=true->q∈done
  dk:∀ j∈done,dOk cx.N (za9 ops j)=true
  pd:∀ p∈pend,p∈done
theorem zns {i:Nat} {o:Oper} (ho:ops[i]? = some o):zri done o=true ↔ ∀ p,zao ops p i=true->p∈done:=by
  unfold zri;rw [List.all_eq_true];constructor
  · intro h p hp
    exact zcd.1 (h p ((zi7 ho p).2 hp))
  · intro h p hp
    exact zcd.2 (h p ((zi7 ho p).1 hp))
theorem SInv.add {σ:Sg} {n:Nat} {st:St} {i:Nat} {o:Oper} {v:AV} (hdd:Go.Q.distinct ops=true) (S:SInv P cx ops σ n done pend st e V) (hi:i ∉ done) (ho:ops[i]? = some o) (hpd:zri done o=true) (hdk:dOk cx.N o.dst=true) (hp:∀ p∈pend',p∈i :: done) :
    SInv P cx ops (sgN o.dst n σ) (nN o.dst n) (i :: done) pend' (psh o.dst v st) e (zml V i v):=by
  have ne:∀ {j},j∈done->j≠i:=fun hj he=>hi (he ▸ hj);have hds:za9 ops i=o.dst:=by simp [za9,ho]
  refine⟨?_,fun p hp' d hd=>?_,fun t ht=>?_,fun p hp' q hq=>?_,fun j hj=>?_,hp⟩
  · cases hd:o.dst with
    | none=>exact S.sg
    | some d=>exact S.sg.push
  · rcases List.mem_cons.1 hp' with rfl | hp'
    · rw [hds] at hd
      rw [hd,zci];show den (n+1) (v :: st) e (slk d ((d,.st n) :: σ))=_;rw [zcf,if_pos rfl];exact zzh
    · rw [zbb (ne hp')]
      have h1:=S.link p hp' d hd
      cases hd':o.dst with
      | none=>exact h1
      | some d' =>
        have hdd':d'≠d:=fun he=>by
          subst he;exact ne hp' (za3 hdd _ _ _ hd (by rw [hds];exact hd'))
        show den (n+1) (v :: st) e (slk d ((d',.st n) :: σ))=_
        rw [zcf,if_neg hdd',zt9 (S.sg d)];exact h1
  · cases hd':o.dst with
    | none =>
      rw [hd'] at ht;obtain⟨p,h1,h2⟩:=S.dom t ht
      exact⟨p,List.mem_cons_of_mem _ h1,h2⟩
    | some d' =>
      rw [hd'] at ht;rcases ht with rfl | ht
      · exact⟨i,List.mem_cons_self,by rw [hds];exact hd'⟩
      · obtain⟨p,h1,h2⟩:=S.dom t ht
        exact⟨p,List.mem_cons_of_mem _ h1,h2⟩
  · rcases List.mem_cons.1 hp' with rfl | hp'
    · exact List.mem_cons_of_mem _ ((zns ho).1 hpd q hq)
    · exact List.mem_cons_of_mem _ (S.cl p hp' q hq)
  · rcases List.mem_cons.1 hj with rfl | hj
    · rw [hds];exact hdk
    · exact S.dk j hj
theorem SInv.fr {σ:Sg} {n:Nat} {st:St} {j:Nat} {o:Oper} (S:SInv P cx ops σ n done pend st e V) (ho:ops[j]? = some o) (hp:∀ p,zao ops p j=true->p∈done) {φ:Ph} {a:Act} (F:FrO N φ (Sees ops V e j) a):FrV N φ (sgI ops j o σ) n st e a :=
  qe2 ho hp S.link F
theorem zyf (B:TbOk P T cx.tb) {σ:Sg} {n:Nat} {st:St} {N1:RG} {call:zbk} {K:En->HS->Rs} (S:SInv P cx ops σ n done pend st e V) :
    ∀ l:List Nat,(∀ p∈l,p∈done)->(qip cx ops σ n N1 l).x call st e h K=true->N1.x call st e h K=true/\∀ p∈l,∀ o,ops[p]? = some o ->
      ((∀ φ2 a,FrO cx.N φ2 (Sees ops V e p) a->Region.wanted o (yielded ops.toArray a.tmps)=false)∨(∀ φ2 a hc,FrO cx.N φ2 (Sees ops V e p) a->RelR φ2 h hc->∃ u,Yl P (eA a) hc o u/\cv φ2 (V p)=some u))
  | [],_,H=>⟨H,fun p hp=>by cases hp⟩
  | p :: r,hl,H=>by
    unfold qip at H;split at H
    · rename_i o ho
      have hpp:=S.cl p (hl p List.mem_cons_self)
      have fin:∀(X:(qip cx ops σ n N1 r).x call st e h K=true) (_:(∀ φ2 a,FrO cx.N φ2 (Sees ops V e p) a->Region.wanted o (yielded ops.toArray a.tmps)=false)∨(∀ φ2 a hc,FrO cx.N φ2 (Sees ops V e p) a->RelR φ2 h hc->∃ u,Yl P (eA a) hc o u/\cv φ2 (V p)=some u)),N1.x call st e h K=true/\∀ p'∈p :: r,∀ o,ops[p']? = some o ->
          ((∀ φ2 a,FrO cx.N φ2 (Sees ops V e p') a->Region.wanted o (yielded ops.toArray a.tmps)=false)∨(∀ φ2 a hc,FrO cx.N φ2 (Sees ops V e p') a->RelR φ2 h hc->∃ u,Yl P (eA a) hc o u/\cv φ2 (V p')=some u)):=fun X Y=>by
        obtain⟨h1,h2⟩:=zyf B S r (fun q hq=>hl q (List.mem_cons_of_mem _ hq)) X;refine⟨h1,fun p' hp' o' ho'=>?_⟩;rcases List.mem_cons.1 hp' with rfl | hp'
        · rw [ho] at ho';cases ho';exact Y
        · exact h2 p' hp' o' ho'
      split at H
      · rename_i g d hc hd
        rcases zqw H with⟨H,hw⟩ | ⟨H,hw⟩
        · have ok:zot P (sgI ops p o σ) n o (cop cx.tb (sgI ops p o σ) n o.op):=zqy B
          rw [hc] at ok;obtain⟨v,H1,hv⟩:=ok st e h _ H;obtain⟨w,hw',H2⟩:=zsz H1;have hpl:=S.link p (hl p List.mem_cons_self) d (by simp [za9,ho,hd]);rw [hpl] at hw'
          cases hw'
          cases hq:veq (V p) v with
          | false=>rw [hq] at H2;cases H2
          | true =>
            rw [hq] at H2;have:=zmg hq;subst this;exact fin H2 (.inr fun φ2 a hc F R=>hv cx.N φ2 a hc (S.fr ho hpp F) R)
        · exact fin H (.inl fun φ2 a F=>hw cx.N φ2 a (S.fr ho hpp F))
      · cases H
    · cases H
theorem zr6 {listed:Array Bool} (hdc:∀ j,j<ops.length->¬ un listed j->∀ p,zao ops p j=true->¬ un listed p):∀(k:Nat) (A:List Nat),(∀ p∈A,¬ un listed p)->∀ p∈ancs ops k A,¬ un listed p
  | 0,A,h=>h
  | k+1,A,h=>by
    unfold ancs
    cases hm:mem A k with
    | false=>exact zr6 hdc k A h
    | true =>
      refine zr6 hdc k _ fun p hp=>?_;rcases List.mem_append.1 hp with hp | hp
      · cases ho:ops[k]? with
        | none=>rw [ho] at hp;cases hp
        | some o =>
          rw [ho] at hp;exact hdc k (List.getElem?_eq_some_iff.1 ho).1 (h k (zcd.1 hm)) p ((zi7 ho p).1 hp)
      · exact h p hp
theorem zus {i j:Nat} {o:Oper} (H:qan ops done i=true) (ho:ops[j]? = some o) (hj:j ∉ done) (hp:∀ p,zao ops p j=true->p∈done):j=i:=by
  unfold qan at H;rw [List.all_eq_true] at H
  have hm:(o,j)∈ops.zipIdx 0:=by
    rw [List.mem_zipIdx_iff_getElem?];exact ho
  have:=H _ hm;rw [zw3] at this;rcases this with h | h
  · exact Nat.eq_of_beq_eq_true h
  · rw [zw3] at h
    rcases h with h | h
    · exact absurd (zcd.1 h) hj
    · rw [zxl] at h
      rw [(zns ho).2 hp] at h;cases h
end
section
variable {P:Program} {T:Tab} {cx:Cx} {ops:List Oper}
def qqf (P:Program) (cx:Cx) (ops:List Oper) (σ:Sg) (n:Nat) (done pend:List Nat) (g:RG):Prop :=
  ∀(call:zbk),za7 P call->∀(st:St) (e:En) (h:HS) (K:En->HS->Rs) (V:Nat->AV) (B:Nat->Nat),g.x call st e h K=true->zpp cx.E e->SInv P cx ops σ n done pend st e V->∃ e' h1,K e' h1=true/\zpp cx.E e' /\
    ∀(base:zaa) (φ0:Ph) (h0:HS) (w0:World) (Q:Exit->Act->World->Prop),(∀ φ' a' w',Ex φ0 h0 φ' h1->FrE cx.N φ' e' a'->Rel base φ' h1 w'.heap->WW false w0 w'.heap w'->Q .normal a' w') ->
      ∀ fuel φ listed a w,cnt listed<=fuel->DInv P cx.N ops V e pend done B φ0 h0 h φ listed a->Rel base φ h w.heap->WW false w0 w.heap w->wpAny P .any ops.toArray Q fuel listed a w
variable {σ:Sg} {n:Nat} {done pend:List Nat}
theorem zw5 (hwf:wfR ops=true):qqf P cx ops σ n done pend (Bool.rec noR (qop cx σ n) ((List.range ops.length).all (mem done))):=fun call CO st e h K V B H he S=>by
  cases hb:(List.range ops.length).all (mem done) with
  | false=>rw [hb] at H;cases H
  | true =>
    rw [hb] at H;rw [List.all_eq_true] at hb;have all:∀ j,j<ops.length->j∈done:=fun j hj=>zcd.1 (hb j (List.mem_range.2 hj));obtain⟨e',H1,h2⟩:=zum σ e _ H;obtain⟨he',hf⟩:=qdk (N:=cx.N) h2 he;refine⟨e',h,H1,he',fun base φ0 h0 w0 Q k=>qn5 (B:=B) hwf S.dk (fun φ listed a w I R W hn=>?_) fun fuel φ listed a w i _ _ _ _ hi hlt=>absurd (all i hlt) hi⟩;refine k φ a w I.ex (hf φ a ⟨R.gl,I.d,I.n,fun t v ht hv=>?_⟩) R W;by_cases hd:∃ j,za9 ops j=some t
    · obtain⟨j,hj⟩:=hd
      rw [S.link j (all j (ztm hj)) t hj] at hv
      cases hv
      exact I.val j (ztm hj) (hn j) t hj
    · rw [zsu fun hi=>hd (let ⟨p,_,hp⟩:=S.dom t hi;⟨p,hp⟩)] at hv
      exact I.env t v ht hv fun j hj=>absurd ⟨j,hj⟩ hd
theorem RelR.old {φ:Ph} {h:HS} {hc:zaa} {bl:Blk} {bn:Nat} (hn:bn<4 ^ DH) (hu:gt DH bn h.h=none) {x:Nat} (R:RelR φ ⟨x,Go.V.st DH bn (some bl) h.h⟩ hc):RelR φ h hc:=by
  refine⟨R.idlt,fun b bl' y hb hg e=>R.blk b bl' y hb ?_ e⟩;have:b≠bn:=fun hh=>by subst hh;rw [hu] at hg;cases hg
  show gt DH b (Go.V.st DH bn (some bl) h.h)=_
  rw [zar _ _ _ _ _ hn hb (Ne.symm this)];exact hg
theorem zqp (B0:TbOk P T cx.tb) (hwf:wfR ops=true):∀(f:Nat) (σ:Sg) (n:Nat) (done pend:List Nat),qqf P cx ops σ n done pend (dgo cx ops f σ n done pend)
  | 0,σ,n,done,pend=>zw5 hwf
  | f+1,σ,n,done,pend=>by
    have hdd:Go.Q.distinct ops=true:=by simp only [wfR,Bool.and_eq_true] at hwf;exact hwf.2
    unfold dgo;split
    · exact zw5 hwf
    · rename_i i hpick
      split
      · exact fun call CO st e h K V B H=>by cases H
      · rename_i o ho
        intro call CO st e h K V B H he S
        cases hc:and (not (mem done i)) (and (zri done o) (dOk cx.N o.dst)) with
        | false=>rw [hc] at H;cases H
        | true =>
          rw [hc] at H;obtain⟨c1,c2⟩:=zag.1 hc;obtain⟨c2,c3⟩:=zag.1 c2;have hi:i ∉ done:=fun hh=>by rw [zxl,zcd.2 hh] at c1;cases c1
          have hpre:=(zns ho).1 c2;have hds:za9 ops i=o.dst:=by simp [za9,ho]
          have hii:zao ops i i=false:=by
            cases hh:zao ops i i with
            | false=>rfl
            | true=>exact absurd (hpre i hh) hi
          have ok:zot P (sgI ops i o σ) n o (cop cx.tb (sgI ops i o σ) n o.op):=zqy B0;have hlen:i<ops.length:=(List.getElem?_eq_some_iff.1 ho).1;have frI:∀ {v:AV} {φ2:Ph} {a:Act},FrO cx.N φ2 (Sees ops (zml V i v) e i) a->FrV cx.N φ2 (sgI ops i o σ) n st e a:=fun F=>S.fr ho hpre (F.of (Sees.upd hii))
          -- what is done here at once, with the heap as it is
          have go:∀(pend':List Nat) (v:AV),(∀ p∈pend,p∈pend')->(∀ p∈pend',p∈i :: done)->(dgo cx ops f (sgN o.dst n σ) (nN o.dst n) (i :: done) pend').x call (psh o.dst v st) e h K=true->(∀ φ:Ph,UpF P cx.N ops (zml V i v) e pend' (zml B i 0) h φ i) ->
              ∃ e' h1,K e' h1=true/\zpp cx.E e'/\∀(base:zaa) (φ0:Ph) (h0:HS) (w0:World) (Q:Exit->Act->World->Prop),(∀ φ' a' w',Ex φ0 h0 φ' h1->FrE cx.N φ' e' a'->Rel base φ' h1 w'.heap->WW false w0 w'.heap w'->Q .normal a' w') ->
                ∀ fuel φ listed a w,cnt listed<=fuel->DInv P cx.N ops V e pend done B φ0 h0 h φ listed a->Rel base φ h w.heap->WW false w0 w.heap w->wpAny P .any ops.toArray Q fuel listed a w:=fun pend' v hp1 hp2 H U=>by
            obtain⟨e',h1,H1,he',k⟩:=zqp B0 hwf f _ _ _ _ call CO _ e h K (zml V i v) (zml B i 0) H he (S.add hdd hi ho c2 c3 hp2);refine⟨e',h1,H1,he',fun base φ0 h0 w0 Q kq fuel φ listed a w hf I R W=>k base φ0 h0 w0 Q kq fuel φ listed a w hf ?_ R W⟩;refine I.add hi S.cl (U φ) (fun _ _ _=>rfl) (fun j hj hl o' ho' hjp hx=>⟨hp1 j hjp,hx⟩) (fun hn=>?_) (Nat.le_refl _) I.ex;rw [R.gl 0 (by decide)] at hn;cases hn
          have skipU:∀ {pend':List Nat} {B':Nat->Nat} {h':HS} (hw:∀ N φ a,FrV N φ (sgI ops i o σ) n st e a->Region.wanted o (yielded ops.toArray a.tmps)=false) (φ:Ph),UpF P cx.N ops (zml V i und) e pend' B' h' φ i:=fun hw φ =>
            ⟨o,ho,.inr (.inl ⟨fun φ2 a F=>hw _ φ2 a (frI F),zci⟩)⟩
          cases hcop:cop cx.tb (sgI ops i o σ) n o.op with
          | q g =>
            rw [hcop] at H ok;rcases zqw H with⟨H,hw⟩ | ⟨H,hw⟩
            · obtain⟨v,H1,hv⟩:=ok st e h _ H
              exact go pend v (fun _ h=>h) (fun p hp=>List.mem_cons_of_mem _ (S.pd p hp)) H1 fun φ=>⟨o,ho,.inr (.inr ⟨fun φ2 a F=>hw _ φ2 a (frI F),.inl fun φ2 a hc F=>by rw [zci];exact hv _ φ2 a hc (frI F)⟩)⟩
            · exact go pend und (fun _ h=>h) (fun p hp=>List.mem_cons_of_mem _ (S.pd p hp)) H (skipU hw)
          | p g =>
            rw [hcop] at H ok
            have hp2:∀ p∈i :: pend,p∈i :: done:=fun p hp=>by
              rcases List.mem_cons.1 hp with rfl | hp
              · exact List.mem_cons_self
              · exact List.mem_cons_of_mem _ (S.pd p hp)
            rcases zqw H with⟨H,hw⟩ | ⟨H,hw⟩
            · obtain⟨v,H1,hv⟩:=ok st e h _ H
              exact go (i :: pend) v (fun _ h=>List.mem_cons_of_mem _ h) hp2 H1 fun φ=>⟨o,ho,.inr (.inr ⟨fun φ2 a F=>hw _ φ2 a (frI F),.inr (.inl ⟨List.mem_cons_self,fun φ2 a hc F R=>by rw [zci];exact hv _ φ2 a hc (frI F) R⟩)⟩)⟩
            · exact go (i :: pend) und (fun _ h=>List.mem_cons_of_mem _ h) hp2 H (skipU hw)
          | l g =>
            rw [hcop] at H ok;rcases zqw H with⟨H,hw⟩ | ⟨H,hw⟩
            · obtain⟨hnx,bl,mk,H1,hv⟩:=ok st e h _ H
              obtain⟨e',h1,H1,he',k⟩:=zqp B0 hwf f _ _ _ _ call CO _ e _ K (zml V i (mk h.nx)) (zml B i h.nx) H1 he (S.add (pend':=pend) hdd hi ho c2 c3 fun p hp=>List.mem_cons_of_mem _ (S.pd p hp));refine⟨e',h1,H1,he',fun base φ0 h0 w0 Q kq fuel φ listed a w hf I R W=>?_⟩;obtain⟨R1,X1⟩:=R.add bl hnx;refine k base φ0 h0 w0 Q kq fuel φ listed a w hf ?_ R1 W
              refine I.add hi S.cl ⟨o,ho,.inr (.inr ⟨fun φ2 a F=>hw _ φ2 a (frI F),.inr (.inr ⟨bl,mk,by rw [zci,zci],by rw [zci];exact R.fresh,by rw [zci];exact zht _ _ _ _,fun φ2 a hc F=>hv _ φ2 a hc (frI F)⟩)⟩)⟩ (fun c hc hn=>(X1.un c hc hn).2)
                (fun j hj hl o' ho' hjp hx=>⟨hjp,fun φ2 a hc F R2=>hx φ2 a hc F (R2.old hnx (R.un _ (Nat.le_refl _) hnx))⟩) (fun hn=>⟨Nat.le_refl _,Nat.lt_succ_self _⟩) (Nat.le_succ _) (I.ex.trans X1)
            · exact go pend und (fun _ h=>h) (fun p hp=>List.mem_cons_of_mem _ (S.pd p hp)) H (skipU hw)
          | e g =>
            rw [hcop] at H ok
            cases hon:qan ops done i with
            | false=>rw [hon] at H;cases H
            | true =>
              rw [hon] at H;have hpf:∀ p∈pend.filter (fun p=>not (mem (ancs ops ops.length (zjr o)) p)),p∈i :: done:=fun p hp=>List.mem_cons_of_mem _ (S.pd p (List.mem_filter.1 hp).1)
              have anc:∀ {listed:Array Bool},(∀ j,j<ops.length->¬ un listed j->∀ p,zao ops p j=true->¬ un listed p)->(∀ p,zao ops p i=true->¬ un listed p)->∀ j∈pend,un listed j->j∈pend.filter (fun p=>not (mem (ancs ops ops.length (zjr o)) p)):=fun hdc hpi j hj hl=>by
                refine List.mem_filter.2 ⟨hj,?_⟩;rw [zxl]
                cases hm:mem (ancs ops ops.length (zjr o)) j with
                | false=>rfl
                | true=>exact absurd hl (zr6 hdc _ _ (fun p hp=>hpi p ((zi7 ho p).1 hp)) j (zcd.1 hm))
              have ne:∀ {j},j∈done->j≠i:=fun hj he=>hi (he ▸ hj)
              have np:∀ {j},j∈done->zao ops i j=false:=fun {j} hj=>by
                cases hh:zao ops i j with
                | false=>rfl
                | true=>exact absurd (S.cl j hj i hh) hi
              rcases zqw H with⟨H,hw⟩ | ⟨H,hw⟩
              · obtain⟨v,h1,H1,hv⟩:=ok call CO st e h _ H
                have S':=S.add (v:=v) hdd hi ho c2 c3 hpf;obtain⟨H2,ask⟩:=zyf B0 S' _ hpf H1;obtain⟨e',h2,H3,he',k⟩:=zqp B0 hwf f _ _ _ _ call CO _ e h1 K (zml V i v) (zml B i 0) H2 he S';refine⟨e',h2,H3,he',fun base φ0 h0 w0 Q kq=>qn5 hwf S.dk (fun φ listed a w I R W hn=>absurd (I.dn i hlen (hn i)) hi) fun fuel φ listed a w i' hf I R W hi' hlt hu hpi=>?_⟩
                have hii':i'=i:=by
                  obtain⟨o',ho'⟩:∃ o',ops[i']? = some o':=⟨ops[i'],List.getElem?_eq_getElem hlt⟩
                  exact zus hon ho' hi' fun p hp=>I.dn p (zqx hwf hp hlt) (hpi p hp)
                subst hii';have F:=I.fr hdd R.gl hu hpi;have FV:=S.fr ho hpre F;unfold wpOp;simp only [List.getElem?_toArray,ho,hw _ φ a FV,if_true];refine .inl (hv cx.N base φ a w.heap FV R a w zrm rfl _ _ ?_);rintro u w' W' ⟨φ',X,R',hcv⟩;have hc:=zic hu;refine k base φ0 h0 w0 Q kq fuel φ' _ _ w' (by omega) ?_ R' (W.trans W');rw [← hds];refine I.step hdd hlt hu hpi (by rw [hds];exact c3) X.le (fun j hj=>List.mem_cons_of_mem _ hj) List.mem_cons_self (fun j hj hji _=>zbb hji) (fun d hd=>by rw [zci];exact hcv) (fun j hj hl hji=>?_) (fun j hj hn=>?_) (fun j hj j' hj' hn he'=>?_) (I.ex.trans X)
                · have hj:=(List.mem_cons.1 hj).resolve_left hji
                  refine UpF.turn ((I.up j hj hl).upd (np hj) hji) (fun b hb hB=>?_) fun o' ho' hjp hwt hx=>?_
                  · rw [zbb hji] at hB
                    subst hB;exact X.un _ (I.bb j hj hb).2 hb
                  · have hjf:=anc I.dc hpi j hjp hl
                    rcases ask j hjf o' ho' with z | z
                    · exact .inl fun φ2 a F=>by have h1:=z φ2 a F;rw [hwt φ2 a F] at h1;cases h1
                    · exact .inr ⟨hjf,z⟩
                · rcases List.mem_cons.1 hj with rfl | hj
                  · rw [zci,R'.gl 0 (by decide)] at hn;cases hn
                  · rw [zbb (ne hj)] at hn ⊢
                    have hn0:φ (B j)=none:=by
                      cases hq:φ (B j) with
                      | none=>rfl
                      | some x=>rw [X.le _ _ hq] at hn;cases hn
                    exact⟨(I.bb j hj hn0).1,Nat.lt_of_lt_of_le (I.bb j hj hn0).2 X.nx⟩
                · rcases List.mem_cons.1 hj with h1' | h1'
                  · subst h1';rw [zci,R'.gl 0 (by decide)] at hn;cases hn
                  · rcases List.mem_cons.1 hj' with h2' | h2'
                    · subst h2';rw [he',zci,R'.gl 0 (by decide)] at hn;cases hn
                    · rw [zbb (ne h1')] at hn he'
                      rw [zbb (ne h2')] at he'
                      have hn0:φ (B j)=none:=by
                        cases hq:φ (B j) with
                        | none=>rfl
                        | some x=>rw [X.le _ _ hq] at hn;cases hn
                      exact I.inj j h1' j' h2' hn0 he'
              · have S':=S.add (v:=und) hdd hi ho c2 c3 hpf
                obtain⟨e',h2,H3,he',k⟩:=zqp B0 hwf f _ _ _ _ call CO _ e h K (zml V i und) (zml B i 0) H he S';refine⟨e',h2,H3,he',fun base φ0 h0 w0 Q kq=>qn5 hwf S.dk (fun φ listed a w I R W hn=>absurd (I.dn i hlen (hn i)) hi) fun fuel φ listed a w i' hf I R W hi' hlt hu hpi=>?_⟩
                have hii':i'=i:=by
                  obtain⟨o',ho'⟩:∃ o',ops[i']? = some o':=⟨ops[i'],List.getElem?_eq_getElem hlt⟩
                  exact zus hon ho' hi' fun p hp=>I.dn p (zqx hwf hp hlt) (hpi p hp)
                subst hii';have F:=I.fr hdd R.gl hu hpi;have FV:=S.fr ho hpre F;unfold wpOp;simp only [List.getElem?_toArray,ho,hw _ φ a FV,Bool.false_eq_true,if_false];have hc:=zic hu;refine k base φ0 h0 w0 Q kq fuel φ _ _ w (by omega) ?_ R W;rw [← hds];refine I.step hdd hlt hu hpi (by rw [hds];exact c3) Ph.le.rfl (fun j hj=>List.mem_cons_of_mem _ hj) List.mem_cons_self (fun j hj hji _=>zbb hji) (fun d hd=>by rw [zci];exact zq4 φ) (fun j hj hl hji=>?_) (fun j hj hn=>?_) (fun j hj j' hj' hn he'=>?_) I.ex
                · have hj:=(List.mem_cons.1 hj).resolve_left hji
                  refine UpF.turn ((I.up j hj hl).upd (np hj) hji) (fun b hb hB=>⟨hb,rfl⟩) fun o' ho' hjp hwt hx=>?_;exact .inr ⟨anc I.dc hpi j hjp hl,hx⟩
                · rcases List.mem_cons.1 hj with rfl | hj
                  · rw [zci,R.gl 0 (by decide)] at hn;cases hn
                  · rw [zbb (ne hj)] at hn ⊢
                    exact I.bb j hj hn
                · rcases List.mem_cons.1 hj with h1' | h1'
                  · subst h1';rw [zci,R.gl 0 (by decide)] at hn;cases hn
                  · rcases List.mem_cons.1 hj' with h2' | h2'
                    · subst h2';rw [he',zci,R.gl 0 (by decide)] at hn;cases hn
                    · rw [zbb (ne h1')] at hn he'
                      rw [zbb (ne h2')] at he';exact I.inj j h1' j' h2' hn he'
theorem qlh (B0:TbOk P T cx.tb) (hm:P.follows .mixedOrders=true) (id:Nat) (ops:Array Oper):qsf P cx id ops (drg cx ops.toList):=fun call CO e h K H he=>by
  unfold drg at H
  cases hwf:wfR ops.toList with
  | false=>rw [hwf] at H;cases H
  | true =>
    rw [hwf] at H;obtain⟨e',h1,H1,he',k⟩:=zqp B0 hwf ops.toList.length [] 0 [] [] call CO [] e h K (fun _=>und) (fun _=>0) H he ⟨SgOk.nil,by simp,fun t ht=>ht.elim,by simp,by simp,by simp⟩;refine⟨e',h1,H1,he',fun base φ a w Q F R kq=>?_⟩;refine wp_region_any hm ?_;have k':=k base φ h w Q kq ops.size φ (Array.replicate ops.size false) a w.drew (by rw [zsf];exact Nat.le_refl _);refine k' ?_ R ⟨rfl,rfl,rfl,rfl,fun h=>by cases h⟩
    have all:∀ j,j<ops.toList.length->un (Array.replicate ops.size false) j:=fun j hj=>by
      have hj':j<ops.size:=by simpa using hj
      simp [un,Array.getD_eq_getD_getElem?,hj']
    exact⟨by simp,F.d,F.sz,fun j hj hl=>absurd (all j hj) hl,fun j hj hl=>absurd (all j hj) hl,fun j hj hl=>absurd (all j hj) hl,fun t v ht hg _=>F.v t v ht hg,by simp,by simp,by simp,Ex.rfl⟩
end
end
end Go.V
end

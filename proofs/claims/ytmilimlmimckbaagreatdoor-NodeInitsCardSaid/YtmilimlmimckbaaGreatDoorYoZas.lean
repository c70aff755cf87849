/- A part of the proof of statements of this seat: lemmas, no statement of their own. -/
import Derived.Test.YtmilimlmimckbaaGreatDoorYoZar
import Derived.Test.YtmilimlmimckbaaGreatDoorYoZag
import Derived.Test.YtmilimlmimckbaaGreatDoorYoZae
import Derived.Test.YtmilimlmimckbaaGreatDoorYoZad
import Derived.Test.YtmilimlmimckbaaGreatDoorYoZai
import Derived.Test.YtmilimlmimckbaaGreatDoorYoZaj
import Derived.Test.YtmilimlmimckbaaGreatDoorYoZah
set_option linter.unusedVariables false
set_option linter.unusedSimpArgs false
set_option maxRecDepth 100000
section
namespace Go.V
open Go.Q
noncomputable section
structure CD where
 f:zbk->En->HS->(X->En->HS->Rs)->Rs
def CD.x (g:CD):zbk->En->HS->(X->En->HS->Rs)->Rs:=CD.rec (fun f=>f) g
def zya:X->Exit | .nrm=>.normal | .ex i=>.exit i | .ret=>.ret
def zqd (P:Program) (cx:Cx) (c:Code) (g:CD):Prop :=
 ∀(call:zbk),za7 P call->∀(e:En) (h:HS) (K:X->En->HS->Rs),g.x call e h K=true->zpp cx.E e->∃ x e' h1,K x e' h1=true/\zpp cx.E e' /\
  ∀(base:zaa) (φ:Ph) (a:Act) (w:World) (Q:Exit->Act->World->Prop),FrE cx.N φ e a->Rel base φ h w.heap ->
   (∀ φ' a' w',Ex φ h φ' h1->FrE cx.N φ' e' a'->Rel base φ' h1 w'.heap->WW false w w'.heap w'->Q (zya x) a' w')->c.wp P Q a w
def noC:CD:=⟨fun _ _ _ _=>false⟩
def exC (x:X):CD:=⟨fun _ e h K=>K x e h⟩
def rgC (g:RG):CD:=⟨fun call e h K=>g.x call [] e h fun e h=>K .nrm e h⟩
def onN (K:X->En->HS->Rs) (k:En->HS->Rs) (x:X) (e:En) (h:HS):Rs:=X.rec (motive:=fun _=>Rs) (k e h) (fun i=>K (.ex i) e h) (K .ret e h) x
def onB (i:Nat) (K:X->En->HS->Rs) (x:X) (e:En) (h:HS):Rs:=X.rec (motive:=fun _=>Rs) (K .nrm e h) (fun j=>Bool.rec (motive:=fun _=>Rs) (K (.ex j) e h) (K .nrm e h) (Nat.beq j i)) (K .ret e h) x
def sqC (a b:CD):CD:=⟨fun call e h K=>a.x call e h (onN K fun e h=>b.x call e h K)⟩
def cnC (x:Operand) (a b:CD):CD:=⟨fun call e h K=>(opd [] 0 x).x [] e fun v=>dB.x v fun v=>Bool.rec (motive:=fun _=>Rs) (b.x call e h K) (a.x call e h K) v⟩
def blC (i:Nat) (a:CD):CD:=⟨fun call e h K=>a.x call e h (onB i K)⟩
def lpU (n:Nat) (b:En->HS->(X->En->HS->Rs)->Rs) (K:X->En->HS->Rs):En->HS->Rs:=Nat.rec (motive:=fun _=>En->HS->Rs) (fun _ _=>false) (fun _ ih e h=>b e h (onN K ih)) n
def lpC (a:CD):CD:=⟨fun call e h K=>lpU 1000000000 (a.x call) K e h⟩
def cd (cx:Cx) (c:Code):CD :=
 Code.rec (motive:=fun _=>CD) (exC .nrm) (fun _ ops dr=>Bool.rec (rgC (rg cx ops.toList ops.toList [] 0)) (rgC (drg cx ops.toList)) dr) (fun _ _ a b=>sqC a b) (fun x _ _ a b=>cnC x a b) (fun i _ a=>blC i a) (fun _ a=>lpC a)
  (fun _ _ _ _ _ _=>noC) (fun i=>exC (.ex i)) (fun _ a=>a) (fun _=>exC .nrm) (fun _=>noC) (exC .ret) (fun _=>noC) c
section
variable {P:Program} {T:Tab} {cx:Cx}
theorem zyq {c:Code}:zqd P cx c noC:=fun call CO e h K H=>by cases H
theorem zs5 {c:Code} {x:X} (hc:∀ Q a w,Q (zya x) a w->c.wp P Q a w):zqd P cx c (exC x):=fun call CO e h K H he =>
 ⟨x,e,h,H,he,fun base φ a w Q F R k=>hc Q a w (k φ a w Ex.rfl F R (WW.refl' w))⟩
theorem qlx {x y:Code} {a b:CD} (A:zqd P cx x a) (Bb:zqd P cx y b):zqd P cx (.seq x y) (sqC a b):=fun call CO e h K H he=>by
 obtain⟨x1,e1,h1,H1,he1,ha⟩:=A call CO e h _ H he
 cases x1 with
 | nrm =>
  obtain⟨x2,e2,h2,H2,he2,hb⟩:=Bb call CO e1 h1 K H1 he1;refine⟨x2,e2,h2,H2,he2,fun base φ a w Q F R k=>wp_seq (ha base φ a w _ F R ?_)⟩;intro φ' a' w' X1 F1 R1 W1
  exact hb base φ' a' w' Q F1 R1 fun φ'' a'' w'' X2 F2 R2 W2=>k φ'' a'' w'' (X1.trans X2) F2 R2 (W1.trans W2)
 | ex i=>exact⟨.ex i,e1,h1,H1,he1,fun base φ a w Q F R k=>wp_seq (ha base φ a w _ F R fun φ' a' w' X1 F1 R1 W1=>k φ' a' w' X1 F1 R1 W1)⟩
 | ret=>exact⟨.ret,e1,h1,H1,he1,fun base φ a w Q F R k=>wp_seq (ha base φ a w _ F R fun φ' a' w' X1 F1 R1 W1=>k φ' a' w' X1 F1 R1 W1)⟩
theorem qkv {x y:Code} {t:Operand} {a b:CD} (A:zqd P cx x a) (Bb:zqd P cx y b):zqd P cx (.cond t x y) (cnC t a b):=fun call CO e h K H he=>by
 obtain⟨v,hv,H⟩:=zaf H;obtain⟨q,hq,H1⟩:=zu7 H;subst hq;have hev:∀ φ a,FrE cx.N φ e a->a.eval t = .bool q:=fun φ a F=>(Option.some.inj (osrc_ok F hv:some (Value.bool q)=some (a.eval t))).symm
 cases q with
 | true =>
  obtain⟨x1,e1,h1,H2,he1,ha⟩:=A call CO e h K H1 he
  exact⟨x1,e1,h1,H2,he1,fun base φ a w Q F R k=>wp_cond_true (hev φ a F) (ha base φ a w Q F R k)⟩
 | false =>
  obtain⟨x1,e1,h1,H2,he1,hb⟩:=Bb call CO e h K H1 he;exact⟨x1,e1,h1,H2,he1,fun base φ a w Q F R k=>wp_cond_false (hev φ a F) (hb base φ a w Q F R k)⟩
theorem qmx {x:Code} {i:Nat} {a:CD} (A:zqd P cx x a):zqd P cx (.block i x) (blC i a):=fun call CO e h K H he=>by
 obtain⟨x1,e1,h1,H1,he1,ha⟩:=A call CO e h _ H he
 cases x1 with
 | nrm=>exact⟨.nrm,e1,h1,H1,he1,fun base φ a w Q F R k=>wp_block (ha base φ a w _ F R fun φ' a' w' X1 F1 R1 W1=>k φ' a' w' X1 F1 R1 W1)⟩
 | ret=>exact⟨.ret,e1,h1,H1,he1,fun base φ a w Q F R k=>wp_block (ha base φ a w _ F R fun φ' a' w' X1 F1 R1 W1=>k φ' a' w' X1 F1 R1 W1)⟩
 | ex j =>
  rcases qer (a:=j) (b:=i) H1 with⟨hji,H2⟩ | ⟨hji,H2⟩
  ·refine⟨.nrm,e1,h1,H2,he1,fun base φ a w Q F R k=>wp_block (ha base φ a w _ F R fun φ' a' w' X1 F1 R1 W1=>?_)⟩
   show (if j=i then Q .normal a' w' else Q (.exit j) a' w')
   rw [if_pos hji];exact k φ' a' w' X1 F1 R1 W1
  ·refine⟨.ex j,e1,h1,H2,he1,fun base φ a w Q F R k=>wp_block (ha base φ a w _ F R fun φ' a' w' X1 F1 R1 W1=>?_)⟩
   show (if j=i then Q .normal a' w' else Q (.exit j) a' w')
   rw [if_neg hji];exact k φ' a' w' X1 F1 R1 W1
def LW (P:Program) (x:Code) (Q:Exit->Act->World->Prop) (a:Act) (w:World):Prop :=
 ∀(b:Frame) (k:List Item) (cs:List Frame),∃ e a' w',Q e a' w'/\Arrives P (lone (b.at a (.code x :: .inLoop x :: k)) cs w) b k cs e a' w'
theorem LW.wp {x:Code} {Q:Exit->Act->World->Prop} {a:Act} {w:World} (h:LW P x Q a w):(Code.loop x).wp P Q a w:=by
 intro b k cs;obtain⟨ex,a',w',hq,harr⟩:=h b k cs;exact⟨ex,a',w',hq,.of_steps (.one step_loop) harr⟩
theorem LW.of {x:Code} {Q:Exit->Act->World->Prop} {a:Act} {w:World} (h:x.wp P (Exit.then (LW P x Q) Q) a w):LW P x Q a w:=by
 intro b k cs;obtain⟨ex,a₁,w₁,hq,harr⟩:=h b (.inLoop x :: k) cs
 cases ex with
 | normal =>
  obtain⟨e₂,a₂,w₂,hq₂,harr₂⟩:=hq b k cs
  exact⟨e₂,a₂,w₂,hq₂,.of_steps (Steps.trans harr (.one step_inLoop)) harr₂⟩
 | exit id=>exact⟨_,a₁,w₁,hq,.pass (x:=.inLoop x) rfl (fun _ _=>.inl (by simp)) harr⟩
 | goto l=>exact⟨_,a₁,w₁,hq,.pass (x:=.inLoop x) rfl (fun _ _=>.inl (by simp)) harr⟩
 | ret=>exact⟨_,a₁,w₁,hq,.pass (x:=.inLoop x) rfl (fun _ _=>.inl (by simp)) harr⟩
 | panic ch=>exact⟨_,a₁,w₁,hq,.pass (x:=.inLoop x) rfl (fun _ _=>.inl (by simp)) harr⟩
 | outgrown=>exact⟨_,a₁,w₁,hq,.pass (x:=.inLoop x) rfl (fun _ _=>.inl (by simp)) harr⟩
theorem qdr {x:Code} {a:CD} {call:zbk} {K:X->En->HS->Rs} (CO:za7 P call) (A:zqd P cx x a):∀(n:Nat) (e:En) (h:HS),lpU n (a.x call) K e h=true->zpp cx.E e->∃ x2 e' h1,K x2 e' h1=true/\zpp cx.E e' /\
  ∀(base:zaa) (φ:Ph) (a:Act) (w:World) (Q:Exit->Act->World->Prop),FrE cx.N φ e a->Rel base φ h w.heap ->
   (∀ φ' a' w',Ex φ h φ' h1->FrE cx.N φ' e' a'->Rel base φ' h1 w'.heap->WW false w w'.heap w'->Q (zya x2) a' w')->LW P x Q a w
 | 0,e,h,H,he=>by cases H
 | n+1,e,h,H,he=>by
  have H':a.x call e h (onN K (lpU n (a.x call) K))=true:=H;obtain⟨x1,e1,h1,H1,he1,ha⟩:=A call CO e h _ H' he
  cases x1 with
  | nrm =>
   obtain⟨x2,e2,h2,H2,he2,hb⟩:=qdr CO A n e1 h1 H1 he1;refine⟨x2,e2,h2,H2,he2,fun base φ a w Q F R k=>LW.of (ha base φ a w _ F R ?_)⟩;intro φ' a' w' X1 F1 R1 W1
   exact hb base φ' a' w' Q F1 R1 fun φ'' a'' w'' X2 F2 R2 W2=>k φ'' a'' w'' (X1.trans X2) F2 R2 (W1.trans W2)
  | ex i=>exact⟨.ex i,e1,h1,H1,he1,fun base φ a w Q F R k=>LW.of (ha base φ a w _ F R fun φ' a' w' X1 F1 R1 W1=>k φ' a' w' X1 F1 R1 W1)⟩
  | ret=>exact⟨.ret,e1,h1,H1,he1,fun base φ a w Q F R k=>LW.of (ha base φ a w _ F R fun φ' a' w' X1 F1 R1 W1=>k φ' a' w' X1 F1 R1 W1)⟩
theorem qmi {x:Code} {a:CD} (A:zqd P cx x a):zqd P cx (.loop x) (lpC a):=fun call CO e h K H he=>by
 have H':lpU 1000000000 (a.x call) K e h=true:=H;obtain⟨x2,e',h1,H1,he',hb⟩:=qdr CO A _ e h H' he;exact⟨x2,e',h1,H1,he',fun base φ a w Q F R k=>(hb base φ a w Q F R k).wp⟩
theorem qjm {x:Code} {a:CD} (A:zqd P cx x a):zqd P cx (.scope x) a:=fun call CO e h K H he=>by
 obtain⟨x1,e1,h1,H1,he1,ha⟩:=A call CO e h K H he;refine⟨x1,e1,h1,H1,he1,fun base φ a w Q F R k=>wp_scope_straight (ha base φ a w _ F R fun φ' a' w' X1 F1 R1 W1=>?_)⟩
 cases x1 <;> exact k φ' a' w' X1 F1 R1 W1
theorem qlb (B:TbOk P T cx.tb) (id:Nat) (ops:Array Oper):zqd P cx (.region id ops false) (rgC (rg cx ops.toList ops.toList [] 0)):=fun call CO e h K H he=>by
 obtain⟨e1,h1,H1,he1,hg⟩:=zvb B ops.toList ops.toList [] 0 call CO [] e h _ H SgOk.nil he;refine⟨.nrm,e1,h1,H1,he1,fun base φ a w Q F R k=>?_⟩;have:=hg base φ a w Q (Q .normal) F R k;rw [wpK_list] at this;have e2:ops=ops.toList.toArray:=by simp
 rw [e2];refine wp_region_lit ?_;simpa using this
theorem qkl (B:TbOk P T cx.tb) (hm:P.follows .mixedOrders=true) (id:Nat) (ops:Array Oper):zqd P cx (.region id ops true) (rgC (drg cx ops.toList)):=fun call CO e h K H he=>by
 obtain⟨e1,h1,H1,he1,hg⟩:=qlh B hm id ops call CO e h _ H he;exact⟨.nrm,e1,h1,H1,he1,fun base φ a w Q F R k=>hg base φ a w Q F R k⟩
theorem qnw (B:TbOk P T cx.tb) (hm:P.follows .mixedOrders=true) (c:Code):zqd P cx c (cd cx c):=by
 induction c with
 | skip=>exact zs5 fun Q a w h=>wp_skip h
 | region id ops dr =>
  cases dr with
  | false=>exact qlb B id ops
  | true=>exact qkl B hm id ops
 | seq x y hx hy=>exact qlx hx hy
 | cond t x y hx hy=>exact qkv hx hy
 | block i x hx=>exact qmx hx
 | loop x hx=>exact qmi hx
 | rangeFunc f ps x y hx hy=>exact zyq
 | exit i=>exact zs5 fun Q a w h=>wp_exit h
 | scope x hx=>exact qjm hx
 | label l=>exact zs5 fun Q a w h=>wp_label h
 | goto l=>exact zyq
 | ret=>exact zs5 fun Q a w h=>wp_ret h
 | refuse s=>exact zyq
structure RL where
 f:En->HS->(List AV->Rs)->Rs
def RL.x (g:RL):En->HS->(List AV->Rs)->Rs:=RL.rec (fun f=>f) g
def qii (tb:TT):List ResultVar->RL
 | []=>⟨fun _ _ K=>K []⟩
 | .tmp t :: r=>⟨fun e h K=>(opd [] 0 (.tmp t)).x [] e fun v=>(qii tb r).x e h fun l=>K (v :: l)⟩
 | .cell a t :: r=>match tif tb t with
  | some i=>⟨fun e h K=>(pLd [] 0 i.n (!isA i.d) (.tmp a)).x [] e h fun v=>(qii tb r).x e h fun l=>K (v :: l)⟩
  | none=>⟨fun _ _ _=>false⟩
def qk2 (l:List AV):AV:=List.rec (motive:=fun _=>AV) (.tu []) (fun v r _=>List.rec (motive:=fun _=>AV) v (fun w s _=>.tu (v :: w :: s)) r) l
theorem zzb {φ:Ph} {l:List AV} {us:List Value} (h:cvs φ l=some us):cv φ (qk2 l)=some (tup us):=by
 cases l with
 | nil=>cases h;rfl
 | cons v r =>
  obtain⟨u,w,rfl,h1,h2⟩:=zcp h
  cases r with
  | nil=>cases h2;exact h1
  | cons v2 r2 =>
   obtain⟨u2,w2,rfl,h3,h4⟩:=zcp h2;exact zzw.2 ⟨_,zbh h1 (zbh h3 h4),rfl⟩
theorem zpq {tb:TT} (B:TbOk P T tb) {N:Nat} {e:En} {h:HS}:∀(rs:List ResultVar) (K:List AV->Rs),(qii tb rs).x e h K=true->∃ l,K l=true/\∀ base φ a hc,FrE N φ e a->Rel base φ h hc->∃ us,RVs T (eA a) hc rs us/\cvs φ l=some us
 | [],K,H=>⟨[],H,fun base φ a hc F R=>⟨[],trivial,rfl⟩⟩
 | .tmp t :: r,K,H=>by
  obtain⟨v,hv,H⟩:=zaf H;obtain⟨l,H,ih⟩:=zpq B r _ H;refine⟨v :: l,H,fun base φ a hc F R=>?_⟩;obtain⟨u,e1,c1⟩:=F.ev hv;obtain⟨us,i1,i2⟩:=ih base φ a hc F R
  exact⟨u :: us,⟨e1,i1⟩,zbh c1 i2⟩
 | .cell x t :: r,K,H=>by
  unfold qii at H;split at H
  ·rename_i i hi
   have hT:=B.get hi;obtain⟨v,hv,H⟩:=zaf H;obtain⟨b,o',hq,H2⟩:=znv H;clear H;subst hq;obtain⟨bl,hb,H⟩:=zd3 H2
   cases hd:isA i.d with
   | true =>
    simp only [hd] at H;obtain⟨hle,H⟩:=zhu H;obtain⟨l,H,hl,hg⟩:=zsc _ _ _ H;obtain⟨l',H,ih⟩:=zpq B r _ H;refine⟨_,H,fun base φ a hc F R=>?_⟩;obtain⟨u1,e1,c1⟩:=F.ev hv;obtain⟨y,hy,rfl⟩:=zv1 c1;obtain⟨us,k1,k2,k3,k4⟩:=zi1 R.toR hy hb hle hl hg;obtain⟨us',i1,i2⟩:=ih base φ a hc F R
    exact⟨.agg us.toArray :: us',⟨⟨_,i,e1,hT,.inr ⟨hd,us,rfl,k2,k4⟩⟩,i1⟩,zbh (zfn.2 ⟨us,k1,k3,rfl⟩) i2⟩
   | false =>
    simp only [hd] at H;obtain⟨hlt,H⟩:=zn3 H;rw [zmm] at H;obtain⟨w,hw,H⟩:=zjz H;obtain⟨l',H,ih⟩:=zpq B r _ H;refine⟨_,H,fun base φ a hc F R=>?_⟩;obtain⟨u1,e1,c1⟩:=F.ev hv;obtain⟨y,hy,rfl⟩:=zv1 c1;obtain⟨v,u,g1,g2,g3,g4⟩:=R.toR.read hy hb hlt;rw [hw] at g1;cases g1;obtain⟨us',i1,i2⟩:=ih base φ a hc F R;exact⟨u :: us',⟨⟨_,i,e1,hT,.inl ⟨hd,g4⟩⟩,i1⟩,zbh g2 i2⟩
  ·cases H
def args (E:Nat) (vs:List AV):Nat->En->(En->Rs)->Rs:=List.rec (motive:=fun _=>Nat->En->(En->Rs)->Rs) (fun _ e K=>K e) (fun v _ ih i e K=>zb3 (Nat.succ i) fun j=>Bool.rec (motive:=fun _=>Rs) (ih j e K) ((up DE i).x Rs e (some v) fun e=>ih j e K) (and (Nat.testBit E i) (Nat.blt i 256))) vs
theorem zs1 {E:Nat}:∀(vs:List AV) (i:Nat) (e:En) (K:En->Rs),args E vs i e K=true->zpp E e->(∀ t,i<=t->t<4 ^ DE->gt DE t e=none)->∃ e',K e'=true/\zpp E e'/\∀ t v,t<4 ^ DE->gt DE t e'=some v->(i<=t/\vs[t-i]? = some v)∨(t<i/\gt DE t e=some v)
 | [],i,e,K,H,he,hi=>⟨e,H,he,fun t v ht hv=>by
   by_cases h:t<i
   ·exact .inr ⟨h,hv⟩
   ·rw [hi t (by omega) ht] at hv;cases hv⟩
 | v :: r,i,e,K,H,he,hi=>by
  have H1:zb3 (Nat.succ i) (fun j=>Bool.rec (motive:=fun _=>Rs) (args E r j e K) ((up DE i).x Rs e (some v) fun e=>args E r j e K) (and (Nat.testBit E i) (Nat.blt i 256)))=true:=H;rw [natK_eq] at H1
  cases hb:and (Nat.testBit E i) (Nat.blt i 256) with
  | false =>
   rw [hb] at H1;obtain⟨e',h1,h2,h3⟩:=zs1 r (i+1) e K H1 he (fun t ht=>hi t (by omega));refine⟨e',h1,h2,fun t w ht hw=>?_⟩;rcases h3 t w ht hw with⟨h4,h5⟩ | ⟨h4,h5⟩
   ·refine .inl ⟨by omega,?_⟩
    rw [show t-i=(t-(i+1))+1 from by omega,List.getElem?_cons_succ];exact h5
   ·by_cases hti:t=i
    ·subst hti;rw [hi t (Nat.le_refl _) ht] at h5;cases h5
    ·exact .inr ⟨by omega,h5⟩
  | true =>
   rw [hb] at H1;obtain⟨hE,hlt⟩:=zag.1 hb;rw [Nat.blt_eq] at hlt;have H2:(up DE i).x Rs e (some v) (fun e=>args E r (i+1) e K)=true:=H1;rw [up_eq] at H2
   obtain⟨e',h1,h2,h3⟩:=zs1 r (i+1) _ K H2 (fun t ht hEt=>by
    have:i≠t:=fun h=>by subst h;rw [hE] at hEt;cases hEt
    rw [zar _ _ _ _ _ hlt ht this];exact he t ht hEt) (fun t ht h4=>by rw [zar _ _ _ _ _ hlt h4 (by omega)];exact hi t (by omega) h4)
   refine⟨e',h1,h2,fun t w ht hw=>?_⟩;rcases h3 t w ht hw with⟨h4,h5⟩ | ⟨h4,h5⟩
   ·refine .inl ⟨by omega,?_⟩
    rw [show t-i=(t-(i+1))+1 from by omega,List.getElem?_cons_succ];exact h5
   ·by_cases hti:t=i
    ·subst hti
     rw [zht] at h5;cases h5;exact .inl ⟨Nat.le_refl _,by simp⟩
    ·rw [zar _ _ _ _ _ hlt ht (Ne.symm hti)] at h5
     exact .inr ⟨by omega,h5⟩
structure FD where
 f:zbk->List AV->HS->(AV->HS->Rs)->Rs
def FD.x (x:FD):zbk->List AV->HS->(AV->HS->Rs)->Rs:=FD.rec (fun f=>f) x
def fin (g:RL) (K:AV->HS->Rs) (x:X) (e:En) (h:HS):Rs:=X.rec (motive:=fun _=>Rs) (g.x e h fun l=>K (qk2 l) h) (fun _=>false) (g.x e h fun l=>K (qk2 l) h) x
def fdB (cx:Cx) (rs:List ResultVar) (b:Code):FD:=⟨fun call vs h K=>Bool.rec (motive:=fun _=>Rs) false (args cx.E vs 0 (mt AV DE) fun e=>(cd cx b).x call e h (fin (qii cx.tb rs) K)) (Nat.ble (zgs vs) cx.N)⟩
def qp2 (x:Operand) (m:Nat):Nat:=match x with | .tmp t=>Nat.lor m (Nat.shiftLeft 1 t) | _=>m
def qsp (l:List Operand) (m:Nat):Nat:=List.rec m (fun x _ ih=>qp2 x ih) l
def qp6 (all:List Oper) (l:List Oper) (defs m:Nat):Nat:=match l with
 | []=>m
 | o :: r=>zb3 (Nat.lor m (Nat.land (qsp o.op.operands.toList (match o.guard with | some (j,_)=>(match qig all j with | some q=>Nat.shiftLeft 1 q | none=>0) | none=>0)) (Nat.xor defs 115792089237316195423570985008687907853269984665640564039457584007913129639935))) fun m =>
  qp6 all r (match o.dst with | some d=>Nat.lor defs (Nat.shiftLeft 1 d) | none=>defs) m
def qr3 (c:Code) (m:Nat):Nat:=Code.rec (motive:=fun _=>Nat->Nat) (fun m=>m) (fun _ ops _ m=>qp6 ops.toList ops.toList 0 m) (fun _ _ a b m=>zb3 (a m) fun m=>b m) (fun x _ _ a b m=>zb3 (a (qp2 x m)) fun m=>b m)
 (fun _ _ a=>a) (fun _ a=>a) (fun _ _ _ _ _ _ m=>m) (fun _ m=>m) (fun _ a=>a) (fun _ m=>m) (fun _ m=>m) (fun m=>m) (fun _ m=>m) c m
def qou (l:List ResultVar) (m:Nat):Nat:=match l with | []=>m | .tmp t :: r=>qou r (Nat.lor m (Nat.shiftLeft 1 t)) | .cell t _ :: r=>qou r (Nat.lor m (Nat.shiftLeft 1 t))
def fd (tb:TT) (fn:Func):FD:=match fn.body with
 | some b=>zb3 (qr3 b (qou fn.results.toList 0)) fun E=>fdB ⟨tb,E,fn.ntmps⟩ fn.results.toList b
 | none=>⟨fun _ _ _ _=>false⟩
def FnOk (P:Program) (f:Nat) (g:zbk->List AV->HS->(AV->HS->Rs)->Rs):Prop :=
 ∀(call:zbk),za7 P call->∀(vs:List AV) (h:HS) (K:AV->HS->Rs),g call vs h K=true->zad P f/\∃ v h1,K v h1=true /\
  ∀(base:zaa) (φ:Ph) (hc:zaa) (us:List Value),Rel base φ h hc->cvs φ vs=some us->CallsHD false P f us.toArray hc fun u hc'=>∃ φ',Ex φ h φ' h1/\Rel base φ' h1 hc'/\cv φ' v=some u
theorem ql2 (B:TbOk P T cx.tb) (hm:P.follows .mixedOrders=true) {f:Nat} {fn:Func} {b:Code} (hf:P.funcs[f]? = some fn) (hb:fn.body=some b) (hn:(fn.name == "runtime.NumGoroutine")=false) (hN:cx.N=fn.ntmps):FnOk P f (fdB cx fn.results.toList b).x:=fun call CO vs h K H=>by
 obtain⟨hlen,H⟩:=zhu H;rw [zav] at hlen;obtain⟨e0,H,he0,hargs⟩:=zs1 (E:=cx.E) vs 0 (mt AV DE) _ H (fun t ht _=>zmk _ _) (fun t _ ht=>zmk _ _);obtain⟨x1,e1,h1,H1,he1,hc⟩:=qnw B hm b call CO e0 h _ H he0;refine⟨⟨fn,hf,hn,by rw [hb];rfl⟩,?_⟩
 have entry:∀(φ:Ph) (us:List Value) (a:Act),(∀ g,g<GN->φ g=some ⟨g,0,0⟩)->cvs φ vs=some us->Fr fn.ntmps (zmi 0 us) a->FrE cx.N φ e0 a:=fun φ us a hgl hv fa=>by
  refine⟨hgl,fa.d,by rw [hN];exact fa.n,fun t v ht hw=>?_⟩;have hw':gt DE t e0=some v:=hw;rcases hargs t v ht hw' with⟨_,h5⟩ | ⟨h4,_⟩
  ·rw [Nat.sub_zero] at h5
   obtain⟨u,hu,hcu⟩:=zdn _ _ hv t v h5;refine⟨u,fa.l t u ?_,hcu⟩;have:=zm6 us 0 t u hu
   rwa [Nat.zero_add] at this
  ·exact absurd h4 (Nat.not_lt_zero _)
 have fin':(x1 = .nrm∨x1 = .ret)/\(qii cx.tb fn.results.toList).x e1 h1 (fun l=>K (qk2 l) h1)=true:=by
  cases x1 with
  | nrm=>exact⟨.inl rfl,H1⟩
  | ret=>exact⟨.inr rfl,H1⟩
  | ex i=>cases H1
 obtain⟨hx,H2⟩:=fin';obtain⟨l,H3,hl⟩:=zpq (N:=cx.N) B _ _ H2;refine⟨qk2 l,h1,H3,fun base φ hc0 us R hv=>?_⟩;refine zg8 hf hb rfl (by rw [cvs_len _ _ hv,← hN];exact Nat.ble_eq_true_of_le hlen) fun w=>?_;intro a w1 fa fw;refine hc base φ a w1 _ (entry φ us a R.gl hv fa) (by rw [fw.heap];exact R) fun φ' a' w' X1 F1 R1 W1=>?_;obtain⟨rus,g1,g2⟩:=hl base φ' a' w'.heap F1 R1;have fr':Fr fn.ntmps (eA a') a':=by rw [← hN];exact qhz F1
 rcases hx with rfl | rfl
 ·exact qlw (N:=fn.ntmps) B.ok fn.results.toList (by simp) rus g1 ⟨φ',X1,R1,zzb g2⟩ a' w' fr' (fw.trans W1)
 ·exact zdz (N:=fn.ntmps) B.ok fn.results.toList (by simp) rus g1 ⟨φ',X1,R1,zzb g2⟩ a' w' fr' (fw.trans W1)
abbrev FT:=Go.V.T Func DT
structure FtOk (P:Program) (ft:FT):Prop where
 mo:P.follows .mixedOrders=true
 fn:∀ f fn,gt DT f ft=some fn->P.funcs[f]? = some fn/\(fn.name == "runtime.NumGoroutine")=false
def noF:FD:=⟨fun _ _ _ _=>false⟩
def tbl (tb:TT) (ft:FT) (f:Nat):FD:=(ac DT f).x FD ft fun x=>Option.rec (motive:=fun _=>FD) noF (fun fn=>fd tb fn) x
theorem ql1 {tb:TT} {ft:FT} (B:TbOk P T tb) (Ft:FtOk P ft) (f:Nat):FnOk P f (tbl tb ft f).x:=by
 unfold tbl;rw [zmm]
 cases hg:gt DT f ft with
 | none=>exact fun call CO vs h K H=>by cases H
 | some fn =>
  obtain⟨h1,h2⟩:=Ft.fn f fn hg;show FnOk P f (fd tb fn).x;unfold fd
  cases hb:fn.body with
  | none=>exact fun call CO vs h K H=>by cases H
  | some b =>
   simp only [natK_eq];exact ql2 (cx:=⟨tb,_,fn.ntmps⟩) B Ft.mo h1 hb h2 rfl
abbrev ql0:=Nat->Option (List AV->HS->(AV->HS->Rs)->Rs)
def IOk (P:Program) (I:ql0):Prop:=∀ f g,I f=some g->FnOk P f fun _=>g
def calls (I:ql0) (tb:TT) (ft:FT) (n:Nat):zbk:=Nat.rec (fun _ _ _ _=>false) (fun _ ih f vs h K=>opt (I f) ((tbl tb ft f).x ih vs h K) fun g=>g vs h K) n
theorem zpl {I:ql0} {tb:TT} {ft:FT} (B:TbOk P T tb) (Ft:FtOk P ft) (Io:IOk P I):∀ n,za7 P (calls I tb ft n)
 | 0=>fun f vs h K H=>by cases H
 | n+1=>fun f vs h K H=>by
  have ih:=zpl B Ft Io n;have H':opt (I f) ((tbl tb ft f).x (calls I tb ft n) vs h K) (fun g=>g vs h K)=true:=H
  cases hI:I f with
  | none =>
   rw [hI] at H'
   exact ql1 B Ft f _ ih vs h K H'
  | some g =>
   rw [hI] at H';exact Io f g hI _ ih vs h K H'
end
def ofL {α:Type} (l:List α) (i:Nat) (t:Go.V.T α DT):Go.V.T α DT:=List.rec (motive:=fun _=>Nat->Go.V.T α DT->Go.V.T α DT) (fun _ t=>t) (fun v _ ih i t=>(up DT i).x (Go.V.T α DT) t (some v) fun t=>zb3 (Nat.succ i) fun i=>ih i t) l i t
theorem qee {α:Type}:∀(l:List α) (i:Nat) (t:Go.V.T α DT),i+l.length<=4 ^ DT->∀ f v,f<4 ^ DT->gt DT f (ofL l i t)=some v->(i<=f/\l[f-i]? = some v)∨gt DT f t=some v
 | [],i,t,hi,f,v,hf,h=>.inr h
 | x :: r,i,t,hi,f,v,hf,h=>by
  have h':gt DT f ((up DT i).x (Go.V.T α DT) t (some x) fun t=>zb3 (Nat.succ i) fun i=>ofL r i t)=some v:=h;rw [up_eq,natK_eq] at h';simp only [List.length_cons] at hi;rcases qee r (i+1) _ (by omega) f v hf h' with⟨h1,h2⟩ | h1
  ·refine .inl ⟨by omega,?_⟩
   rw [show f-i=(f-(i+1))+1 from by omega,List.getElem?_cons_succ];exact h2
  ·by_cases hfi:i=f
   ·subst hfi
    rw [zht] at h1;exact .inl ⟨Nat.le_refl _,by simpa using h1⟩
   ·rw [zar _ _ _ _ _ (by omega) hf hfi] at h1
    exact .inr h1
def ofT (l:List (Nat × TI)):Go.V.T TI DT:=List.rec (motive:=fun _=>Go.V.T TI DT) (mt TI DT) (fun p _ ih=>(up DT p.1).x (Go.V.T TI DT) ih (some p.2) fun t=>t) l
end
end Go.V
end
section
namespace Go.V
open Go.Q
noncomputable section
def a1 (vs:List AV) (K:AV->Rs):Rs:=List.rec (motive:=fun _=>Rs) false (fun v r _=>List.rec (motive:=fun _=>Rs) (K v) (fun _ _ _=>false) r) vs
theorem zq0 {vs:List AV} {K:AV->Rs} (h:a1 vs K=true):∃ v,vs=[v]/\K v=true:=by
 match vs,h with
 | [v],h=>exact⟨v,rfl,h⟩
def a2 (vs:List AV) (K:AV->AV->Rs):Rs:=List.rec (motive:=fun _=>Rs) false (fun v r _=>a1 r (K v)) vs
theorem qbo {vs:List AV} {K:AV->AV->Rs} (h:a2 vs K=true):∃ v w,vs=[v,w]/\K v w=true:=by
 match vs,h with
 | v :: r,h =>
  obtain⟨w,hr,h⟩:=zq0 (vs:=r) h;exact⟨v,w,by rw [hr],h⟩
theorem qmy {φ:Ph} {v:AV} {us:List Value} (h:cvs φ [v]=some us):∃ u,us=[u]/\cv φ v=some u:=by
 obtain⟨u,r,rfl,h1,h2⟩:=zcp h
 cases h2
 exact⟨u,rfl,h1⟩
theorem qmv {φ:Ph} {v w:AV} {us:List Value} (h:cvs φ [v,w]=some us):∃ u x,us=[u,x]/\cv φ v=some u/\cv φ w=some x:=by
 obtain⟨u,r,rfl,h1,h2⟩:=zcp h;obtain⟨x,rfl,h3⟩:=qmy h2;exact⟨u,x,rfl,h1,h3⟩
def dK (k:IntKind):D1 Nat:=⟨fun v K=>dI.x v fun k' x=>Bool.rec (motive:=fun _=>Rs) false (Int.rec (motive:=fun _=>Rs) (fun n=>K n) (fun _=>false) x) (keq k k')⟩
theorem qke {k:IntKind} {v:AV} {K:Nat->Rs} (h:(dK k).x v K=true):∃ n,v = .i k (.ofNat n)/\K n=true:=by
 obtain⟨k',x,rfl,h⟩:=zha h;obtain⟨hk,h2⟩:=zbz h
 cases zhi hk
 cases x with
 | ofNat n=>exact⟨n,rfl,h2⟩
 | negSucc n=>cases h2
theorem FnOk.pure {P:Program} {f:FuncId} {g:List AV->HS->(AV->HS->Rs)->Rs} (ok:zad P f)
  (H:∀ vs h K,g vs h K=true->∃ v,K v h=true/\∀ φ hc us,RelR φ h hc->cvs φ vs=some us->∃ u,cv φ v=some u/\CallsHD false P f us.toArray hc fun r hc'=>r=u/\hc'=hc):FnOk P f fun _=>g:=fun call CO vs h K h1=>by
 obtain⟨v,h2,h3⟩:=H vs h K h1;refine⟨ok,v,h,h2,fun base φ hc us R hv=>?_⟩;obtain⟨u,hu,hc'⟩:=h3 φ hc us R.toR hv;refine hc'.mono ?_;rintro _ _ ⟨rfl,rfl⟩;exact⟨φ,Ex.rfl,R,hu⟩
end
end Go.V
end
section
namespace Go.Q.Yo
theorem qmc {a b:Nat} (ha:a<18446744073709551616) (hb:b<18446744073709551616):zlj .u64 a b=((a ||| b:Nat):Int):=by
 show IntKind.u64.wrap ((BitVec.ofInt 64 (a:Int) ||| BitVec.ofInt 64 (b:Int)).toNat:Int)=_
 rw [qdq 64 a b (by omega) (by omega),zji];have:=Nat.or_lt_two_pow (n:=64) (x:=a) (y:=b) (by omega) (by omega);omega
theorem slc_get {h:zaa} {s:Slc} {vs:List Value} (S:SlcAt h s vs) {i:Nat} {v:Value} (hv:vs[i]? = some v):∃ a,s.a=some a/\zab h (a.add i)=some v:=by
 cases ha:s.a with
 | none=>have:=S.1 ha;subst this;simp at hv
 | some a=>exact⟨a,rfl,S.2 a ha i v hv⟩
theorem or8 {n b:Int} (n0:0<=n) (n1:n<72057594037927936) (hb:0<=b/\b<256):zlj .u64 (shl .u64 n (8:Int).toNat) (IntKind.u64.wrap b)=n*256+b:=by
 have es:shl .u64 n (8:Int).toNat=n*256:=by
  unfold shl;rw [show (2:Int) ^ (min (8:Int).toNat IntKind.u64.bits)=256 from rfl,zji];omega
 rw [es,zdp (by omega) (by omega)];obtain⟨a,rfl⟩:∃ a:Nat,n=a:=⟨n.toNat,by omega⟩
 obtain⟨d,rfl⟩:∃ d:Nat,b=d:=⟨b.toNat,by omega⟩
 have:=zrj (a:=a) (b:=d) (i:=8) (by omega);rw [show ((a:Int)*256)=((a*2 ^ 8:Nat):Int) from by simp,qmc (by omega) (by omega),this];simp
theorem zwo {l:List Int} {i:Nat} {b:Int} (h:l[i]? = some b):zmp (l.drop i)=b+256*zmp (l.drop (i+1)):=by
 have hi:=(List.getElem?_eq_some_iff.1 h).1;rw [List.drop_eq_getElem_cons hi];have:l[i]=b:=(List.getElem?_eq_some_iff.1 h).2;rw [this];rfl
theorem qfd {s:Slc} {l:List Int} {w:Int} {k:Int × Int->zaa->Prop} {h:zaa} {l':List Value} (hs:SlcAt h s l') (hl:s.len=l'.length) (el:b8 l=l'.take w.toNat) (hB:isB l) (w0:1<=w) (w1:w<=8) (hw:l.length=w.toNat) (H:k (zmp l,0) h):zlm s w k h:=by
 have hw':w.toNat<=l'.length:=by have:=congrArg List.length el;rw [List.length_map,List.length_take] at this;omega
 unfold zlm;rw [if_neg (by simp only [Bool.or_eq_true,decide_eq_true_eq];omega),if_neg (by rw [decide_eq_true_eq];omega),zac (by omega) (by omega)];refine⟨_,rfl,fun q h'=>-1<=q.2/\q.2<=w-1/\q.1=zmp (l.drop (q.2+1).toNat)/\h'=h,fun q _=>(q.2+1).toNat,⟨by dsimp only;omega,by dsimp only;omega,?_,rfl⟩,?_⟩
 ·dsimp only
  rw [show (w-1+1).toNat=l.length from by omega,List.drop_length];rfl
 rintro n i h' ⟨i0,i1,hn,hh⟩;dsimp only at i0 i1 hn;subst hh;unfold zj5;by_cases hi:i>=0
 ·rw [if_pos (by simpa using hi)]
  have hb:l[i.toNat]? = some (l[i.toNat]'(by omega)):=by simp
  have bb:=hB _ (List.mem_of_getElem? hb);generalize l[i.toNat]'(by omega)=b at *
  have hb2:l'[i.toNat]? = some (.int .u8 b):=by
   have e:=congrArg (fun q=>q[i.toNat]?) el;simp only [List.getElem?_map,hb,List.getElem?_take] at e;rw [if_pos (by omega)] at e;exact e.symm
  obtain⟨a,ha,hv⟩:=slc_get hs (i:=i.toNat) (v:=.int .u8 b) hb2;have bd:=numL_bd (l:=l.drop (i+1).toNat) fun x hx=>hB x (List.mem_of_mem_drop hx);have lim:(256:Int) ^ (l.drop (i+1).toNat).length<=256 ^ 7:=qcd (by rw [List.length_drop];omega);have lim2:(256:Int) ^ 7=72057594037927936:=by decide
  refine⟨a,ha,hi,by omega,b,by rw [Nat.mul_one];exact hv,_,rfl,_,rfl,?_⟩;rw [hn,or8 bd.1 (by omega) bb,zac (by omega) (by omega)];refine⟨⟨by dsimp only;omega,by dsimp only;omega,?_,rfl⟩,by dsimp only;omega⟩;dsimp only;rw [show (i-1+1).toNat=i.toNat from by omega,zwo hb,show (i+1).toNat=i.toNat+1 from by omega];omega
 ·rw [if_neg (by simpa using hi)]
  rw [show (i+1).toNat=0 from by omega,List.drop_zero] at hn;rw [hn];exact H
theorem zvg {s:Slc} {w:Int} {k:Int × Int->zaa->Prop} {h:zaa} (w0:1<=w) (w1:w<=8) (hw:(s.len:Int)<w) (H:k (0,2) h):zlm s w k h:=by
 unfold zlm;rw [if_neg (by simp only [Bool.or_eq_true,decide_eq_true_eq];omega),if_pos (by rw [decide_eq_true_eq];exact hw)];exact H
end Go.Q.Yo
namespace Go.V
open Go.Q Go.Q.Yo
noncomputable section
def qpn (l:List AV):(Nat->Rs)->Rs:=List.rec (motive:=fun _=>(Nat->Rs)->Rs) (fun K=>K 0) (fun v _ ih K=>dU.x v fun n=>Bool.rec (motive:=fun _=>Rs) false (ih fun r=>zb3 (Nat.add n (Nat.mul 256 r)) K) (Nat.blt n 256)) l
theorem zxd:∀(l:List AV) (K:Nat->Rs),qpn l K=true->∃ ns:List Nat,l=ns.map (fun n=>AV.i .u8 (.ofNat n))/\(∀ n∈ns,n<256)/\∃ r:Nat,K r=true/\(r:Int)=zmp (ns.map Int.ofNat)
 | [],K,h=>⟨[],rfl,by simp,0,h,rfl⟩
 | v :: l,K,h=>by
  obtain⟨n,hq,h2⟩:=qbi (v:=v) h;subst hq;obtain⟨hn,h3⟩:=zn3 h2;obtain⟨ns,hq,hb,r,h4,hr⟩:=zxd l _ h3;subst hq;rw [natK_eq] at h4;refine⟨n :: ns,rfl,fun m hm=>?_,_,h4,?_⟩
  ·rcases List.mem_cons.1 hm with rfl | hm
   ·exact hn
   ·exact hb m hm
  ·rw [List.map_cons]
   show ((n+256*r:Nat):Int)=(n:Int)+256*zmp (ns.map Int.ofNat)
   rw [← hr];simp
def qnn (vs:List AV) (h:HS) (K:AV->HS->Rs):Rs:=a2 vs fun v w=>(dK .i64).x w fun wd=>slc 1 v h fun m l=>Bool.rec (motive:=fun _=>Rs) false
 (Bool.rec (motive:=fun _=>Rs) (K (.tu [.i .u64 (.ofNat 0),.i .i64 (.ofNat 2)]) h) (zve wd l fun l=>qpn l fun r=>K (.tu [.i .u64 (.ofNat r),.i .i64 (.ofNat 0)]) h) (Nat.ble wd m)) (and (Nat.ble 1 wd) (Nat.ble wd 8))
theorem tu2 {φ:Ph} {k k':IntKind} {a b:Int}:cv φ (.tu [.i k a,.i k' b])=some (.tuple #[.int k a,.int k' b]):=rfl
theorem zwt:FnOk Go.Proofs.Tryz.prog 130 fun _=>qnn:=FnOk.pure zvl fun vs h K H=>by
 obtain⟨v,w,hvs,H⟩:=qbo H;subst hvs;obtain⟨wd,hq,H⟩:=qke H;subst hq;obtain⟨m,l,H,hl,hs⟩:=zmd H;obtain⟨hh,H⟩:=zbz H;obtain⟨w0,w1⟩:=zag.1 hh;replace w0:=Nat.le_of_ble_eq_true w0;replace w1:=Nat.le_of_ble_eq_true w1
 cases hm:Nat.ble wd m with
 | false =>
  rw [hm] at H;refine⟨_,H,fun φ hc us R hv=>⟨_,tu2,?_⟩⟩;obtain⟨u,x,rfl,c1,c2⟩:=qmv hv
  cases c2
  obtain⟨s,rfl,rm,us,k1,k2,k3,k4⟩:=hs φ hc u R c1
  have hlt:m<wd:=by
   refine Nat.lt_of_not_le fun h=>?_;rw [← Nat.ble_eq] at h;rw [h] at hm;cases hm
  refine(zn1 s (wd:Int) (fun r h'=>r=(0,2)/\h'=hc) hc (zvg (by omega) (by omega) (by rw [rm];omega) ⟨rfl,rfl⟩)).mono ?_;rintro v h' ⟨r,rfl,rfl,rfl⟩
  exact⟨rfl,rfl⟩
 | true =>
  rw [hm] at H;replace hm:=Nat.le_of_ble_eq_true hm;obtain⟨hle,H⟩:=zjd _ _ _ H;obtain⟨ns,hq,hb,r,H,hr⟩:=zxd _ _ H;refine⟨_,H,fun φ hc us R hv=>⟨_,tu2,?_⟩⟩;obtain⟨u,x,rfl,c1,c2⟩:=qmv hv
  cases c2
  obtain⟨s,rfl,rm,us,k1,k2,k3,k4⟩:=hs φ hc u R c1;have kt:=zmv k1 wd;rw [hq,zlw] at kt;have hlen:ns.length=wd:=by have:=congrArg List.length hq;rw [List.length_take,List.length_map] at this;omega
  refine(zn1 s (wd:Int) (fun q h'=>q=((r:Int),0)/\h'=hc) hc (qfd (l:=ns.map Int.ofNat) k4 (by rw [k2,rm,Nat.mul_one]) (by simpa using (Option.some.inj kt)) ?_ (by omega) (by omega) (by simp [hlen]) ⟨by rw [hr],rfl⟩)).mono ?_
  ·intro b hb'
   obtain⟨n,hn,rfl⟩:=List.mem_map.1 hb';have:=hb n hn;exact⟨Int.natCast_nonneg _,by show (n:Int)<256;omega⟩
  rintro v h' ⟨q,rfl,rfl,rfl⟩;exact⟨rfl,rfl⟩
def qn2 (vs:List AV) (h:HS) (K:AV->HS->Rs):Rs:=a2 vs fun v w=>dI.x v fun k a=>dI.x w fun k' r=>Bool.rec (motive:=fun _=>Rs) false
 (zb3 (Nat.land (un2 r) 31) fun m=>zvx (wr .u32 (.ofNat (Nat.lor (un2 (qil .u32 a m)) (un2 (qij .u32 a (Nat.sub 32 m)))))) fun x=>K (.i .u32 x) h) (and (keq .u32 k) (keq .i64 k'))
theorem qo7 (r:Int):zbe .u64 (IntKind.u64.wrap r) 31=((Nat.land (un2 r) 31:Nat):Int)/\Nat.land (un2 r) 31<32:=by
 have h1:Nat.land (un2 r) 31=un2 r % 32:=by
  show un2 r &&& 31=_
  rw [show (31:Nat)=2 ^ 5-1 from rfl,Nat.and_two_pow_sub_one_eq_mod]
 have h2:un2 r % 32<32:=Nat.mod_lt _ (by decide);refine⟨?_,by omega⟩;unfold zbe;rw [← zsw,zmh]
 have e1:un2 (IntKind.u64.wrap r) % 32=un2 r % 32:=by
  have a:=zhz (IntKind.u64.wrap r) 5 (by decide);have b:=zhz r 5 (by decide);rw [show (2:Nat) ^ 5=32 from rfl] at a b;rw [a,b,BitVec.toNat_ofInt,BitVec.toNat_ofInt];congr 1;rw [zji];show r % 18446744073709551616 % 32=r % 32;omega
 have e2:Nat.land (un2 (IntKind.u64.wrap r)) (un2 31)=un2 r % 32:=by
  show un2 (IntKind.u64.wrap r) &&& 31=_
  rw [show (31:Nat)=2 ^ 5-1 from rfl,Nat.and_two_pow_sub_one_eq_mod];exact e1
 rw [e2,h1,zji];show ((un2 r % 32:Nat):Int) % 18446744073709551616=_;omega
theorem zx6:FnOk Go.Proofs.Tryz.prog 322 fun _=>qn2:=FnOk.pure za4 fun vs h K H=>by
 obtain⟨v,w,hvs,H2⟩:=qbo H;obtain⟨k,a,hq,H3⟩:=zha H2;obtain⟨k',r,hq',H4⟩:=zha H3;obtain⟨hh,H5⟩:=zbz H4;obtain⟨h1,h2⟩:=zag.1 hh;have hk:=zhi h1;have hk':=zhi h2;rw [natK_eq,intK_eq] at H5;clear H H2 H3 H4 hh h1 h2;subst hvs hq hq' hk hk';refine⟨_,H5,fun φ hc us R hv=>⟨_,rfl,?_⟩⟩;obtain⟨u,x,rfl,c1,c2⟩:=qmv hv
 cases c1;cases c2
 obtain⟨m1,m2⟩:=qo7 r;refine(za0 a r (fun q h'=>q=wr .u32 (.ofNat (Nat.lor (un2 (qil .u32 a (Nat.land (un2 r) 31))) (un2 (qij .u32 a (Nat.sub 32 (Nat.land (un2 r) 31))))))/\h'=hc) hc ⟨_,rfl,?_,?_,_,rfl,?_,rfl⟩).mono ?_
 ·rw [m1];omega
 ·rw [m1,zji];omega
 ·rw [m1]
  generalize Nat.land (un2 r) 31=m at *
  have e:(IntKind.u64.wrap (32-(m:Int))).toNat=Nat.sub 32 m:=by
   rw [zji];show _=32-m;omega
  rw [e,zzi,zsv,zp8];rfl
 ·rintro v h' ⟨q,rfl,rfl,rfl⟩
  exact⟨rfl,rfl⟩
end
end Go.V
end
section
namespace Go.Q
theorem Blk.unlike {h:zaa} {a b E E':Nat} {xs ys:List Value} (p:Blk h a xs E) (q:Blk h b ys E') (hE:E≠E'):a≠b:=fun e=>by
 subst e;unfold Blk at p q;obtain⟨_,_,p1,_⟩:=p;obtain⟨_,_,q1,_⟩:=q;rw [p1] at q1;cases q1;exact hE rfl
end Go.Q
end
section
namespace Go.Q.Yo
theorem qhq (n:Int):shr .u64 n (8:Int).toNat=n / 256:=by
 unfold shr;rw [show (2:Int) ^ (min (8:Int).toNat IntKind.u64.bits)=256 from rfl,Int.fdiv_eq_ediv_of_nonneg _ (by omega)]
theorem zkb {B:Nat} {h:zaa} {s:Slc} {l m:List Int} {n:Nat} {k:Slc->zaa->Prop} (R:Row B h 5 1 s (b8 l)) (hB:B<=h.size) (hn:n=m.length) (hl:l.length+m.length<=70368744177664)
  (H:∀ s' h',Row B h' 5 1 s' (b8 (l++m))->Ext B h h'->k s' h'):App 5 1 1 [.int .u8 0] h s n (b8 m) k:=by
 subst hn;have:=R.len;simp at this;refine App.row R hB rfl (by simp) (znk m) (by omega) (by simp only [maxLen];omega) fun s' h' R' _ hz ho _=>H s' h' ?_ ⟨hz,fun i hi=>ho i (by omega) fun e=>by have:=(R.bd e).1;omega⟩;simpa using R'
theorem Row.pb {B:Nat} {h:zaa} {s:Slc} {l:List Int} (R:Row B h 5 1 s (b8 l)):s.len=l.length:=by have:=R.len;simpa using this
theorem zpe {p0:Slc} {l:List Int} {k:Slc->zaa->Prop} {h:zaa} (hl:p0.len=l.length) (hs:SlcAt h p0 (b8 l)) (hsz:l.length<=70368744177664)
  (H:∀ s' h',Row h.size h' 5 1 s' (b8 l)->Ext h.size h h'->k s' h'):zau p0 k h:=by
 unfold zau
 cases ha:p0.a with
 | none =>
  rw [if_pos (by simp)];have hn:l=[]:=by have:=hs.1 ha;simpa using this
  subst hn
  exact H _ _ (Row.nil _ _ _ _) (Ext.refl _ _)
 | some a =>
  rw [if_neg (by simp)];have hp:∀ o:Obj,Ext h.size h (h.push o):=fun o=>Ext.push h o (Nat.le_refl _);refine⟨_,_,rfl,rfl,b8 l,hs.ext (hp _),?_⟩
  have R:Row h.size (h.push (.cells ([]:List Value).toArray 5)) 5 1 ⟨some ⟨h.size,0,none⟩,0,0⟩ [] :=
   ⟨by simp,by simp [maxLen],.inr ⟨h.size,[],rfl,Nat.le_refl _,Blk.push _ _ _,Nat.le_refl _,by simp,by simp⟩⟩
  refine App.row R (by simp) rfl (by simp [hl]) (znk l) (by simp only;omega) (by simp only [maxLen];omega) fun s' h' R' _ hsz' ho _=>?_;refine H s' h' (by simpa using R') ⟨by simp at hsz';omega,fun i hi=>?_⟩;rw [ho i (by simp;omega) (by simp [Slc.blk];omega),(hp _).block i hi]
abbrev zk2 (h:zaa) (out:List Int) (k:Slc->zaa->Prop):Prop:=∀ s' h',Row h.size h' 5 1 s' (b8 out)->Ext h.size h h'->k s' h'
theorem Put_ok {p0:Slc} {l:List Int} {n w:Int} {k:Slc->zaa->Prop} {h:zaa} (hl:p0.len=l.length) (hs:SlcAt h p0 (b8 l)) (hsz:l.length<=35184372088832) (w0:0<=w) (w1:w<=8) (n0:0<=n)
  (H:zk2 h (l++formL n w.toNat) k):zj4 p0 n w k h:=by
 unfold zj4;refine zpe hl hs (by omega) fun s1 h1 R1 X1=>?_;rw [if_neg (by simp;omega)];refine⟨fun q h'=>∃(cur:List Int),Row h.size h' 5 1 q.2.1 (b8 cur)/\cur++formL q.1 (w-q.2.2).toNat=l++formL n w.toNat/\0<=q.1/\0<=q.2.2/\q.2.2<=w/\cur.length<=l.length+8/\Ext h.size h h',fun q _=>(w-q.2.2).toNat,⟨l,R1,by simp,n0,by simp,by simpa using w0,by omega,X1⟩,?_⟩;rintro m s i h2 ⟨cur,R,hc,m0,i0,i1,lc,X⟩;dsimp only at R hc m0 i0 i1;have z:=X.size;have lc2:cur.length+(w-i).toNat=l.length+w.toNat:=by have:=congrArg List.length hc;simpa [zbc] using this
 unfold zn0;by_cases hi:i<w
 ·rw [if_pos (by simpa using hi),wU8,qhq,zac (by omega) (by omega)]
  refine⟨_,_,rfl,rfl,?_⟩;refine zkb (m:=[m % 256]) (R.pushed _) (by simp;omega) rfl (by simp;omega) fun s' h3 R3 X3=>?_;refine⟨_,rfl,⟨_,R3,?_,by dsimp only;omega,by dsimp only;omega,by dsimp only;omega,by simp;omega,X.trans ((Ext.push h2 _ z).trans X3)⟩,by dsimp only;omega⟩;dsimp only;rw [← hc,show (w-i).toNat=(w-(i+1)).toNat+1 from by omega];simp [formL]
 ·rw [if_neg (by simpa using hi)]
  have:(w-i).toNat=0:=by omega
  rw [this] at hc;simp [formL] at hc;rw [hc] at R;exact H s h2 R X
end Go.Q.Yo
end
section
namespace Go.Q.Rw
theorem slc_get {h:zaa} {s:Slc} {vs:List Value} (S:SlcAt h s vs) {i:Nat} {v:Value} (hv:vs[i]? = some v):∃ a,s.a=some a/\zab h (a.add i)=some v:=by
 cases ha:s.a with
 | none=>have:=S.1 ha;subst this;simp at hv
 | some a=>exact⟨a,rfl,S.2 a ha i v hv⟩
theorem add_add2 (b:Addr) (m n:Nat):(b.add m).add n=b.add (m+n):=by
 unfold Addr.add;by_cases h0:m=0 <;> by_cases h1:n=0 <;> simp [h0,h1,Nat.add_assoc]
section
variable {α:Type} {cs:α->List Value} {w:Nat}
theorem zxr (hc:∀ x,(cs x).length=w):∀(xs:List α) (i j:Nat),j<w->(xs.flatMap cs)[i*w+j]? = (xs[i]?).bind fun x=>(cs x)[j]?
 | [],i,j,h=>by simp
 | x :: r,0,j,h=>by
  simp only [List.flatMap_cons,Nat.zero_mul,Nat.zero_add,List.getElem?_cons_zero,Option.bind_some]
  rw [List.getElem?_append_left (by rw [hc];exact h)]
 | x :: r,i+1,j,h=>by
  simp only [List.flatMap_cons,List.getElem?_cons_succ];rw [List.getElem?_append_right (by rw [hc,Nat.add_mul];omega)];have:=zxr hc r i j h;rw [← this,hc];congr 1;rw [Nat.add_mul];omega
theorem ls_of_slc (hc:∀ x,(cs x).length=w) {h:zaa} {s:Slc} {xs:List α} (S:SlcAt h s (xs.flatMap cs)) (hl:s.len=xs.length) (hw:0<w):LsAt cs w h s xs:=by
 refine⟨hl,fun i x hx=>?_⟩;have hi:=(List.getElem?_eq_some_iff.1 hx).1;have h0:(xs.flatMap cs)[i*w+0]? = (cs x)[0]?:=by rw [zxr hc xs i 0 hw,hx];rfl
 obtain⟨v0,hv0⟩:∃ v,(cs x)[0]? = some v:=⟨_,List.getElem?_eq_getElem (by rw [hc];exact hw)⟩
 rw [hv0] at h0;obtain⟨a,ha,_⟩:=slc_get S h0;refine⟨a,ha,fun j v hj=>?_⟩;have hj2:j<w:=by have:=(List.getElem?_eq_some_iff.1 hj).1;rw [hc] at this;exact this
 rw [add_add2];refine S.2 a ha _ v ?_;rw [zxr hc xs i j hj2,hx];exact hj
end
theorem fm_take {α:Type} {cs:α->List Value} {w:Nat} (hc:∀ x,(cs x).length=w):∀(xs:List α) (i:Nat),(xs.flatMap cs).take (i*w)=(xs.take i).flatMap cs
 | [],i=>by simp
 | y :: r,0=>by simp
 | y :: r,i+1=>by
  simp only [List.flatMap_cons,List.take_succ_cons];rw [List.take_append,hc,List.take_of_length_le (by rw [hc,Nat.add_mul];omega),← fm_take hc r i,show (i+1)*w-w=i*w from by rw [Nat.add_mul];omega]
end Go.Q.Rw
end
section
namespace Go.Q
theorem bx0 {cs:List Value} {E:Nat} {h:zaa} {K:Nat->zaa->Prop} (H:∀ h',Blk h' h.size cs E->Ext h.size h h'->K h.size h') :
  ∃(b:Nat) (h2:zaa),b=h.size/\h2=h.push (.cells cs.toArray E)/\K b h2 :=
 ⟨_,_,rfl,rfl,H _ (Blk.push h cs E) (Ext.push h _ (Nat.le_refl _))⟩
theorem bx {cs z:List Value} {E n:Nat} {h:zaa} {K:Nat->zaa->Prop} (hl:cs.length=z.length) (hn:n<=z.length) (H:∀ h',Blk h' h.size cs E->Ext h.size h h'->K h.size h') :
  ∃(b:Nat) (h2:zaa),b=h.size/\h2=h.push (.cells z.toArray E)/\(∃ h3:zaa,WrsAt h2 (⟨b,0,none⟩:Addr) n/\h3=zak h2 (⟨b,0,none⟩:Addr) 0 cs/\K b h3) :=
 have P:=Blk.push h z E
 ⟨_,_,rfl,rfl,_,WrsAt.of_blk P hn,rfl,H _ (P.sets_all hl) ((Ext.push h _ (Nat.le_refl _)).trans (Ext.sets _ 0 cs (by show h.size<=h.size;exact Nat.le_refl _)))⟩
theorem zz2 {cs z:List Value} {E n b:Nat} {h:zaa} {K:zaa->Prop} (P:Blk h b z E) (hl:cs.length=z.length) (hn:n<=z.length) (H:∀ h',Blk h' b cs E->Upd b h h'->K h') :
  ∃ h3:zaa,WrsAt h (⟨b,0,none⟩:Addr) n/\h3=zak h (⟨b,0,none⟩:Addr) 0 cs/\K h3 :=
 ⟨_,WrsAt.of_blk P hn,rfl,H _ (P.sets_all hl) ⟨by rw [setsH_size];exact Nat.le_refl _,fun i _ hi=>setsH_other _ _ hi⟩⟩
theorem Blk.cl {h:zaa} {b E i:Nat} {cs:List Value} {v:Value} (k:Blk h b cs E) (hv:cs[i]? = some v):zab h ((⟨b,0,none⟩:Addr).add i)=some v:=by rw [add_mk,Nat.zero_add,k.cell];exact hv
theorem Blk.cl0 {h:zaa} {b E:Nat} {cs:List Value} {v:Value} (k:Blk h b cs E) (hv:cs[0]? = some v):zab h (⟨b,0,none⟩:Addr)=some v:=by rw [k.cell];exact hv
theorem Blk.cls {h:zaa} {b E i:Nat} {cs ys:List Value} (k:Blk h b cs E) (hd:(cs.drop i).take ys.length=ys):CellsAt h ((⟨b,0,none⟩:Addr).add i) ys:=by
 rw [add_mk,Nat.zero_add];exact k.part hd
theorem qrw {h:zaa} {a:Addr} {vs:List Value} {i:Nat} (c:CellsAt h a vs) {v:Value} (hv:vs[i]? = some v):zab h (a.add i)=some v:=c i v hv
theorem qpp {h:zaa} {a:Addr} {vs:List Value} (c:CellsAt h a vs) {v:Value} (hv:vs[0]? = some v):zab h a=some v:=by have:=c 0 v hv;rwa [show a.add 0=a from by simp [Addr.add]] at this
section
variable {α:Type} {cs:α->List Value} {w:Nat} {h:zaa} {s:Slc} {xs:List α}
theorem LsAt.it (L:LsAt cs w h s xs) {i:Int} (h0:0<=i) (h1:i<(xs.length:Int)):∃(a:Addr) (x:α),s.a=some a/\(0:Int)<=i/\i<(s.len:Int)/\xs[i.toNat]? = some x/\CellsAt h (a.add (i.toNat*w)) (cs x):=by
 obtain⟨x,hx⟩:∃ x,xs[i.toNat]? = some x:=⟨_,List.getElem?_eq_getElem (by omega)⟩
 obtain⟨a,ha,hc⟩:=L.at' _ _ hx;exact⟨a,x,ha,h0,by rw [L.l];exact h1,hx,hc⟩
end
theorem qaa {vs z:List Value} {E n o b:Nat} {h:zaa} {K:zaa->Prop} (P:Blk h b z E) (hn:n=vs.length) (ho:o+vs.length<=z.length) (H:∀ h',Blk h' b (z.take o++vs++z.drop (o+vs.length)) E->Upd b h h'->K h') :
  ∃ h3:zaa,WrsAt h ((⟨b,0,none⟩:Addr).add o) n/\h3=zak h ((⟨b,0,none⟩:Addr).add o) 0 vs/\K h3:=by
 rw [add_mk,Nat.zero_add];exact⟨_,fun j hj=>by rw [add_mk];exact P.wr (by omega),rfl,H _ (P.sets vs o 0 (by omega)) ⟨by rw [setsH_size];exact Nat.le_refl _,fun i _ hi=>setsH_other _ _ hi⟩⟩
theorem zn9 {v:Value} {z:List Value} {E i b:Nat} {h:zaa} {K:zaa->Prop} (P:Blk h b z E) (hi:i<z.length) (H:∀ h',Blk h' b (z.set i v) E->Upd b h h'->K h') :
  ∃ h3:zaa,WrH h ((⟨b,0,none⟩:Addr).add i)/\h3=zd7 h ((⟨b,0,none⟩:Addr).add i) v/\K h3:=by
 rw [add_mk,Nat.zero_add];exact⟨_,P.wr hi,rfl,H _ P.set ⟨by rw [setH_size];exact Nat.le_refl _,fun i _ hi=>setH_other hi⟩⟩
end Go.Q
end

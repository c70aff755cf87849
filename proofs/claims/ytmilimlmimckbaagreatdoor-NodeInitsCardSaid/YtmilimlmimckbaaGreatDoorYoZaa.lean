/- A part of the proof of statements of this seat: lemmas, no statement of their own. -/
import Derived.WalkKit
import Derived.Deep.Quiet
import Derived.Scope
import Derived.KernelRfl
import Derived.WalkSpells
import Derived.WalkLawsBesides
set_option linter.unusedVariables false
set_option linter.unusedSimpArgs false
section
namespace Go.Q
abbrev Env:=List (Nat × Value)
def lkO:Env->Nat->Option Value
 | [],_=>none
 | (s,v) :: r,t=>match Nat.beq s t with | true=>some v | false=>lkO r t
def evO (e:Env):Operand->Option Value
 | .tmp t=>lkO e t
 | .const v=>some v
 | .global g=>some (.pointer (some ⟨g,0,none⟩))
 | .func f=>some (.func (.func f) #[] #[])
def Sub:Env->Env->Prop
 | [],_=>True
 | (s,v) :: r,e=>lkO e s=some v/\Sub r e
def pu (e:Env) (d:Option Tmp) (v:Value):Env:=match d with | some d=>(d,v) :: e | none=>e
structure Fr (N:Nat) (e:Env) (a:Act):Prop where
 d:a.defers=[]
 n:a.tmps.size=N
 l:∀ s v,lkO e s=some v->a.tmps[s]? = some v
abbrev zaa:=Array Obj
structure WW (D:Bool) (W0:World) (h:zaa) (w:World):Prop where
 os:w.os=W0.os
 tape:w.tape=W0.tape
 output:w.output=W0.output
 heap:w.heap=h
 dr:D=true->W0.drawn<=w.drawn
theorem WW.self {D:Bool} (w:World):WW D w w.heap w:=⟨rfl,rfl,rfl,rfl,fun _=>Nat.le_refl _⟩
def dOk (N:Nat):Option Tmp->Bool | some d=>Nat.blt d N | none=>true
theorem ze3 (s:Nat) (v:Value) (r:Env) (t:Nat):lkO ((s,v) :: r) t=if s=t then some v else lkO r t:=by
 by_cases h:s=t
 ·subst h;simp [lkO]
 ·have:Nat.beq s t=false:=by
   cases hb:Nat.beq s t with
   | false=>rfl
   | true=>exact absurd (Nat.eq_of_beq_eq_true hb) h
  simp [lkO,this,h]
theorem Fr.put {N:Nat} {e:Env} {a:Act} (h:Fr N e a) (d:Option Tmp) (v:Value) (hd:dOk N d=true):Fr N (pu e d v) (a.put d v):=by
 cases d with
 | none=>exact h
 | some d =>
  have hd':d<N:=by simpa [dOk,Nat.blt_eq] using hd
  refine⟨h.d,by simp [Act.put,h.n],fun s u hs=>?_⟩;simp only [pu,ze3] at hs;simp only [Act.put];by_cases hds:d=s
  ·subst hds
   simp only [if_true,Option.some.injEq] at hs;subst hs;simp [h.n,hd']
  ·rw [if_neg hds] at hs
   rw [Array.getElem?_setIfInBounds_ne hds];exact h.l s u hs
theorem Fr.sub {N:Nat} {a:Act} {e:Env} (h:Fr N e a):∀ {e':Env},Sub e' e->Fr N e' a
 | [],_=>⟨h.d,h.n,fun s v hs=>by simp [lkO] at hs⟩
 | (s,v) :: r,hs=>by
  have h1:=h.sub (e':=r) hs.2;refine⟨h.d,h.n,fun t u ht=>?_⟩;rw [ze3] at ht;by_cases hst:s=t
  ·subst hst
   rw [if_pos rfl] at ht;exact h.l s u (hs.1.trans ht)
  ·rw [if_neg hst] at ht
   exact h1.l t u ht
def Agr (e:Env) (ρ:Operand->Value):Prop:=∀ x v,evO e x=some v->ρ x=v
theorem Fr.agr {N:Nat} {e:Env} {a:Act} (h:Fr N e a):Agr e a.eval:=by
 intro x v hx
 cases x with
 | tmp t =>
  have:=h.l t v hx
  simp [Act.eval,Array.getD_eq_getD_getElem?,this]
 | const c=>simpa [evO,Act.eval] using hx
 | global g=>simpa [evO,Act.eval] using hx
 | func f=>simpa [evO,Act.eval] using hx
def wnt (lops:List Oper) (e:Env) (o:Oper):Option Bool :=
 match o.guard with
 | none=>some true
 | some (j,want) =>
  match lops[j]? with
  | none=>none
  | some oj =>
   match oj.dst with
   | none=>none
   | some d=>match lkO e d with
    | some (.bool b)=>some (b==want)
    | some (.tuple _)=>some false
    | _=>none
theorem zda {lops:List Oper} {e:Env} {o:Oper} {b:Bool} {N:Nat} {a:Act} (h:wnt lops e o=some b) (hf:Fr N e a):Region.wanted o (yielded lops.toArray a.tmps)=b:=by
 unfold wnt at h;unfold Region.wanted
 cases hg:o.guard with
 | none=>simp [hg] at h ⊢;exact h
 | some jw =>
  obtain⟨j,want⟩:=jw;simp only [hg] at h
  cases hj:lops[j]? with
  | none=>simp [hj] at h
  | some oj =>
   simp only [hj] at h
   cases hd:oj.dst with
   | none=>simp [hd] at h
   | some d =>
    simp only [hd] at h
    cases hl:lkO e d with
    | none=>simp [hl] at h
    | some v =>
     have hv:=hf.l d v hl
     cases v <;> simp [hl] at h <;> subst h <;> simp [yielded,hj,hd,hv]
def wpK (P:Program) (ops:Array Oper) (Q:Exit->Act->World->Prop) (K:Act->World->Prop):List Oper->Act->World->Prop
 | [],a,w=>K a w
 | o :: rest,a,w =>
  if Region.wanted o (yielded ops a.tmps) then o.wp P a w (wpK P ops Q K rest) Q∨(o.asks P a w/\LetsOut Q) else wpK P ops Q K rest (a.put o.dst undef) w
theorem wpK_list {P:Program} {ops:Array Oper} {Q:Exit->Act->World->Prop}:∀ l,wpK P ops Q (Q .normal) l=wpList P ops Q l
 | []=>rfl
 | o :: l=>by
  funext a w
  simp only [wpK,wpList,wpK_list l]
structure Cx where
 P:Program
 N:Nat
 W0:World
 D:Bool
def gop (c:Cx) (lops:List Oper) (Q:Exit->Act->World->Prop) (K:Act->World->Prop) (l:List Oper) (e:Env) (h:zaa):Prop :=
 ∀ a w,Fr c.N e a->WW c.D c.W0 h w->wpK c.P lops.toArray Q K l a w
def gco (c:Cx) (x:Code) (Q:Exit->Act->World->Prop) (e:Env) (h:zaa):Prop :=
 ∀ a w,Fr c.N e a->WW c.D c.W0 h w->x.wp c.P Q a w
def gex (c:Cx) (Q:Exit->Act->World->Prop) (x:Exit) (e:Env) (h:zaa):Prop :=
 ∀ a w,Fr c.N e a->WW c.D c.W0 h w->Q x a w
def gK (c:Cx) (K:Act->World->Prop) (e:Env) (h:zaa):Prop :=
 ∀ a w,Fr c.N e a->WW c.D c.W0 h w->K a w
section
variable {c:Cx} {lops:List Oper} {Q:Exit->Act->World->Prop} {K:Act->World->Prop} {l:List Oper} {e e':Env} {h:zaa} {o:Oper} {x y:Code}
theorem qmt (e':Env) (hs:Sub e' e) (H:gop c lops Q K l e' h):gop c lops Q K l e h:=fun a w fa fw=>H a w (fa.sub hs) fw
theorem zdy (e':Env) (hs:Sub e' e) (H:gco c x Q e' h):gco c x Q e h:=fun a w fa fw=>H a w (fa.sub hs) fw
theorem zv8 (hw:wnt lops e o=some false) (hd:dOk c.N o.dst=true) (H:gop c lops Q K l (pu e o.dst undef) h):gop c lops Q K (o :: l) e h:=by
 intro a w fa fw;simp only [wpK,zda hw fa,if_false,Bool.false_eq_true];exact H _ _ (fa.put _ _ hd) fw
def Yl (P:Program) (e:Env) (h:zaa) (o:Oper) (v:Value):Prop :=
 ∀ ρ w,Agr e ρ->w.heap=h->(execOp ρ o).run P w = .ok (.value v) w
theorem w_y {v:Value} (hy:Yl c.P e h o v) (hw:wnt lops e o=some true) (hd:dOk c.N o.dst=true) (H:gop c lops Q K l (pu e o.dst v) h):gop c lops Q K (o :: l) e h:=by
 intro a w fa fw;simp only [wpK,zda hw fa,if_true]
 left
 simp only [Oper.wp,hy _ _ fa.agr fw.heap,Oper.upon];exact H _ _ (fa.put _ _ hd) fw
def Yh (P:Program) (e:Env) (h:zaa) (o:Oper) (v:Value) (h':zaa):Prop :=
 ∀ ρ w,Agr e ρ->w.heap=h->∃ w',WW true w h' w'/\((execOp ρ o).run P w = .ok (.value v) w'∨((execOp ρ o).run P w = .ok .skip w'/\v=undef))
theorem WW.trans {D E:Bool} {W0 w w':World} {h h':zaa} (a:WW D W0 h w) (b:WW E w h' w') (hE:D=true->E=true:=by first | exact id | exact fun _=>rfl):WW D W0 h' w' :=
 ⟨b.os.trans a.os,b.tape.trans a.tape,b.output.trans a.output,b.heap,fun k=>Nat.le_trans (a.dr k) (b.dr (hE k))⟩
theorem WW.weak {D:Bool} {W0 w:World} {h:zaa} (a:WW true W0 h w):WW D W0 h w:=⟨a.os,a.tape,a.output,a.heap,fun _=>a.dr rfl⟩
theorem w_h {v:Value} {h':zaa} (hy:Yh c.P e h o v h') (hw:wnt lops e o=some true) (hd:dOk c.N o.dst=true) (H:gop c lops Q K l (pu e o.dst v) h'):gop c lops Q K (o :: l) e h:=by
 intro a w fa fw;simp only [wpK,zda hw fa,if_true]
 left
 obtain⟨w',hw',h1 | ⟨h1,rfl⟩⟩:=hy _ _ fa.agr fw.heap
 ·simp only [Oper.wp,h1,Oper.upon]
  exact H _ _ (fa.put _ _ hd) (fw.trans hw')
 ·simp only [Oper.wp,h1,Oper.upon]
  exact H _ _ (fa.put _ _ hd) (fw.trans hw')
def Ya (P:Program) (e:Env) (h:zaa) (o:Oper) (Φ:Value->zaa->Prop):Prop :=
 ∀ ρ w,Agr e ρ->w.heap=h->∃ v w',WW true w w'.heap w'/\Φ v w'.heap/\(execOp ρ o).run P w = .ok (.value v) w'
theorem w_a {Φ:Value->zaa->Prop} (hy:Ya c.P e h o Φ) (hw:wnt lops e o=some true) (hd:dOk c.N o.dst=true) (H:∀ v h',Φ v h'->gop c lops Q K l (pu e o.dst v) h'):gop c lops Q K (o :: l) e h:=by
 intro a w fa fw;simp only [wpK,zda hw fa,if_true]
 left
 obtain⟨v,w',hw',hΦ,h1⟩:=hy _ _ fa.agr fw.heap;simp only [Oper.wp,h1,Oper.upon];exact H _ _ hΦ _ _ (fa.put _ _ hd) (fw.trans hw')
def CallsHD (D:Bool) (P:Program) (f:FuncId) (args:Array Value) (h:zaa) (Φ:Value->zaa->Prop):Prop :=
 ∀ w,w.heap=h->Calls P f args w fun r w'=>∃ v,r = .returned v/\WW D w w'.heap w'/\Φ v w'.heap
abbrev CallsH (P:Program) (f:FuncId) (args:Array Value) (h:zaa) (Φ:Value->zaa->Prop):Prop:=CallsHD false P f args h Φ
theorem CallsHD.mono {D:Bool} {P:Program} {f:FuncId} {args:Array Value} {h:zaa} {Φ Ψ:Value->zaa->Prop} (H:CallsHD D P f args h Φ) (k:∀ v h',Φ v h'->Ψ v h'):CallsHD D P f args h Ψ :=
 fun w hw=>(H w hw).mono fun r w' ⟨v,e,hw',hΦ⟩=>⟨v,e,hw',k _ _ hΦ⟩
theorem CallsH.mono {P:Program} {f:FuncId} {args:Array Value} {h:zaa} {Φ Ψ:Value->zaa->Prop} (H:CallsH P f args h Φ) (k:∀ v h',Φ v h'->Ψ v h'):CallsH P f args h Ψ :=
 fun w hw=>(H w hw).mono fun r w' ⟨v,e,hw',hΦ⟩=>⟨v,e,hw',k _ _ hΦ⟩
def Yc (P:Program) (e:Env) (o:Oper) (f:FuncId) (args:Array Value):Prop :=
 ∀ ρ w,Agr e ρ->(execOp ρ o).run P w = .ok (.enter f args) w
theorem w_c {f:FuncId} {args:Array Value} {Φ:Value->zaa->Prop} (hc:CallsHD c.D c.P f args h Φ) (hy:Yc c.P e o f args) (hw:wnt lops e o=some true) (hd:dOk c.N o.dst=true)
  (H:∀ v h',Φ v h'->gop c lops Q K l (pu e o.dst v) h'):gop c lops Q K (o :: l) e h:=by
 intro a w fa fw;simp only [wpK,zda hw fa,if_true]
 left
 simp only [Oper.wp,hy _ _ fa.agr,Oper.upon];refine(hc w fw.heap).mono ?_;rintro r w' ⟨v,rfl,hw',hΦ⟩;exact H _ _ hΦ _ _ (fa.put _ _ hd) (fw.trans hw')
theorem zal {id:Nat} (H:gop c lops Q (Q .normal) lops e h):gco c (.region id lops.toArray false) Q e h:=by
 intro a w fa fw;refine wp_region_lit ?_;rw [← wpK_list];exact H a w fa fw
theorem zcn (H:gco c x (Exit.then (y.wp c.P Q) Q) e h):gco c (.seq x y) Q e h:=fun a w fa fw=>wp_seq (H a w fa fw)
theorem zph {id:Nat} (H:gco c x (Exit.inBlock id Q) e h):gco c (.block id x) Q e h:=fun a w fa fw=>wp_block (H a w fa fw)
theorem zua (H:gex c Q .normal e h):gco c .skip Q e h:=fun a w fa fw=>wp_skip (H a w fa fw)
theorem qgc {i:Nat} (H:gex c Q .normal e h):gco c (.label i) Q e h:=fun a w fa fw=>wp_label (H a w fa fw)
theorem zoj (H:gex c Q .ret e h):gco c .ret Q e h:=fun a w fa fw=>wp_ret (H a w fa fw)
theorem qd1 {id:Nat} (H:gex c Q (.exit id) e h):gco c (.exit id) Q e h:=fun a w fa fw=>wp_exit (H a w fa fw)
theorem qka {t:Operand} {b:Bool} {A B:Prop} (H:if b then A else B) (hb:evO e t=some (.bool b)) (h1:A->gco c x Q e h) (h2:B->gco c y Q e h):gco c (.cond t x y) Q e h:=by
 intro a w fa fw;have hc:=fa.agr t _ hb
 cases b with
 | true=>exact wp_cond_true hc (h1 (by simpa using H) a w fa fw)
 | false=>exact wp_cond_false hc (h2 (by simpa using H) a w fa fw)
def Jn {α:Type} (c:Cx) (E:α->Env) (Φ:α->zaa->Prop) (a:Act) (w:World):Prop:=∃ s,Φ s w.heap/\Fr c.N (E s) a/\WW c.D c.W0 w.heap w
theorem qdx {α:Type} (E:α->Env) (Φ:α->zaa->Prop) (h2:∀ s h,Φ s h->gco c y Q (E s) h) (h1:gco c x (Exit.then (Jn c E Φ) Q) e h):gco c (.seq x y) Q e h :=
 fun a w fa fw=>wp_seq (wp_mono (h1 a w fa fw) fun ex a w q=>by
  cases ex with
  | normal=>obtain⟨s,hs,f1,f2⟩:=q;exact h2 s _ hs a w f1 f2
  | exit id=>exact q
  | goto l=>exact q
  | ret=>exact q
  | panic ch=>exact q
  | outgrown=>exact q)
theorem qc9 {α:Type} {E:α->Env} {Φ:α->zaa->Prop} (s:α) (H:Φ s h) (hs:Sub (E s) e):gK c (Jn c E Φ) e h:=fun a w fa fw=>⟨s,by rw [fw.heap];exact H,fa.sub hs,by rw [fw.heap];exact fw⟩
theorem zoy {P:Program} {ops:Array Oper} {Q:Exit->Act->World->Prop} {K:Act->World->Prop} (m:List Oper):∀(l:List Oper),wpK P ops Q K (l++m)=wpK P ops Q (wpK P ops Q K m) l
 | []=>rfl
 | o :: l=>by
  funext a w
  simp only [List.cons_append,wpK,zoy m l]
theorem zqh {P:Program} {o:Oper} {a:Act} {Q:Exit->Act->World->Prop} {K K':Act->World->Prop} (hk:∀ a w,K a w->K' a w) (r:Result Next) (h:o.upon P a K Q r):o.upon P a K' Q r:=by
 unfold Oper.upon at *;split <;> simp only at h
 ·exact hk _ _ h
 ·exact hk _ _ h
 ·exact hk _ _ h
 ·refine h.mono fun e w' he=>?_
  cases e with
  | returned v=>exact hk _ _ he
  | panicked ch=>exact he
  | outgrown=>exact he
 ·exact h.mono fun v w' hv=>hk _ _ hv
 ·exact h
theorem zpt {P:Program} {ops:Array Oper} {Q:Exit->Act->World->Prop} {K K':Act->World->Prop} (hk:∀ a w,K a w->K' a w):∀(l:List Oper) (a:Act) (w:World),wpK P ops Q K l a w->wpK P ops Q K' l a w
 | [],a,w,H=>hk a w H
 | o :: l,a,w,H=>by
  simp only [wpK] at H ⊢;split
  ·rename_i hw
   rw [if_pos hw] at H;rcases H with H | H
   ·exact .inl (zqh (fun a w=>zpt hk l a w) _ H)
   ·exact .inr H
  ·rename_i hw
   rw [if_neg hw] at H;exact zpt hk l _ _ H
theorem qkb {α:Type} (n:Nat) (E:α->Env) (Φ:α->zaa->Prop) (h2:∀ s h,Φ s h->gop c lops Q K (l.drop n) (E s) h) (h1:gop c lops Q (Jn c E Φ) (l.take n) e h):gop c lops Q K l e h:=by
 intro a w fa fw;rw [← List.take_append_drop n l,zoy];exact zpt (fun a w ⟨s,hs,f1,f2⟩=>h2 s _ hs a w f1 f2) _ _ _ (h1 a w fa fw)
theorem qcs (n:Nat) (E:Env) (h2:gop c lops Q K (l.drop n) E h) (h1:gop c lops Q (Jn c (fun _:Unit=>E) (fun _ h'=>h'=h)) (l.take n) e h):gop c lops Q K l e h :=
 qkb (α:=Unit) n (fun _=>E) (fun _ h'=>h'=h) (fun _ h' hh=>by subst hh;exact h2) h1
theorem qd6 {σ:Type} (E:σ->Env) (I:σ->zaa->Prop) (μ:σ->zaa->Nat) (s0:σ) (H0:I s0 h) (hs:Sub (E s0) e)
  (round:∀ s h,I s h->gco c x (Exit.then (Jn c E fun s' h'=>I s' h'/\μ s' h'<μ s h) Q) (E s) h):gco c (.loop x) Q e h:=by
 intro a w fa fw b k cs
 have key:∀ n s h a w,μ s h=n->I s h->Fr c.N (E s) a->WW c.D c.W0 h w ->
   ∃ e a' w',Q e a' w'/\Arrives c.P (lone (b.at a (.code x :: .inLoop x :: k)) cs w) b k cs e a' w':=by
  intro n
  induction n using Nat.strongRecOn with
  | _ n ih =>
   intro s h a w hn hI f1 f2;obtain⟨ex,a₁,w₁,hq,harr⟩:=round s h hI a w f1 f2 b (.inLoop x :: k) cs
   cases ex with
   | normal =>
    obtain⟨s',⟨hI',hlt⟩,f1',f2'⟩:=hq;obtain⟨e₂,a₂,w₂,hq₂,harr₂⟩:=ih (μ s' w₁.heap) (hn ▸ hlt) s' w₁.heap a₁ w₁ rfl hI' f1' f2'
    exact⟨e₂,a₂,w₂,hq₂,.of_steps (Steps.trans harr (.one step_inLoop)) harr₂⟩
   | exit id=>exact⟨_,a₁,w₁,hq,.pass (x:=.inLoop x) rfl (fun _ _=>.inl (by simp)) harr⟩
   | goto l=>exact⟨_,a₁,w₁,hq,.pass (x:=.inLoop x) rfl (fun _ _=>.inl (by simp)) harr⟩
   | ret=>exact⟨_,a₁,w₁,hq,.pass (x:=.inLoop x) rfl (fun _ _=>.inl (by simp)) harr⟩
   | panic ch=>exact⟨_,a₁,w₁,hq,.pass (x:=.inLoop x) rfl (fun _ _=>.inl (by simp)) harr⟩
   | outgrown=>exact⟨_,a₁,w₁,hq,.pass (x:=.inLoop x) rfl (fun _ _=>.inl (by simp)) harr⟩
 obtain⟨ex,a',w',hq,harr⟩:=key _ s0 h a w rfl H0 (fa.sub hs) fw;exact⟨ex,a',w',hq,.of_steps (.one step_loop) harr⟩
end
def Rt (D:Bool) (w:World) (Φ:Value->zaa->Prop) (r:Ending) (w':World):Prop:=∃ v,r = .returned v/\WW D w w'.heap w'/\Φ v w'.heap
def zmi:Nat->List Value->Env
 | _,[]=>[]
 | i,v :: r=>(i,v) :: zmi (i+1) r
theorem zms:∀(l:List Value) (i s:Nat) (v:Value),lkO (zmi i l) s=some v->i<=s/\l[s-i]? = some v
 | [],i,s,v,h=>by simp [zmi,lkO] at h
 | u :: l,i,s,v,h=>by
  simp only [zmi,ze3] at h;by_cases hs:i=s
  ·subst hs
   rw [if_pos rfl] at h;simp at h;simp [h]
  ·rw [if_neg hs] at h
   have:=zms l (i+1) s v h;refine⟨by omega,?_⟩;have e:s-i=(s-(i+1))+1:=by omega
   rw [e,List.getElem?_cons_succ];exact this.2
theorem zg8 {D:Bool} {P:Program} {f:FuncId} {fn:Func} {x:Code} {args:List Value} {h:zaa} {Φ:Value->zaa->Prop} {N:Nat} (hf:P.funcs[f]? = some fn) (hb:fn.body=some x) (hN:fn.ntmps=N) (hn:Nat.ble args.length N=true)
  (H:∀ w,gco ⟨P,N,w,D⟩ x (bodyPost P fn (Rt D w Φ)) (zmi 0 args) h):CallsHD D P f args.toArray h Φ:=by
 intro w hw;subst hN;refine calls_of_wp hf hb ?_;have hn':args.length<=fn.ntmps:=by simpa using hn
 refine H w _ _ ⟨rfl,by simp;omega,fun s v hs=>?_⟩ ⟨rfl,rfl,rfl,hw,fun _=>Nat.le_refl _⟩;have:=(zms args 0 s v hs).2;have hlt:s<args.length:=(List.getElem?_eq_some_iff.1 this).1;simp at this;rw [Array.getElem?_append_left (by simpa using hlt)];simpa using this
def qhc (e:Env):List ResultVar->Option (List Value)
 | []=>some []
 | .tmp t :: r=>match lkO e t with | some v=>(match qhc e r with | some vs=>some (v :: vs) | none=>none) | none=>none
 | .cell .. :: _=>none
def tup:List Value->Value
 | [v]=>v
 | vs=>.tuple vs.toArray
theorem zn4 {e:Env} {N:Nat} {a:Act} (fa:Fr N e a) (P:Program) (w:World) (g:ResultVar->Sem Value) (hg:∀ t,g (.tmp t)=pure (a.tmps.getD t undef)):∀(rs:List ResultVar) (vs:List Value),qhc e rs=some vs ->
  (rs.mapM (m:=Sem) g).run P w = .ok vs w
 | [],vs,h=>by simp [qhc] at h;subst h;simp
 | .tmp t :: r,vs,h=>by
  simp only [qhc] at h
  cases h1:lkO e t with
  | none=>simp [h1] at h
  | some v =>
   simp only [h1] at h
   cases h2:qhc e r with
   | none=>simp [h2] at h
   | some us =>
    simp [h2] at h;subst h;have ih:=zn4 fa P w g hg r us h2;have hv:=fa.l t v h1;have hg':g (.tmp t)=pure v:=by rw [hg,Array.getD_eq_getD_getElem?,hv];rfl
    simp [ih,hg']
 | .cell x y :: r,vs,h=>by simp [qhc] at h
theorem x_ret {D:Bool} {P:Program} {fn:Func} {w0:World} {Φ:Value->zaa->Prop} {e:Env} {h:zaa} {N:Nat} (rs:List ResultVar) (hrs:fn.results=rs.toArray) (vs:List Value) (hv:qhc e rs=some vs) (H:Φ (tup vs) h) :
  gex ⟨P,N,w0,D⟩ (bodyPost P fn (Rt D w0 Φ)) .ret e h:=by
 intro a w fa fw;refine⟨fa.d,tup vs,?_,_,rfl,?_,?_⟩
 ·unfold results
  rw [hrs];simp only [List.mapM_toArray,Sem.run_bind,Sem.run_map];rw [zn4 fa P w _ (fun t=>rfl) rs vs hv]
  match vs with
  | []=>simp [tup]
  | [v]=>simp [tup]
  | v :: u :: r=>simp [tup]
 ·rw [fw.heap];exact fw
 ·rw [fw.heap];exact H
theorem qg5 {c:Cx} {Q:Exit->Act->World->Prop} {e:Env} {h:zaa} {x:Code} (H:gco c x (Exit.noGoto Q) e h):gco c (.scope x) Q e h:=fun a w fa fw=>wp_scope_straight (H a w fa fw)
theorem qsg {c:Cx} {Q:Exit->Act->World->Prop} {e:Env} {h:zaa} (H:gex c Q .ret e h):gex c (Exit.noGoto Q) .ret e h:=H
section
variable {c:Cx} {lops:List Oper} {Q:Exit->Act->World->Prop} {K:Act->World->Prop} {l:List Oper} {e e':Env} {h:zaa} {o:Oper} {x y:Code}
theorem zcr (H:gco c y Q e h):gex c (Exit.then (y.wp c.P Q) Q) .normal e h:=H
theorem zxg {α:Type} {E:α->Env} {Φ:α->zaa->Prop} (s:α) (H:Φ s h) (hs:Sub (E s) e):gex c (Exit.then (Jn c E Φ) Q) .normal e h:=qc9 s H hs
theorem qgf {id:Nat} (H:gex c Q .normal e h):gex c (Exit.inBlock id Q) .normal e h:=H
theorem qpe {id:Nat} (H:gex c Q (.exit id) e h):gex c (Exit.then K Q) (.exit id) e h:=H
theorem qnp (H:gex c Q .ret e h):gex c (Exit.then K Q) .ret e h:=H
theorem qpd {id:Nat} (H:gex c Q .ret e h):gex c (Exit.inBlock id Q) .ret e h:=H
theorem qq1 {id:Nat} (H:gex c Q .normal e h):gex c (Exit.inBlock id Q) (.exit id) e h:=by
 intro a w fa fw;show (if id=id then Q .normal a w else Q (.exit id) a w);rw [if_pos rfl];exact H a w fa fw
theorem qrv {id id':Nat} (hne:Nat.beq id' id=false) (H:gex c Q (.exit id') e h):gex c (Exit.inBlock id Q) (.exit id') e h:=by
 intro a w fa fw;show (if id'=id then Q .normal a w else Q (.exit id') a w);rw [if_neg (fun he=>by subst he;simp at hne)];exact H a w fa fw
theorem zb9 (H:gex c Q .normal e h):gop c lops Q (Q .normal) [] e h:=H
theorem qm8 {α:Type} {E:α->Env} {Φ:α->zaa->Prop} (s:α) (H:Φ s h) (hs:Sub (E s) e):gop c lops Q (Jn c E Φ) [] e h:=qc9 s H hs
theorem qol {d:Nat} {b:Bool} (hd:lkO e d=some (.bool b)) (h1:b=true->gop c lops Q K l ((d,.bool true) :: e) h) (h2:b=false->gop c lops Q K l ((d,.bool false) :: e) h):gop c lops Q K l e h:=by
 have key:∀ b',b=b'->gop c lops Q K l ((d,.bool b') :: e) h->gop c lops Q K l e h:=by
  intro b' hb H a w fa fw;refine H a w ⟨fa.d,fa.n,fun s v hs=>?_⟩ fw;rw [ze3] at hs;by_cases hst:d=s
  ·subst hst
   rw [if_pos rfl] at hs;simp only [Option.some.injEq] at hs;subst hs;subst hb;exact fa.l _ _ hd
  ·rw [if_neg hst] at hs
   exact fa.l _ _ hs
 cases b with
 | true=>exact key true rfl (h1 rfl)
 | false=>exact key false rfl (h2 rfl)
theorem qnv {d:Nat} {b:Bool} {A B:Prop} (H:if b then A else B) (hd:lkO e d=some (.bool b)) (h1:A->gop c lops Q K l ((d,.bool true) :: e) h) (h2:B->gop c lops Q K l ((d,.bool false) :: e) h):gop c lops Q K l e h :=
 qol hd (fun hb=>h1 (by rw [hb] at H;simpa using H)) (fun hb=>h2 (by rw [hb] at H;simpa using H))
theorem zy2 {b x:Bool} (h:b=true):true=(b||x):=by subst h;rfl
theorem zzn {b x:Bool} (h:b=false):x=(b||x):=by subst h;rfl
theorem zpi {b x:Bool} (h:b=true):x=(b&&x):=by subst h;rfl
theorem zpz {b x:Bool} (h:b=false):false=(b&&x):=by subst h;rfl
def gq (c:Cx) (lops:List Oper) (h:zaa) (Q:Act->Prop) (l:List Oper) (e:Env):Prop :=
 ∀ a,Fr c.N e a->wpQuiet c.P lops.toArray (WW c.D c.W0 h) Q l a
def Qn (c:Cx) (h:zaa) (Q:Exit->Act->World->Prop) (a:Act):Prop:=∀ w,WW c.D c.W0 h w->Q .normal a w
theorem zrh {id:Nat} (hm:c.P.follows .mixedOrders=true) (hB:Region.lexB .any lops.toArray=true) (H:gq c lops h (Qn c h Q) lops e):gco c (.region id lops.toArray true) Q e h:=by
 intro a w fa fw;refine wp_region_quiet (C:=WW c.D c.W0 h) hm hB ⟨fw.os,fw.tape,fw.output,fw.heap,fun k=>Nat.le_succ_of_le (fw.dr k)⟩ ?_;have:wpQuiet c.P lops.toArray (WW c.D c.W0 h) (fun a'=>∀ w',WW c.D c.W0 h w'->Q .normal a' w') lops a:=H a fa;simpa using this
theorem zyn (H:gex c Q .normal e h):gq c lops h (Qn c h Q) [] e:=fun a fa w fw=>H a w fa fw
variable {q:Act->Prop}
theorem q_y {v:Value} (hy:Yl c.P e h o v) (hw:wnt lops e o=some true) (hd:dOk c.N o.dst=true) (H:gq c lops h q l (pu e o.dst v)):gq c lops h q (o :: l) e:=by
 intro a fa;simp only [wpQuiet,zda hw fa,if_true];refine⟨v,fun w hw'=>?_,H _ (fa.put _ _ hd)⟩;unfold Oper.quietAt;rw [hy _ _ fa.agr hw'.heap];exact⟨rfl,rfl⟩
end
theorem qqz {c:Cx} {lops:List Oper} {Q:Exit->Act->World->Prop} {K:Act->World->Prop} {l:List Oper} {e:Env} {h:zaa} {o:Oper} {v v':Value} (hy:Yl c.P e h o v) (hv:v'=v) (hw:wnt lops e o=some true) (hd:dOk c.N o.dst=true) (H:gop c lops Q K l (pu e o.dst v') h):gop c lops Q K (o :: l) e h:=by
 subst hv;exact w_y hy hw hd H
end Go.Q
end
section
namespace Go.Q
inductive Ty where
 | bool | int (k:IntKind) | string | pointer (e:Nat) | slice (e:Nat) | array (n e:Nat) | map (k e:Nat) | struct (fs:List (Nat × Nat)) | func | iface | other
structure TI where
 d:Ty
 n:Nat
 b:Nat
 z:List Value
abbrev Tab:=List (Nat × TI)
def tlk:Tab->Nat->Option TI
 | [],_=>none
 | (s,v) :: r,t=>match Nat.beq s t with | true=>some v | false=>tlk r t
def tyb:Ty->TypeDesc->Bool
 | .bool,.bool=>true
 | .int k,.int k'=>decide (k=k')
 | .string,.string=>true
 | .pointer e,.pointer e'=>Nat.beq e e'
 | .slice e,.slice e'=>Nat.beq e e'
 | .array n e,.array n' e'=>Nat.beq n n'&&Nat.beq e e'
 | .map k e,.map k' e'=>Nat.beq k k'&&Nat.beq e e'
 | .struct fs,.struct gs=>decide (gs.toList.map (fun f=>(f.type,f.offset))=fs)
 | .func,.func ..=>true
 | .iface,.interface _=>true
 | .other,d=>match d with | .struct _=>false | .array ..=>false | _=>true
 | _,_=>false
def zb:Value->Value->Bool
 | .bool a,.bool b=>a==b
 | .int k a,.int k' b=>decide (k=k')&&decide (a=b)
 | .string s,.string t=>Nat.beq s.size 0&&Nat.beq t.size 0
 | .pointer none,.pointer none=>true
 | .slice none 0 0,.slice none 0 0=>true
 | .map none,.map none=>true
 | .nilFunc,.nilFunc=>true
 | .nilIface,.nilIface=>true
 | .chan none,.chan none=>true
 | _,_=>false
theorem qov {u v:Value} (h:zb u v=true):u=v:=by
 unfold zb at h;split at h <;> first | rfl | (simp at h;done) | skip
 ·simpa using h
 ·simp at h;rw [h.1,h.2]
 ·rename_i s t
  simp only [Bool.and_eq_true] at h;have h1:=Nat.eq_of_beq_eq_true h.1;have h2:=Nat.eq_of_beq_eq_true h.2;have e1:s=ByteArray.empty:=ByteArray.ext (Array.eq_empty_of_size_eq_zero h1);have e2:t=ByteArray.empty:=ByteArray.ext (Array.eq_empty_of_size_eq_zero h2);rw [e1,e2]
def zsb:List Value->List Value->Bool
 | [],[]=>true
 | u :: r,v :: s=>zb u v&&zsb r s
 | _,_=>false
theorem zto:∀ {u v:List Value},zsb u v=true->u=v
 | [],[],_=>rfl
 | u :: r,v :: s,h=>by
  simp only [zsb,Bool.and_eq_true] at h;rw [qov h.1,zto h.2]
def isA:Ty->Bool | .struct _=>true | .array ..=>true | _=>false
def zob (a:Bool) (zs:List Value):Option Value->Bool
 | some (.agg cs)=>a&&zsb cs.toList zs
 | some v=>!a&&zsb [v] zs
 | none=>false
def qhf (P:Program) (t:Nat) (i:TI):Bool :=
 match P.underlying t,P.info? t with
 | some d,some ti=>tyb i.d d&&Nat.beq ti.size i.n&&Nat.beq ti.bytes i.b&&zob (isA i.d) i.z ti.zero
 | _,_=>false
def qft (P:Program):Tab->Bool
 | []=>true
 | (t,i) :: r=>qhf P t i&&qft P r
def TOk (P:Program) (T:Tab):Prop:=∀ t i,tlk T t=some i->qhf P t i=true
theorem qda {P:Program}:∀ {T:Tab},qft P T=true->TOk P T
 | [],_,t,i,h=>by simp [tlk] at h
 | (s,j) :: r,hb,t,i,h=>by
  simp only [qft,Bool.and_eq_true] at hb;simp only [tlk] at h
  cases hst:Nat.beq s t with
  | true =>
   simp only [hst,Option.some.injEq] at h;have:=Nat.eq_of_beq_eq_true hst;subst this;subst h
   exact hb.1
  | false =>
   simp only [hst] at h;exact qda hb.2 t i h
theorem zee {P:Program} {t:Nat} {i:TI} (h:qhf P t i=true):∃ d ti,P.underlying t=some d/\P.info? t=some ti/\tyb i.d d=true/\ti.size=i.n/\ti.bytes=i.b /\
  ∃ v,ti.zero=some v/\v.cells.toList=i.z/\(isA i.d=true->v = .agg i.z.toArray):=by
 unfold qhf at h;split at h
 ·rename_i d ti h1 h2
  simp only [Bool.and_eq_true] at h;obtain⟨⟨⟨a,b⟩,c⟩,dd⟩:=h;refine⟨d,ti,h1,h2,a,Nat.eq_of_beq_eq_true b,Nat.eq_of_beq_eq_true c,?_⟩;unfold zob at dd;split at dd
  ·rename_i cs hz
   simp only [Bool.and_eq_true] at dd;have:=zto dd.2;exact⟨_,hz,by simpa [Value.cells] using this,fun _=>by rw [← this]⟩
  ·rename_i v hn hz
   simp only [Bool.and_eq_true,Bool.not_eq_true'] at dd;have:=zto dd.2;refine⟨_,hz,?_,fun h=>by rw [dd.1] at h;cases h⟩;rw [← this]
   cases v <;> simp_all [Value.cells]
  ·cases dd
 ·cases h
theorem qgv {d:Ty} {td:TypeDesc} (h:tyb d td=true):(match td with | .struct _=>true | .array ..=>true | _=>false)=isA d:=by
 cases d <;> cases td <;> first | rfl | cases h
theorem zdw {P:Program} {t:Nat} {i:TI} (h:qhf P t i=true) (w:World):(isAgg t).run P w = .ok (isA i.d) w:=by
 obtain⟨d,ti,h1,h2,h3,_⟩:=zee h;rw [← qgv h3]
 cases d <;> simp [isAgg,run_underlying h1]
theorem zah {P:Program} {t:Nat} {i:TI} (h:qhf P t i=true) (w:World):(sizeOf t).run P w = .ok i.n w:=by
 obtain⟨d,ti,h1,h2,h3,h4,_⟩:=zee h;simp [sizeOf,typeInfo,h2,h4]
def zzg:BinOp->IntKind->Int->Int->Option Value
 | .add,k,a,b=>some (.int k (k.wrap (a+b)))
 | .sub,k,a,b=>some (.int k (k.wrap (a-b)))
 | .mul,k,a,b=>some (.int k (k.wrap (a*b)))
 | .eql,_,a,b=>some (.bool (a==b))
 | .neq,_,a,b=>some (.bool (a != b))
 | .lss,_,a,b=>some (.bool (decide (a<b)))
 | .leq,_,a,b=>some (.bool (decide (a<=b)))
 | .gtr,_,a,b=>some (.bool (decide (a > b)))
 | .geq,_,a,b=>some (.bool (decide (a>=b)))
 | .and,k,a,b=>some (.int k (k.wrap (BitVec.ofInt k.bits a &&& BitVec.ofInt k.bits b).toNat))
 | .or,k,a,b=>some (.int k (k.wrap (BitVec.ofInt k.bits a ||| BitVec.ofInt k.bits b).toNat))
 | .xor,k,a,b=>some (.int k (k.wrap (BitVec.ofInt k.bits a ^^^ BitVec.ofInt k.bits b).toNat))
 | .andNot,k,a,b=>some (.int k (k.wrap (BitVec.ofInt k.bits a &&& ~~~BitVec.ofInt k.bits b).toNat))
 | _,_,_,_=>none
def qb3:BinOp->ByteArray->ByteArray->Option Value
 | .eql,a,b=>some (.bool (a.toList==b.toList))
 | .neq,a,b=>some (.bool !(a.toList==b.toList))
 | .lss,a,b=>some (.bool (Op.bytesLess a.toList b.toList))
 | .leq,a,b=>some (.bool (Op.bytesLess a.toList b.toList||a.toList==b.toList))
 | .gtr,a,b=>some (.bool !(Op.bytesLess a.toList b.toList||a.toList==b.toList))
 | .geq,a,b=>some (.bool !(Op.bytesLess a.toList b.toList))
 | _,_,_=>none
def peq (T:Tab) (t:Nat):Value->Value->Option Bool
 | .bool a,.bool b=>match tlk T t with | some ⟨.bool,_,_,_⟩=>some (a==b) | _=>none
 | .pointer a,.pointer none=>match tlk T t with | some ⟨.pointer _,_,_,_⟩=>some a.isNone | _=>none
 | .slice a _ _,.slice none 0 0=>match tlk T t with | some ⟨.slice _,_,_,_⟩=>some a.isNone | _=>none
 | .map a,.map none=>match tlk T t with | some ⟨.map ..,_,_,_⟩=>some a.isNone | _=>none
 | _,_=>none
def zz6 (T:Tab) (op:BinOp) (t:Nat) (a b:Value):Option Value :=
 match a,b with
 | .int k x,.int k' y=>if k=k' then zzg op k x y else none
 | .string x,.string y=>qb3 op x y
 | a,b=>match op with
  | .eql=>match peq T t a b with | some r=>some (.bool r) | none=>none
  | .neq=>match peq T t a b with | some r=>some (.bool !r) | none=>none
  | _=>none
theorem zv4 {P:Program} {w:World} {op:BinOp} {t:Nat} {k:IntKind} {a b:Int} {v:Value} (h:zzg op k a b=some v):(binOp op t (.int k a) (.int k b)).run P w = .ok v w:=by
 cases op <;> simp only [zzg,Option.some.injEq,reduceCtorEq] at h <;> subst h <;> simp [go_sem,Op.intArith,Op.intBits]
theorem zy7 {P:Program} {w:World} {op:BinOp} {t:Nat} {a b:ByteArray} {v:Value} (h:qb3 op a b=some v):(binOp op t (.string a) (.string b)).run P w = .ok v w:=by
 cases op <;> simp only [qb3,Option.some.injEq,reduceCtorEq] at h <;> subst h <;> simp [go_sem]
theorem zai {P:Program} {T:Tab} (hT:TOk P T) {t:Nat} {d:Ty} {n b:Nat} {z:List Value} (h:tlk T t=some ⟨d,n,b,z⟩):∃ td,P.underlying t=some td/\tyb d td=true:=by
 obtain⟨td,_,h1,_,h3,_⟩:=zee (hT t _ h);exact⟨td,h1,h3⟩
theorem zw8 {P:Program} {T:Tab} (hT:TOk P T) {w:World} {t:Nat} {a b:Value} {r:Bool} (h:peq T t a b=some r) :
  (binOp .eql t a b).run P w = .ok (.bool r) w/\(binOp .neq t a b).run P w = .ok (.bool !r) w:=by
 unfold peq at h;split at h
 ·split at h
  ·rename_i hk
   simp only [Option.some.injEq] at h;subst h;obtain⟨td,h1,h3⟩:=zai hT hk
   cases td <;> try (cases h3;done)
   exact⟨run_eql_bool w _ _ _ h1,run_neq_bool w _ _ _ h1⟩
  ·cases h
 ·split at h
  ·rename_i hk
   simp only [Option.some.injEq] at h;subst h;obtain⟨td,h1,h3⟩:=zai hT hk
   cases td <;> try (cases h3;done)
   have h1':P.underlying t=some (.pointer (P.pointee t)):=by simp [Program.pointee,h1]
   exact⟨run_eql_pointer_nil w _ _ h1',run_neq_pointer_nil w _ _ h1'⟩
  ·cases h
 ·split at h
  ·rename_i hk
   simp only [Option.some.injEq] at h;subst h;obtain⟨td,h1,h3⟩:=zai hT hk
   cases td <;> try (cases h3;done)
   exact⟨Lib.run_eql_slice_nil w _ _ _ _ _ 0 0 h1,run_neq_slice_nil w _ _ _ _ _ h1⟩
  ·cases h
 ·split at h
  ·rename_i hk
   simp only [Option.some.injEq] at h;subst h;obtain⟨td,h1,h3⟩:=zai hT hk
   cases td <;> try (cases h3;done)
   exact⟨run_eql_map_nil w _ _ _ _ h1,run_neq_map_nil w _ _ _ _ h1⟩
  ·cases h
 ·cases h
theorem qcb {P:Program} {T:Tab} (hT:TOk P T) {w:World} {op:BinOp} {t:Nat} {a b v:Value} (h:zz6 T op t a b=some v):(binOp op t a b).run P w = .ok v w:=by
 unfold zz6 at h;split at h
 ·split at h
  ·rename_i hk;subst hk;exact zv4 h
  ·cases h
 ·exact zy7 h
 ·split at h
  ·split at h
   ·rename_i hr;simp only [Option.some.injEq] at h;subst h;exact(zw8 hT hr).1
   ·cases h
  ·split at h
   ·rename_i hr;simp only [Option.some.injEq] at h;subst h;exact(zw8 hT hr).2
   ·cases h
  ·cases h
def shl (k:IntKind) (a:Int) (n:Nat):Int:=k.wrap (a*2 ^ (min n k.bits))
def shr (k:IntKind) (a:Int) (n:Nat):Int:=a.fdiv (2 ^ (min n k.bits))
def pev (T:Tab) (e:Env) (op:Op):Option Value :=
 match op with
 | .move x=>evO e x
 | .assign x=>evO e x
 | .pick c x y=>match evO e c with | some (.bool true)=>evO e x | some (.bool false)=>evO e y | _=>none
 | .binOp .quo _ x y _=>match evO e x,evO e y with | some (.int k a),some (.int k' b)=>if k=k' then (if b=0 then none else some (.int k (k.wrap (a.tdiv b)))) else none | _,_=>none
 | .binOp .rem _ x y _=>match evO e x,evO e y with | some (.int k a),some (.int k' b)=>if k=k' then (if b=0 then none else some (.int k (a.tmod b))) else none | _,_=>none
 | .binOp .shl _ x y _=>match evO e x,evO e y with | some (.int k a),some (.int _ b)=>if b<0 then none else some (.int k (shl k a b.toNat)) | _,_=>none
 | .binOp .shr _ x y _=>match evO e x,evO e y with | some (.int k a),some (.int _ b)=>if b<0 then none else some (.int k (shr k a b.toNat)) | _,_=>none
 | .binOp op t x y _=>match evO e x,evO e y with | some a,some b=>zz6 T op t a b | _,_=>none
 | .unOp .not _ x=>match evO e x with | some (.bool b)=>some (.bool !b) | _=>none
 | .unOp .neg _ x=>match evO e x with | some (.int k n)=>some (.int k (k.wrap (0-n))) | _=>none
 | .convert s d x=>match tlk T s,tlk T d,evO e x with
  | some _,some ⟨.int k,_,_,_⟩,some (.int _ n)=>some (.int k (k.wrap n))
  | some _,some ⟨.string,_,_,_⟩,some (.string s)=>some (.string s)
  | _,_,_=>none
 | .extract x i=>match evO e x with | some (.tuple vs)=>vs.toList[i]? | _=>none
 | .fieldAddr t x f=>match tlk T t,evO e x with
  | some ⟨.struct fs,_,_,_⟩,some (.pointer (some a))=>match fs[f]? with
   | some (ft,off)=>match tlk T ft with | some ⟨_,_+1,_,_⟩=>some (.pointer (some (a.add off))) | _=>none
   | none=>none
  | _,_=>none
 | .field t x f=>match tlk T t,evO e x with
  | some ⟨.struct fs,_,_,_⟩,some (.agg cs)=>match fs[f]? with
   | some (ft,off)=>match tlk T ft with
    | some ⟨d,n,_,_⟩=>match isA d with | true=>some (.agg ((cs.toList.drop off).take n).toArray) | false=>cs.toList[off]?
    | none=>none
   | none=>none
  | _,_=>none
 | .call { callee:=.builtin .len,args:=as',argTypes:=ts }=>match as'.toList,ts.toList with
  | [x],[t]=>match tlk T t,evO e x with
   | some ⟨.slice _,_,_,_⟩,some (.slice _ n _)=>some (.int .i64 n)
   | some ⟨.string,_,_,_⟩,some (.string s)=>some (.int .i64 s.size)
   | some ⟨.array n _,_,_,_⟩,some _=>some (.int .i64 n)
   | _,_=>none
  | _,_=>none
 | .call { callee:=.builtin .min,args:=as',argTypes:=_ }=>match as'.toList with
  | [x,y]=>match evO e x,evO e y with
   | some (.int k a),some (.int _ b)=>some (.int k (if b<a then b else a))
   | _,_=>none
  | _=>none
 | .call { callee:=.builtin .max,args:=as',argTypes:=_ }=>match as'.toList with
  | [x,y]=>match evO e x,evO e y with
   | some (.int k a),some (.int _ b)=>some (.int k (if b > a then b else a))
   | _,_=>none
  | _=>none
 | _=>none
theorem za5 {P:Program} {w:World} (op:BinOp) (t:Nat) (x y:Operand) (a b:Value) (h:(op≠.eql/\op≠.neq)∨((∀ cs,a≠.agg cs)/\a≠.nilIface)):(eqGuard op t x y a b).run P w = .ok () w:=by
 unfold eqGuard
 cases op <;> simp at h ⊢
 all_goals
  obtain⟨h1,h2⟩:=h
  cases a <;> simp_all
theorem zva {T:Tab} {op:BinOp} {t:Nat} {a b v:Value} (h:zz6 T op t a b=some v):((∀ cs,a≠.agg cs)/\a≠.nilIface):=by
 unfold zz6 at h;split at h
 ·simp
 ·simp
 ·split at h
  ·split at h
   ·rename_i hr
    unfold peq at hr;split at hr <;> first | (simp;done) | (cases hr;done)
   ·cases h
  ·split at h
   ·rename_i hr
    unfold peq at hr;split at hr <;> first | (simp;done) | (cases hr;done)
   ·cases h
  ·cases h
theorem zjx {k:IntKind} {td:TypeDesc} (h:tyb (.int k) td=true):td = .int k:=by
 cases td <;> try (cases h;done)
 simp only [tyb,decide_eq_true_eq] at h;rw [h]
theorem zen {td:TypeDesc} (h:tyb .string td=true):td = .string:=by
 cases td <;> try (cases h;done)
 rfl
theorem zce {e:Nat} {td:TypeDesc} (h:tyb (.slice e) td=true):td = .slice e:=by
 cases td <;> try (cases h;done)
 rw [Nat.eq_of_beq_eq_true h]
theorem zf4 {n e:Nat} {td:TypeDesc} (h:tyb (.array n e) td=true):td = .array n e:=by
 cases td <;> try (cases h;done)
 simp only [tyb,Bool.and_eq_true] at h;rw [Nat.eq_of_beq_eq_true h.1,Nat.eq_of_beq_eq_true h.2]
theorem znm {fs:List (Nat × Nat)} {td:TypeDesc} (h:tyb (.struct fs) td=true):∃ gs,td = .struct gs/\gs.toList.map (fun f=>(f.type,f.offset))=fs:=by
 cases td <;> try (cases h;done)
 exact⟨_,rfl,of_decide_eq_true h⟩
theorem zl0 {fs:List (Nat × Nat)} {gs:Array Field} (h:gs.toList.map (fun f=>(f.type,f.offset))=fs) {i ft off:Nat} (hf:fs[i]? = some (ft,off)):∃ f,gs[i]? = some f/\f.type=ft/\f.offset=off:=by
 subst h;simp only [List.getElem?_map,Option.map_eq_some_iff,Prod.mk.injEq,Array.getElem?_toList] at hf;obtain⟨f,h1,h2,h3⟩:=hf;exact⟨f,h1,h2,h3⟩
theorem zdh {P:Program} {T:Tab} (hT:TOk P T) {e:Env} {h:zaa} {o:Oper} {v:Value} (hp:pev T e o.op=some v):Yl P e h o v:=by
 intro ρ w hA hw;unfold execOp;generalize o.op=op at hp;unfold pev at hp;split at hp
 ·simp [hA _ _ hp]
 ·simp [hA _ _ hp]
 ·split at hp
  ·rename_i hc;simp [hA _ _ hc,hA _ _ hp,asBool]
  ·rename_i hc;simp [hA _ _ hc,hA _ _ hp,asBool]
  ·cases hp
 ·split at hp
  ·rename_i h1 h2
   split at hp
   ·rename_i hk;subst hk
    split at hp
    ·cases hp
    ·rename_i hb;simp only [Option.some.injEq] at hp;subst hp
     simp [hA _ _ h1,hA _ _ h2,binOp,Op.intDiv,hb,za5]
   ·cases hp
  ·cases hp
 ·split at hp
  ·rename_i h1 h2
   split at hp
   ·rename_i hk;subst hk
    split at hp
    ·cases hp
    ·rename_i hb;simp only [Option.some.injEq] at hp;subst hp
     simp [hA _ _ h1,hA _ _ h2,binOp,Op.intDiv,hb,za5]
   ·cases hp
  ·cases hp
 ·split at hp
  ·rename_i h1 h2
   split at hp
   ·cases hp
   ·rename_i hb;simp only [Option.some.injEq] at hp;subst hp
    simp [hA _ _ h1,hA _ _ h2,binOp_shl,Op.shift,hb,shl,za5]
  ·cases hp
 ·split at hp
  ·rename_i h1 h2
   split at hp
   ·cases hp
   ·rename_i hb;simp only [Option.some.injEq] at hp;subst hp
    simp [hA _ _ h1,hA _ _ h2,binOp_shr,Op.shift,hb,shr,za5]
  ·cases hp
 ·split at hp
  ·rename_i h1 h2
   simp [hA _ _ h1,hA _ _ h2,qcb hT hp,za5 _ _ _ _ _ _ (.inr (zva hp))]
  ·cases hp
 ·split at hp
  ·rename_i h1
   simp only [Option.some.injEq] at hp;subst hp;simp [hA _ _ h1,Op.unary]
  ·cases hp
 ·split at hp
  ·rename_i h1
   simp only [Option.some.injEq] at hp;subst hp;simp [hA _ _ h1,Op.unary,Op.intArith]
  ·cases hp
 ·split at hp
  ·rename_i h0 h1 h2
   simp only [Option.some.injEq] at hp;subst hp;obtain⟨sd,_,s1,_⟩:=zee (hT _ _ h0);obtain⟨td,k1,k3⟩:=zai hT h1;rw [zjx k3] at k1;simp [hA _ _ h2,convert,run_underlying s1,run_underlying k1,Conv.intToInt]
  ·rename_i h0 h1 h2
   simp only [Option.some.injEq] at hp;subst hp;obtain⟨sd,_,s1,_⟩:=zee (hT _ _ h0);obtain⟨td,k1,k3⟩:=zai hT h1;rw [zen k3] at k1;simp [hA _ _ h2,convert,run_underlying s1,run_underlying k1]
  ·cases hp
 ·split at hp
  ·rename_i h1
   simp [hA _ _ h1,Instr.extract];simp at hp;simp [hp]
  ·cases hp
 ·split at hp
  ·rename_i h1 h2
   split at hp
   ·rename_i ft off hf
    split at hp
    ·rename_i hn
     simp only [Option.some.injEq] at hp;subst hp;obtain⟨td,k1,k3⟩:=zai hT h1;obtain⟨gs,rfl,hgs⟩:=znm k3;obtain⟨f,f1,f2,f3⟩:=zl0 hgs hf;subst f2;subst f3;simp [hA _ _ h2,Instr.fieldAt,run_underlying k1,f1,Instr.sureAddr,fieldPlace,zah (hT _ _ hn)]
    ·cases hp
   ·cases hp
  ·cases hp
 ·split at hp
  ·rename_i h1 h2
   split at hp
   ·rename_i ft off hf
    split at hp
    ·rename_i d n _ _ hn
     obtain⟨td,k1,k3⟩:=zai hT h1;obtain⟨gs,rfl,hgs⟩:=znm k3;obtain⟨f,f1,f2,f3⟩:=zl0 hgs hf;subst f2;subst f3
     cases hd:isA d with
     | true =>
      simp only [hd,Option.some.injEq] at hp;subst hp;simp [hA _ _ h2,Instr.field,run_underlying k1,f1,part,asAgg,zdw (hT _ _ hn),hd,zah (hT _ _ hn)];apply Array.toList_inj.1
      simp [List.drop_take]
     | false =>
      simp only [hd] at hp;simp at hp;simp [hA _ _ h2,Instr.field,run_underlying k1,f1,part,asAgg,zdw (hT _ _ hn),hd,hp]
    ·cases hp
   ·cases hp
  ·cases hp
 ·rename_i as' ts
  split at hp
  ·rename_i x t ha ht
   have ha':as' = #[x]:=Array.toList_inj.1 (by simpa using ha);have ht':ts = #[t]:=Array.toList_inj.1 (by simpa using ht);subst ha';subst ht';split at hp
   ·rename_i h1 h2
    simp only [Option.some.injEq] at hp;subst hp;obtain⟨td,k1,k3⟩:=zai hT h1;rw [zce k3] at k1;simp [resolve,invoke,builtin,hA _ _ h2,Builtin.len_,run_underlying k1,goInt]
   ·rename_i h1 h2
    simp only [Option.some.injEq] at hp;subst hp;obtain⟨td,k1,k3⟩:=zai hT h1;rw [zen k3] at k1;simp [resolve,invoke,builtin,hA _ _ h2,Builtin.len_,run_underlying k1,goInt]
   ·rename_i h1 h2
    simp only [Option.some.injEq] at hp;subst hp;obtain⟨td,k1,k3⟩:=zai hT h1;rw [zf4 k3] at k1;simp [resolve,invoke,builtin,hA _ _ h2,Builtin.len_,run_underlying k1,goInt]
   ·cases hp
  ·cases hp
 ·rename_i as' ts
  split at hp
  ·rename_i x y ha
   have ha':as' = #[x,y]:=Array.toList_inj.1 (by simpa using ha);subst ha';split at hp
   ·rename_i h1 h2
    simp only [Option.some.injEq] at hp;subst hp;simp [resolve,invoke,builtin,hA _ _ h1,hA _ _ h2,Builtin.min_,Builtin.min2]
   ·cases hp
  ·cases hp
 ·rename_i as' ts
  split at hp
  ·rename_i x y ha
   have ha':as' = #[x,y]:=Array.toList_inj.1 (by simpa using ha);subst ha';split at hp
   ·rename_i h1 h2
    simp only [Option.some.injEq] at hp;subst hp;simp [resolve,invoke,builtin,hA _ _ h1,hA _ _ h2,Builtin.max_,Builtin.max2]
   ·cases hp
  ·cases hp
 ·cases hp
end Go.Q
end

/- A part of the proof of statements of this seat: lemmas, no statement of their own. -/
import Derived.Test.YtmilimlmimckbaaGreatDoorYoZac
import Derived.Test.YtmilimlmimckbaaGreatDoorYoZad
import Derived.Test.YtmilimlmimckbaaGreatDoorYoZab
set_option linter.unusedVariables false
set_option linter.unusedSimpArgs false
section
namespace Go.Q
section
variable {c:Cx} {lops:List Oper} {Q:Exit->Act->World->Prop} {done dead:List Nat} {pend D:List Pn} {e:Env} {h:zaa} {listed:Array Bool} {a:Act}
def qnc (c:Cx) (lops:List Oper) (Q:Exit->Act->World->Prop) (done dead:List Nat) (pend:List Pn) (e:Env) (h:zaa) (i:Nat):Prop :=
 ∀ fuel D listed a w,cnt listed<=fuel+1->Inv c lops done dead pend e D listed a->WW c.D c.W0 h w->i ∉ done->un listed i->(∀ p,zao lops p i=true->¬ un listed p) ->
  wpOp c.P lops.toArray Q i (wpAny c.P .any lops.toArray Q fuel (listed.setIfInBounds i true)) a w
def qg8 (lops:List Oper) (done dead dead' A:List Nat) (i:Nat):Bool:=!mem done i && !mem dead i&&ancOk lops i A&&dead'.all fun x=>mem A x||mem dead x
def qgs (lops:List Oper) (done L:List Nat):Bool :=
 (List.range lops.length).all fun j=>mem (L++done) j||(List.range j).any fun p=>zao lops p j && !mem done p
theorem qi3 (i:Nat) (A dead':List Nat) {o:Oper} {Φ:Value->zaa->Prop} {ei:Env} (hwf:wfR lops=true) (hp:PFs c lops h dead pend) (hside:qg8 lops done dead dead' A i=true) (hs:Sub ei e) (hk:zdq lops done i ei=true)
  (ho:lops[i]? = some o) (hdk:dOk c.N o.dst=true) (hw:wnt lops ei o=some true) (hy:YE c.D c.P ei h o Φ)
  (H:∀ v h',Φ v h'->Sim c lops Q (i :: done) dead' pend (pu e o.dst v) h'):qnc c lops Q done dead pend e h i:=by
 simp only [wfR,Bool.and_eq_true] at hwf;simp only [qg8,Bool.and_eq_true,Bool.not_eq_true',List.all_eq_true,Bool.or_eq_true] at hside;obtain⟨⟨⟨hi,hid⟩,hA⟩,hdd⟩:=hside;have hlt:i<lops.length:=(List.getElem?_eq_some_iff.1 ho).1;have hi':=not_mem hi;intro fuel D listed a w hf I hww hj hu hpre;have hjl:=hlt;obtain⟨j,hji⟩:∃ j,j=i:=⟨i,rfl⟩
 subst hji;have av:Fr c.N ei a:=I.fr (x:=⟨j,undef,ei⟩) hu (I.look hwf.2 hs hk) hpre;have hds:za9 lops j=o.dst:=by simp [za9,ho]
 unfold wpOp;simp only [List.getElem?_toArray,ho,zda hw av,if_true]
 left
 refine hy a w av.agr hww.heap _ _ fun v w' hw' hΦ=>?_;have I1:=I.fix (v:=v) hwf.2 hi' (not_mem hid) hlt hs hk;have I2:=I1.come hwf.2 (x:=⟨j,v,ei⟩) (by simp) hu hpre (by rw [hds];exact hdk);rw [hds] at I2
 -- those that 'i' waited for have come up
 have anc:∀ n x,lops.length-x<=n->x∈A->¬ un listed x:=by
  intro n
  induction n with
  | zero =>
   intro x hx hxA;simp only [ancOk,List.all_eq_true,List.any_eq_true] at hA;obtain⟨b,_,hb⟩:=hA x hxA;have:=zg6 hwf.1 hb
   omega
  | succ n ih =>
   intro x hx hxA;have hA':=hA;simp only [ancOk,List.all_eq_true,List.any_eq_true] at hA';obtain⟨b,hbm,hb⟩:=hA' x hxA;have hbl:=zg6 hwf.1 hb;rcases List.mem_cons.1 hbm with rfl | hbm
   ·exact hpre x hb
   ·exact I.dc b hbl.2 (ih b (by omega) hbm) x hb
 refine H v w'.heap hΦ fuel (⟨j,v,ei⟩ :: D) _ _ _ (by have:=zic hu;omega) ?_ (hww.trans hw')
 have pl:∀ x∈(⟨j,v,ei⟩:Pn) :: D,un (listed.setIfInBounds j true) x.j->x∈pend/\x.j ∉ dead':=fun x hx hl=>by
  obtain⟨h1,h3⟩:=I2.pd x hx hl;have h2:=(ztt (zvm hu)).1 hl;rcases List.mem_cons.1 h1 with rfl | h1
  ·exact absurd rfl h2.2
  ·refine⟨h1,fun hh=>?_⟩
   rcases hdd x.j hh with hA1 | hA1
   ·exact anc _ _ (Nat.le_refl _) (zcd.1 hA1) h2.1
   ·exact h3 (zcd.1 hA1)
 exact⟨I2.sz,I2.d,I2.n,I2.jd,I2.dj,I2.uq,I2.dn,I2.dc,pl,fun x hx=>I2.pin x (List.mem_cons_of_mem _ hx),I2.val,I2.env,I2.ops⟩
theorem qlz (i j:Nat) {A B:Prop} (hwf:wfR lops=true) (hp:PFs c lops h dead pend) (honly:qgs lops done [i,j]=true) (hi:(!mem done i&&Nat.blt i lops.length)=true) (H:A/\B) (h1:A->qnc c lops Q done dead pend e h i) (h2:B->qnc c lops Q done dead pend e h j):Sim c lops Q done dead pend e h:=by
 simp only [wfR,Bool.and_eq_true] at hwf;simp only [Bool.and_eq_true,Bool.not_eq_true',Nat.blt_eq] at hi;refine zpb hwf.1 hwf.2 hp (fun D listed a w I hw hn=>absurd (I.dn i hi.2 (hn i)) (not_mem hi.1)) fun fuel D listed a w x hf I hww hx hxl hu hpre=>?_;simp only [qgs,List.all_eq_true,List.mem_range,Bool.or_eq_true,List.any_eq_true,Bool.and_eq_true,Bool.not_eq_true'] at honly;rcases honly x hxl with h3 | ⟨p,hpj,hp1,hp2⟩
 ·rcases List.mem_append.1 (zcd.1 h3) with h4 | h4
  ·simp only [List.mem_cons,List.not_mem_nil,or_false] at h4
   rcases h4 with rfl | rfl
   ·exact h1 H.1 fuel D listed a w hf I hww hx hu hpre
   ·exact h2 H.2 fuel D listed a w hf I hww hx hu hpre
  ·exact absurd h4 hx
 ·exact absurd (I.dn p (by omega) (hpre p hp1)) (not_mem hp2)
end
end Go.Q
end
section
namespace Go.Q
section
variable {c:Cx} {lops:List Oper} {Q:Exit->Act->World->Prop} {done dead:List Nat} {pend:List Pn} {e:Env} {h:zaa}
end
end Go.Q
end
section
namespace Go.Q
open Go.RowKit
abbrev ad (b:Nat):Addr:=⟨b,0,none⟩
abbrev pt (b:Nat):Value:=.pointer (some ⟨b,0,none⟩)
section
variable {c:Cx} {lops:List Oper} {Q:Exit->Act->World->Prop} {done dead:List Nat} {pend D:List Pn} {e:Env} {h:zaa}
end
section
variable {c:Cx} {lops l:List Oper} {x:Code} {Q:Exit->Act->World->Prop} {K:Act->World->Prop} {e:Env} {h:zaa}
theorem xJ {α:Type} {E:α->Env} {Φ:α->zaa->Prop} (s:α) (H:Φ s h) (hs:Sub (E s) e:=by repeat (first | exact trivial | refine⟨rfl,?_⟩)):gex c (Exit.then (Jn c E Φ) Q) .normal e h:=zxg s H hs
theorem wJ {α:Type} {E:α->Env} {Φ:α->zaa->Prop} (s:α) (H:Φ s h) (hs:Sub (E s) e:=by repeat (first | exact trivial | refine⟨rfl,?_⟩)):gop c lops Q (Jn c E Φ) [] e h:=qm8 s H hs
end
end Go.Q
end
section
namespace Go.Q
abbrev PL:=List (Bool × Pn)
def PFx (c:Cx) (lops:List Oper) (h:zaa) (dead:List Nat):PL->Prop
 | []=>True
 | x :: r=>(bif mem dead x.2.j then True else bif x.1 then ∀ h,PF c lops h x.2 else PF c lops h x.2)/\PFx c lops h dead r
def fg:PL->List Pn
 | []=>[]
 | x :: r=>x.2 :: fg r
def SG (c:Cx) (lops:List Oper) (Q:Exit->Act->World->Prop) (done dead:List Nat) (pend:PL) (e:Env) (h:zaa):Prop :=
 wfR lops=true->PFx c lops h dead pend->Sim c lops Q done dead (fg pend) e h
def SGI (c:Cx) (lops:List Oper) (Q:Exit->Act->World->Prop) (done dead:List Nat) (pend:PL) (e:Env) (h:zaa) (i:Nat):Prop :=
 wfR lops=true->PFx c lops h dead pend->qnc c lops Q done dead (fg pend) e h i
def zu5 (dead:List Nat):PL->List Pn
 | []=>[]
 | x :: r=>bif x.1||mem dead x.2.j then zu5 dead r else x.2 :: zu5 dead r
def Ask (c:Cx) (lops:List Oper) (h:zaa):List Pn->Prop->Prop
 | [],G=>G
 | x :: r,G=>PF c lops h x/\Ask c lops h r G
def selE:List Nat->Env->Env
 | [],_=>[]
 | t :: l,e=>(t,(lkO e t).getD undef) :: selE l e
def inE:List Nat->Env->Bool
 | [],_=>true
 | t :: l,e=>(lkO e t).isSome&&inE l e
theorem zpw:∀ {l:List Nat} {e:Env},inE l e=true->Sub (selE l e) e
 | [],_,_=>trivial
 | t :: l,e,h=>by
  simp only [inE,Bool.and_eq_true] at h;refine⟨?_,zpw h.2⟩
  cases hl:lkO e t with
  | none=>simp [hl] at h
  | some v=>rfl
def zu1 (lops:List Oper) (done:List Nat) (i:Nat):List Nat->Bool
 | []=>true
 | t :: l=>zxs lops done i t&&zu1 lops done i l
theorem zkk {lops:List Oper} {done:List Nat} {i:Nat} {e:Env}:∀ {l:List Nat},zu1 lops done i l=true->zdq lops done i (selE l e)=true
 | [],_=>rfl
 | t :: l,h=>by
  simp only [zu1,Bool.and_eq_true] at h;simp only [selE,zdq,Bool.and_eq_true];exact⟨h.1,zkk h.2⟩
def sdP (lops:List Oper) (done dead:List Nat) (i:Nat) (l:List Nat) (e:Env):Bool:=zvd lops done dead i&&zu1 lops done i l&&inE l e
def ancs (lops:List Oper) (i:Nat):Nat->List Nat->List Nat
 | 0,A=>A
 | j+1,A=>ancs lops i j (bif (i :: A).any (fun b=>zao lops j b) then j :: A else A)
def dd (lops:List Oper) (dead:List Nat) (i:Nat):List Nat:=ancs lops i i []++dead
def sdE (lops:List Oper) (done dead:List Nat) (i:Nat) (l:List Nat) (e:Env):Bool:=zwu lops done dead (dd lops dead i) (ancs lops i i []) i&&zu1 lops done i l&&inE l e
def sdI (lops:List Oper) (done dead:List Nat) (i:Nat) (l:List Nat) (e:Env):Bool:=qg8 lops done dead (dd lops dead i) (ancs lops i i []) i&&zu1 lops done i l&&inE l e
inductive DD:Option Tmp->Option Tmp->Prop
 | s {x:Option Tmp} {d:Tmp}:x=some d->DD x (some d)
 | n {x:Option Tmp}:x=none->DD x none
theorem DD.eq {x y:Option Tmp} (h:DD x y):x=y:=by cases h <;> assumption
def wni (lops:List Oper) (e:Env) (i:Nat):Option Bool:=match lops[i]? with | some o=>wnt lops e o | none=>none
def pvi (T:Tab) (lops:List Oper) (e:Env) (i:Nat):Option Value:=match lops[i]? with | some o=>pev T e o.op | none=>none
theorem PFx.pfs {c:Cx} {lops:List Oper} {h:zaa} {dead:List Nat}:∀ {l:PL},PFx c lops h dead l->PFs c lops h dead (fg l)
 | [],_=>trivial
 | x :: r,k=>by
  refine⟨?_,PFx.pfs k.2⟩;have k1:=k.1
  cases hm:mem dead x.2.j with
  | true=>trivial
  | false =>
   rw [hm] at k1
   cases hx:x.1 with
   | true=>rw [hx] at k1;exact k1 h
   | false=>rw [hx] at k1;exact k1
theorem zyh {a b:List Nat} {x:Nat}:mem (a++b) x=(mem a x||mem b x):=by simp [mem,List.any_append]
theorem PFx.next {c:Cx} {lops:List Oper} {h h':zaa} {A dead:List Nat}:∀ {l:PL},PFx c lops h dead l->Ask c lops h' (zu5 (A++dead) l) True->PFx c lops h' (A++dead) l
 | [],_,_=>trivial
 | x :: r,k,a=>by
  have k1:=k.1;simp only [zu5] at a;simp only [PFx]
  cases hm:mem (A++dead) x.2.j with
  | true =>
   rw [hm,Bool.or_true] at a
   exact⟨trivial,PFx.next k.2 a⟩
  | false =>
   rw [zyh,Bool.or_eq_false_iff] at hm;rw [hm.2] at k1
   cases hx:x.1 with
   | true =>
    rw [hx,Bool.true_or] at a;rw [hx] at k1
    exact⟨k1,PFx.next k.2 a⟩
   | false =>
    rw [hx,Bool.false_or,zyh,hm.1,hm.2] at a;exact⟨a.1,PFx.next k.2 a.2⟩
theorem Ask.both {c:Cx} {lops:List Oper} {h:zaa} {G:Prop}:∀ {l:List Pn},Ask c lops h l G->Ask c lops h l True/\G
 | [],k=>⟨trivial,k⟩
 | x :: r,k=>⟨⟨k.1,(Ask.both k.2).1⟩,(Ask.both k.2).2⟩
section
variable {c:Cx} {lops:List Oper} {Q:Exit->Act->World->Prop} {done dead:List Nat} {pend:PL} {e:Env} {h:zaa}
theorem gN (i:Nat) (l:List Nat) {v:Value} {d:Option Tmp} (b:Bool) (hp:bif b then ∀ h,PF c lops h ⟨i,v,selE l e⟩ else PF c lops h ⟨i,v,selE l e⟩)
  (H:SG c lops Q (i :: done) dead ((b,⟨i,v,selE l e⟩) :: pend) (pu e d v) h) (hd:DD (za9 lops i) d) (hc:sdP lops done dead i l e=true):SG c lops Q done dead pend e h:=by
 intro hwf hpf;simp only [sdP,Bool.and_eq_true] at hc;have hn:mem dead i=false:=by have:=hc.1.1;simp only [zvd,Bool.and_eq_true,Bool.not_eq_true'] at this;exact this.1.2
 refine zye hwf hc.1.1 (zpw hc.2) (zkk hc.1.2) hd.eq (H hwf ⟨?_,hpf⟩);simp only [hn];exact hp
theorem gT (i:Nat) (l:List Nat) {T:Tab} (hT:TOk c.P T) {v:Value} {d:Option Tmp}
  (H:SG c lops Q (i :: done) dead ((true,⟨i,v,selE l e⟩) :: pend) (pu e d v) h) (hd:DD (za9 lops i) d:=by first | exact .s rfl | exact .n rfl) (hp:pvi T lops (selE l e) i=some v:=by exact rfl)
  (hc:sdP lops done dead i l e=true:=by kernel_rfl) (hk:dOk c.N d=true:=by kernel_rfl) (hw:wni lops (selE l e) i=some true:=by kernel_rfl):SG c lops Q done dead pend e h:=by
 refine gN i l true ?_ H hd hc;intro h;unfold pvi at hp;unfold wni at hw
 cases ho:lops[i]? with
 | none=>simp [ho] at hp
 | some o =>
  simp only [ho] at hp hw;exact qsm hT ho (by have:=hd.eq;simp only [za9,ho] at this;rw [this];exact hk) hw hp
theorem gS (i:Nat) (l:List Nat) {d:Option Tmp}
  (H:SG c lops Q (i :: done) dead ((true,⟨i,undef,selE l e⟩) :: pend) (pu e d undef) h) (hd:DD (za9 lops i) d:=by first | exact .s rfl | exact .n rfl)
  (hc:sdP lops done dead i l e=true:=by kernel_rfl) (hk:dOk c.N d=true:=by kernel_rfl) (hw:wni lops (selE l e) i=some false:=by kernel_rfl):SG c lops Q done dead pend e h:=by
 refine gN i l true ?_ H hd hc;intro h;unfold wni at hw
 cases ho:lops[i]? with
 | none=>simp [ho] at hw
 | some o =>
  simp only [ho] at hw;exact qr0 ho (by have:=hd.eq;simp only [za9,ho] at this;rw [this];exact hk) hw
theorem gY (i:Nat) (l:List Nat) {o:Oper} {v:Value} {d:Option Tmp} (ho:lops[i]? = some o) (hy:∀ h,Yl c.P (selE l e) h o v)
  (H:SG c lops Q (i :: done) dead ((true,⟨i,v,selE l e⟩) :: pend) (pu e d v) h) (hd:DD (za9 lops i) d:=by first | exact .s rfl | exact .n rfl)
  (hc:sdP lops done dead i l e=true:=by kernel_rfl) (hk:dOk c.N d=true:=by kernel_rfl) (hw:wnt lops (selE l e) o=some true:=by kernel_rfl):SG c lops Q done dead pend e h :=
 gN i l true (fun h=>zvy ho (by have:=hd.eq;simp only [za9,ho] at this;rw [this];exact hk) hw (hy h)) H hd hc
theorem gL (i:Nat) (l:List Nat) {o:Oper} {v:Value} {d:Option Tmp} (ho:lops[i]? = some o) (hy:Yl c.P (selE l e) h o v)
  (H:SG c lops Q (i :: done) dead ((false,⟨i,v,selE l e⟩) :: pend) (pu e d v) h) (hd:DD (za9 lops i) d:=by first | exact .s rfl | exact .n rfl)
  (hc:sdP lops done dead i l e=true:=by kernel_rfl) (hk:dOk c.N d=true:=by kernel_rfl) (hw:wnt lops (selE l e) o=some true:=by kernel_rfl):SG c lops Q done dead pend e h :=
 gN i l false (zvy ho (by have:=hd.eq;simp only [za9,ho] at this;rw [this];exact hk) hw hy) H hd hc
theorem gYe (i:Nat) (l:List Nat) {o:Oper} {v v':Value} {d:Option Tmp} (ho:lops[i]? = some o) (hy:∀ h,Yl c.P (selE l e) h o v) (hv:v'=v)
  (H:SG c lops Q (i :: done) dead ((true,⟨i,v',selE l e⟩) :: pend) (pu e d v') h) (hd:DD (za9 lops i) d:=by first | exact .s rfl | exact .n rfl)
  (hc:sdP lops done dead i l e=true:=by kernel_rfl) (hk:dOk c.N d=true:=by kernel_rfl) (hw:wnt lops (selE l e) o=some true:=by kernel_rfl):SG c lops Q done dead pend e h:=by
 subst hv;exact gY i l ho hy H hd hc hk hw
theorem gR {o:Oper} {x:Pn} {r:List Pn} {G:Prop} (ho:lops[x.j]? = some o) (hy:Yl c.P x.e h o x.v) (H:Ask c lops h r G) (hk:dOk c.N o.dst=true:=by kernel_rfl) (hw:wnt lops x.e o=some true:=by kernel_rfl):Ask c lops h (x :: r) G :=
 ⟨zvy ho hk hw hy,H⟩
theorem gZ0 {G:Prop} (H:G):Ask c lops h [] G:=H
theorem gE (i:Nat) (l:List Nat) {o:Oper} {d:Option Tmp} {Φ:Value->zaa->Prop} (ho:lops[i]? = some o) (hy:YE c.D c.P (selE l e) h o Φ)
  (H:∀ v h',Φ v h'->Ask c lops h' (zu5 (dd lops dead i) pend) (SG c lops Q (i :: done) (dd lops dead i) pend (pu e d v) h')) (hd:DD (za9 lops i) d) (hc:sdE lops done dead i l e=true) (hk:dOk c.N d=true) (hw:wnt lops (selE l e) o=some true) :
  SG c lops Q done dead pend e h:=by
 intro hwf hpf;simp only [sdE,Bool.and_eq_true] at hc;have hdo:o.dst=d:=by have:=hd.eq;simpa only [za9,ho] using this
 refine qej i (ancs lops i i []) (dd lops dead i) hwf hpf.pfs hc.1.1 (zpw hc.2) (zkk hc.1.2) ho (by rw [hdo];exact hk) hw hy fun v h' hΦ=>?_;obtain⟨h1,h2⟩:=(H v h' hΦ).both;rw [hdo];exact h2 hwf (hpf.next h1)
theorem gEI (i:Nat) (l:List Nat) {o:Oper} {d:Option Tmp} {Φ:Value->zaa->Prop} (ho:lops[i]? = some o) (hy:YE c.D c.P (selE l e) h o Φ)
  (H:∀ v h',Φ v h'->Ask c lops h' (zu5 (dd lops dead i) pend) (SG c lops Q (i :: done) (dd lops dead i) pend (pu e d v) h')) (hd:DD (za9 lops i) d) (hc:sdI lops done dead i l e=true) (hk:dOk c.N d=true) (hw:wnt lops (selE l e) o=some true) :
  SGI c lops Q done dead pend e h i:=by
 intro hwf hpf;simp only [sdI,Bool.and_eq_true] at hc;have hdo:o.dst=d:=by have:=hd.eq;simpa only [za9,ho] using this
 refine qi3 i (ancs lops i i []) (dd lops dead i) hwf hpf.pfs hc.1.1 (zpw hc.2) (zkk hc.1.2) ho (by rw [hdo];exact hk) hw hy fun v h' hΦ=>?_;obtain⟨h1,h2⟩:=(H v h' hΦ).both;rw [hdo];exact h2 hwf (hpf.next h1)
theorem zm9 {l:List Pn} {G:Prop} (hl:l.isEmpty=true) (H:G):Ask c lops h l G:=by
 cases l with
 | nil=>exact H
 | cons x r=>simp at hl
theorem gCr (i:Nat) (l:List Nat) {o:Oper} {d:Option Tmp} {f:FuncId} {as':List Operand} {ts:Array TypeId} {vs:List Value} {α:Type} {en:α->Value} {A:α->zaa->Prop} (hf:zad c.P f) (hcl:CallsHD c.D c.P f vs.toArray h fun v h'=>∃ r,v=en r/\A r h')
  (H:∀ r h',A r h'->Ask c lops h' (zu5 (dd lops dead i) pend) (SG c lops Q (i :: done) (dd lops dead i) pend (pu e d (en r)) h')) (ho:lops[i]? = some o:=by exact rfl) (hop:o.op = .call { callee:=.value (.func f),args:=as'.toArray,argTypes:=ts }:=by exact rfl) (hv:evs (selE l e) as'=some vs:=by exact rfl)
  (hd:DD (za9 lops i) d:=by first | exact .s rfl | exact .n rfl) (hc:sdE lops done dead i l e=true:=by kernel_rfl) (hk:dOk c.N d=true:=by kernel_rfl) (hw:wnt lops (selE l e) o=some true:=by kernel_rfl):SG c lops Q done dead pend e h:=by
 have:=zt1 (P:=c.P) (e:=selE l e) (o:=o) hf hop rfl hv;simp only [List.append_toArray,List.nil_append,Array.append_empty,Array.empty_append] at this;exact gE i l ho (YE.of_c hcl this) (by rintro v h' ⟨r,rfl,hA⟩;exact H r h' hA) hd hc hk hw
theorem gC (i:Nat) (l:List Nat) {o:Oper} {d:Option Tmp} {f:FuncId} {as':List Operand} {ts:Array TypeId} {vs:List Value} {α:Type} {en:α->Value} {A:α->zaa->Prop} (hf:zad c.P f) (hcl:CallsHD c.D c.P f vs.toArray h fun v h'=>∃ r,v=en r/\A r h')
  (H:∀ r h',A r h'->SG c lops Q (i :: done) (dd lops dead i) pend (pu e d (en r)) h') (ho:lops[i]? = some o:=by exact rfl) (hop:o.op = .call { callee:=.value (.func f),args:=as'.toArray,argTypes:=ts }:=by exact rfl) (hv:evs (selE l e) as'=some vs:=by exact rfl)
  (hd:DD (za9 lops i) d:=by first | exact .s rfl | exact .n rfl) (hc:sdE lops done dead i l e=true:=by kernel_rfl) (hk:dOk c.N d=true:=by kernel_rfl) (hw:wnt lops (selE l e) o=some true:=by kernel_rfl) (hl:(zu5 (dd lops dead i) pend).isEmpty=true:=by kernel_rfl):SG c lops Q done dead pend e h :=
 gCr i l hf hcl (fun r h' hA=>zm9 hl (H r h' hA)) ho hop hv hd hc hk hw
theorem gHr (i:Nat) (l:List Nat) {o:Oper} {d:Option Tmp} {v:Value} {h':zaa} (ho:lops[i]? = some o) (hy:Yh c.P (selE l e) h o v h')
  (H:Ask c lops h' (zu5 (dd lops dead i) pend) (SG c lops Q (i :: done) (dd lops dead i) pend (pu e d v) h'))
  (hd:DD (za9 lops i) d:=by first | exact .s rfl | exact .n rfl) (hc:sdE lops done dead i l e=true:=by kernel_rfl) (hk:dOk c.N d=true:=by kernel_rfl) (hw:wnt lops (selE l e) o=some true:=by kernel_rfl):SG c lops Q done dead pend e h :=
 gE i l ho (YE.of_h hy) (by rintro _ _ ⟨rfl,rfl⟩;exact H) hd hc hk hw
theorem gH (i:Nat) (l:List Nat) {o:Oper} {d:Option Tmp} {v:Value} {h':zaa} (ho:lops[i]? = some o) (hy:Yh c.P (selE l e) h o v h')
  (H:SG c lops Q (i :: done) (dd lops dead i) pend (pu e d v) h')
  (hd:DD (za9 lops i) d:=by first | exact .s rfl | exact .n rfl) (hc:sdE lops done dead i l e=true:=by kernel_rfl) (hk:dOk c.N d=true:=by kernel_rfl) (hw:wnt lops (selE l e) o=some true:=by kernel_rfl) (hl:(zu5 (dd lops dead i) pend).isEmpty=true:=by kernel_rfl):SG c lops Q done dead pend e h :=
 gHr i l ho hy (zm9 hl H) hd hc hk hw
theorem gHI (i:Nat) (l:List Nat) {o:Oper} {d:Option Tmp} {v:Value} {h':zaa} (ho:lops[i]? = some o) (hy:Yh c.P (selE l e) h o v h')
  (H:SG c lops Q (i :: done) (dd lops dead i) pend (pu e d v) h')
  (hd:DD (za9 lops i) d:=by first | exact .s rfl | exact .n rfl) (hc:sdI lops done dead i l e=true:=by kernel_rfl) (hk:dOk c.N d=true:=by kernel_rfl) (hw:wnt lops (selE l e) o=some true:=by kernel_rfl) (hl:(zu5 (dd lops dead i) pend).isEmpty=true:=by kernel_rfl):SGI c lops Q done dead pend e h i :=
 gEI i l ho (YE.of_h hy) (by rintro _ _ ⟨rfl,rfl⟩;exact zm9 hl H) hd hc hk hw
theorem gA (i:Nat) (l:List Nat) {o:Oper} {d:Option Tmp} {Φ:Value->zaa->Prop} (ho:lops[i]? = some o) (hy:Ya c.P (selE l e) h o Φ)
  (H:∀ v h',Φ v h'->SG c lops Q (i :: done) (dd lops dead i) pend (pu e d v) h')
  (hd:DD (za9 lops i) d:=by first | exact .s rfl | exact .n rfl) (hc:sdE lops done dead i l e=true:=by kernel_rfl) (hk:dOk c.N d=true:=by kernel_rfl) (hw:wnt lops (selE l e) o=some true:=by kernel_rfl) (hl:(zu5 (dd lops dead i) pend).isEmpty=true:=by kernel_rfl):SG c lops Q done dead pend e h :=
 gE i l ho (YE.of_a hy) (fun v h' k=>zm9 hl (H v h' k)) hd hc hk hw
theorem gAI (i:Nat) (l:List Nat) {o:Oper} {d:Option Tmp} {Φ:Value->zaa->Prop} (ho:lops[i]? = some o) (hy:Ya c.P (selE l e) h o Φ)
  (H:∀ v h',Φ v h'->SG c lops Q (i :: done) (dd lops dead i) pend (pu e d v) h')
  (hd:DD (za9 lops i) d:=by first | exact .s rfl | exact .n rfl) (hc:sdI lops done dead i l e=true:=by kernel_rfl) (hk:dOk c.N d=true:=by kernel_rfl) (hw:wnt lops (selE l e) o=some true:=by kernel_rfl) (hl:(zu5 (dd lops dead i) pend).isEmpty=true:=by kernel_rfl):SGI c lops Q done dead pend e h i :=
 gEI i l ho (YE.of_a hy) (fun v h' k=>zm9 hl (H v h' k)) hd hc hk hw
theorem gI {b:Bool} {A B:Prop} (d:Nat) (H:if b then A else B) (h1:b=true->A->SG c lops Q done dead pend ((d,.bool true) :: e) h) (h2:b=false->B->SG c lops Q done dead pend ((d,.bool false) :: e) h) (hd:lkO e d=some (.bool b):=by exact rfl):SG c lops Q done dead pend e h :=
 fun hwf hp=>qgj d H hd (fun k a=>h1 k a hwf hp) (fun k a=>h2 k a hwf hp)
theorem gO (i j:Nat) {A B:Prop} (H:A/\B) (h1:A->SGI c lops Q done dead pend e h i) (h2:B->SGI c lops Q done dead pend e h j) (honly:qgs lops done [i,j]=true:=by kernel_rfl) (hi:(!mem done i&&Nat.blt i lops.length)=true:=by kernel_rfl):SG c lops Q done dead pend e h :=
 fun hwf hp=>qlz i j hwf hp.pfs honly hi H (fun a=>h1 a hwf hp) (fun a=>h2 a hwf hp)
theorem gZ (H:gex c Q .normal e h) (hall:(List.range lops.length).all (mem done)=true:=by kernel_rfl):SG c lops Q done dead pend e h :=
 fun hwf hp=>zsh hwf hp.pfs hall H
inductive SubS:List Nat->Env->Env->Prop
 | nil {e:Env}:SubS [] e []
 | cons {t:Nat} {v:Value} {l:List Nat} {e r:Env}:lkO e t=some v->SubS l e r->SubS (t :: l) e ((t,v) :: r)
theorem SubS.sub {l:List Nat} {e r:Env} (h:SubS l e r):Sub r e:=by
 induction h with
 | nil=>trivial
 | cons h1 _ ih=>exact⟨h1,ih⟩
theorem gB (l:List Nat) {id:Nat} {e':Env} (H:SG c lops Q [] [] [] e' h) (hs:SubS l e e':=by repeat (first | exact SubS.nil | (apply SubS.cons;exact rfl))) (hm:c.P.follows .mixedOrders=true:=by kernel_rfl) (hwf:wfR lops=true:=by kernel_rfl):gco c (Code.region id lops.toArray true) Q e h :=
 qo8 e' hm hwf hs.sub fun wf=>H wf trivial
end
end Go.Q
end
section
namespace Go.Q
open Go.RowKit
section
variable {c:Cx} {lops l:List Oper} {x y:Code} {Q:Exit->Act->World->Prop} {K:Act->World->Prop} {e:Env} {h:zaa} {o:Oper} {T:Tab}
theorem zS (H:gco c x (Exit.then (y.wp c.P Q) Q) e h):gco c (.seq x y) Q e h:=zcn H
theorem zR {id:Nat} (H:gop c lops Q (Q .normal) lops e h):gco c (.region id lops.toArray false) Q e h:=zal H
theorem zB {id:Nat} (H:gco c x (Exit.inBlock id Q) e h):gco c (.block id x) Q e h:=zph H
theorem zK (H:gex c Q .normal e h):gco c .skip Q e h:=zua H
theorem zA {i:Nat} (H:gex c Q .normal e h):gco c (.label i) Q e h:=qgc H
theorem zT (H:gex c Q .ret e h):gco c .ret Q e h:=zoj H
theorem zY {id:Nat} (H:gex c Q (.exit id) e h):gco c (.exit id) Q e h:=qd1 H
theorem zC (H:gco c x (Exit.noGoto Q) e h):gco c (.scope x) Q e h:=qg5 H
theorem zX (H:gco c y Q e h):gex c (Exit.then (y.wp c.P Q) Q) .normal e h:=zcr H
theorem zW (H:gex c Q .normal e h):gop c lops Q (Q .normal) [] e h:=zb9 H
theorem yL {id:Nat} (H:gex c Q .normal e h):gex c (Exit.inBlock id Q) .normal e h:=qgf H
theorem yE {id:Nat} {K:Act->World->Prop} (H:gex c Q (.exit id) e h):gex c (Exit.then K Q) (.exit id) e h:=qpe H
theorem yT {K:Act->World->Prop} (H:gex c Q .ret e h):gex c (Exit.then K Q) .ret e h:=qnp H
theorem yB {id:Nat} (H:gex c Q .ret e h):gex c (Exit.inBlock id Q) .ret e h:=qpd H
theorem yH {id:Nat} (H:gex c Q .normal e h):gex c (Exit.inBlock id Q) (.exit id) e h:=qq1 H
theorem yR (H:gex c Q .ret e h):gex c (Exit.noGoto Q) .ret e h:=qsg H
theorem vK {d:Nat} {v:Value} {e':Env} (H:lkO e d=some v) (hs:Sub e' e:=by repeat (first | exact trivial | refine⟨rfl,?_⟩)):gop c lops Q (Jn c (fun _:Unit=>[(d,v)]++e') (fun _ h'=>h'=h)) [] e h:=qm8 () rfl ⟨H,hs⟩
theorem vG {d:Nat} {b:Bool} (h1:b=true->gop c lops Q K l ((d,.bool true) :: e) h) (h2:b=false->gop c lops Q K l ((d,.bool false) :: e) h) (hd:lkO e d=some (.bool b):=by exact rfl):gop c lops Q K l e h:=qol hd h1 h2
theorem w1 {v:Value} (hT:TOk c.P T) (H:gop c lops Q K l (pu e o.dst v) h) (hp:pev T e o.op=some v:=by exact rfl) (hw:wnt lops e o=some true:=by kernel_rfl) (hd:dOk c.N o.dst=true:=by kernel_rfl):gop c lops Q K (o :: l) e h:=w_p hT hp hw hd H
theorem w2 {o1 o2:Oper} {v1 v2:Value} (hT:TOk c.P T) (H:gop c lops Q K l (pu (pu e o1.dst v1) o2.dst v2) h) (p1:pev T e o1.op=some v1:=by exact rfl) (g1:wnt lops e o1=some true:=by kernel_rfl) (d1:dOk c.N o1.dst=true:=by kernel_rfl) (p2:pev T (pu e o1.dst v1) o2.op=some v2:=by exact rfl) (g2:wnt lops (pu e o1.dst v1) o2=some true:=by kernel_rfl) (d2:dOk c.N o2.dst=true:=by kernel_rfl):gop c lops Q K (o1 :: o2 :: l) e h:=w_p hT p1 g1 d1 (w_p hT p2 g2 d2 H)
theorem w3 {o1 o2 o3:Oper} {v1 v2 v3:Value} (hT:TOk c.P T) (H:gop c lops Q K l (pu (pu (pu e o1.dst v1) o2.dst v2) o3.dst v3) h) (p1:pev T e o1.op=some v1:=by exact rfl) (g1:wnt lops e o1=some true:=by kernel_rfl) (d1:dOk c.N o1.dst=true:=by kernel_rfl) (p2:pev T (pu e o1.dst v1) o2.op=some v2:=by exact rfl) (g2:wnt lops (pu e o1.dst v1) o2=some true:=by kernel_rfl) (d2:dOk c.N o2.dst=true:=by kernel_rfl) (p3:pev T (pu (pu e o1.dst v1) o2.dst v2) o3.op=some v3:=by exact rfl) (g3:wnt lops (pu (pu e o1.dst v1) o2.dst v2) o3=some true:=by kernel_rfl) (d3:dOk c.N o3.dst=true:=by kernel_rfl):gop c lops Q K (o1 :: o2 :: o3 :: l) e h:=w_p hT p1 g1 d1 (w_p hT p2 g2 d2 (w_p hT p3 g3 d3 H))
theorem w4 {o1 o2 o3 o4:Oper} {v1 v2 v3 v4:Value} (hT:TOk c.P T) (H:gop c lops Q K l (pu (pu (pu (pu e o1.dst v1) o2.dst v2) o3.dst v3) o4.dst v4) h) (p1:pev T e o1.op=some v1:=by exact rfl) (g1:wnt lops e o1=some true:=by kernel_rfl) (d1:dOk c.N o1.dst=true:=by kernel_rfl) (p2:pev T (pu e o1.dst v1) o2.op=some v2:=by exact rfl) (g2:wnt lops (pu e o1.dst v1) o2=some true:=by kernel_rfl) (d2:dOk c.N o2.dst=true:=by kernel_rfl) (p3:pev T (pu (pu e o1.dst v1) o2.dst v2) o3.op=some v3:=by exact rfl) (g3:wnt lops (pu (pu e o1.dst v1) o2.dst v2) o3=some true:=by kernel_rfl) (d3:dOk c.N o3.dst=true:=by kernel_rfl) (p4:pev T (pu (pu (pu e o1.dst v1) o2.dst v2) o3.dst v3) o4.op=some v4:=by exact rfl) (g4:wnt lops (pu (pu (pu e o1.dst v1) o2.dst v2) o3.dst v3) o4=some true:=by kernel_rfl) (d4:dOk c.N o4.dst=true:=by kernel_rfl):gop c lops Q K (o1 :: o2 :: o3 :: o4 :: l) e h:=w_p hT p1 g1 d1 (w_p hT p2 g2 d2 (w_p hT p3 g3 d3 (w_p hT p4 g4 d4 H)))
theorem w5 {o1 o2 o3 o4 o5:Oper} {v1 v2 v3 v4 v5:Value} (hT:TOk c.P T) (H:gop c lops Q K l (pu (pu (pu (pu (pu e o1.dst v1) o2.dst v2) o3.dst v3) o4.dst v4) o5.dst v5) h) (p1:pev T e o1.op=some v1:=by exact rfl) (g1:wnt lops e o1=some true:=by kernel_rfl) (d1:dOk c.N o1.dst=true:=by kernel_rfl) (p2:pev T (pu e o1.dst v1) o2.op=some v2:=by exact rfl) (g2:wnt lops (pu e o1.dst v1) o2=some true:=by kernel_rfl) (d2:dOk c.N o2.dst=true:=by kernel_rfl) (p3:pev T (pu (pu e o1.dst v1) o2.dst v2) o3.op=some v3:=by exact rfl) (g3:wnt lops (pu (pu e o1.dst v1) o2.dst v2) o3=some true:=by kernel_rfl) (d3:dOk c.N o3.dst=true:=by kernel_rfl) (p4:pev T (pu (pu (pu e o1.dst v1) o2.dst v2) o3.dst v3) o4.op=some v4:=by exact rfl) (g4:wnt lops (pu (pu (pu e o1.dst v1) o2.dst v2) o3.dst v3) o4=some true:=by kernel_rfl) (d4:dOk c.N o4.dst=true:=by kernel_rfl) (p5:pev T (pu (pu (pu (pu e o1.dst v1) o2.dst v2) o3.dst v3) o4.dst v4) o5.op=some v5:=by exact rfl) (g5:wnt lops (pu (pu (pu (pu e o1.dst v1) o2.dst v2) o3.dst v3) o4.dst v4) o5=some true:=by kernel_rfl) (d5:dOk c.N o5.dst=true:=by kernel_rfl):gop c lops Q K (o1 :: o2 :: o3 :: o4 :: o5 :: l) e h:=w_p hT p1 g1 d1 (w_p hT p2 g2 d2 (w_p hT p3 g3 d3 (w_p hT p4 g4 d4 (w_p hT p5 g5 d5 H))))
theorem w6 {o1 o2 o3 o4 o5 o6:Oper} {v1 v2 v3 v4 v5 v6:Value} (hT:TOk c.P T) (H:gop c lops Q K l (pu (pu (pu (pu (pu (pu e o1.dst v1) o2.dst v2) o3.dst v3) o4.dst v4) o5.dst v5) o6.dst v6) h) (p1:pev T e o1.op=some v1:=by exact rfl) (g1:wnt lops e o1=some true:=by kernel_rfl) (d1:dOk c.N o1.dst=true:=by kernel_rfl) (p2:pev T (pu e o1.dst v1) o2.op=some v2:=by exact rfl) (g2:wnt lops (pu e o1.dst v1) o2=some true:=by kernel_rfl) (d2:dOk c.N o2.dst=true:=by kernel_rfl) (p3:pev T (pu (pu e o1.dst v1) o2.dst v2) o3.op=some v3:=by exact rfl) (g3:wnt lops (pu (pu e o1.dst v1) o2.dst v2) o3=some true:=by kernel_rfl) (d3:dOk c.N o3.dst=true:=by kernel_rfl) (p4:pev T (pu (pu (pu e o1.dst v1) o2.dst v2) o3.dst v3) o4.op=some v4:=by exact rfl) (g4:wnt lops (pu (pu (pu e o1.dst v1) o2.dst v2) o3.dst v3) o4=some true:=by kernel_rfl) (d4:dOk c.N o4.dst=true:=by kernel_rfl) (p5:pev T (pu (pu (pu (pu e o1.dst v1) o2.dst v2) o3.dst v3) o4.dst v4) o5.op=some v5:=by exact rfl) (g5:wnt lops (pu (pu (pu (pu e o1.dst v1) o2.dst v2) o3.dst v3) o4.dst v4) o5=some true:=by kernel_rfl) (d5:dOk c.N o5.dst=true:=by kernel_rfl) (p6:pev T (pu (pu (pu (pu (pu e o1.dst v1) o2.dst v2) o3.dst v3) o4.dst v4) o5.dst v5) o6.op=some v6:=by exact rfl) (g6:wnt lops (pu (pu (pu (pu (pu e o1.dst v1) o2.dst v2) o3.dst v3) o4.dst v4) o5.dst v5) o6=some true:=by kernel_rfl) (d6:dOk c.N o6.dst=true:=by kernel_rfl):gop c lops Q K (o1 :: o2 :: o3 :: o4 :: o5 :: o6 :: l) e h:=w_p hT p1 g1 d1 (w_p hT p2 g2 d2 (w_p hT p3 g3 d3 (w_p hT p4 g4 d4 (w_p hT p5 g5 d5 (w_p hT p6 g6 d6 H)))))
theorem zE (H:gco c y Q e h):gop c lops (Exit.then (y.wp c.P Q) Q) ((Exit.then (y.wp c.P Q) Q) .normal) [] e h:=H
theorem zL {id:Nat} (H:gex c Q .normal e h):gop c lops (Exit.inBlock id Q) ((Exit.inBlock id Q) .normal) [] e h:=H
theorem zQ {id:Nat} {z:Code} {ops:List Oper} (H:gop c ops (Exit.then (z.wp c.P Q) Q) ((Exit.then (z.wp c.P Q) Q) .normal) ops e h):gco c (.seq (.region id ops.toArray false) z) Q e h:=zcn (zal H)
theorem zF (s:List Nat) {e':Env} (H:gco c x Q e' h) (hs:SubS s e e':=by repeat (first | exact SubS.nil | (apply SubS.cons;exact rfl))):gco c x Q e h:=zdy e' hs.sub H
theorem vF (s:List Nat) {e':Env} (H:gop c lops Q K l e' h) (hs:SubS s e e':=by repeat (first | exact SubS.nil | (apply SubS.cons;exact rfl))):gop c lops Q K l e h:=qmt e' hs.sub H
theorem zI {t:Operand} {b:Bool} {A B:Prop} (H:if b then A else B) (h1:A->gco c x Q e h) (h2:B->gco c y Q e h) (hb:evO e t=some (.bool b):=by exact rfl):gco c (.cond t x y) Q e h:=qka H hb h1 h2
theorem zM {id id':Nat} (H:gex c Q (.exit id') e h) (hne:Nat.beq id' id=false:=by kernel_rfl):gex c (Exit.inBlock id Q) (.exit id') e h:=qrv hne H
theorem fE {D:Bool} {P:Program} {f:FuncId} {fn:Func} {x:Code} {args:List Value} {h:zaa} {Φ:Value->zaa->Prop} {N:Nat} (hf:P.funcs[f]? = some fn)
  (H:∀ w,gco ⟨P,N,w,D⟩ x (bodyPost P fn (Rt D w Φ)) (zmi 0 args) h) (hb:fn.body=some x:=by exact rfl) (hN:fn.ntmps=N:=by exact rfl) (hn:Nat.ble args.length N=true:=by kernel_rfl):CallsHD D P f args.toArray h Φ:=zg8 hf hb hN hn H
theorem ck {P:Program} {f:FuncId} {fn:Func} (hf:P.funcs[f]? = some fn) (h1:(fn.name == "runtime.NumGoroutine")=false:=by kernel_rfl) (h2:fn.body.isNone=false:=by kernel_rfl):zad P f:=⟨fn,hf,h1,h2⟩
theorem wS (H:gop c lops Q K l (pu e o.dst undef) h) (hw:wnt lops e o=some false:=by kernel_rfl) (hd:dOk c.N o.dst=true:=by kernel_rfl):gop c lops Q K (o :: l) e h:=zv8 hw hd H
theorem wY {v:Value} (hy:Yl c.P e h o v) (H:gop c lops Q K l (pu e o.dst v) h) (hw:wnt lops e o=some true:=by kernel_rfl) (hd:dOk c.N o.dst=true:=by kernel_rfl):gop c lops Q K (o :: l) e h:=w_y hy hw hd H
theorem wYe {v v':Value} (hy:Yl c.P e h o v) (hv:v'=v) (H:gop c lops Q K l (pu e o.dst v') h) (hw:wnt lops e o=some true:=by kernel_rfl) (hd:dOk c.N o.dst=true:=by kernel_rfl):gop c lops Q K (o :: l) e h:=qqz hy hv hw hd H
theorem wH {v:Value} {h':zaa} (hy:Yh c.P e h o v h') (H:gop c lops Q K l (pu e o.dst v) h') (hw:wnt lops e o=some true:=by kernel_rfl) (hd:dOk c.N o.dst=true:=by kernel_rfl):gop c lops Q K (o :: l) e h:=w_h hy hw hd H
theorem wA {Φ:Value->zaa->Prop} (hy:Ya c.P e h o Φ) (H:∀ v h',Φ v h'->gop c lops Q K l (pu e o.dst v) h') (hw:wnt lops e o=some true:=by kernel_rfl) (hd:dOk c.N o.dst=true:=by kernel_rfl):gop c lops Q K (o :: l) e h:=w_a hy hw hd H
theorem wC {f:FuncId} {as':List Operand} {ts:Array TypeId} {vs:List Value} {α:Type} {en:α->Value} {A:α->zaa->Prop}
  (hf:zad c.P f) (hc:CallsHD c.D c.P f vs.toArray h fun v h'=>∃ r,v=en r/\A r h') (H:∀ r h',A r h'->gop c lops Q K l (pu e o.dst (en r)) h')
  (ho:o.op = .call { callee:=.value (.func f),args:=as'.toArray,argTypes:=ts }:=by exact rfl) (hv:evs e as'=some vs:=by exact rfl) (hw:wnt lops e o=some true:=by kernel_rfl) (hd:dOk c.N o.dst=true:=by kernel_rfl):gop c lops Q K (o :: l) e h :=
 zho hf hc ho hv hw hd (by rintro _ h' ⟨r,rfl,k⟩;exact H r h' k)
theorem wL {α:Type} {en:α->Value} {A:α->Prop} {a:Addr} {t:Nat} {z:Operand} {i:TI} (hT:TOk c.P T) (H:∃ v,zab h a=some (en v)/\A v) (k:∀ v,A v->gop c lops Q K l (pu e o.dst (en v)) h)
  (ho:o.op = .load t z:=by exact rfl) (hx:evO e z=some (.pointer (some a)):=by exact rfl) (ht:tlk T t=some i:=by exact rfl) (hi:isA i.d=false:=by kernel_rfl) (hw:wnt lops e o=some true:=by kernel_rfl) (hd:dOk c.N o.dst=true:=by kernel_rfl):gop c lops Q K (o :: l) e h:=by
 obtain⟨v,hv,H⟩:=H;exact w_y (zbd hT ho hx ht hi hv) hw hd (k v H)
theorem wLa {α:Type} {en:α->List Value} {A:α->Prop} {a:Addr} {t:Nat} {z:Operand} {i:TI} (hT:TOk c.P T) (H:∃ v,CellsAt h a (en v)/\A v) (k:∀ v,A v->gop c lops Q K l (pu e o.dst (.agg (en v).toArray)) h)
  (ho:o.op = .load t z:=by exact rfl) (hx:evO e z=some (.pointer (some a)):=by exact rfl) (ht:tlk T t=some i:=by exact rfl) (hi:isA i.d=true:=by kernel_rfl) (hn:∀ v,(en v).length=i.n:=by exact fun _=>rfl) (hw:wnt lops e o=some true:=by kernel_rfl) (hd:dOk c.N o.dst=true:=by kernel_rfl):gop c lops Q K (o :: l) e h:=by
 obtain⟨v,hv,H⟩:=H;exact w_y (zhv hT ho hx ht hi (hn v) hv) hw hd (k v H)
theorem wT {A:zaa->Prop} {v:Value} {a:Addr} {t:Nat} {z u:Operand} {i:TI} (hT:TOk c.P T) (H:∃ h',WrH h a/\h'=zd7 h a v/\A h') (k:∀ h',A h'->gop c lops Q K l (pu e o.dst undef) h')
  (ho:o.op = .store t z u:=by exact rfl) (hx:evO e z=some (.pointer (some a)):=by exact rfl) (hy:evO e u=some v:=by exact rfl) (ht:tlk T t=some i:=by exact rfl) (hn:Nat.beq i.n 1=true:=by kernel_rfl) (hv:v.oneCell'=true:=by kernel_rfl) (hw:wnt lops e o=some true:=by kernel_rfl) (hd:dOk c.N o.dst=true:=by kernel_rfl):gop c lops Q K (o :: l) e h:=by
 obtain⟨h',hc,he,H⟩:=H;exact w_h (qd9 hT ho hx hy ht hn hv hc he) hw hd (k h' H)
theorem wTa {A:zaa->Prop} {vs:List Value} {a:Addr} {n t:Nat} {z u:Operand} {i:TI} (hT:TOk c.P T) (H:∃ h',WrsAt h a n/\h'=zak h a 0 vs/\A h') (k:∀ h',A h'->gop c lops Q K l (pu e o.dst undef) h')
  (ho:o.op = .store t z u:=by exact rfl) (hx:evO e z=some (.pointer (some a)):=by exact rfl) (hy:evO e u=some (.agg vs.toArray):=by exact rfl) (ht:tlk T t=some i:=by exact rfl) (hni:i.n=n:=by kernel_rfl) (hn:i.n=vs.length:=by exact rfl) (hv:vs.all (fun v=>v.oneCell')=true:=by kernel_rfl) (hw:wnt lops e o=some true:=by kernel_rfl) (hd:dOk c.N o.dst=true:=by kernel_rfl):gop c lops Q K (o :: l) e h:=by
 obtain⟨h',hc,he,H⟩:=H;exact w_h (zrx hT ho hx hy ht hn (qin hv) (by rw [hni];exact hc) he) hw hd (k h' H)
theorem wB {A:Nat->zaa->Prop} {zs:Array Value} {t:Nat} {i:TI} (hT:TOk c.P T) (H:∃(b:Nat) (h':zaa),b=h.size/\h'=h.push (.cells zs t)/\A b h') (k:∀ b h',A b h'->gop c lops Q K l (pu e o.dst (pt b)) h')
  (ho:o.op = .alloc t:=by exact rfl) (ht:tlk T t=some i:=by exact rfl) (hz:i.z.toArray=zs:=by exact rfl) (hw:wnt lops e o=some true:=by kernel_rfl) (hd:dOk c.N o.dst=true:=by kernel_rfl):gop c lops Q K (o :: l) e h:=by
 obtain⟨b,h',hb,he,H⟩:=H;subst hz;exact w_h (zlr hT ho ht hb he) hw hd (k b h' H)
theorem wX {A:Nat->zaa->Prop} {v:Value} {vs:Array Value} {t:Nat} {z:Operand} (H:∃(b:Nat) (h':zaa),b=h.size/\h'=h.push (.cells vs t)/\A b h') (k:∀ b h',A b h'->gop c lops Q K l (pu e o.dst (pt b)) h')
  (ho:o.op = .box t z:=by exact rfl) (hx:evO e z=some v:=by exact rfl) (hv:v.cells=vs:=by exact rfl) (hw:wnt lops e o=some true:=by kernel_rfl) (hd:dOk c.N o.dst=true:=by kernel_rfl):gop c lops Q K (o :: l) e h:=by
 obtain⟨b,h',hb,he,H⟩:=H;subst hv;exact w_h (zwz ho hx hb he) hw hd (k b h' H)
theorem wD {A:Addr->Prop} {base:Option Addr} {t el len cap:Nat} {z u:Operand} {kd:IntKind} {ix ln:Int} {n1 b1:Nat} {z1:List Value} {i:TI} (hT:TOk c.P T) (H:∃ a,base=some a/\0<=ix/\ix<ln/\A a) (k:∀ a,base=some a->A a->gop c lops Q K l (pu e o.dst (.pointer (some (a.add (ix.toNat*i.n))))) h)
  (ho:o.op = .indexAddr t z u:=by exact rfl) (hx:evO e z=some (.slice base len cap):=by exact rfl) (hy:evO e u=some (.int kd ix):=by exact rfl) (ht:tlk T t=some ⟨.slice el,n1,b1,z1⟩:=by exact rfl) (hi:tlk T el=some i:=by exact rfl) (hl:ln=len:=by exact rfl) (hw:wnt lops e o=some true:=by kernel_rfl) (hd:dOk c.N o.dst=true:=by kernel_rfl):gop c lops Q K (o :: l) e h:=by
 obtain⟨a,ha,h0,h1,H⟩:=H;exact w_y (za6 hT ho hx ha hy ht hi h0 (by rw [← hl];exact h1)) hw hd (k a ha H)
theorem zJ {α:Type} (s:List Nat) {e':Env} (E:α->Env) (Φ:α->zaa->Prop) (h2:∀ s h,Φ s h->gco c y Q (E s++e') h) (h1:gco c x (Exit.then (Jn c (fun s=>E s++e') Φ) Q) e h) (hs:SubS s e e':=by repeat (first | exact SubS.nil | (apply SubS.cons;exact rfl))):gco c (.seq x y) Q e h:=qdx _ Φ h2 h1
theorem zO {σ:Type} (s:List Nat) {e':Env} (E:σ->Env) (I:σ->zaa->Prop) (μ:σ->zaa->Nat) (s0:σ) (H0:I s0 h)
  (round:∀ s h,I s h->gco c x (Exit.then (Jn c (fun s=>E s++e') fun s' h'=>I s' h'/\μ s' h'<μ s h) Q) (E s++e') h) (hs:SubS s e e':=by repeat (first | exact SubS.nil | (apply SubS.cons;exact rfl))) (h0:Sub (E s0++e') e:=by repeat (first | exact trivial | refine⟨rfl,?_⟩)):gco c (.loop x) Q e h:=qd6 _ I μ s0 H0 h0 round
theorem vJ {α:Type} (n:Nat) (s:List Nat) {e':Env} (E:α->Env) (Φ:α->zaa->Prop) (h2:∀ s h,Φ s h->gop c lops Q K (l.drop n) (E s++e') h) (h1:gop c lops Q (Jn c (fun s=>E s++e') Φ) (l.take n) e h) (hs:SubS s e e':=by repeat (first | exact SubS.nil | (apply SubS.cons;exact rfl))):gop c lops Q K l e h:=qkb n _ Φ h2 h1
theorem vU (n:Nat) (s:List Nat) {e':Env} (E:Env) (h2:gop c lops Q K (l.drop n) (E++e') h) (h1:gop c lops Q (Jn c (fun _:Unit=>E++e') (fun _ h'=>h'=h)) (l.take n) e h) (hs:SubS s e e':=by repeat (first | exact SubS.nil | (apply SubS.cons;exact rfl))):gop c lops Q K l e h:=qcs n _ h2 h1
theorem vI {b:Bool} {A B:Prop} (d:Nat) (H:if b then A else B) (h1:A->gop c lops Q K l ((d,.bool true) :: e) h) (h2:B->gop c lops Q K l ((d,.bool false) :: e) h) (hd:lkO e d=some (.bool b):=by exact rfl):gop c lops Q K l e h:=qnv H hd h1 h2
end
end Go.Q
end
section
namespace Go.Q
section
variable {P:Program} {T:Tab} {e:Env} {h:zaa} {o:Oper}
theorem qpi {t:Nat} {x:Operand} {n:Int} (ho:o.op = .unOp .xor t x) (hx:evO e x=some (.int .u32 n)):Yl P e h o (.int .u32 (zaq .u32 4294967295 n)):=by
 intro ρ w hA hw;simp [execOp,ho,hA _ _ hx,Op.unary,Op.intBits,zaq];rfl
theorem qag (hT:TOk P T) {t:Nat} {x:Operand} {s:Slc} {el n b:Nat} {z:List Value} (ho:o.op = .call { callee:=.builtin .cap,args:=#[x],argTypes:=#[t] }) (hx:evO e x=some (Slc.v s)) (ht:tlk T t=some ⟨.slice el,n,b,z⟩):Yl P e h o (.int .i64 s.cap):=by
 intro ρ w hA hw;obtain⟨td,k1,k3⟩:=zai hT ht;rw [zce k3] at k1;simp [execOp,ho,resolve,invoke,builtin,hA _ _ hx,Slc.v,Builtin.cap_,run_underlying k1,goInt]
theorem qd2 (hT:TOk P T) {t ts el n1 b1 n3 b3:Nat} {z1 z3:List Value} {i:TI} {x y:Operand} {s:Slc} {n:Int} {k:Slc->zaa->Prop}
  (ho:o.op = .call { callee:=.builtin .append,args:=#[x,y],argTypes:=#[t,ts] }) (hx:evO e x=some s.v) (hy:evO e y=some (.int .i64 n)) (ht:tlk T t=some ⟨.slice el,n1,b1,z1⟩) (hd:tlk T ts=some ⟨.int .i64,n3,b3,z3⟩) (hi:tlk T el=some i)
  (hn:0<=n) (hg:s.cap<s.len+n.toNat) (h0:0<n.toNat*i.n) (H:App el i.n i.b i.z h s n.toNat (Builtin.zeroCells i.z.toArray n.toNat).toList k):Ya P e h o fun v h'=>∃ s',v=s'.v/\k s' h':=by
 intro ρ w hA hw;subst hw;obtain⟨td,k1,k3⟩:=zai hT ht;rw [zce k3] at k1;obtain⟨t3,m1,m3⟩:=zai hT hd;rw [zjx m3] at m1;obtain⟨ti,i1,i2,i3,zv,i4,i5⟩:=tI hT hi;obtain⟨g1,g2,g3,g4,g5,g6⟩:=H;obtain⟨m,rfl⟩:=Int.eq_ofNat_of_zero_le hn;simp only [Int.toNat_natCast] at *;have hzv:zv.cells=i.z.toArray:=Array.toList_inj.1 (by simpa using i5);obtain⟨olds,o1,o2,o3⟩:=g6 hg;have hroom:¬ s.len+m<=s.cap:=by omega
 have hge:=grownCap_ge w (s.len+m) s.cap el;have hle:=grownCap_le_maxLen w (s.len+m) s.cap el g4;have hfo:=zcl (P:=P) (n:=s.len) (sz:=i.n) w.drew (s:=s) o1 o2 (fun _=>.inr trivial);refine⟨(⟨some ⟨w.heap.size,0,none⟩,s.len+m,grownCap w (s.len+m) s.cap el⟩:Slc).v,w.drew.alloc (.cells (olds.toArray++(Builtin.zeroCells i.z.toArray m).toList.toArray++Builtin.zeroCells i.z.toArray (grownCap w (s.len+m) s.cap el-(s.len+m))) el),?_,⟨⟨some ⟨w.heap.size,0,none⟩,s.len+m,grownCap w (s.len+m) s.cap el⟩,rfl,?_⟩,?_⟩
 ·exact⟨rfl,rfl,rfl,rfl,fun _=>by first | exact Nat.le_refl _ | exact Nat.le_succ _⟩
 ·exact o3 _ hge hle
 ·have h63:s.len+m<=9223372036854775807:=by simp only [maxLen] at g4;omega
  have hfit:=growslice_fits (need:=s.len+m) (old:=s.cap) (bytes:=i.b) (by omega) g3;have h63':¬ (9223372036854775807<((s.len:Int)+(m:Int))):=by omega
  have h48':¬ (281474976710656<Builtin.nextslicecap (s.len+m) s.cap*i.b):=by omega
  have hw:IntKind.i64.wrap (m:Int)=m:=zac (by omega) (by omega)
  have hb:¬ (281474976710656<(m:Int)*(i.b:Int)):=by
   have h1:m*i.b<=(s.len+m)*i.b:=Nat.mul_le_mul_right _ (by omega);have h2:((m*i.b:Nat):Int)=(m:Int)*(i.b:Int):=by simp
   omega
  have hneg:¬ ((m:Int)<0):=by omega
  have hz0:¬ (m=0∨i.n=0):=fun c=>by rcases c with c | c <;> rw [c] at h0 <;> simp at h0
  simp [execOp,ho,resolve,invoke,builtin,hA _ _ hx,hA _ _ hy,Builtin.append_,run_underlying k1,run_underlying m1,sizeOf,typeInfo,zeroValue,i1,i2,i3,i4,asInt,asIntOf,hw,hb,hneg,hroom,h63',h48',Question.forced,newRow,grownCap];simp [hfo];rw [hzv,if_neg (show ¬ m*i.n=0 by omega)]
end
end Go.Q
end

/- A part of the proof of statements of this seat: lemmas, no statement of their own. -/
import Derived.Test.YthjafnfadiijgaaYiZad
import Derived.Laws.StructEq
import Derived.Laws.Externs
import Derived.Lib.Bytealg
set_option linter.unusedVariables false
set_option linter.unusedSimpArgs false
section
/- Regions that draw their order, in short words: what is pending is carried in the goal. -/
namespace Go.Q
abbrev PL:=List (Bool × Pn)
def PFx (c:Cx) (lops:List Oper) (h:Heap) (dead:List Nat):PL->Prop
 | []=>True
 | x :: r=>(bif mem dead x.2.j then True else bif x.1 then ∀ h,PF c lops h x.2 else PF c lops h x.2)/\PFx c lops h dead r
def fg:PL->List Pn
 | []=>[]
 | x :: r=>x.2 :: fg r
/-- the region stands so: what is done, what has surely come up, what is pending -/
def SG (c:Cx) (lops:List Oper) (Q:Exit->Act->World->Prop) (done dead:List Nat) (pend:PL) (e:Env) (h:Heap):Prop :=
 wfR lops=true->PFx c lops h dead pend->Sim c lops Q done dead (fg pend) e h
/-- likewise; operation i comes up -/
def SGI (c:Cx) (lops:List Oper) (Q:Exit->Act->World->Prop) (done dead:List Nat) (pend:PL) (e:Env) (h:Heap) (i:Nat):Prop :=
 wfR lops=true->PFx c lops h dead pend->Jl c lops Q done dead (fg pend) e h i
def live (dead:List Nat):PL->List Pn
 | []=>[]
 | x :: r=>bif x.1 || mem dead x.2.j then live dead r else x.2 :: live dead r
/-- what reads the heap is asked for again -/
def Ask (c:Cx) (lops:List Oper) (h:Heap):List Pn->Prop->Prop
 | [],G=>G
 | x :: r,G=>PF c lops h x/\Ask c lops h r G
def fZ:List Nat->Env->Env
 | [],_=>[]
 | t :: l,e=>(t,(lkO e t).getD undef) :: fZ l e
def inE:List Nat->Env->Bool
 | [],_=>true
 | t :: l,e=>(lkO e t).isSome && inE l e
theorem yc:∀ {l:List Nat} {e:Env},inE l e=true->Sub (fZ l e) e
 | [],_,_=>trivial
 | t :: l,e,h=>by
  simp only [inE,Bool.and_eq_true] at h
  refine ⟨?_,yc h.2⟩
  cases hl:lkO e t with
  | none=>simp [hl] at h
  | some v=>rfl
def AX (lops:List Oper) (done:List Nat) (i:Nat):List Nat->Bool
 | []=>true
 | t :: l=>Dm lops done i t && AX lops done i l
theorem vg {lops:List Oper} {done:List Nat} {i:Nat} {e:Env}:∀ {l:List Nat},AX lops done i l=true->qa lops done i (fZ l e)=true
 | [],_=>rfl
 | t :: l,h=>by
  simp only [AX,Bool.and_eq_true] at h
  simp only [fZ,qa,Bool.and_eq_true]
  exact ⟨h.1,vg h.2⟩
def sdP (lops:List Oper) (done dead:List Nat) (i:Nat) (l:List Nat) (e:Env):Bool:=En lops done dead i && AX lops done i l && inE l e
/-- those that come up ahead of 'i' -/
def Fu (lops:List Oper) (i:Nat):Nat->List Nat->List Nat
 | 0,A=>A
 | j + 1,A=>Fu lops i j (bif (i :: A).any (fun b=>gy lops j b) then j :: A else A)
def dd (lops:List Oper) (dead:List Nat) (i:Nat):List Nat:=Fu lops i i [] ++ dead
def sdE (lops:List Oper) (done dead:List Nat) (i:Nat) (l:List Nat) (e:Env):Bool:=GX lops done dead (dd lops dead i) (Fu lops i i []) i && AX lops done i l && inE l e
def sdI (lops:List Oper) (done dead:List Nat) (i:Nat) (l:List Nat) (e:Env):Bool:=Ii lops done dead (dd lops dead i) (Fu lops i i []) i && AX lops done i l && inE l e
inductive DD:Option Tmp->Option Tmp->Prop
 | s {x:Option Tmp} {d:Tmp}:x=some d->DD x (some d)
 | n {x:Option Tmp}:x=none->DD x none
theorem DD.eq {x y:Option Tmp} (h:DD x y):x=y:=by cases h <;> assumption
def wni (lops:List Oper) (e:Env) (i:Nat):Option Bool:=match lops[i]? with | some o=>wnt lops e o | none=>none
def pvi (T:Tab) (lops:List Oper) (e:Env) (i:Nat):Option Value:=match lops[i]? with | some o=>pev T e o.op | none=>none
theorem PFx.pfs {c:Cx} {lops:List Oper} {h:Heap} {dead:List Nat}:∀ {l:PL},PFx c lops h dead l->PFs c lops h dead (fg l)
 | [],_=>trivial
 | x :: r,k=>by
  refine ⟨?_,PFx.pfs k.2⟩
  have k1:=k.1
  cases hm:mem dead x.2.j with
  | true=>trivial
  | false =>
   rw [hm] at k1
   cases hx:x.1 with
   | true=>rw [hx] at k1; exact k1 h
   | false=>rw [hx] at k1; exact k1
theorem Ev {a b:List Nat} {x:Nat}:mem (a ++ b) x=(mem a x || mem b x):=by simp [mem,List.any_append]
theorem PFx.next {c:Cx} {lops:List Oper} {h h':Heap} {A dead:List Nat}:∀ {l:PL},PFx c lops h dead l->Ask c lops h' (live (A ++ dead) l) True->PFx c lops h' (A ++ dead) l
 | [],_,_=>trivial
 | x :: r,k,a=>by
  have k1:=k.1
  simp only [live] at a
  simp only [PFx]
  cases hm:mem (A ++ dead) x.2.j with
  | true =>
   rw [hm,Bool.or_true] at a
   exact ⟨trivial,PFx.next k.2 a⟩
  | false =>
   rw [Ev,Bool.or_eq_false_iff] at hm
   rw [hm.2] at k1
   cases hx:x.1 with
   | true =>
    rw [hx,Bool.true_or] at a
    rw [hx] at k1
    exact ⟨k1,PFx.next k.2 a⟩
   | false =>
    rw [hx,Bool.false_or,Ev,hm.1,hm.2] at a
    exact ⟨a.1,PFx.next k.2 a.2⟩
theorem Ask.both {c:Cx} {lops:List Oper} {h:Heap} {G:Prop}:∀ {l:List Pn},Ask c lops h l G->Ask c lops h l True/\G
 | [],k=>⟨trivial,k⟩
 | x :: r,k=>⟨⟨k.1,(Ask.both k.2).1⟩,(Ask.both k.2).2⟩
section
variable {c:Cx} {lops:List Oper} {Q:Exit->Act->World->Prop} {done dead:List Nat} {pend:PL} {e:Env} {h:Heap}
theorem gN (i:Nat) (l:List Nat) {v:Value} {d:Option Tmp} (b:Bool) (hp:bif b then ∀ h,PF c lops h ⟨i,v,fZ l e⟩ else PF c lops h ⟨i,v,fZ l e⟩)
  (H:SG c lops Q (i :: done) dead ((b,⟨i,v,fZ l e⟩) :: pend) (pu e d v) h) (hd:DD (dst? lops i) d) (hc:sdP lops done dead i l e=true):SG c lops Q done dead pend e h:=by
 intro hwf hpf
 simp only [sdP,Bool.and_eq_true] at hc
 have hn:mem dead i=false:=by have:=hc.1.1; simp only [En,Bool.and_eq_true,Bool.not_eq_true'] at this; exact this.1.2
 refine Kq hwf hc.1.1 (yc hc.2) (vg hc.1.2) hd.eq (H hwf ⟨?_,hpf⟩)
 simp only [hn]
 exact hp
/-- a pure operation -/
theorem gT (i:Nat) (l:List Nat) {T:Tab} (hT:TOk c.P T) {v:Value} {d:Option Tmp}
  (H:SG c lops Q (i :: done) dead ((true,⟨i,v,fZ l e⟩) :: pend) (pu e d v) h) (hd:DD (dst? lops i) d:=by first | exact .s rfl | exact .n rfl) (hp:pvi T lops (fZ l e) i=some v:=by exact rfl)
  (hc:sdP lops done dead i l e=true:=by kernel_rfl) (hk:dOk c.N d=true:=by kernel_rfl) (hw:wni lops (fZ l e) i=some true:=by kernel_rfl):SG c lops Q done dead pend e h:=by
 refine gN i l true ?_ H hd hc
 intro h
 unfold pvi at hp
 unfold wni at hw
 cases ho:lops[i]? with
 | none=>simp [ho] at hp
 | some o =>
  simp only [ho] at hp hw
  exact NN hT ho (by have:=hd.eq; simp only [dst?,ho] at this; rw [this]; exact hk) hw hp
/-- one that is passed over -/
theorem gS (i:Nat) (l:List Nat) {d:Option Tmp}
  (H:SG c lops Q (i :: done) dead ((true,⟨i,undef,fZ l e⟩) :: pend) (pu e d undef) h) (hd:DD (dst? lops i) d:=by first | exact .s rfl | exact .n rfl)
  (hc:sdP lops done dead i l e=true:=by kernel_rfl) (hk:dOk c.N d=true:=by kernel_rfl) (hw:wni lops (fZ l e) i=some false:=by kernel_rfl):SG c lops Q done dead pend e h:=by
 refine gN i l true ?_ H hd hc
 intro h
 unfold wni at hw
 cases ho:lops[i]? with
 | none=>simp [ho] at hw
 | some o =>
  simp only [ho] at hw
  exact Nq ho (by have:=hd.eq; simp only [dst?,ho] at this; rw [this]; exact hk) hw
/-- one that yields the same in every heap; one that reads this heap -/
theorem gY (i:Nat) (l:List Nat) {o:Oper} {v:Value} {d:Option Tmp} (ho:lops[i]? = some o) (hy:∀ h,Yl c.P (fZ l e) h o v)
  (H:SG c lops Q (i :: done) dead ((true,⟨i,v,fZ l e⟩) :: pend) (pu e d v) h) (hd:DD (dst? lops i) d:=by first | exact .s rfl | exact .n rfl)
  (hc:sdP lops done dead i l e=true:=by kernel_rfl) (hk:dOk c.N d=true:=by kernel_rfl) (hw:wnt lops (fZ l e) o=some true:=by kernel_rfl):SG c lops Q done dead pend e h :=
 gN i l true (fun h=>Jr ho (by have:=hd.eq; simp only [dst?,ho] at this; rw [this]; exact hk) hw (hy h)) H hd hc
theorem gL (i:Nat) (l:List Nat) {o:Oper} {v:Value} {d:Option Tmp} (ho:lops[i]? = some o) (hy:Yl c.P (fZ l e) h o v)
  (H:SG c lops Q (i :: done) dead ((false,⟨i,v,fZ l e⟩) :: pend) (pu e d v) h) (hd:DD (dst? lops i) d:=by first | exact .s rfl | exact .n rfl)
  (hc:sdP lops done dead i l e=true:=by kernel_rfl) (hk:dOk c.N d=true:=by kernel_rfl) (hw:wnt lops (fZ l e) o=some true:=by kernel_rfl):SG c lops Q done dead pend e h :=
 gN i l false (Jr ho (by have:=hd.eq; simp only [dst?,ho] at this; rw [this]; exact hk) hw hy) H hd hc
/-- likewise, and the value is said otherwise -/
theorem gYe (i:Nat) (l:List Nat) {o:Oper} {v v':Value} {d:Option Tmp} (ho:lops[i]? = some o) (hy:∀ h,Yl c.P (fZ l e) h o v) (hv:v'=v)
  (H:SG c lops Q (i :: done) dead ((true,⟨i,v',fZ l e⟩) :: pend) (pu e d v') h) (hd:DD (dst? lops i) d:=by first | exact .s rfl | exact .n rfl)
  (hc:sdP lops done dead i l e=true:=by kernel_rfl) (hk:dOk c.N d=true:=by kernel_rfl) (hw:wnt lops (fZ l e) o=some true:=by kernel_rfl):SG c lops Q done dead pend e h:=by
 subst hv; exact gY i l ho hy H hd hc hk hw
/-- what is asked for again -/
theorem gR {o:Oper} {x:Pn} {r:List Pn} {G:Prop} (ho:lops[x.j]? = some o) (hy:Yl c.P x.e h o x.v) (H:Ask c lops h r G) (hk:dOk c.N o.dst=true:=by kernel_rfl) (hw:wnt lops x.e o=some true:=by kernel_rfl):Ask c lops h (x :: r) G :=
 ⟨Jr ho hk hw hy,H⟩
theorem gZ0 {G:Prop} (H:G):Ask c lops h [] G:=H
/-- an effect -/
theorem gE (i:Nat) (l:List Nat) {o:Oper} {d:Option Tmp} {Φ:Value->Heap->Prop} (ho:lops[i]? = some o) (hy:YE c.D c.P (fZ l e) h o Φ)
  (H:∀ v h',Φ v h'->Ask c lops h' (live (dd lops dead i) pend) (SG c lops Q (i :: done) (dd lops dead i) pend (pu e d v) h')) (hd:DD (dst? lops i) d) (hc:sdE lops done dead i l e=true) (hk:dOk c.N d=true) (hw:wnt lops (fZ l e) o=some true) :
  SG c lops Q done dead pend e h:=by
 intro hwf hpf
 simp only [sdE,Bool.and_eq_true] at hc
 have hdo:o.dst=d:=by have:=hd.eq; simpa only [dst?,ho] using this
 refine Na i (Fu lops i i []) (dd lops dead i) hwf hpf.pfs hc.1.1 (yc hc.2) (vg hc.1.2) ho (by rw [hdo]; exact hk) hw hy fun v h' hΦ=>?_
 obtain ⟨h1,h2⟩:=(H v h' hΦ).both
 rw [hdo]
 exact h2 hwf (hpf.next h1)
theorem gEI (i:Nat) (l:List Nat) {o:Oper} {d:Option Tmp} {Φ:Value->Heap->Prop} (ho:lops[i]? = some o) (hy:YE c.D c.P (fZ l e) h o Φ)
  (H:∀ v h',Φ v h'->Ask c lops h' (live (dd lops dead i) pend) (SG c lops Q (i :: done) (dd lops dead i) pend (pu e d v) h')) (hd:DD (dst? lops i) d) (hc:sdI lops done dead i l e=true) (hk:dOk c.N d=true) (hw:wnt lops (fZ l e) o=some true) :
  SGI c lops Q done dead pend e h i:=by
 intro hwf hpf
 simp only [sdI,Bool.and_eq_true] at hc
 have hdo:o.dst=d:=by have:=hd.eq; simpa only [dst?,ho] using this
 refine Lu i (Fu lops i i []) (dd lops dead i) hwf hpf.pfs hc.1.1 (yc hc.2) (vg hc.1.2) ho (by rw [hdo]; exact hk) hw hy fun v h' hΦ=>?_
 obtain ⟨h1,h2⟩:=(H v h' hΦ).both
 rw [hdo]
 exact h2 hwf (hpf.next h1)
theorem yg {l:List Pn} {G:Prop} (hl:l.isEmpty=true) (H:G):Ask c lops h l G:=by
 cases l with
 | nil=>exact H
 | cons x r=>simp at hl
/-- a call -/
theorem gCr (i:Nat) (l:List Nat) {o:Oper} {d:Option Tmp} {f:FuncId} {as':List Operand} {ts:Array TypeId} {vs:List Value} {α:Type} {en:α->Value} {A:α->Heap->Prop} (hf:aB c.P f) (hcl:CallsHD c.D c.P f vs.toArray h fun v h'=>∃ r,v=en r/\A r h')
  (H:∀ r h',A r h'->Ask c lops h' (live (dd lops dead i) pend) (SG c lops Q (i :: done) (dd lops dead i) pend (pu e d (en r)) h')) (ho:lops[i]? = some o:=by exact rfl) (hop:o.op = .call { callee:=.value (.func f),args:=as'.toArray,argTypes:=ts }:=by exact rfl) (hv:evs (fZ l e) as'=some vs:=by exact rfl)
  (hd:DD (dst? lops i) d:=by first | exact .s rfl | exact .n rfl) (hc:sdE lops done dead i l e=true:=by kernel_rfl) (hk:dOk c.N d=true:=by kernel_rfl) (hw:wnt lops (fZ l e) o=some true:=by kernel_rfl):SG c lops Q done dead pend e h:=by
 have:=zz (P:=c.P) (e:=fZ l e) (o:=o) hf hop rfl hv
 simp only [List.append_toArray,List.nil_append,Array.append_empty,Array.empty_append] at this
 exact gE i l ho (YE.LX hcl this) (by rintro v h' ⟨r,rfl,hA⟩; exact H r h' hA) hd hc hk hw
theorem gC (i:Nat) (l:List Nat) {o:Oper} {d:Option Tmp} {f:FuncId} {as':List Operand} {ts:Array TypeId} {vs:List Value} {α:Type} {en:α->Value} {A:α->Heap->Prop} (hf:aB c.P f) (hcl:CallsHD c.D c.P f vs.toArray h fun v h'=>∃ r,v=en r/\A r h')
  (H:∀ r h',A r h'->SG c lops Q (i :: done) (dd lops dead i) pend (pu e d (en r)) h') (ho:lops[i]? = some o:=by exact rfl) (hop:o.op = .call { callee:=.value (.func f),args:=as'.toArray,argTypes:=ts }:=by exact rfl) (hv:evs (fZ l e) as'=some vs:=by exact rfl)
  (hd:DD (dst? lops i) d:=by first | exact .s rfl | exact .n rfl) (hc:sdE lops done dead i l e=true:=by kernel_rfl) (hk:dOk c.N d=true:=by kernel_rfl) (hw:wnt lops (fZ l e) o=some true:=by kernel_rfl) (hl:(live (dd lops dead i) pend).isEmpty=true:=by kernel_rfl):SG c lops Q done dead pend e h :=
 gCr i l hf hcl (fun r h' hA=>yg hl (H r h' hA)) ho hop hv hd hc hk hw
theorem LH (i:Nat) (l:List Nat) {o:Oper} {d:Option Tmp} {f:FuncId} {as':List Operand} {ts:Array TypeId} {vs:List Value} {α:Type} {en:α->Value} {A:α->Heap->Prop} (hf:aB c.P f) (hcl:CallsHD c.D c.P f vs.toArray h fun v h'=>∃ r,v=en r/\A r h')
  (H:∀ r h',A r h'->Ask c lops h' (live (dd lops dead i) pend) (SG c lops Q (i :: done) (dd lops dead i) pend (pu e d (en r)) h')) (ho:lops[i]? = some o:=by exact rfl) (hop:o.op = .call { callee:=.value (.func f),args:=as'.toArray,argTypes:=ts }:=by exact rfl) (hv:evs (fZ l e) as'=some vs:=by exact rfl)
  (hd:DD (dst? lops i) d:=by first | exact .s rfl | exact .n rfl) (hc:sdI lops done dead i l e=true:=by kernel_rfl) (hk:dOk c.N d=true:=by kernel_rfl) (hw:wnt lops (fZ l e) o=some true:=by kernel_rfl):SGI c lops Q done dead pend e h i:=by
 have:=zz (P:=c.P) (e:=fZ l e) (o:=o) hf hop rfl hv
 simp only [List.append_toArray,List.nil_append,Array.append_empty,Array.empty_append] at this
 exact gEI i l ho (YE.LX hcl this) (by rintro v h' ⟨r,rfl,hA⟩; exact H r h' hA) hd hc hk hw
/-- an effect on the heap -/
theorem gHr (i:Nat) (l:List Nat) {o:Oper} {d:Option Tmp} {v:Value} {h':Heap} (ho:lops[i]? = some o) (hy:Yh c.P (fZ l e) h o v h')
  (H:Ask c lops h' (live (dd lops dead i) pend) (SG c lops Q (i :: done) (dd lops dead i) pend (pu e d v) h'))
  (hd:DD (dst? lops i) d:=by first | exact .s rfl | exact .n rfl) (hc:sdE lops done dead i l e=true:=by kernel_rfl) (hk:dOk c.N d=true:=by kernel_rfl) (hw:wnt lops (fZ l e) o=some true:=by kernel_rfl):SG c lops Q done dead pend e h :=
 gE i l ho (YE.KY hy) (by rintro _ _ ⟨rfl,rfl⟩; exact H) hd hc hk hw
theorem gH (i:Nat) (l:List Nat) {o:Oper} {d:Option Tmp} {v:Value} {h':Heap} (ho:lops[i]? = some o) (hy:Yh c.P (fZ l e) h o v h')
  (H:SG c lops Q (i :: done) (dd lops dead i) pend (pu e d v) h')
  (hd:DD (dst? lops i) d:=by first | exact .s rfl | exact .n rfl) (hc:sdE lops done dead i l e=true:=by kernel_rfl) (hk:dOk c.N d=true:=by kernel_rfl) (hw:wnt lops (fZ l e) o=some true:=by kernel_rfl) (hl:(live (dd lops dead i) pend).isEmpty=true:=by kernel_rfl):SG c lops Q done dead pend e h :=
 gHr i l ho hy (yg hl H) hd hc hk hw
theorem gHI (i:Nat) (l:List Nat) {o:Oper} {d:Option Tmp} {v:Value} {h':Heap} (ho:lops[i]? = some o) (hy:Yh c.P (fZ l e) h o v h')
  (H:SG c lops Q (i :: done) (dd lops dead i) pend (pu e d v) h')
  (hd:DD (dst? lops i) d:=by first | exact .s rfl | exact .n rfl) (hc:sdI lops done dead i l e=true:=by kernel_rfl) (hk:dOk c.N d=true:=by kernel_rfl) (hw:wnt lops (fZ l e) o=some true:=by kernel_rfl) (hl:(live (dd lops dead i) pend).isEmpty=true:=by kernel_rfl):SGI c lops Q done dead pend e h i :=
 gEI i l ho (YE.KY hy) (by rintro _ _ ⟨rfl,rfl⟩; exact yg hl H) hd hc hk hw
theorem Hu (i:Nat) (l:List Nat) {o:Oper} {d:Option Tmp} {v:Value} {h':Heap} (ho:lops[i]? = some o) (hy:Yh c.P (fZ l e) h o v h')
  (H:Ask c lops h' (live (dd lops dead i) pend) (SG c lops Q (i :: done) (dd lops dead i) pend (pu e d v) h'))
  (hd:DD (dst? lops i) d:=by first | exact .s rfl | exact .n rfl) (hc:sdI lops done dead i l e=true:=by kernel_rfl) (hk:dOk c.N d=true:=by kernel_rfl) (hw:wnt lops (fZ l e) o=some true:=by kernel_rfl):SGI c lops Q done dead pend e h i :=
 gEI i l ho (YE.KY hy) (by rintro _ _ ⟨rfl,rfl⟩; exact H) hd hc hk hw
/-- one of several outcomes -/
theorem gAr (i:Nat) (l:List Nat) {o:Oper} {d:Option Tmp} {Φ:Value->Heap->Prop} (ho:lops[i]? = some o) (hy:Ya c.P (fZ l e) h o Φ)
  (H:∀ v h',Φ v h'->Ask c lops h' (live (dd lops dead i) pend) (SG c lops Q (i :: done) (dd lops dead i) pend (pu e d v) h'))
  (hd:DD (dst? lops i) d:=by first | exact .s rfl | exact .n rfl) (hc:sdE lops done dead i l e=true:=by kernel_rfl) (hk:dOk c.N d=true:=by kernel_rfl) (hw:wnt lops (fZ l e) o=some true:=by kernel_rfl):SG c lops Q done dead pend e h :=
 gE i l ho (YE.Nl hy) H hd hc hk hw
theorem gA (i:Nat) (l:List Nat) {o:Oper} {d:Option Tmp} {Φ:Value->Heap->Prop} (ho:lops[i]? = some o) (hy:Ya c.P (fZ l e) h o Φ)
  (H:∀ v h',Φ v h'->SG c lops Q (i :: done) (dd lops dead i) pend (pu e d v) h')
  (hd:DD (dst? lops i) d:=by first | exact .s rfl | exact .n rfl) (hc:sdE lops done dead i l e=true:=by kernel_rfl) (hk:dOk c.N d=true:=by kernel_rfl) (hw:wnt lops (fZ l e) o=some true:=by kernel_rfl) (hl:(live (dd lops dead i) pend).isEmpty=true:=by kernel_rfl):SG c lops Q done dead pend e h :=
 gE i l ho (YE.Nl hy) (fun v h' k=>yg hl (H v h' k)) hd hc hk hw
/-- a truth value that was found -/
theorem gI {b:Bool} {A B:Prop} (d:Nat) (H:if b then A else B) (h1:b=true->A->SG c lops Q done dead pend ((d,.bool true) :: e) h) (h2:b=false->B->SG c lops Q done dead pend ((d,.bool false) :: e) h) (hd:lkO e d=some (.bool b):=by exact rfl):SG c lops Q done dead pend e h :=
 fun hwf hp=>IU d H hd (fun k a=>h1 k a hwf hp) (fun k a=>h2 k a hwf hp)
/-- two effects in either order -/
theorem gO (i j:Nat) {A B:Prop} (H:A/\B) (h1:A->SGI c lops Q done dead pend e h i) (h2:B->SGI c lops Q done dead pend e h j) (honly:HV lops done [i,j]=true:=by kernel_rfl) (hi:(!mem done i && Nat.blt i lops.length)=true:=by kernel_rfl):SG c lops Q done dead pend e h :=
 fun hwf hp=>KN i j hwf hp.pfs honly hi H (fun a=>h1 a hwf hp) (fun a=>h2 a hwf hp)
/-- every operation is done -/
theorem gZ (H:gex c Q .normal e h) (hall:(List.range lops.length).all (mem done)=true:=by kernel_rfl):SG c lops Q done dead pend e h :=
 fun hwf hp=>IQ hwf hp.pfs hall H
inductive qi:List Nat->Env->Env->Prop
 | nil {e:Env}:qi [] e []
 | cons {t:Nat} {v:Value} {l:List Nat} {e r:Env}:lkO e t=some v->qi l e r->qi (t :: l) e ((t,v) :: r)
theorem qi.sub {l:List Nat} {e r:Env} (h:qi l e r):Sub r e:=by
 induction h with
 | nil=>trivial
 | cons h1 _ ih=>exact ⟨h1,ih⟩
/-- the region's start -/
theorem gB (l:List Nat) {id:Nat} {e':Env} (H:SG c lops Q [] [] [] e' h) (hs:qi l e e':=by repeat (first | exact qi.nil | (apply qi.cons; exact rfl))) (hm:c.P.follows .mixedOrders=true:=by kernel_rfl) (hwf:wfR lops=true:=by kernel_rfl):gco c (Code.region id lops.toArray true) Q e h :=
 MU e' hm hwf hs.sub fun wf=>H wf trivial
end
end Go.Q
end
section
/- The walk's steps in short words. -/
namespace Go.Q
open Go.RowKit
section
variable {c:Cx} {lops l:List Oper} {x y:Code} {Q:Exit->Act->World->Prop} {K:Act->World->Prop} {e:Env} {h:Heap} {o:Oper} {T:Tab}
theorem zS (H:gco c x (Exit.then (y.wp c.P Q) Q) e h):gco c (.seq x y) Q e h:=Ki H
theorem zR {id:Nat} (H:gop c lops Q (Q .normal) lops e h):gco c (.region id lops.toArray false) Q e h:=Dc H
theorem zB {id:Nat} (H:gco c x (Exit.inBlock id Q) e h):gco c (.block id x) Q e h:=Iq H
theorem zK (H:gex c Q .normal e h):gco c .skip Q e h:=LM H
theorem zA {i:Nat} (H:gex c Q .normal e h):gco c (.label i) Q e h:=IZ H
theorem zT (H:gex c Q .ret e h):gco c .ret Q e h:=MK H
theorem zY {id:Nat} (H:gex c Q (.exit id) e h):gco c (.exit id) Q e h:=Lj H
theorem zC (H:gco c x (Exit.noGoto Q) e h):gco c (.scope x) Q e h:=Ir H
theorem zX (H:gco c y Q e h):gex c (Exit.then (y.wp c.P Q) Q) .normal e h:=Me H
theorem zW (H:gex c Q .normal e h):gop c lops Q (Q .normal) [] e h:=MC H
theorem yL {id:Nat} (H:gex c Q .normal e h):gex c (Exit.inBlock id Q) .normal e h:=MF H
theorem yE {id:Nat} {K:Act->World->Prop} (H:gex c Q (.exit id) e h):gex c (Exit.then K Q) (.exit id) e h:=NP H
theorem yT {K:Act->World->Prop} (H:gex c Q .ret e h):gex c (Exit.then K Q) .ret e h:=NB H
theorem yB {id:Nat} (H:gex c Q .ret e h):gex c (Exit.inBlock id Q) .ret e h:=NH H
theorem yH {id:Nat} (H:gex c Q .normal e h):gex c (Exit.inBlock id Q) (.exit id) e h:=N8 H
theorem yR (H:gex c Q .ret e h):gex c (Exit.noGoto Q) .ret e h:=NF H
theorem vK {d:Nat} {v:Value} {e':Env} (H:lkO e d=some v) (hs:Sub e' e:=by repeat (first | exact trivial | refine ⟨rfl,?_⟩)):gop c lops Q (Jn c (fun _:Unit=>[(d,v)] ++ e') (fun _ h'=>h'=h)) [] e h:=Mv () rfl ⟨H,hs⟩
theorem vG {d:Nat} {b:Bool} (h1:b=true->gop c lops Q K l ((d,.bool true) :: e) h) (h2:b=false->gop c lops Q K l ((d,.bool false) :: e) h) (hd:lkO e d=some (.bool b):=by exact rfl):gop c lops Q K l e h:=ML hd h1 h2
theorem w1 {v:Value} (hT:TOk c.P T) (H:gop c lops Q K l (pu e o.dst v) h) (hp:pev T e o.op=some v:=by exact rfl) (hw:wnt lops e o=some true:=by kernel_rfl) (hd:dOk c.N o.dst=true:=by kernel_rfl):gop c lops Q K (o :: l) e h:=w_p hT hp hw hd H
theorem w2 {o1 o2:Oper} {v1 v2:Value} (hT:TOk c.P T) (H:gop c lops Q K l (pu (pu e o1.dst v1) o2.dst v2) h) (p1:pev T e o1.op=some v1:=by exact rfl) (g1:wnt lops e o1=some true:=by kernel_rfl) (d1:dOk c.N o1.dst=true:=by kernel_rfl) (p2:pev T (pu e o1.dst v1) o2.op=some v2:=by exact rfl) (g2:wnt lops (pu e o1.dst v1) o2=some true:=by kernel_rfl) (d2:dOk c.N o2.dst=true:=by kernel_rfl):gop c lops Q K (o1 :: o2 :: l) e h:=w_p hT p1 g1 d1 (w_p hT p2 g2 d2 H)
theorem w3 {o1 o2 o3:Oper} {v1 v2 v3:Value} (hT:TOk c.P T) (H:gop c lops Q K l (pu (pu (pu e o1.dst v1) o2.dst v2) o3.dst v3) h) (p1:pev T e o1.op=some v1:=by exact rfl) (g1:wnt lops e o1=some true:=by kernel_rfl) (d1:dOk c.N o1.dst=true:=by kernel_rfl) (p2:pev T (pu e o1.dst v1) o2.op=some v2:=by exact rfl) (g2:wnt lops (pu e o1.dst v1) o2=some true:=by kernel_rfl) (d2:dOk c.N o2.dst=true:=by kernel_rfl) (p3:pev T (pu (pu e o1.dst v1) o2.dst v2) o3.op=some v3:=by exact rfl) (g3:wnt lops (pu (pu e o1.dst v1) o2.dst v2) o3=some true:=by kernel_rfl) (d3:dOk c.N o3.dst=true:=by kernel_rfl):gop c lops Q K (o1 :: o2 :: o3 :: l) e h:=w_p hT p1 g1 d1 (w_p hT p2 g2 d2 (w_p hT p3 g3 d3 H))
theorem w4 {o1 o2 o3 o4:Oper} {v1 v2 v3 v4:Value} (hT:TOk c.P T) (H:gop c lops Q K l (pu (pu (pu (pu e o1.dst v1) o2.dst v2) o3.dst v3) o4.dst v4) h) (p1:pev T e o1.op=some v1:=by exact rfl) (g1:wnt lops e o1=some true:=by kernel_rfl) (d1:dOk c.N o1.dst=true:=by kernel_rfl) (p2:pev T (pu e o1.dst v1) o2.op=some v2:=by exact rfl) (g2:wnt lops (pu e o1.dst v1) o2=some true:=by kernel_rfl) (d2:dOk c.N o2.dst=true:=by kernel_rfl) (p3:pev T (pu (pu e o1.dst v1) o2.dst v2) o3.op=some v3:=by exact rfl) (g3:wnt lops (pu (pu e o1.dst v1) o2.dst v2) o3=some true:=by kernel_rfl) (d3:dOk c.N o3.dst=true:=by kernel_rfl) (p4:pev T (pu (pu (pu e o1.dst v1) o2.dst v2) o3.dst v3) o4.op=some v4:=by exact rfl) (g4:wnt lops (pu (pu (pu e o1.dst v1) o2.dst v2) o3.dst v3) o4=some true:=by kernel_rfl) (d4:dOk c.N o4.dst=true:=by kernel_rfl):gop c lops Q K (o1 :: o2 :: o3 :: o4 :: l) e h:=w_p hT p1 g1 d1 (w_p hT p2 g2 d2 (w_p hT p3 g3 d3 (w_p hT p4 g4 d4 H)))
theorem w5 {o1 o2 o3 o4 o5:Oper} {v1 v2 v3 v4 v5:Value} (hT:TOk c.P T) (H:gop c lops Q K l (pu (pu (pu (pu (pu e o1.dst v1) o2.dst v2) o3.dst v3) o4.dst v4) o5.dst v5) h) (p1:pev T e o1.op=some v1:=by exact rfl) (g1:wnt lops e o1=some true:=by kernel_rfl) (d1:dOk c.N o1.dst=true:=by kernel_rfl) (p2:pev T (pu e o1.dst v1) o2.op=some v2:=by exact rfl) (g2:wnt lops (pu e o1.dst v1) o2=some true:=by kernel_rfl) (d2:dOk c.N o2.dst=true:=by kernel_rfl) (p3:pev T (pu (pu e o1.dst v1) o2.dst v2) o3.op=some v3:=by exact rfl) (g3:wnt lops (pu (pu e o1.dst v1) o2.dst v2) o3=some true:=by kernel_rfl) (d3:dOk c.N o3.dst=true:=by kernel_rfl) (p4:pev T (pu (pu (pu e o1.dst v1) o2.dst v2) o3.dst v3) o4.op=some v4:=by exact rfl) (g4:wnt lops (pu (pu (pu e o1.dst v1) o2.dst v2) o3.dst v3) o4=some true:=by kernel_rfl) (d4:dOk c.N o4.dst=true:=by kernel_rfl) (p5:pev T (pu (pu (pu (pu e o1.dst v1) o2.dst v2) o3.dst v3) o4.dst v4) o5.op=some v5:=by exact rfl) (g5:wnt lops (pu (pu (pu (pu e o1.dst v1) o2.dst v2) o3.dst v3) o4.dst v4) o5=some true:=by kernel_rfl) (d5:dOk c.N o5.dst=true:=by kernel_rfl):gop c lops Q K (o1 :: o2 :: o3 :: o4 :: o5 :: l) e h:=w_p hT p1 g1 d1 (w_p hT p2 g2 d2 (w_p hT p3 g3 d3 (w_p hT p4 g4 d4 (w_p hT p5 g5 d5 H))))
theorem w6 {o1 o2 o3 o4 o5 o6:Oper} {v1 v2 v3 v4 v5 v6:Value} (hT:TOk c.P T) (H:gop c lops Q K l (pu (pu (pu (pu (pu (pu e o1.dst v1) o2.dst v2) o3.dst v3) o4.dst v4) o5.dst v5) o6.dst v6) h) (p1:pev T e o1.op=some v1:=by exact rfl) (g1:wnt lops e o1=some true:=by kernel_rfl) (d1:dOk c.N o1.dst=true:=by kernel_rfl) (p2:pev T (pu e o1.dst v1) o2.op=some v2:=by exact rfl) (g2:wnt lops (pu e o1.dst v1) o2=some true:=by kernel_rfl) (d2:dOk c.N o2.dst=true:=by kernel_rfl) (p3:pev T (pu (pu e o1.dst v1) o2.dst v2) o3.op=some v3:=by exact rfl) (g3:wnt lops (pu (pu e o1.dst v1) o2.dst v2) o3=some true:=by kernel_rfl) (d3:dOk c.N o3.dst=true:=by kernel_rfl) (p4:pev T (pu (pu (pu e o1.dst v1) o2.dst v2) o3.dst v3) o4.op=some v4:=by exact rfl) (g4:wnt lops (pu (pu (pu e o1.dst v1) o2.dst v2) o3.dst v3) o4=some true:=by kernel_rfl) (d4:dOk c.N o4.dst=true:=by kernel_rfl) (p5:pev T (pu (pu (pu (pu e o1.dst v1) o2.dst v2) o3.dst v3) o4.dst v4) o5.op=some v5:=by exact rfl) (g5:wnt lops (pu (pu (pu (pu e o1.dst v1) o2.dst v2) o3.dst v3) o4.dst v4) o5=some true:=by kernel_rfl) (d5:dOk c.N o5.dst=true:=by kernel_rfl) (p6:pev T (pu (pu (pu (pu (pu e o1.dst v1) o2.dst v2) o3.dst v3) o4.dst v4) o5.dst v5) o6.op=some v6:=by exact rfl) (g6:wnt lops (pu (pu (pu (pu (pu e o1.dst v1) o2.dst v2) o3.dst v3) o4.dst v4) o5.dst v5) o6=some true:=by kernel_rfl) (d6:dOk c.N o6.dst=true:=by kernel_rfl):gop c lops Q K (o1 :: o2 :: o3 :: o4 :: o5 :: o6 :: l) e h:=w_p hT p1 g1 d1 (w_p hT p2 g2 d2 (w_p hT p3 g3 d3 (w_p hT p4 g4 d4 (w_p hT p5 g5 d5 (w_p hT p6 g6 d6 H)))))
theorem zE (H:gco c y Q e h):gop c lops (Exit.then (y.wp c.P Q) Q) ((Exit.then (y.wp c.P Q) Q) .normal) [] e h:=H
theorem zL {id:Nat} (H:gex c Q .normal e h):gop c lops (Exit.inBlock id Q) ((Exit.inBlock id Q) .normal) [] e h:=H
theorem zQ {id:Nat} {z:Code} {ops:List Oper} (H:gop c ops (Exit.then (z.wp c.P Q) Q) ((Exit.then (z.wp c.P Q) Q) .normal) ops e h):gco c (.seq (.region id ops.toArray false) z) Q e h:=Ki (Dc H)
theorem zF (s:List Nat) {e':Env} (H:gco c x Q e' h) (hs:qi s e e':=by repeat (first | exact qi.nil | (apply qi.cons; exact rfl))):gco c x Q e h:=KE e' hs.sub H
theorem vF (s:List Nat) {e':Env} (H:gop c lops Q K l e' h) (hs:qi s e e':=by repeat (first | exact qi.nil | (apply qi.cons; exact rfl))):gop c lops Q K l e h:=KH e' hs.sub H
theorem zI {t:Operand} {b:Bool} {A B:Prop} (H:if b then A else B) (h1:A->gco c x Q e h) (h2:B->gco c y Q e h) (hb:evO e t=some (.bool b):=by exact rfl):gco c (.cond t x y) Q e h:=NZ H hb h1 h2
theorem zM {id id':Nat} (H:gex c Q (.exit id') e h) (hne:Nat.beq id' id=false:=by kernel_rfl):gex c (Exit.inBlock id Q) (.exit id') e h:=NM hne H
theorem fE {D:Bool} {P:Program} {f:FuncId} {fn:Func} {x:Code} {args:List Value} {h:Heap} {Φ:Value->Heap->Prop} {N:Nat} (hf:P.funcs[f]? = some fn)
  (H:∀ w,gco ⟨P,N,w,D⟩ x (bodyPost P fn (Rt D w Φ)) (AL 0 args) h) (hb:fn.body=some x:=by exact rfl) (hN:fn.ntmps=N:=by exact rfl) (hn:Nat.ble args.length N=true:=by kernel_rfl):CallsHD D P f args.toArray h Φ:=JQ hf hb hN hn H
theorem ck {P:Program} {f:FuncId} {fn:Func} (hf:P.funcs[f]? = some fn) (h1:(fn.name == "runtime.NumGoroutine")=false:=by kernel_rfl) (h2:fn.body.isNone=false:=by kernel_rfl):aB P f:=⟨fn,hf,h1,h2⟩
/-- pure, passed over, without an effect, with one, one of several outcomes -/
theorem wS (H:gop c lops Q K l (pu e o.dst undef) h) (hw:wnt lops e o=some false:=by kernel_rfl) (hd:dOk c.N o.dst=true:=by kernel_rfl):gop c lops Q K (o :: l) e h:=KC hw hd H
theorem wY {v:Value} (hy:Yl c.P e h o v) (H:gop c lops Q K l (pu e o.dst v) h) (hw:wnt lops e o=some true:=by kernel_rfl) (hd:dOk c.N o.dst=true:=by kernel_rfl):gop c lops Q K (o :: l) e h:=w_y hy hw hd H
theorem wYe {v v':Value} (hy:Yl c.P e h o v) (hv:v'=v) (H:gop c lops Q K l (pu e o.dst v') h) (hw:wnt lops e o=some true:=by kernel_rfl) (hd:dOk c.N o.dst=true:=by kernel_rfl):gop c lops Q K (o :: l) e h:=NA hy hv hw hd H
theorem wH {v:Value} {h':Heap} (hy:Yh c.P e h o v h') (H:gop c lops Q K l (pu e o.dst v) h') (hw:wnt lops e o=some true:=by kernel_rfl) (hd:dOk c.N o.dst=true:=by kernel_rfl):gop c lops Q K (o :: l) e h:=w_h hy hw hd H
theorem wA {Φ:Value->Heap->Prop} (hy:Ya c.P e h o Φ) (H:∀ v h',Φ v h'->gop c lops Q K l (pu e o.dst v) h') (hw:wnt lops e o=some true:=by kernel_rfl) (hd:dOk c.N o.dst=true:=by kernel_rfl):gop c lops Q K (o :: l) e h:=w_a hy hw hd H
theorem wC {f:FuncId} {as':List Operand} {ts:Array TypeId} {vs:List Value} {α:Type} {en:α->Value} {A:α->Heap->Prop}
  (hf:aB c.P f) (hc:CallsHD c.D c.P f vs.toArray h fun v h'=>∃ r,v=en r/\A r h') (H:∀ r h',A r h'->gop c lops Q K l (pu e o.dst (en r)) h')
  (ho:o.op = .call { callee:=.value (.func f),args:=as'.toArray,argTypes:=ts }:=by exact rfl) (hv:evs e as'=some vs:=by exact rfl) (hw:wnt lops e o=some true:=by kernel_rfl) (hd:dOk c.N o.dst=true:=by kernel_rfl):gop c lops Q K (o :: l) e h :=
 KV hf hc ho hv hw hd (by rintro _ h' ⟨r,rfl,k⟩; exact H r h' k)
/-- a pointer that is there -/
theorem wN {p:Option Addr} {A:Addr->Prop} {z:Operand} (H:∃ a,p=some a/\A a) (k:∀ a,p=some a->A a->gop c lops Q K l (pu e o.dst (.pointer (some a))) h)
  (ho:o.op = .nilCheck z:=by exact rfl) (hx:evO e z=some (.pointer p):=by exact rfl) (hw:wnt lops e o=some true:=by kernel_rfl) (hd:dOk c.N o.dst=true:=by kernel_rfl):gop c lops Q K (o :: l) e h:=by
 obtain ⟨a,ha,H⟩:=H
 exact w_y (au ho hx ha) hw hd (k a ha H)
/-- what lies in a cell; in several -/
theorem wL {α:Type} {en:α->Value} {A:α->Prop} {a:Addr} {t:Nat} {z:Operand} {i:TI} (hT:TOk c.P T) (H:∃ v,af h a=some (en v)/\A v) (k:∀ v,A v->gop c lops Q K l (pu e o.dst (en v)) h)
  (ho:o.op = .load t z:=by exact rfl) (hx:evO e z=some (.pointer (some a)):=by exact rfl) (ht:tlk T t=some i:=by exact rfl) (hi:isA i.d=false:=by kernel_rfl) (hw:wnt lops e o=some true:=by kernel_rfl) (hd:dOk c.N o.dst=true:=by kernel_rfl):gop c lops Q K (o :: l) e h:=by
 obtain ⟨v,hv,H⟩:=H
 exact w_y (bH hT ho hx ht hi hv) hw hd (k v H)
theorem wLa {α:Type} {en:α->List Value} {A:α->Prop} {a:Addr} {t:Nat} {z:Operand} {i:TI} (hT:TOk c.P T) (H:∃ v,aJ h a (en v)/\A v) (k:∀ v,A v->gop c lops Q K l (pu e o.dst (.agg (en v).toArray)) h)
  (ho:o.op = .load t z:=by exact rfl) (hx:evO e z=some (.pointer (some a)):=by exact rfl) (ht:tlk T t=some i:=by exact rfl) (hi:isA i.d=true:=by kernel_rfl) (hn:∀ v,(en v).length=i.n:=by exact fun _=>rfl) (hw:wnt lops e o=some true:=by kernel_rfl) (hd:dOk c.N o.dst=true:=by kernel_rfl):gop c lops Q K (o :: l) e h:=by
 obtain ⟨v,hv,H⟩:=H
 exact w_y (Kg hT ho hx ht hi (hn v) hv) hw hd (k v H)
/-- a store -/
theorem wT {A:Heap->Prop} {v:Value} {a:Addr} {t:Nat} {z u:Operand} {i:TI} (hT:TOk c.P T) (H:∃ h',WrH h a/\h'=setH h a v/\A h') (k:∀ h',A h'->gop c lops Q K l (pu e o.dst undef) h')
  (ho:o.op = .store t z u:=by exact rfl) (hx:evO e z=some (.pointer (some a)):=by exact rfl) (hy:evO e u=some v:=by exact rfl) (ht:tlk T t=some i:=by exact rfl) (hn:Nat.beq i.n 1=true:=by kernel_rfl) (hv:v.oneCell'=true:=by kernel_rfl) (hw:wnt lops e o=some true:=by kernel_rfl) (hd:dOk c.N o.dst=true:=by kernel_rfl):gop c lops Q K (o :: l) e h:=by
 obtain ⟨h',hc,he,H⟩:=H
 exact w_h (Fj hT ho hx hy ht hn hv hc he) hw hd (k h' H)
theorem wTa {A:Heap->Prop} {vs:List Value} {a:Addr} {n t:Nat} {z u:Operand} {i:TI} (hT:TOk c.P T) (H:∃ h',dE h a n/\h'=aU h a 0 vs/\A h') (k:∀ h',A h'->gop c lops Q K l (pu e o.dst undef) h')
  (ho:o.op = .store t z u:=by exact rfl) (hx:evO e z=some (.pointer (some a)):=by exact rfl) (hy:evO e u=some (.agg vs.toArray):=by exact rfl) (ht:tlk T t=some i:=by exact rfl) (hni:i.n=n:=by kernel_rfl) (hn:i.n=vs.length:=by exact rfl) (hv:vs.all (fun v=>v.oneCell')=true:=by kernel_rfl) (hw:wnt lops e o=some true:=by kernel_rfl) (hd:dOk c.N o.dst=true:=by kernel_rfl):gop c lops Q K (o :: l) e h:=by
 obtain ⟨h',hc,he,H⟩:=H
 exact w_h (Dl hT ho hx hy ht hn (uu hv) (by rw [hni]; exact hc) he) hw hd (k h' H)
/-- a new block -/
theorem wB {A:Nat->Heap->Prop} {zs:Array Value} {t:Nat} {i:TI} (hT:TOk c.P T) (H:∃ (b:Nat) (h':Heap),b=h.size/\h'=h.push (.cells zs t)/\A b h') (k:∀ b h',A b h'->gop c lops Q K l (pu e o.dst (pt b)) h')
  (ho:o.op = .alloc t:=by exact rfl) (ht:tlk T t=some i:=by exact rfl) (hz:i.z.toArray=zs:=by exact rfl) (hw:wnt lops e o=some true:=by kernel_rfl) (hd:dOk c.N o.dst=true:=by kernel_rfl):gop c lops Q K (o :: l) e h:=by
 obtain ⟨b,h',hb,he,H⟩:=H
 subst hz
 exact w_h (Je hT ho ht hb he) hw hd (k b h' H)
theorem wX {A:Nat->Heap->Prop} {v:Value} {vs:Array Value} {t:Nat} {z:Operand} (H:∃ (b:Nat) (h':Heap),b=h.size/\h'=h.push (.cells vs t)/\A b h') (k:∀ b h',A b h'->gop c lops Q K l (pu e o.dst (pt b)) h')
  (ho:o.op = .box t z:=by exact rfl) (hx:evO e z=some v:=by exact rfl) (hv:v.cells=vs:=by exact rfl) (hw:wnt lops e o=some true:=by kernel_rfl) (hd:dOk c.N o.dst=true:=by kernel_rfl):gop c lops Q K (o :: l) e h:=by
 obtain ⟨b,h',hb,he,H⟩:=H
 subst hv
 exact w_h (Bd ho hx hb he) hw hd (k b h' H)
/-- where an item lies -/
theorem wD {A:Addr->Prop} {base:Option Addr} {t el len cap:Nat} {z u:Operand} {kd:IntKind} {ix ln:Int} {n1 b1:Nat} {z1:List Value} {i:TI} (hT:TOk c.P T) (H:∃ a,base=some a/\0<=ix/\ix < ln/\A a) (k:∀ a,base=some a->A a->gop c lops Q K l (pu e o.dst (.pointer (some (a.add (ix.toNat * i.n))))) h)
  (ho:o.op = .indexAddr t z u:=by exact rfl) (hx:evO e z=some (.slice base len cap):=by exact rfl) (hy:evO e u=some (.int kd ix):=by exact rfl) (ht:tlk T t=some ⟨.slice el,n1,b1,z1⟩:=by exact rfl) (hi:tlk T el=some i:=by exact rfl) (hl:ln=len:=by exact rfl) (hw:wnt lops e o=some true:=by kernel_rfl) (hd:dOk c.N o.dst=true:=by kernel_rfl):gop c lops Q K (o :: l) e h:=by
 obtain ⟨a,ha,h0,h1,H⟩:=H
 exact w_y (su hT ho hx ha hy ht hi h0 (by rw [← hl]; exact h1)) hw hd (k a ha H)
/-- a join; a loop -/
theorem zJ {α:Type} (s:List Nat) {e':Env} (E:α->Env) (Φ:α->Heap->Prop) (h2:∀ s h,Φ s h->gco c y Q (E s ++ e') h) (h1:gco c x (Exit.then (Jn c (fun s=>E s ++ e') Φ) Q) e h) (hs:qi s e e':=by repeat (first | exact qi.nil | (apply qi.cons; exact rfl))):gco c (.seq x y) Q e h:=Ku _ Φ h2 h1
theorem zO {σ:Type} (s:List Nat) {e':Env} (E:σ->Env) (I:σ->Heap->Prop) (μ:σ->Heap->Nat) (s0:σ) (H0:I s0 h)
  (round:∀ s h,I s h->gco c x (Exit.then (Jn c (fun s=>E s ++ e') fun s' h'=>I s' h'/\μ s' h' < μ s h) Q) (E s ++ e') h) (hs:qi s e e':=by repeat (first | exact qi.nil | (apply qi.cons; exact rfl))) (h0:Sub (E s0 ++ e') e:=by repeat (first | exact trivial | refine ⟨rfl,?_⟩)):gco c (.loop x) Q e h:=Kt _ I μ s0 H0 h0 round
theorem vJ {α:Type} (n:Nat) (s:List Nat) {e':Env} (E:α->Env) (Φ:α->Heap->Prop) (h2:∀ s h,Φ s h->gop c lops Q K (l.drop n) (E s ++ e') h) (h1:gop c lops Q (Jn c (fun s=>E s ++ e') Φ) (l.take n) e h) (hs:qi s e e':=by repeat (first | exact qi.nil | (apply qi.cons; exact rfl))):gop c lops Q K l e h:=Ke n _ Φ h2 h1
theorem vU (n:Nat) (s:List Nat) {e':Env} (E:Env) (h2:gop c lops Q K (l.drop n) (E ++ e') h) (h1:gop c lops Q (Jn c (fun _:Unit=>E ++ e') (fun _ h'=>h'=h)) (l.take n) e h) (hs:qi s e e':=by repeat (first | exact qi.nil | (apply qi.cons; exact rfl))):gop c lops Q K l e h:=Lb n _ h2 h1
theorem vI {b:Bool} {A B:Prop} (d:Nat) (H:if b then A else B) (h1:A->gop c lops Q K l ((d,.bool true) :: e) h) (h2:B->gop c lops Q K l ((d,.bool false) :: e) h) (hd:lkO e d=some (.bool b):=by exact rfl):gop c lops Q K l e h:=Ms H hd h1 h2
end
end Go.Q
end
section
/- Steps in shorter words. -/
namespace Go.Q
open Go.RowKit
abbrev KP (α:Type):=α->Heap->Prop
abbrev rB (k:KP Bool):Value->Heap->Prop:=fun v h'=>∃ r:Bool,v = .bool r/\k r h'
abbrev rS (k:KP Slc):Value->Heap->Prop:=fun v h'=>∃ r:Slc,v=Slc.v r/\k r h'
abbrev rU (k:KP Unit):Value->Heap->Prop:=fun v h'=>∃ r:Unit,v = .tuple #[]/\k r h'
abbrev rI (i:IntKind) (k:KP Int):Value->Heap->Prop:=fun v h'=>∃ r:Int,v = .int i r/\k r h'
section
variable {c:Cx} {lops l:List Oper} {Q:Exit->Act->World->Prop} {K:Act->World->Prop} {done dead:List Nat} {pend:PL} {e:Env} {h:Heap} {o:Oper} {T:Tab}
/-- a number that is said otherwise -/
theorem wQ {α:Type} {en:α->Value} {A:α->Prop} {x:α} (hT:TOk c.P T) (H:∃ y,y=x/\A y) (k:∀ y,A y->gop c lops Q K l (pu e o.dst (en y)) h)
  (hp:pev T e o.op=some (en x):=by exact rfl) (hw:wnt lops e o=some true:=by kernel_rfl) (hd:dOk c.N o.dst=true:=by kernel_rfl):gop c lops Q K (o :: l) e h:=by
 obtain ⟨y,rfl,H⟩:=H
 exact w_p hT hp hw hd (k y H)
/-- in a region: what lies in a cell -/
theorem gl (i:Nat) (s:List Nat) {α:Type} {en:α->Value} {A:α->Prop} {a:Addr} {t:Nat} {z:Operand} {d:Option Tmp} {ti:TI} (hT:TOk c.P T) (H:∃ v,af h a=some (en v)/\A v)
  (k:∀ v,A v->SG c lops Q (i :: done) dead ((false,⟨i,en v,fZ s e⟩) :: pend) (pu e d (en v)) h) (ho:lops[i]? = some o:=by exact rfl) (hz:o.op = .load t z:=by exact rfl) (hx:evO (fZ s e) z=some (.pointer (some a)):=by exact rfl) (ht:tlk T t=some ti:=by exact rfl) (hi:isA ti.d=false:=by kernel_rfl)
  (hd:DD (dst? lops i) d:=by first | exact .s rfl | exact .n rfl) (hc:sdP lops done dead i s e=true:=by kernel_rfl) (hk:dOk c.N d=true:=by kernel_rfl) (hw:wnt lops (fZ s e) o=some true:=by kernel_rfl):SG c lops Q done dead pend e h:=by
 obtain ⟨v,hv,H⟩:=H
 exact gL i s ho (bH hT hz hx ht hi hv) (k v H) hd hc hk hw
theorem gla (i:Nat) (s:List Nat) {α:Type} {en:α->List Value} {A:α->Prop} {a:Addr} {t:Nat} {z:Operand} {d:Option Tmp} {ti:TI} (hT:TOk c.P T) (H:∃ v,aJ h a (en v)/\A v)
  (k:∀ v,A v->SG c lops Q (i :: done) dead ((false,⟨i,.agg (en v).toArray,fZ s e⟩) :: pend) (pu e d (.agg (en v).toArray)) h) (ho:lops[i]? = some o:=by exact rfl) (hz:o.op = .load t z:=by exact rfl) (hx:evO (fZ s e) z=some (.pointer (some a)):=by exact rfl) (ht:tlk T t=some ti:=by exact rfl) (hi:isA ti.d=true:=by kernel_rfl) (hn:∀ v,(en v).length=ti.n:=by exact fun _=>rfl)
  (hd:DD (dst? lops i) d:=by first | exact .s rfl | exact .n rfl) (hc:sdP lops done dead i s e=true:=by kernel_rfl) (hk:dOk c.N d=true:=by kernel_rfl) (hw:wnt lops (fZ s e) o=some true:=by kernel_rfl):SG c lops Q done dead pend e h:=by
 obtain ⟨v,hv,H⟩:=H
 exact gL i s ho (Kg hT hz hx ht hi (hn v) hv) (k v H) hd hc hk hw
/-- where an item lies -/
theorem gd (i:Nat) (s:List Nat) {A:Addr->Prop} {base:Option Addr} {t el len cap:Nat} {z u:Operand} {kd:IntKind} {ix ln:Int} {n1 b1:Nat} {z1:List Value} {d:Option Tmp} {ti:TI} (hT:TOk c.P T) (H:∃ a,base=some a/\0<=ix/\ix < ln/\A a)
  (k:∀ a,A a->SG c lops Q (i :: done) dead ((true,⟨i,.pointer (some (a.add (ix.toNat * ti.n))),fZ s e⟩) :: pend) (pu e d (.pointer (some (a.add (ix.toNat * ti.n))))) h) (ho:lops[i]? = some o:=by exact rfl)
  (hz:o.op = .indexAddr t z u:=by exact rfl) (hx:evO (fZ s e) z=some (.slice base len cap):=by exact rfl) (hy:evO (fZ s e) u=some (.int kd ix):=by exact rfl) (ht:tlk T t=some ⟨.slice el,n1,b1,z1⟩:=by exact rfl) (hi:tlk T el=some ti:=by exact rfl) (hl:ln=len:=by exact rfl)
  (hd:DD (dst? lops i) d:=by first | exact .s rfl | exact .n rfl) (hc:sdP lops done dead i s e=true:=by kernel_rfl) (hk:dOk c.N d=true:=by kernel_rfl) (hw:wnt lops (fZ s e) o=some true:=by kernel_rfl):SG c lops Q done dead pend e h:=by
 obtain ⟨a,ha,h0,h1,H⟩:=H
 exact gY i s ho (fun _=>su hT hz hx ha hy ht hi h0 (by rw [← hl]; exact h1)) (k a H) hd hc hk hw
/-- a store -/
theorem gs (i:Nat) (s:List Nat) {A:Heap->Prop} {v:Value} {a:Addr} {t:Nat} {z u:Operand} {d:Option Tmp} {ti:TI} (hT:TOk c.P T) (H:∃ h',WrH h a/\h'=setH h a v/\A h')
  (k:∀ h',A h'->SG c lops Q (i :: done) (dd lops dead i) pend (pu e d undef) h') (ho:lops[i]? = some o:=by exact rfl)
  (hz:o.op = .store t z u:=by exact rfl) (hx:evO (fZ s e) z=some (.pointer (some a)):=by exact rfl) (hy:evO (fZ s e) u=some v:=by exact rfl) (ht:tlk T t=some ti:=by exact rfl) (hn:Nat.beq ti.n 1=true:=by kernel_rfl) (hv:v.oneCell'=true:=by kernel_rfl)
  (hd:DD (dst? lops i) d:=by first | exact .s rfl | exact .n rfl) (hc:sdE lops done dead i s e=true:=by kernel_rfl) (hk:dOk c.N d=true:=by kernel_rfl) (hw:wnt lops (fZ s e) o=some true:=by kernel_rfl) (hl:(live (dd lops dead i) pend).isEmpty=true:=by kernel_rfl):SG c lops Q done dead pend e h:=by
 obtain ⟨h',hc',he,H⟩:=H
 exact gH i s ho (Fj hT hz hx hy ht hn hv hc' he) (k h' H) hd hc hk hw hl
theorem qp {q:Act->Prop} {v:Value} (hT:TOk c.P T) (H:gq c lops h q l (pu e o.dst v)) (hp:pev T e o.op=some v:=by exact rfl) (hw:wnt lops e o=some true:=by exact rfl) (hd:dOk c.N o.dst=true:=by exact rfl):gq c lops h q (o :: l) e:=q_p hT hp hw hd H
theorem qs {q:Act->Prop} (H:gq c lops h q l (pu e o.dst undef)) (hw:wnt lops e o=some false:=by exact rfl) (hd:dOk c.N o.dst=true:=by exact rfl):gq c lops h q (o :: l) e:=q_skip hw hd H
end
end Go.Q
end
section
/- Structs held against each other; calls of what has no Go text. -/
namespace Go.Q
section
variable {P:Program} {T:Tab} {e:Env} {h:Heap} {o:Oper}
end
end Go.Q
end

/- A part of the proof of statements of this seat: lemmas, no statement of their own. -/
import Derived.Test.YtgbbpanapnkdbaaGreatYqZad
import Derived.Laws.StructEq
import Derived.Laws.Externs
import Derived.Lib.Bytealg
import Derived.Shelf.Spec.BitsCarry
import Derived.RangeFuncBox
import Derived.RangeFuncNested
import Derived.RangeFuncLeaves
import Derived.Shelf.Abstract
import Derived.WalkKit
import Derived.OwnWalkIn
import Derived.TacticsInMore
import Derived.LoopNIn
import Derived.LoopIn
import Derived.Maps.AppendAt
import Derived.Maps.RangeRun
import Derived.RangeFuncStops
import Derived.Sort.MapsRangeIn
import Derived.Test.YtgbbpanapnkdbaaGreatProg
set_option linter.unusedVariables false
set_option linter.unusedSimpArgs false
section
/- The walk's steps in short words. -/
namespace Go.Q
open Go.RowKit
section
variable {c:Cx} {lops l:List Oper} {x y:Code} {Q:Exit->Act->World->Prop} {K:Act->World->Prop} {e:Env} {h:Heap} {o:Oper} {T:Tab}
theorem zS (H:gco c x (Exit.then (y.wp c.P Q) Q) e h):gco c (.seq x y) Q e h:=Ob H
theorem zR {id:Nat} (H:gop c lops Q (Q .normal) lops e h):gco c (.region id lops.toArray false) Q e h:=HV H
theorem zB {id:Nat} (H:gco c x (Exit.inBlock id Q) e h):gco c (.block id x) Q e h:=Np H
theorem zK (H:gex c Q .normal e h):gco c .skip Q e h:=PR H
theorem zA {i:Nat} (H:gex c Q .normal e h):gco c (.label i) Q e h:=Ns H
theorem zT (H:gex c Q .ret e h):gco c .ret Q e h:=QR H
theorem zY {id:Nat} (H:gex c Q (.exit id) e h):gco c (.exit id) Q e h:=Pv H
theorem zC (H:gco c x (Exit.noGoto Q) e h):gco c (.scope x) Q e h:=Nc H
theorem zX (H:gco c y Q e h):gex c (Exit.then (y.wp c.P Q) Q) .normal e h:=PZ H
theorem zW (H:gex c Q .normal e h):gop c lops Q (Q .normal) [] e h:=Qw H
theorem yL {id:Nat} (H:gex c Q .normal e h):gex c (Exit.inBlock id Q) .normal e h:=Qo H
theorem yE {id:Nat} {K:Act->World->Prop} (H:gex c Q (.exit id) e h):gex c (Exit.then K Q) (.exit id) e h:=Ta H
theorem yT {K:Act->World->Prop} (H:gex c Q .ret e h):gex c (Exit.then K Q) .ret e h:=Tf H
theorem yB {id:Nat} (H:gex c Q .ret e h):gex c (Exit.inBlock id Q) .ret e h:=Td H
theorem yH {id:Nat} (H:gex c Q .normal e h):gex c (Exit.inBlock id Q) (.exit id) e h:=Q0 H
theorem yN (H:gex c Q .normal e h):gex c (Exit.noGoto Q) .normal e h:=PY H
theorem yS {id:Nat} (H:gex c Q (.exit id) e h):gex c (Exit.noGoto Q) (.exit id) e h:=Rh H
theorem yR (H:gex c Q .ret e h):gex c (Exit.noGoto Q) .ret e h:=RS H
theorem vK {d:Nat} {v:Value} {e':Env} (H:lkO e d=some v) (hs:Sub e' e:=by repeat (first | exact trivial | refine ⟨rfl,?_⟩)):gop c lops Q (Jn c (fun _:Unit=>[(d,v)] ++ e') (fun _ h'=>h'=h)) [] e h:=QB () rfl ⟨H,hs⟩
theorem vG {d:Nat} {b:Bool} (h1:b=true->gop c lops Q K l ((d,.bool true) :: e) h) (h2:b=false->gop c lops Q K l ((d,.bool false) :: e) h) (hd:lkO e d=some (.bool b):=by exact rfl):gop c lops Q K l e h:=Qp hd h1 h2
theorem w1 {v:Value} (hT:TOk c.P T) (H:gop c lops Q K l (pu e o.dst v) h) (hp:pev T e o.op=some v:=by exact rfl) (hw:wnt lops e o=some true:=by kernel_rfl) (hd:dOk c.N o.dst=true:=by kernel_rfl):gop c lops Q K (o :: l) e h:=w_p hT hp hw hd H
theorem w2 {o1 o2:Oper} {v1 v2:Value} (hT:TOk c.P T) (H:gop c lops Q K l (pu (pu e o1.dst v1) o2.dst v2) h) (p1:pev T e o1.op=some v1:=by exact rfl) (g1:wnt lops e o1=some true:=by kernel_rfl) (d1:dOk c.N o1.dst=true:=by kernel_rfl) (p2:pev T (pu e o1.dst v1) o2.op=some v2:=by exact rfl) (g2:wnt lops (pu e o1.dst v1) o2=some true:=by kernel_rfl) (d2:dOk c.N o2.dst=true:=by kernel_rfl):gop c lops Q K (o1 :: o2 :: l) e h:=w_p hT p1 g1 d1 (w_p hT p2 g2 d2 H)
theorem w3 {o1 o2 o3:Oper} {v1 v2 v3:Value} (hT:TOk c.P T) (H:gop c lops Q K l (pu (pu (pu e o1.dst v1) o2.dst v2) o3.dst v3) h) (p1:pev T e o1.op=some v1:=by exact rfl) (g1:wnt lops e o1=some true:=by kernel_rfl) (d1:dOk c.N o1.dst=true:=by kernel_rfl) (p2:pev T (pu e o1.dst v1) o2.op=some v2:=by exact rfl) (g2:wnt lops (pu e o1.dst v1) o2=some true:=by kernel_rfl) (d2:dOk c.N o2.dst=true:=by kernel_rfl) (p3:pev T (pu (pu e o1.dst v1) o2.dst v2) o3.op=some v3:=by exact rfl) (g3:wnt lops (pu (pu e o1.dst v1) o2.dst v2) o3=some true:=by kernel_rfl) (d3:dOk c.N o3.dst=true:=by kernel_rfl):gop c lops Q K (o1 :: o2 :: o3 :: l) e h:=w_p hT p1 g1 d1 (w_p hT p2 g2 d2 (w_p hT p3 g3 d3 H))
theorem w4 {o1 o2 o3 o4:Oper} {v1 v2 v3 v4:Value} (hT:TOk c.P T) (H:gop c lops Q K l (pu (pu (pu (pu e o1.dst v1) o2.dst v2) o3.dst v3) o4.dst v4) h) (p1:pev T e o1.op=some v1:=by exact rfl) (g1:wnt lops e o1=some true:=by kernel_rfl) (d1:dOk c.N o1.dst=true:=by kernel_rfl) (p2:pev T (pu e o1.dst v1) o2.op=some v2:=by exact rfl) (g2:wnt lops (pu e o1.dst v1) o2=some true:=by kernel_rfl) (d2:dOk c.N o2.dst=true:=by kernel_rfl) (p3:pev T (pu (pu e o1.dst v1) o2.dst v2) o3.op=some v3:=by exact rfl) (g3:wnt lops (pu (pu e o1.dst v1) o2.dst v2) o3=some true:=by kernel_rfl) (d3:dOk c.N o3.dst=true:=by kernel_rfl) (p4:pev T (pu (pu (pu e o1.dst v1) o2.dst v2) o3.dst v3) o4.op=some v4:=by exact rfl) (g4:wnt lops (pu (pu (pu e o1.dst v1) o2.dst v2) o3.dst v3) o4=some true:=by kernel_rfl) (d4:dOk c.N o4.dst=true:=by kernel_rfl):gop c lops Q K (o1 :: o2 :: o3 :: o4 :: l) e h:=w_p hT p1 g1 d1 (w_p hT p2 g2 d2 (w_p hT p3 g3 d3 (w_p hT p4 g4 d4 H)))
theorem w5 {o1 o2 o3 o4 o5:Oper} {v1 v2 v3 v4 v5:Value} (hT:TOk c.P T) (H:gop c lops Q K l (pu (pu (pu (pu (pu e o1.dst v1) o2.dst v2) o3.dst v3) o4.dst v4) o5.dst v5) h) (p1:pev T e o1.op=some v1:=by exact rfl) (g1:wnt lops e o1=some true:=by kernel_rfl) (d1:dOk c.N o1.dst=true:=by kernel_rfl) (p2:pev T (pu e o1.dst v1) o2.op=some v2:=by exact rfl) (g2:wnt lops (pu e o1.dst v1) o2=some true:=by kernel_rfl) (d2:dOk c.N o2.dst=true:=by kernel_rfl) (p3:pev T (pu (pu e o1.dst v1) o2.dst v2) o3.op=some v3:=by exact rfl) (g3:wnt lops (pu (pu e o1.dst v1) o2.dst v2) o3=some true:=by kernel_rfl) (d3:dOk c.N o3.dst=true:=by kernel_rfl) (p4:pev T (pu (pu (pu e o1.dst v1) o2.dst v2) o3.dst v3) o4.op=some v4:=by exact rfl) (g4:wnt lops (pu (pu (pu e o1.dst v1) o2.dst v2) o3.dst v3) o4=some true:=by kernel_rfl) (d4:dOk c.N o4.dst=true:=by kernel_rfl) (p5:pev T (pu (pu (pu (pu e o1.dst v1) o2.dst v2) o3.dst v3) o4.dst v4) o5.op=some v5:=by exact rfl) (g5:wnt lops (pu (pu (pu (pu e o1.dst v1) o2.dst v2) o3.dst v3) o4.dst v4) o5=some true:=by kernel_rfl) (d5:dOk c.N o5.dst=true:=by kernel_rfl):gop c lops Q K (o1 :: o2 :: o3 :: o4 :: o5 :: l) e h:=w_p hT p1 g1 d1 (w_p hT p2 g2 d2 (w_p hT p3 g3 d3 (w_p hT p4 g4 d4 (w_p hT p5 g5 d5 H))))
theorem w6 {o1 o2 o3 o4 o5 o6:Oper} {v1 v2 v3 v4 v5 v6:Value} (hT:TOk c.P T) (H:gop c lops Q K l (pu (pu (pu (pu (pu (pu e o1.dst v1) o2.dst v2) o3.dst v3) o4.dst v4) o5.dst v5) o6.dst v6) h) (p1:pev T e o1.op=some v1:=by exact rfl) (g1:wnt lops e o1=some true:=by kernel_rfl) (d1:dOk c.N o1.dst=true:=by kernel_rfl) (p2:pev T (pu e o1.dst v1) o2.op=some v2:=by exact rfl) (g2:wnt lops (pu e o1.dst v1) o2=some true:=by kernel_rfl) (d2:dOk c.N o2.dst=true:=by kernel_rfl) (p3:pev T (pu (pu e o1.dst v1) o2.dst v2) o3.op=some v3:=by exact rfl) (g3:wnt lops (pu (pu e o1.dst v1) o2.dst v2) o3=some true:=by kernel_rfl) (d3:dOk c.N o3.dst=true:=by kernel_rfl) (p4:pev T (pu (pu (pu e o1.dst v1) o2.dst v2) o3.dst v3) o4.op=some v4:=by exact rfl) (g4:wnt lops (pu (pu (pu e o1.dst v1) o2.dst v2) o3.dst v3) o4=some true:=by kernel_rfl) (d4:dOk c.N o4.dst=true:=by kernel_rfl) (p5:pev T (pu (pu (pu (pu e o1.dst v1) o2.dst v2) o3.dst v3) o4.dst v4) o5.op=some v5:=by exact rfl) (g5:wnt lops (pu (pu (pu (pu e o1.dst v1) o2.dst v2) o3.dst v3) o4.dst v4) o5=some true:=by kernel_rfl) (d5:dOk c.N o5.dst=true:=by kernel_rfl) (p6:pev T (pu (pu (pu (pu (pu e o1.dst v1) o2.dst v2) o3.dst v3) o4.dst v4) o5.dst v5) o6.op=some v6:=by exact rfl) (g6:wnt lops (pu (pu (pu (pu (pu e o1.dst v1) o2.dst v2) o3.dst v3) o4.dst v4) o5.dst v5) o6=some true:=by kernel_rfl) (d6:dOk c.N o6.dst=true:=by kernel_rfl):gop c lops Q K (o1 :: o2 :: o3 :: o4 :: o5 :: o6 :: l) e h:=w_p hT p1 g1 d1 (w_p hT p2 g2 d2 (w_p hT p3 g3 d3 (w_p hT p4 g4 d4 (w_p hT p5 g5 d5 (w_p hT p6 g6 d6 H)))))
theorem zE (H:gco c y Q e h):gop c lops (Exit.then (y.wp c.P Q) Q) ((Exit.then (y.wp c.P Q) Q) .normal) [] e h:=H
theorem zL {id:Nat} (H:gex c Q .normal e h):gop c lops (Exit.inBlock id Q) ((Exit.inBlock id Q) .normal) [] e h:=H
theorem zQ {id:Nat} {z:Code} {ops:List Oper} (H:gop c ops (Exit.then (z.wp c.P Q) Q) ((Exit.then (z.wp c.P Q) Q) .normal) ops e h):gco c (.seq (.region id ops.toArray false) z) Q e h:=Ob (HV H)
theorem zF (s:List Nat) {e':Env} (H:gco c x Q e' h) (hs:ui s e e':=by repeat (first | exact ui.nil | (apply ui.cons; exact rfl))):gco c x Q e h:=Pw e' hs.sub H
theorem vF (s:List Nat) {e':Env} (H:gop c lops Q K l e' h) (hs:ui s e e':=by repeat (first | exact ui.nil | (apply ui.cons; exact rfl))):gop c lops Q K l e h:=O7 e' hs.sub H
theorem zI {t:Operand} {b:Bool} {A B:Prop} (H:if b then A else B) (h1:A->gco c x Q e h) (h2:B->gco c y Q e h) (hb:evO e t=some (.bool b):=by exact rfl):gco c (.cond t x y) Q e h:=Rm H hb h1 h2
theorem zM {id id':Nat} (H:gex c Q (.exit id') e h) (hne:Nat.beq id' id=false:=by kernel_rfl):gex c (Exit.inBlock id Q) (.exit id') e h:=Sr hne H
theorem fE {D:Bool} {P:Program} {f:FuncId} {fn:Func} {x:Code} {args:List Value} {h:Heap} {Φ:Value->Heap->Prop} {N:Nat} (hf:P.funcs[f]? = some fn)
  (H:∀ w,gco ⟨P,N,w,D⟩ x (bodyPost P fn (Rt D w Φ)) (Gi 0 args) h) (hb:fn.body=some x:=by exact rfl) (hN:fn.ntmps=N:=by exact rfl) (hn:Nat.ble args.length N=true:=by kernel_rfl):CallsHD D P f args.toArray h Φ:=NE hf hb hN hn H
theorem ck {P:Program} {f:FuncId} {fn:Func} (hf:P.funcs[f]? = some fn) (h1:(fn.name == "runtime.NumGoroutine")=false:=by kernel_rfl) (h2:fn.body.isNone=false:=by kernel_rfl):aF P f:=⟨fn,hf,h1,h2⟩
/-- pure, passed over, without an effect, with one, one of several outcomes -/
theorem wS (H:gop c lops Q K l (pu e o.dst undef) h) (hw:wnt lops e o=some false:=by kernel_rfl) (hd:dOk c.N o.dst=true:=by kernel_rfl):gop c lops Q K (o :: l) e h:=Pe hw hd H
theorem wY {v:Value} (hy:Yl c.P e h o v) (H:gop c lops Q K l (pu e o.dst v) h) (hw:wnt lops e o=some true:=by kernel_rfl) (hd:dOk c.N o.dst=true:=by kernel_rfl):gop c lops Q K (o :: l) e h:=w_y hy hw hd H
theorem wYe {v v':Value} (hy:Yl c.P e h o v) (hv:v'=v) (H:gop c lops Q K l (pu e o.dst v') h) (hw:wnt lops e o=some true:=by kernel_rfl) (hd:dOk c.N o.dst=true:=by kernel_rfl):gop c lops Q K (o :: l) e h:=Sb hy hv hw hd H
theorem wH {v:Value} {h':Heap} (hy:Yh c.P e h o v h') (H:gop c lops Q K l (pu e o.dst v) h') (hw:wnt lops e o=some true:=by kernel_rfl) (hd:dOk c.N o.dst=true:=by kernel_rfl):gop c lops Q K (o :: l) e h:=w_h hy hw hd H
theorem wA {Φ:Value->Heap->Prop} (hy:Ya c.P e h o Φ) (H:∀ v h',Φ v h'->gop c lops Q K l (pu e o.dst v) h') (hw:wnt lops e o=some true:=by kernel_rfl) (hd:dOk c.N o.dst=true:=by kernel_rfl):gop c lops Q K (o :: l) e h:=w_a hy hw hd H
theorem wC {f:FuncId} {as':List Operand} {ts:Array TypeId} {vs:List Value} {α:Type} {en:α->Value} {A:α->Heap->Prop}
  (hf:aF c.P f) (hc:CallsHD c.D c.P f vs.toArray h fun v h'=>∃ r,v=en r/\A r h') (H:∀ r h',A r h'->gop c lops Q K l (pu e o.dst (en r)) h')
  (ho:o.op = .call { callee:=.value (.func f),args:=as'.toArray,argTypes:=ts }:=by exact rfl) (hv:evs e as'=some vs:=by exact rfl) (hw:wnt lops e o=some true:=by kernel_rfl) (hd:dOk c.N o.dst=true:=by kernel_rfl):gop c lops Q K (o :: l) e h :=
 Pm hf hc ho hv hw hd (by rintro _ h' ⟨r,rfl,k⟩; exact H r h' k)
/-- a pointer that is there -/
theorem wN {p:Option Addr} {A:Addr->Prop} {z:Operand} (H:∃ a,p=some a/\A a) (k:∀ a,p=some a->A a->gop c lops Q K l (pu e o.dst (.pointer (some a))) h)
  (ho:o.op = .nilCheck z:=by exact rfl) (hx:evO e z=some (.pointer p):=by exact rfl) (hw:wnt lops e o=some true:=by kernel_rfl) (hd:dOk c.N o.dst=true:=by kernel_rfl):gop c lops Q K (o :: l) e h:=by
 obtain ⟨a,ha,H⟩:=H
 exact w_y (bP ho hx ha) hw hd (k a ha H)
/-- what lies in a cell; in several -/
theorem wL {α:Type} {en:α->Value} {A:α->Prop} {a:Addr} {t:Nat} {z:Operand} {i:TI} (hT:TOk c.P T) (H:∃ v,ah h a=some (en v)/\A v) (k:∀ v,A v->gop c lops Q K l (pu e o.dst (en v)) h)
  (ho:o.op = .load t z:=by exact rfl) (hx:evO e z=some (.pointer (some a)):=by exact rfl) (ht:tlk T t=some i:=by exact rfl) (hi:isA i.d=false:=by kernel_rfl) (hw:wnt lops e o=some true:=by kernel_rfl) (hd:dOk c.N o.dst=true:=by kernel_rfl):gop c lops Q K (o :: l) e h:=by
 obtain ⟨v,hv,H⟩:=H
 exact w_y (fq hT ho hx ht hi hv) hw hd (k v H)
theorem wLa {α:Type} {en:α->List Value} {A:α->Prop} {a:Addr} {t:Nat} {z:Operand} {i:TI} (hT:TOk c.P T) (H:∃ v,ai h a (en v)/\A v) (k:∀ v,A v->gop c lops Q K l (pu e o.dst (.agg (en v).toArray)) h)
  (ho:o.op = .load t z:=by exact rfl) (hx:evO e z=some (.pointer (some a)):=by exact rfl) (ht:tlk T t=some i:=by exact rfl) (hi:isA i.d=true:=by kernel_rfl) (hn:∀ v,(en v).length=i.n:=by exact fun _=>rfl) (hw:wnt lops e o=some true:=by kernel_rfl) (hd:dOk c.N o.dst=true:=by kernel_rfl):gop c lops Q K (o :: l) e h:=by
 obtain ⟨v,hv,H⟩:=H
 exact w_y (fC hT ho hx ht hi (hn v) hv) hw hd (k v H)
/-- a store -/
theorem wT {A:Heap->Prop} {v:Value} {a:Addr} {t:Nat} {z u:Operand} {i:TI} (hT:TOk c.P T) (H:∃ h',WrH h a/\h'=setH h a v/\A h') (k:∀ h',A h'->gop c lops Q K l (pu e o.dst undef) h')
  (ho:o.op = .store t z u:=by exact rfl) (hx:evO e z=some (.pointer (some a)):=by exact rfl) (hy:evO e u=some v:=by exact rfl) (ht:tlk T t=some i:=by exact rfl) (hn:Nat.beq i.n 1=true:=by kernel_rfl) (hv:v.oneCell'=true:=by kernel_rfl) (hw:wnt lops e o=some true:=by kernel_rfl) (hd:dOk c.N o.dst=true:=by kernel_rfl):gop c lops Q K (o :: l) e h:=by
 obtain ⟨h',hc,he,H⟩:=H
 exact w_h (Qv hT ho hx hy ht hn hv hc he) hw hd (k h' H)
theorem wTa {A:Heap->Prop} {vs:List Value} {a:Addr} {n t:Nat} {z u:Operand} {i:TI} (hT:TOk c.P T) (H:∃ h',aN h a n/\h'=aM h a 0 vs/\A h') (k:∀ h',A h'->gop c lops Q K l (pu e o.dst undef) h')
  (ho:o.op = .store t z u:=by exact rfl) (hx:evO e z=some (.pointer (some a)):=by exact rfl) (hy:evO e u=some (.agg vs.toArray):=by exact rfl) (ht:tlk T t=some i:=by exact rfl) (hni:i.n=n:=by kernel_rfl) (hn:i.n=vs.length:=by exact rfl) (hv:vs.all (fun v=>v.oneCell')=true:=by kernel_rfl) (hw:wnt lops e o=some true:=by kernel_rfl) (hd:dOk c.N o.dst=true:=by kernel_rfl):gop c lops Q K (o :: l) e h:=by
 obtain ⟨h',hc,he,H⟩:=H
 exact w_h (si hT ho hx hy ht hn (yV hv) (by rw [hni]; exact hc) he) hw hd (k h' H)
/-- a new block -/
theorem wB {A:Nat->Heap->Prop} {zs:Array Value} {t:Nat} {i:TI} (hT:TOk c.P T) (H:∃ (b:Nat) (h':Heap),b=h.size/\h'=h.push (.cells zs t)/\A b h') (k:∀ b h',A b h'->gop c lops Q K l (pu e o.dst (pt b)) h')
  (ho:o.op = .alloc t:=by exact rfl) (ht:tlk T t=some i:=by exact rfl) (hz:i.z.toArray=zs:=by exact rfl) (hw:wnt lops e o=some true:=by kernel_rfl) (hd:dOk c.N o.dst=true:=by kernel_rfl):gop c lops Q K (o :: l) e h:=by
 obtain ⟨b,h',hb,he,H⟩:=H
 subst hz
 exact w_h (tH hT ho ht hb he) hw hd (k b h' H)
theorem wX {A:Nat->Heap->Prop} {v:Value} {vs:Array Value} {t:Nat} {z:Operand} (H:∃ (b:Nat) (h':Heap),b=h.size/\h'=h.push (.cells vs t)/\A b h') (k:∀ b h',A b h'->gop c lops Q K l (pu e o.dst (pt b)) h')
  (ho:o.op = .box t z:=by exact rfl) (hx:evO e z=some v:=by exact rfl) (hv:v.cells=vs:=by exact rfl) (hw:wnt lops e o=some true:=by kernel_rfl) (hd:dOk c.N o.dst=true:=by kernel_rfl):gop c lops Q K (o :: l) e h:=by
 obtain ⟨b,h',hb,he,H⟩:=H
 subst hv
 exact w_h (Qg ho hx hb he) hw hd (k b h' H)
/-- where an item lies -/
theorem wD {A:Addr->Prop} {base:Option Addr} {t el len cap:Nat} {z u:Operand} {kd:IntKind} {ix ln:Int} {n1 b1:Nat} {z1:List Value} {i:TI} (hT:TOk c.P T) (H:∃ a,base=some a/\0<=ix/\ix < ln/\A a) (k:∀ a,base=some a->A a->gop c lops Q K l (pu e o.dst (.pointer (some (a.add (ix.toNat * i.n))))) h)
  (ho:o.op = .indexAddr t z u:=by exact rfl) (hx:evO e z=some (.slice base len cap):=by exact rfl) (hy:evO e u=some (.int kd ix):=by exact rfl) (ht:tlk T t=some ⟨.slice el,n1,b1,z1⟩:=by exact rfl) (hi:tlk T el=some i:=by exact rfl) (hl:ln=len:=by exact rfl) (hw:wnt lops e o=some true:=by kernel_rfl) (hd:dOk c.N o.dst=true:=by kernel_rfl):gop c lops Q K (o :: l) e h:=by
 obtain ⟨a,ha,h0,h1,H⟩:=H
 exact w_y (lh hT ho hx ha hy ht hi h0 (by rw [← hl]; exact h1)) hw hd (k a ha H)
/-- a join; a loop -/
theorem zJ {α:Type} (s:List Nat) {e':Env} (E:α->Env) (Φ:α->Heap->Prop) (h2:∀ s h,Φ s h->gco c y Q (E s ++ e') h) (h1:gco c x (Exit.then (Jn c (fun s=>E s ++ e') Φ) Q) e h) (hs:ui s e e':=by repeat (first | exact ui.nil | (apply ui.cons; exact rfl))):gco c (.seq x y) Q e h:=Pt _ Φ h2 h1
theorem zO {σ:Type} (s:List Nat) {e':Env} (E:σ->Env) (I:σ->Heap->Prop) (μ:σ->Heap->Nat) (s0:σ) (H0:I s0 h)
  (round:∀ s h,I s h->gco c x (Exit.then (Jn c (fun s=>E s ++ e') fun s' h'=>I s' h'/\μ s' h' < μ s h) Q) (E s ++ e') h) (hs:ui s e e':=by repeat (first | exact ui.nil | (apply ui.cons; exact rfl))) (h0:Sub (E s0 ++ e') e:=by repeat (first | exact trivial | refine ⟨rfl,?_⟩)):gco c (.loop x) Q e h:=Oo _ I μ s0 H0 h0 round
theorem vJ {α:Type} (n:Nat) (s:List Nat) {e':Env} (E:α->Env) (Φ:α->Heap->Prop) (h2:∀ s h,Φ s h->gop c lops Q K (l.drop n) (E s ++ e') h) (h1:gop c lops Q (Jn c (fun s=>E s ++ e') Φ) (l.take n) e h) (hs:ui s e e':=by repeat (first | exact ui.nil | (apply ui.cons; exact rfl))):gop c lops Q K l e h:=Oe n _ Φ h2 h1
theorem vU (n:Nat) (s:List Nat) {e':Env} (E:Env) (h2:gop c lops Q K (l.drop n) (E ++ e') h) (h1:gop c lops Q (Jn c (fun _:Unit=>E ++ e') (fun _ h'=>h'=h)) (l.take n) e h) (hs:ui s e e':=by repeat (first | exact ui.nil | (apply ui.cons; exact rfl))):gop c lops Q K l e h:=Ou n _ h2 h1
theorem vI {b:Bool} {A B:Prop} (d:Nat) (H:if b then A else B) (h1:A->gop c lops Q K l ((d,.bool true) :: e) h) (h2:B->gop c lops Q K l ((d,.bool false) :: e) h) (hd:lkO e d=some (.bool b):=by exact rfl):gop c lops Q K l e h:=QT H hd h1 h2
end
end Go.Q
end
section
/- Steps in shorter words. -/
namespace Go.Q
open Go.RowKit
abbrev KP (α:Type):=α->Heap->Prop
abbrev rB (k:KP Bool):Value->Heap->Prop:=fun v h'=>∃ r:Bool,v = .bool r/\k r h'
abbrev rS (k:KP Slc):Value->Heap->Prop:=fun v h'=>∃ r:Slc,v=Slc.v r/\k r h'
abbrev rU (k:KP Unit):Value->Heap->Prop:=fun v h'=>∃ r:Unit,v = .tuple #[]/\k r h'
abbrev rI (i:IntKind) (k:KP Int):Value->Heap->Prop:=fun v h'=>∃ r:Int,v = .int i r/\k r h'
section
variable {c:Cx} {lops l:List Oper} {Q:Exit->Act->World->Prop} {K:Act->World->Prop} {done dead:List Nat} {pend:PL} {e:Env} {h:Heap} {o:Oper} {T:Tab}
/-- a number that is said otherwise -/
theorem wQ {α:Type} {en:α->Value} {A:α->Prop} {x:α} (hT:TOk c.P T) (H:∃ y,y=x/\A y) (k:∀ y,A y->gop c lops Q K l (pu e o.dst (en y)) h)
  (hp:pev T e o.op=some (en x):=by exact rfl) (hw:wnt lops e o=some true:=by kernel_rfl) (hd:dOk c.N o.dst=true:=by kernel_rfl):gop c lops Q K (o :: l) e h:=by
 obtain ⟨y,rfl,H⟩:=H
 exact w_p hT hp hw hd (k y H)
/-- in a region: what lies in a cell -/
theorem gl (i:Nat) (s:List Nat) {α:Type} {en:α->Value} {A:α->Prop} {a:Addr} {t:Nat} {z:Operand} {d:Option Tmp} {ti:TI} (hT:TOk c.P T) (H:∃ v,ah h a=some (en v)/\A v)
  (k:∀ v,A v->SG c lops Q (i :: done) dead ((false,⟨i,en v,iD s e⟩) :: pend) (pu e d (en v)) h) (ho:lops[i]? = some o:=by exact rfl) (hz:o.op = .load t z:=by exact rfl) (hx:evO (iD s e) z=some (.pointer (some a)):=by exact rfl) (ht:tlk T t=some ti:=by exact rfl) (hi:isA ti.d=false:=by kernel_rfl)
  (hd:DD (dst? lops i) d:=by first | exact .s rfl | exact .n rfl) (hc:sdP lops done dead i s e=true:=by kernel_rfl) (hk:dOk c.N d=true:=by kernel_rfl) (hw:wnt lops (iD s e) o=some true:=by kernel_rfl):SG c lops Q done dead pend e h:=by
 obtain ⟨v,hv,H⟩:=H
 exact gL i s ho (fq hT hz hx ht hi hv) (k v H) hd hc hk hw
theorem gla (i:Nat) (s:List Nat) {α:Type} {en:α->List Value} {A:α->Prop} {a:Addr} {t:Nat} {z:Operand} {d:Option Tmp} {ti:TI} (hT:TOk c.P T) (H:∃ v,ai h a (en v)/\A v)
  (k:∀ v,A v->SG c lops Q (i :: done) dead ((false,⟨i,.agg (en v).toArray,iD s e⟩) :: pend) (pu e d (.agg (en v).toArray)) h) (ho:lops[i]? = some o:=by exact rfl) (hz:o.op = .load t z:=by exact rfl) (hx:evO (iD s e) z=some (.pointer (some a)):=by exact rfl) (ht:tlk T t=some ti:=by exact rfl) (hi:isA ti.d=true:=by kernel_rfl) (hn:∀ v,(en v).length=ti.n:=by exact fun _=>rfl)
  (hd:DD (dst? lops i) d:=by first | exact .s rfl | exact .n rfl) (hc:sdP lops done dead i s e=true:=by kernel_rfl) (hk:dOk c.N d=true:=by kernel_rfl) (hw:wnt lops (iD s e) o=some true:=by kernel_rfl):SG c lops Q done dead pend e h:=by
 obtain ⟨v,hv,H⟩:=H
 exact gL i s ho (fC hT hz hx ht hi (hn v) hv) (k v H) hd hc hk hw
/-- where an item lies -/
theorem gd (i:Nat) (s:List Nat) {A:Addr->Prop} {base:Option Addr} {t el len cap:Nat} {z u:Operand} {kd:IntKind} {ix ln:Int} {n1 b1:Nat} {z1:List Value} {d:Option Tmp} {ti:TI} (hT:TOk c.P T) (H:∃ a,base=some a/\0<=ix/\ix < ln/\A a)
  (k:∀ a,A a->SG c lops Q (i :: done) dead ((true,⟨i,.pointer (some (a.add (ix.toNat * ti.n))),iD s e⟩) :: pend) (pu e d (.pointer (some (a.add (ix.toNat * ti.n))))) h) (ho:lops[i]? = some o:=by exact rfl)
  (hz:o.op = .indexAddr t z u:=by exact rfl) (hx:evO (iD s e) z=some (.slice base len cap):=by exact rfl) (hy:evO (iD s e) u=some (.int kd ix):=by exact rfl) (ht:tlk T t=some ⟨.slice el,n1,b1,z1⟩:=by exact rfl) (hi:tlk T el=some ti:=by exact rfl) (hl:ln=len:=by exact rfl)
  (hd:DD (dst? lops i) d:=by first | exact .s rfl | exact .n rfl) (hc:sdP lops done dead i s e=true:=by kernel_rfl) (hk:dOk c.N d=true:=by kernel_rfl) (hw:wnt lops (iD s e) o=some true:=by kernel_rfl):SG c lops Q done dead pend e h:=by
 obtain ⟨a,ha,h0,h1,H⟩:=H
 exact gY i s ho (fun _=>lh hT hz hx ha hy ht hi h0 (by rw [← hl]; exact h1)) (k a H) hd hc hk hw
/-- a store -/
theorem gs (i:Nat) (s:List Nat) {A:Heap->Prop} {v:Value} {a:Addr} {t:Nat} {z u:Operand} {d:Option Tmp} {ti:TI} (hT:TOk c.P T) (H:∃ h',WrH h a/\h'=setH h a v/\A h')
  (k:∀ h',A h'->SG c lops Q (i :: done) (dd lops dead i) pend (pu e d undef) h') (ho:lops[i]? = some o:=by exact rfl)
  (hz:o.op = .store t z u:=by exact rfl) (hx:evO (iD s e) z=some (.pointer (some a)):=by exact rfl) (hy:evO (iD s e) u=some v:=by exact rfl) (ht:tlk T t=some ti:=by exact rfl) (hn:Nat.beq ti.n 1=true:=by kernel_rfl) (hv:v.oneCell'=true:=by kernel_rfl)
  (hd:DD (dst? lops i) d:=by first | exact .s rfl | exact .n rfl) (hc:sdE lops done dead i s e=true:=by kernel_rfl) (hk:dOk c.N d=true:=by kernel_rfl) (hw:wnt lops (iD s e) o=some true:=by kernel_rfl) (hl:(live (dd lops dead i) pend).isEmpty=true:=by kernel_rfl):SG c lops Q done dead pend e h:=by
 obtain ⟨h',hc',he,H⟩:=H
 exact gH i s ho (Qv hT hz hx hy ht hn hv hc' he) (k h' H) hd hc hk hw hl
theorem qp {q:Act->Prop} {v:Value} (hT:TOk c.P T) (H:gq c lops h q l (pu e o.dst v)) (hp:pev T e o.op=some v:=by exact rfl) (hw:wnt lops e o=some true:=by exact rfl) (hd:dOk c.N o.dst=true:=by exact rfl):gq c lops h q (o :: l) e:=q_p hT hp hw hd H
theorem qs {q:Act->Prop} (H:gq c lops h q l (pu e o.dst undef)) (hw:wnt lops e o=some false:=by exact rfl) (hd:dOk c.N o.dst=true:=by exact rfl):gq c lops h q (o :: l) e:=q_skip hw hd H
end
end Go.Q
end
section
/- Structs held against each other; calls of what has no Go text. -/
namespace Go.Q
section
variable {P:Program} {T:Tab} {e:Env} {h:Heap} {o:Oper}
theorem GR {op:BinOp} {t yt:Nat} {x y:Operand} {xs ys:List Value} {b:Bool} (hop:op = .eql∨op = .neq) (ho:o.op = .binOp op t x y yt) (hx:evO e x=some (.agg xs.toArray)) (hy:evO e y=some (.agg ys.toArray))
  (heq:∀ w,(Op.equal t (.agg xs.toArray) (.agg ys.toArray)).run P w = .ok b w) (hg:P.eqGuardType P.depth t=false):Yl P e h o (.bool (if op = .eql then b else !b)):=by
 intro ρ w hA hw
 have gd:=fun op x y=>run_eqGuard_agg (P:=P) w op t x y xs.toArray ys.toArray hg
 rcases hop with rfl | rfl
 ·simp [execOp,ho,hA _ _ hx,hA _ _ hy,gd,binOp,heq]
 ·simp [execOp,ho,hA _ _ hx,hA _ _ hy,gd,binOp,heq]
theorem Ma {f:FuncId} {as':List Operand} {ts:Array TypeId} {vs:List Value} {v:Value} (hf:∀ w,(callFunc f vs.toArray).run P w = .ok (.value v) w) (ho:o.op = .call { callee:=.value (.func f),args:=as'.toArray,argTypes:=ts }) (hv:evs e as'=some vs):Yl P e h o v:=by
 intro ρ w hA hw
 have hm:=EE hA _ _ hv
 simp [execOp,ho,resolve,hA (.func f) (.func (.func f) #[] #[]) rfl,Deferred.ofValue,invoke,hm,hf]
theorem MN {f:FuncId} {fn:Func} (s:ByteArray) (c:Int) (hf:P.funcs[f]? = some fn) (hname:(fn.name == "runtime.NumGoroutine")=false) (hb:fn.body.isNone=true) (hn:Extern.findNext fn=none) (he:Extern.find fn=some Extern.BytealgIndexByte.indexByte) (w:World) :
  (callFunc f [.string s,.int .u8 c].toArray).run P w = .ok (.value (.int .i64 (Lib.indexByte s.data.toList c.toNat.toUInt8))) w:=by
 rw [run_callFunc_extern hf hname hb hn he]
 rw [show ([.string s,.int .u8 c]:List Value).toArray = #[.string s,.int .u8 c] from rfl,Lib.run_indexByteString]
 rfl
end
end Go.Q
end
section
/- Sums with a carry: a call of what has no Go text. -/
namespace Go.Q
open Go.Proofs
theorem Jo {P:Program} {f:FuncId} {fn:Func} (x y c:Int) (hf:P.funcs[f]? = some fn) (hname:(fn.name == "runtime.NumGoroutine")=false) (hb:fn.body.isNone=true) (hn:Extern.findNext fn=none) (he:Extern.find fn=some add64Entry)
  (h0:0<=x/\0<=y/\0<=c/\c<=1) (w:World) :
  (callFunc f [.int .u64 x,.int .u64 y,.int .u64 c].toArray).run P w = .ok (.value (.tuple #[.int .u64 ((x + y + c) % 18446744073709551616),.int .u64 ((x + y + c) / 18446744073709551616)])) w:=by
 obtain ⟨a0,a1,a2,a3⟩:=h0
 obtain ⟨n,rfl⟩:=Int.eq_ofNat_of_zero_le a0
 obtain ⟨m,rfl⟩:=Int.eq_ofNat_of_zero_le a1
 obtain ⟨k,rfl⟩:=Int.eq_ofNat_of_zero_le a2
 rw [run_callFunc_extern hf hname hb hn he]
 have e:(add64Entry [Value.int .u64 (n:Int),.int .u64 (m:Int),.int .u64 (k:Int)].toArray).run P w = .ok (.tuple #[.int .u64 (((n + m + k) % 18446744073709551616:Nat):Int),.int .u64 (((n + m + k) / 18446744073709551616:Nat):Int)]) w:=by
  have:k=0∨k=1:=by omega
  rcases this with rfl | rfl <;> rfl
 rw [e]
 simp [Result.andThen]
end Go.Q
end
section
/- maps.Values of a map of pieces, taken by slices.AppendSeq: they come, each once, in some order. -/
namespace Go.Proofs
open Go.RowKit Go.Shelf Go.Maps
open Go.ChangeMaps (setBlock)
attribute [local go_sem] Oper.semAt_some
namespace YwYq
/-- a piece: its text, its time, its value, its id's two numbers -/
abbrev PT:=ByteArray × Int × Int × Int × Int
def pcs (x:PT):List Value:=[.string x.1,.int .i64 x.2.1,.int .i64 x.2.2.1,.int .u64 x.2.2.2.1,.int .u16 x.2.2.2.2]
def pv (x:PT):Value:=.agg #[.string x.1,.int .i64 x.2.1,.int .i64 x.2.2.1,.int .u64 x.2.2.2.1,.int .u16 x.2.2.2.2]
section
variable {F:Fence} {n:Nat} {P:Program} {ops:Array Oper} {Q:Exit->Act->World->Prop} {a:Act} {w:World} {rest:List Oper} {o:Oper}
theorem DK (hg:o.guard=none) (m:Operand) (t:TypeId) (hop:o.op=Op.range t m) (k e:TypeId) (ht:P.underlying t=some (.map k e)) (b ck:Nat) (es:Array MapEntry)
  (hm:a.eval m = .map (some b)) (hb:w.heap[b]? = some (.map es ck))
  (hK:wpListIn F n P ops Q rest (a.put o.dst (.pointer (some ⟨w.heap.size,0,none⟩))) (w.alloc (.mapIter (some b) ck #[] ck))) :
  wpListIn F n P ops Q (o :: rest) a w:=by
 refine wpListIn_plain hg fun K' hK'=>?_
 unfold Oper.wpIn
 refine ⟨by simp [Oper.about,hop],?_⟩
 rw [Oper.semAt_plain F _ _ (by rw [hop]; intro c hc'; cases hc')]
 simp [execOp,hop,hm,run_range_map w t k e b es ck ht hb,Result.andThen]
 exact hK' _ _ hK
theorem Fj (hg:o.guard=none) (it:Operand) (hop:o.op=Op.next it false) (r bm since c0:Nat) (seen:Array Nat) (es:Array MapEntry) (ck:Nat)
  (hit:a.eval it = .pointer (some ⟨r,0,none⟩)) (hr:w.heap[r]? = some (.mapIter (some bm) since seen c0)) (hb:w.heap[bm]? = some (.map es ck)) (hold:∀ x∈es.toList,x.born < since) (hsc:since<=c0)
  (hDone:(leftOf es seen).size=0->wpListIn F n P ops Q rest (a.put o.dst (.tuple #[.bool false])) w)
  (hMore:∀ (x:MapEntry) (w':World),x∈(leftOf es seen).toList->w.grownBy w' (some r)->w'.heap.size=w.heap.size->w'.heap[r]? = some (.mapIter (some bm) since (seen.push x.born) ck) ->
   wpListIn F n P ops Q rest (a.put o.dst (.tuple #[.bool true,x.key,x.val])) w') :
  wpListIn F n P ops Q (o :: rest) a w:=by
 refine wpListIn_plain hg fun K' hK'=>?_
 unfold Oper.wpIn
 refine ⟨by simp [Oper.about,hop],?_⟩
 rw [Oper.semAt_plain F _ _ (by rw [hop]; intro c hc'; cases hc')]
 rcases run_next_at (P:=P) w o.type r bm since c0 seen es ck hr hb hold hsc with ⟨h0,hrun⟩ | ⟨x,hx,w1,hw1,hrun⟩
 ·simp [execOp,hop,hit,hrun,Result.andThen]
  exact hK' _ _ (hDone h0)
 ·simp [execOp,hop,hit,hrun,Result.andThen]
  refine hK' _ _ (hMore x _ hx ?_ ?_ ?_)
  ·rcases hw1 with rfl | rfl <;> exact ⟨rfl,rfl,rfl,by simp [setBlock],fun i hi hne=>by
    show (Array.setIfInBounds _ _ _)[i]? = _
    rw [Array.getElem?_setIfInBounds_ne (fun e=>hne (by rw [e]))]; try rfl⟩
  ·rcases hw1 with rfl | rfl <;> simp [setBlock]
  ·have hl:r < w1.heap.size:=by rcases hw1 with rfl | rfl <;> exact (Array.getElem?_eq_some_iff.1 hr).1
   simp [setBlock,hl]
end
theorem rQ {α β:Type} (f:α->β):∀ {l:List α},(l.map f).Nodup->l.Nodup/\∀ x∈l,∀ y∈l,f x=f y->x=y
 | [],_=>⟨List.nodup_nil,fun x hx=>by simp at hx⟩
 | a :: r,h=>by
  rw [List.map_cons,List.nodup_cons] at h
  obtain ⟨h1,h2⟩:=rQ f h.2
  refine ⟨List.nodup_cons.2 ⟨fun ha=>h.1 (List.mem_map.2 ⟨a,ha,rfl⟩),h1⟩,fun x hx y hy e=>?_⟩
  rcases List.mem_cons.1 hx with ex | hx <;> rcases List.mem_cons.1 hy with ey | hy
  ·rw [ex,ey]
  ·exact absurd (List.mem_map.2 ⟨y,hy,by rw [← e,ex]⟩) h.1
  ·exact absurd (List.mem_map.2 ⟨x,hx,by rw [e,ey]⟩) h.1
  ·exact h2 x hx y hy e
theorem GL:∀ (l m:List Nat),l.Nodup->(∀ a∈l,a∈m)->l.length<=m.length
 | [],m,_,_=>Nat.zero_le _
 | a :: r,m,h,hm=>by
  rw [List.nodup_cons] at h
  have h1:=GL r (m.erase a) h.2 fun b hb=>(List.mem_erase_of_ne (fun e:b=a=>h.1 (by rw [← e]; exact hb))).2 (hm b (List.mem_cons_of_mem _ hb))
  rw [List.length_erase_of_mem (hm a (by simp))] at h1
  have:0 < m.length:=List.length_pos_of_mem (hm a (by simp))
  simp only [List.length_cons]
  omega
theorem mem_left {es:Array MapEntry} {seen:Array Nat} {x:MapEntry} (h:x∈(leftOf es seen).toList):x∈es.toList/\x.born ∉ seen.toList:=by
 unfold leftOf at h
 simp at h
 exact ⟨by simpa using h.1,by simpa using h.2⟩
/-- where nothing is left, all have come -/
theorem Fa {es:Array MapEntry} {seen:Array Nat} {ys:List MapEntry} (hnd:(es.toList.map (·.born)).Nodup) (hse:seen.toList=ys.map (·.born)) (hys:∀ y∈ys,y∈es.toList) (hyn:(ys.map (·.born)).Nodup)
  (hl:leftOf es seen = #[]):ys.Perm es.toList:=by
 have inj:∀ x∈es.toList,∀ y∈es.toList,x.born=y.born->x=y:=(rQ _ hnd).2
 have n1:ys.Nodup:=(rQ _ hyn).1
 have n2:es.toList.Nodup:=(rQ _ hnd).1
 refine (List.perm_ext_iff_of_nodup n1 n2).2 fun x=>⟨hys x,fun hx=>?_⟩
 have h1:x.born∈seen.toList:=by
  apply Classical.byContradiction
  intro hn
  have:x∈(leftOf es seen).toList:=by unfold leftOf; simp; exact ⟨by simpa using hx,by simpa using hn⟩
  rw [hl] at this
  simp at this
 rw [hse] at h1
 obtain ⟨y,hy,e⟩:=List.mem_map.1 h1
 rw [← inj y (hys y hy) x hx e]; exact hy
set_option maxRecDepth 100000 in
set_option maxHeartbeats 2000000 in
/-- the closure of maps.Values: every value of the map comes, each once, in some order -/
theorem Ct (F:Fence) (n:Nat) (h7:F.fn 71) (hro:F.round=none) (hn:1<=n) (l Bm b ck:Nat) (es:Array MapEntry) (J Jx:List PT->World->Prop)
  (hcs:∀ x∈es.toList,∃ q:PT,x.val=pv q) (hold:∀ x∈es.toList,x.born < ck) (hnd:(es.toList.map (·.born)).Nodup)
  (hY:∀ pre x W,J pre W->pre.length < es.size->YieldAt F (n - 1) Tryz.prog l #[pv x] W fun e W' =>
   (e = .returned (.bool true)/\J (pre ++ [x]) W'/\KeepsWalks W W')∨(e = .returned (.bool false)/\Jx (pre ++ [x]) W'))
  (W:World) (hJ:AbidesFrom W.heap.size J) (hm:W.cell? ⟨Bm,0,none⟩=some (.map (some b))) (hb:W.heap[b]? = some (.map es ck)) (h0:J [] W) :
  CallsIn F n Tryz.prog 71 #[.func (.yield l) #[] #[],.pointer (some ⟨Bm,0,none⟩)] W fun e W'=>(∃ v,e = .returned v) /\
   ((∃ ys,(ys.map pv).Perm (es.toList.map (·.val))/\J ys W')∨(∃ pre,True/\Jx pre W')):=by
 refine callsIn_of_wp Tryz.func71 rfl h7 ?_ hro
 simp only [Tryz.ntmps71,List.size_toArray,List.length_cons,List.length_nil,Nat.reduceAdd,Nat.reduceSub,Array.replicate_succ,Array.replicate_zero,List.push_toArray,List.append_toArray,List.nil_append,List.cons_append]
 gi_wp2_with (first
  | (gi_at_range; refine DK rfl _ 92 rfl 95 89 Tryz.underlying92 b ck es rfl hb ?_)
  | gi_in)
 go_frame
 gi_loopw [4] (fun _ wr=>∃ (seen:Array Nat) (ys:List MapEntry) (c0:Nat),wr.heap[W.heap.size]? = some (.mapIter (some b) ck seen c0)/\ck<=c0/\wr.heap[b]? = some (.map es ck)/\seen.toList=ys.map (·.born)/\(∀ y∈ys,y∈es.toList)/\(ys.map (·.born)).Nodup/\∃ qs,qs.map pv=ys.map (·.val)/\J qs wr)
  (fun _ wr=>match wr.heap[W.heap.size]? with | some (.mapIter _ _ seen _)=>es.size - seen.size | _=>0)
 case atStart =>
  refine ⟨#[],[],ck,World.alloc_heap_new _ _,Nat.le_refl _,?_,rfl,by simp,by simp,[],rfl,hJ [] W _ none h0 ⟨rfl,rfl,rfl,by simp,fun k hk _=>Below.heap_alloc _ _ k hk⟩ (fun r e=>by cases e)⟩
  exact (Below.heap_alloc _ _ b (Array.getElem?_eq_some_iff.1 hb).1).trans hb
 case round =>
  obtain ⟨seen,ys,c0,hr,hc0,hbr,hse,hys,hyn,qs,hqs,hJs⟩:=hrel
  gi_wp2_with (first
   | (gi_at_next; refine Fj rfl _ rfl W.heap.size b ck c0 seen es ck rfl hr hbr hold hc0 ?_ ?_)
   | gi_in)
  ·intro hl
   gi_wp2
   go_end0
   exact ⟨⟨_,rfl⟩,.inl ⟨qs,hqs ▸ (Fa hnd hse hys hyn hl).map _,hJs⟩⟩
  ·intro x w2 hx hg2 hs2 hr2
   have hxm:x∈es.toList:=(mem_left (by simpa using hx)).1
   have hbw:b≠W.heap.size:=by have:=(Array.getElem?_eq_some_iff.1 hb).1; omega
   have hb2:w2.heap[b]? = some (.map es ck):=(hg2.block b (Array.getElem?_eq_some_iff.1 hbr).1 (fun e=>hbw (Option.some.inj e))).trans hbr
   have hen:=run_entry_at (P:=Tryz.prog) w2 W.heap.size b ck seen es ck x hr2 hb2 hxm hnd
   obtain ⟨⟨s',t',v',m',d'⟩,hv⟩:=hcs x hxm
   have hY':=hY qs (s',t',v',m',d')
   simp only [pv] at hY'
   rw [hv] at hen ⊢
   simp only [pv] at hen ⊢
   have hx2:x.born ∉ seen.toList:=(mem_left (by simpa using hx)).2
   have hlen:ys.length < es.size:=by
    have:=GL ((x :: ys).map (·.born)) (es.toList.map (·.born)) (by rw [List.map_cons,List.nodup_cons,← hse]; exact ⟨hx2,hse ▸ hyn⟩) (fun k hk=>by
     obtain ⟨y,hy,rfl⟩:=List.mem_map.1 hk
     exact List.mem_map.2 ⟨y,(List.mem_cons.1 hy).elim (fun e=>e ▸ hxm) (hys y),rfl⟩)
    simp at this
    omega
   have hJ2:J qs w2:=hJ qs wr w2 (some W.heap.size) hJs hg2 (fun r e=>by cases e; exact ⟨Nat.le_refl _,_,hr,rfl⟩)
   have hJ3:J qs (w2.alloc (.cells #[.string s',.int .i64 t',.int .i64 v',.int .u64 m',.int .u16 d'] 89)) 
    := hJ qs w2 _ none hJ2 ⟨rfl,rfl,rfl,by simp,fun k hk _=>Below.heap_alloc _ _ k hk⟩ (fun r e=>by cases e)
   have hr3:(w2.alloc (.cells #[.string s',.int .i64 t',.int .i64 v',.int .u64 m',.int .u16 d'] 89)).heap[W.heap.size]? = some (.mapIter (some b) ck (seen.push x.born) ck):=(Below.heap_alloc _ _ _ (Array.getElem?_eq_some_iff.1 hr2).1).trans hr2
   have hb3:(w2.alloc (.cells #[.string s',.int .i64 t',.int .i64 v',.int .u64 m',.int .u16 d'] 89)).heap[b]? = some (.map es ck):=(Below.heap_alloc _ _ _ (Array.getElem?_eq_some_iff.1 hb2).1).trans hb2
   obtain ⟨fn,tmps,assign,body,hy,hR⟩:=hY' _ hJ3 (by have:=congrArg List.length hqs; simp at this; omega)
   clear hs2
   gi_wp2
   refine hR.mono ?_
   rintro e W3 (⟨rfl,hJ4,hk4⟩ | ⟨rfl,hJx4⟩)
   ·gi_wp2
    have hr4:=hk4.same _ _ hr3 rfl
    have hb4:=hk4.same _ _ hb3 rfl
    go_roundw
    case rel =>
     refine ⟨seen.push x.born,ys ++ [x],ck,hr4,Nat.le_refl _,hb4,by simp [hse],fun y hy=>(List.mem_append.1 hy).elim (hys y) (fun e=>by simp at e; exact e ▸ hxm),?_,qs ++ [(s',t',v',m',d')],by rw [List.map_append,List.map_append,hqs]; simp [hv],hJ4⟩
     rw [List.map_append,List.nodup_append]
     refine ⟨hyn,by simp,fun a ha b hb e=>?_⟩
     simp at hb
     subst hb
     rw [← hse] at ha
     exact hx2 (e ▸ ha)
    case measure =>
     rw [hr4,hr]
     have:seen.size=ys.length:=by rw [← Array.length_toList,hse,List.length_map]
     simp
     omega
   ·gi_wp2
    refine bodyPost_ret (results_none rfl _ _ _) rfl ?_
    exact ⟨⟨_,rfl⟩,.inr ⟨_,trivial,hJx4⟩⟩
theorem values_stops (F:Fence) (n:Nat) (h7:F.fn 71) (hro:F.round=none) (hn:1<=n) (Bm b ck:Nat) (es:Array MapEntry) (w:World)
  (hcs:∀ x∈es.toList,∃ q:PT,x.val=pv q) (hold:∀ x∈es.toList,x.born < ck) (hnd:(es.toList.map (·.born)).Nodup)
  (hBm:Bm < w.heap.size) (hm:w.cell? ⟨Bm,0,none⟩=some (.map (some b))) (hb:w.heap[b]? = some (.map es ck)) :
  SeqStopsK F n Tryz.prog 71 #[.pointer (some ⟨Bm,0,none⟩)] (fun x:PT=>#[pv x]) KeepsWalks (fun ys=>(ys.map pv).Perm (es.toList.map (·.val))) (fun _=>True) es.size w:=fun l J Jx W hW hJ _ hY h0 =>
 Ct F n h7 hro hn l Bm b ck es J Jx hcs hold hnd hY W hJ ((hW.cell (p:=⟨Bm,0,none⟩) hBm).trans hm) ((hW.block b (Array.getElem?_eq_some_iff.1 hb).1).trans hb) h0
theorem LF:(Tryz.prog.info? 89).map (fun i=>(i.zero,i.size,i.bytes))=some (some (.agg #[.string ⟨#[]⟩,.int .i64 0,.int .i64 0,.int .u64 0,.int .u16 0]),5,48):=by kernel_rfl
theorem IW (w:World) (x:PT) (t:TypeId):∀ j u,(pcs x)[j]? = some u->(w.alloc (.cells #[.string x.1,.int .i64 x.2.1,.int .i64 x.2.2.1,.int .u64 x.2.2.2.1,.int .u16 x.2.2.2.2] t)).cell? ((⟨w.heap.size,0,none⟩:Addr).add j)=some u:=by
 intro j u hj
 match j,hj with
 | 0,hj=>simp [pcs] at hj; subst hj; simp [Addr.add]
 | 1,hj=>simp [pcs] at hj; subst hj; simp [Addr.add]
 | 2,hj=>simp [pcs] at hj; subst hj; simp [Addr.add]
 | 3,hj=>simp [pcs] at hj; subst hj; simp [Addr.add]
 | 4,hj=>simp [pcs] at hj; subst hj; simp [Addr.add]
 | k + 5,hj=>simp [pcs] at hj
theorem Dw {W:World} {B:Nat} {c:Array Value} {t:TypeId} (h:W.heap[B]? = some (.cells c t (0,0))) (j:Nat) (v:Value) (hj:c[j]? = some v):W.cell? ⟨B,j,none⟩=some v:=by simp [World.cell?,h,hj]
set_option maxRecDepth 100000 in
set_option maxHeartbeats 2000000 in
/-- slices.AppendSeq of nil and what maps.Values hands back -/
theorem appendSeq_in (F:Fence) (n:Nat) (h3:F.fn 94) (h7:F.fn 71) (hro:F.round=none) (hn:3<=n) (Bs b ck:Nat) (es:Array MapEntry) (w:World)
  (hcs:∀ x∈es.toList,∃ q:PT,x.val=pv q) (hold:∀ x∈es.toList,x.born < ck) (hnd:(es.toList.map (·.born)).Nodup) (hlen:es.size<=1000000)
  (hBs:Bs < w.heap.size) (hm:w.cell? ⟨Bs,0,none⟩=some (.map (some b))) (hb:w.heap[b]? = some (.map es ck)) :
  CallsIn F n Tryz.prog 94 #[.slice none 0 0,.func (.func 71) #[] #[.pointer (some ⟨Bs,0,none⟩)]] w fun e W'=>∃ (v:Value) (ys:List PT),e = .returned v/\(ys.map pv).Perm (es.toList.map (·.val))/\W'.ownsRow w.heap.size 89 5 v ys.length (ys.flatMap pcs)/\Below w.heap.size w W':=by
 have h1:1<=n:=by omega
 obtain ⟨i0,hi,hz0,hz1,hz2⟩:=info_parts LF
 refine callsIn_of_wp_marks Tryz.func94 rfl h3 ?_ hro
 simp only [Tryz.ntmps94,List.size_toArray,List.length_cons,List.length_nil,Nat.reduceAdd,Nat.reduceSub,Array.replicate_succ,Array.replicate_zero,List.push_toArray,List.append_toArray,List.nil_append,List.cons_append]
 gi_wp2
 have bO:=Boxed.new w 26 (.slice none 0 0)
 have hB0:Below w.heap.size w (w.alloc (.cells #[.slice none 0 0] 26)):=(Below.refl _ w).alloc (Nat.le_refl _) _
 refine wpIn_rangeFunc_ownH hro h1 (gf:=71) (lb:=#[.pointer (some ⟨Bs,0,none⟩)]) rfl h7 (enters_of Tryz.func71 (by kernel_rfl) rfl)
  (values_stops F (n - 1) h7 hro (by omega) Bs b ck es _ hcs hold hnd (by simp; omega) ((hB0.cell (p:=⟨Bs,0,none⟩) hBs).trans hm) ((hB0.block b (Array.getElem?_eq_some_iff.1 hb).1).trans hb)) walksK_t walksK_b (Below.refl _ _) (fun _=>rfl)
  (fun pre W=>(∃ v,Boxed W w.heap.size 26 v/\W.ownsRow w.heap.size 89 5 v pre.length (pre.flatMap pcs)/\True)/\Below w.heap.size w W)
  (fun _ _ _=>False)
  (OwnFrom.and (Own.from (holdsRow_own w.heap.size w.heap.size 26 89 5 (fun pre:List PT=>pre.length) (fun pre=>pre.flatMap pcs) (fun pre v=>True)) _) (ownFrom_below (Nat.le_refl _) (by simp)))
  (fun _ _ _ _ _ hs _ _=>hs)
  ⟨⟨_,bO,World.ownsRow_nil _ _ _ _,trivial⟩,hB0⟩
  (fun x a' W=>∃ B,w.heap.size + 1<=B/\W.heap[B]? = some (.cells #[.string x.1,.int .i64 x.2.1,.int .i64 x.2.2.1,.int .u64 x.2.2.2.1,.int .u16 x.2.2.2.2] 89 (0,0)) /\
   a' = { tmps:=#[.slice none 0 0,.func (.func 71) #[] #[.pointer (some ⟨Bs,0,none⟩)],.pointer (some ⟨w.heap.size,0,none⟩),undef,.slice none 0 0,.pointer (some ⟨B,0,none⟩),.func (.func 71) #[] #[.pointer (some ⟨Bs,0,none⟩)],pv x,undef,undef,undef,undef,undef],defers:=[] })
  ?ax ?assign ?body ?done ?stop
 case ax =>
  rintro x a' _ X Y row ⟨B,h1,h2,h3⟩ hg hr
  refine ⟨B,h1,(hg.block B (Array.getElem?_eq_some_iff.1 h2).1 (fun e=>?_)).trans h2,h3⟩
  obtain ⟨_,o,ho,hc⟩:=hr B e.symm
  rw [h2] at ho; cases ho; cases hc
 case assign =>
  intro l pre x W K hI hK
  obtain ⟨x0,x1,x2,x3,x4⟩:=x
  simp only [pv]
  have hsz:w.heap.size<=W.heap.size:=hI.2.size
  obtain ⟨⟨v,hv,hrow,_⟩,hB⟩:=hI
  have hvl:w.heap.size < W.heap.size:=(Array.getElem?_eq_some_iff.1 hv).1
  gi_wp2
  refine hK _ _ ?_ ?_ ?_ ⟨W.heap.size,by omega,World.alloc_heap_new _ _,rfl⟩
  ·exact (KeepsOthers.alloc W _).from _
  ·exact KeepsWalks.alloc W _
  ·exact ⟨⟨v,hv.alloc _,hrow.alloc _,trivial⟩,hB.trans ((Below.refl _ W).alloc (by omega) _)⟩
 case body =>
  rintro l pre x a' W hwl - ⟨⟨v,hv,hrow,_⟩,hB⟩ ⟨B,hB1,hB2,rfl⟩ hlt
  obtain ⟨x0,x1,x2,x3,x4⟩:=x
  have hc:=hv.cell
  have k0:=Dw hB2 0 _ rfl
  have k1:=Dw hB2 1 _ rfl
  have k2:=Dw hB2 2 _ rfl
  have k3:=Dw hB2 3 _ rfl
  have k4:=Dw hB2 4 _ rfl
  gi_wp2_with (gi_at_builtin; refine wpListIn_append_own _ rfl _ _ 26 rfl w.heap.size 89 i0 _ 5 48 Tryz.underlying26 hi hz0 hz1 hz2 rfl (by decide) _ _ _ rfl (hrow.alloc _) ⟨W.heap.size,0,none⟩ 1 1 (pcs (x0,x1,x2,x3,x4)) rfl rfl (IW _ _ _) (by simp [pcs,Value.oneCell']) (by simp [maxLen]; omega) (by omega) (by have:=hB.size; simp; omega) ?_; intro v' w1 hown' hgrow _; obtain ⟨g',cap',rfl⟩:=ownsRow_succ hown'; obtain ⟨hv1,hv2,hr2,hk2,hb2⟩:=hv.appended (by decide) hrow hB.size (Nat.le_refl _) hown' hgrow; have hc1:=hv1.cell; have hf1:=hv1.frozen)
  exact ⟨hk2.from _,⟨hk2.size,fun k o hk hw=>hk2.same k o hk (Obj.not_cells_of_walk hw)⟩,⟨_,hv2,by rw [show (pre ++ [(x0,x1,x2,x3,x4)]).length=pre.length + 1 from by simp,show (pre ++ [(x0,x1,x2,x3,x4)]).flatMap pcs=pre.flatMap pcs ++ pcs (x0,x1,x2,x3,x4) from by rw [List.flatMap_append,List.flatMap_cons,List.flatMap_nil,List.append_nil]]; exact hr2⟩,hB.trans hb2⟩
 case done =>
  rintro D ys W hD hS ⟨⟨v,hv,hrow,_⟩,hB⟩ hK
  have hc:=hv.cell
  gi_wp2
  refine ⟨by simp,.inl ⟨_,_,rfl,run_takeDeferred hK,?_⟩⟩
  exact ⟨_,results_tmp rfl _ _ _,v,ys,rfl,hS,ownsRow_putObj hrow _ hK rfl,hB.trans (belowK_b (w:=w) (Nat.le_refl _) W D _ _ (by simp at hD; omega) hK rfl rfl)⟩
 case stop =>
  rintro D c pre W _ _ h _
  exact h.elim
set_option maxHeartbeats 1000000 in
/-- slices.Collect of it -/
theorem collect_in (F:Fence) (n:Nat) (h8:F.fn 69) (h3:F.fn 94) (h7:F.fn 71) (hro:F.round=none) (hn:4<=n) (Bs b ck:Nat) (es:Array MapEntry) (w:World)
  (hcs:∀ x∈es.toList,∃ q:PT,x.val=pv q) (hold:∀ x∈es.toList,x.born < ck) (hnd:(es.toList.map (·.born)).Nodup) (hlen:es.size<=1000000)
  (hBs:Bs < w.heap.size) (hm:w.cell? ⟨Bs,0,none⟩=some (.map (some b))) (hb:w.heap[b]? = some (.map es ck)) :
  CallsIn F n Tryz.prog 69 #[.func (.func 71) #[] #[.pointer (some ⟨Bs,0,none⟩)]] w fun e W'=>∃ (v:Value) (ys:List PT),e = .returned v/\(ys.map pv).Perm (es.toList.map (·.val))/\W'.ownsRow w.heap.size 89 5 v ys.length (ys.flatMap pcs)/\Below w.heap.size w W':=by
 have h1:1<=n:=by omega
 refine callsIn_of_wp Tryz.func69 rfl h8 ?_ hro
 simp only [Tryz.ntmps69,List.size_toArray,List.length_cons,List.length_nil,Nat.reduceAdd,Nat.reduceSub,Array.replicate_succ,Array.replicate_zero,List.push_toArray,List.append_toArray,List.nil_append,List.cons_append]
 gi_wp2_with (gi_at_call 94; refine (appendSeq_in F (n - 1) h3 h7 hro (by omega) Bs b ck es _ hcs hold hnd hlen hBs hm hb).mono ?_; rintro e w' ⟨v,ys,rfl,hS,hrow,hb2⟩)
 go_ret
 exact ⟨v,ys,rfl,hS,hrow,hb2⟩
end YwYq
end Go.Proofs
end

/- A part of the proof of statements of this seat: lemmas, no statement of their own. -/
import Derived.Test.YthjafnfadiijgaaYiZaq
import Derived.Test.YthjafnfadiijgaaYiZad
import Derived.Test.YthjafnfadiijgaaYiZaf
set_option linter.unusedVariables false
set_option linter.unusedSimpArgs false
set_option maxRecDepth 100000
section
/- Rows of structs. -/
namespace Go.Q.Rw
theorem fI (b:Addr) (m n:Nat):(b.add m).add n=b.add (m + n):=by
 unfold Addr.add
 by_cases h0:m=0 <;> by_cases h1:n=0 <;> simp [h0,h1,Nat.add_assoc]
section
variable {α:Type} {cs:α->List Value} {w:Nat}
theorem rW (hc:∀ x,(cs x).length=w) (xs:List α):(xs.flatMap cs).length=xs.length * w:=by
 induction xs with
 | nil=>simp
 | cons x xs ih=>simp only [List.flatMap_cons,List.length_append,ih,hc,List.length_cons,Nat.add_mul]; omega
theorem vN (hc:∀ x,(cs x).length=w):∀ (xs:List α) (i j:Nat),j < w->(xs.flatMap cs)[i * w + j]? = (xs[i]?).bind fun x=>(cs x)[j]?
 | [],i,j,h=>by simp
 | x :: r,0,j,h=>by
  simp only [List.flatMap_cons,Nat.zero_mul,Nat.zero_add,List.getElem?_cons_zero,Option.bind_some]
  rw [List.getElem?_append_left (by rw [hc]; exact h)]
 | x :: r,i + 1,j,h=>by
  simp only [List.flatMap_cons,List.getElem?_cons_succ]
  rw [List.getElem?_append_right (by rw [hc,Nat.add_mul]; omega)]
  have:=vN hc r i j h
  rw [← this,hc]
  congr 1
  rw [Nat.add_mul]; omega
theorem BJ (hc:∀ x,(cs x).length=w):∀ (xs:List α) (i j:Nat) (x x':α) (v:Value),j < w->xs[i]? = some x->cs x'=(cs x).set j v->(xs.flatMap cs).set (i * w + j) v=(xs.set i x').flatMap cs
 | [],i,j,x,x',v,h,hx,he=>by simp at hx
 | y :: r,0,j,x,x',v,h,hx,he=>by
  simp at hx; subst hx
  simp only [List.flatMap_cons,Nat.zero_mul,Nat.zero_add,List.set_cons_zero]
  rw [List.set_append_left _ _ (by rw [hc]; exact h),he]
 | y :: r,i + 1,j,x,x',v,h,hx,he=>by
  simp only [List.flatMap_cons,List.set_cons_succ]
  rw [List.set_append_right _ _ (by rw [hc,Nat.add_mul]; omega),hc]
  rw [show (i + 1) * w + j - w=i * w + j from by rw [Nat.add_mul]; omega]
  rw [BJ hc r i j x x' v h (by simpa using hx) he]
end
/-- a place of a row of one's own is written -/
theorem wI {B E w g j:Nat} {h:Heap} {s:Slc} {xs:List Value} {v:Value} (R:Row B h E w s xs) (ha:s.a=some ⟨g,0,none⟩) (hj:j < s.len * w):WrH h ⟨g,j,none⟩/\Row B (setH h ⟨g,j,none⟩ v) E w s (xs.set j v)/\B<=g:=by
 rcases R.2.2 with ⟨k,_⟩ | ⟨g',cur,a1,a2,a3,a4,a5,a6⟩
 ·rw [k] at ha; cases ha
 ·rw [ha] at a1; cases a1
  have hx:=R.1
  have hlen:s.len * w<=cur.length:=Nat.le_trans (Nat.mul_le_mul_right _ a4) a5
  refine ⟨a3.wr (by omega),⟨by simpa using hx,R.2.1,.inr ⟨g,_,ha,a2,a3.set,a4,by simpa using a5,?_⟩⟩,a2⟩
  rw [List.take_set,a6]
/-- a row of structs of one's own: one of them is written -/
theorem E9 {α:Type} {cs:α->List Value} {w:Nat} (hc:∀ x,(cs x).length=w):∀ (xs:List α) (i:Nat) (x:α),i < xs.length->(xs.flatMap cs).take (i * w) ++ cs x ++ (xs.flatMap cs).drop ((i + 1) * w)=(xs.set i x).flatMap cs
 | [],i,x,h=>by simp at h
 | y :: r,0,x,h=>by
  simp only [Nat.zero_mul,List.take_zero,List.nil_append,List.flatMap_cons,List.set_cons_zero,Nat.zero_add,Nat.one_mul]
  rw [List.drop_append_of_le_length (by rw [hc]; exact Nat.le_refl _),List.drop_of_length_le (by rw [hc]; exact Nat.le_refl _),List.nil_append]
 | y :: r,i + 1,x,h=>by
  simp only [List.flatMap_cons,List.set_cons_succ]
  rw [← E9 hc r i x (by simpa using h)]
  rw [List.take_append,hc,List.take_of_length_le (by rw [hc,Nat.add_mul]; omega),List.drop_append,hc,List.drop_of_length_le (by rw [hc,Nat.add_mul]; omega)]
  rw [show (i + 1) * w - w=i * w from by rw [Nat.add_mul]; omega,show (i + 1 + 1) * w - w=(i + 1) * w from by rw [Nat.add_mul (i + 1)]; omega]
  simp only [List.append_assoc,List.nil_append]
theorem JG (cur v:List Value) (a n:Nat) (h:a + v.length<=n) (hn:n<=cur.length):(cur.take a ++ v ++ cur.drop (a + v.length)).take n=(cur.take n).take a ++ v ++ (cur.take n).drop (a + v.length):=by
 have hl:(cur.take a ++ v).length=a + v.length:=by rw [List.length_append,List.length_take]; omega
 rw [List.take_append,hl,List.take_of_length_le (by omega),List.take_take,Nat.min_eq_left (by omega),List.drop_take]
theorem GN {α:Type} {cs:α->List Value} {B E w:Nat} {h:Heap} {s:Slc} {xs:List α} (hc:∀ x,(cs x).length=w) (R:Row B h E w s (xs.flatMap cs)) (hl:s.len=xs.length) {i:Nat} (hi:i < xs.length) (x:α) {a:Addr} (ha:s.a=some a) :
  dE h (a.add (i * w)) w/\Row B (aU h (a.add (i * w)) 0 (cs x)) E w s ((xs.set i x).flatMap cs)/\B<=a.block:=by
 rcases R.2.2 with ⟨k,_⟩ | ⟨g,cur,a1,a2,a3,a4,a5,a6⟩
 ·rw [k] at ha; cases ha
 ·rw [ha] at a1; cases a1
  have hiw:i * w + w<=s.len * w:=by
   have:(i + 1) * w<=s.len * w:=Nat.mul_le_mul_right _ (by omega)
   rw [Nat.add_mul] at this; omega
  have hcap:s.len * w<=s.cap * w:=Nat.mul_le_mul_right _ a4
  rw [add_mk,Nat.zero_add]
  refine ⟨fun j hj=>by rw [add_mk]; exact a3.wr (by omega),⟨by rw [rW hc,List.length_set,hl],R.2.1,.inr ⟨g,_,ha,a2,a3.sets (cs x) (i * w) 0 (by rw [hc]; omega),a4,?_,?_⟩⟩,a2⟩
  ·simp only [List.length_append,List.length_take,List.length_drop,hc]; omega
  ·rw [← E9 hc xs i x hi,← a6,JG cur (cs x) (i * w + 0) (s.len * w) (by rw [hc]; omega) (by omega),hc,Nat.add_zero,show (i + 1) * w=i * w + w from by rw [Nat.add_mul,Nat.one_mul]]
theorem Ew {α:Type} {cs:α->List Value} {w:Nat} (hc:∀ x,(cs x).length=w):∀ (xs:List α) (i:Nat),(xs.flatMap cs).take (i * w)=(xs.take i).flatMap cs
 | [],i=>by simp
 | y :: r,0=>by simp
 | y :: r,i + 1=>by
  simp only [List.flatMap_cons,List.take_succ_cons]
  rw [List.take_append,hc,List.take_of_length_le (by rw [hc,Nat.add_mul]; omega),← Ew hc r i,show (i + 1) * w - w=i * w from by rw [Nat.add_mul]; omega]
end Go.Q.Rw
end
section
/- What is one's own, and what stays. -/
namespace Go.Q
abbrev bz:=Nat->Prop
/-- but for the blocks of O all is as it was -/
structure Stp (O:bz) (h h':Heap):Prop where
 size:h.size<=h'.size
 block:∀ g,g < h.size->¬ O g->h'[g]? = h[g]?
theorem Stp.refl (O:bz) (h:Heap):Stp O h h:=⟨Nat.le_refl _,fun _ _ _=>rfl⟩
theorem Stp.trans {O O':bz} {a b c:Heap} (p:Stp O a b) (q:Stp O' b c) (hO:∀ g,O' g->O g∨a.size<=g):Stp O a c :=
 ⟨Nat.le_trans p.size q.size,fun g hg hn=>(q.block g (Nat.lt_of_lt_of_le hg p.size) fun h'=>(hO g h').elim hn fun h2=>by omega).trans (p.block g hg hn)⟩
theorem Stp.trans' {O:bz} {a b c:Heap} (p:Stp O a b) (q:Stp O b c):Stp O a c:=p.trans q fun _ h=>.inl h
theorem Stp.mono {O O':bz} {h h':Heap} (p:Stp O h h') (hO:∀ g,O g->O' g∨h.size<=g):Stp O' h h' :=
 ⟨p.size,fun g hg hn=>p.block g hg fun h'=>(hO g h').elim hn fun h2=>by omega⟩
theorem Stp.bu {O:bz} {h h':Heap} (X:Ext h.size h h'):Stp O h h':=⟨X.size,fun g hg _=>X.block g hg⟩
theorem Stp.dQ {O:bz} {b:Nat} {h h':Heap} (U:Upd b h h') (hb:O b∨h.size<=b):Stp O h h':=⟨U.size,fun g hg hn=>U.block g hg fun e=>by subst e; exact hb.elim hn fun h2=>by omega⟩
theorem Stp.set {O:bz} {h:Heap} {a:Addr} {v:Value} (ha:O a.block∨h.size<=a.block):Stp O h (setH h a v) :=
 ⟨by rw [jQ]; exact Nat.le_refl _,fun g hg hn=>jg fun e=>by subst e; exact ha.elim hn fun h2=>by omega⟩
theorem Stp.sets {O:bz} {h:Heap} {a:Addr} {i:Nat} {vs:List Value} (ha:O a.block∨h.size<=a.block):Stp O h (aU h a i vs) :=
 ⟨by rw [tV]; exact Nat.le_refl _,fun g hg hn=>lD _ _ fun e=>by subst e; exact ha.elim hn fun h2=>by omega⟩
theorem Stp.ext {O:bz} {B:Nat} {h h':Heap} (p:Stp O h h') (hO:∀ g,O g->B<=g) (hB:B<=h.size):Ext B h h':=⟨p.size,fun g hg=>p.block g (by omega) fun h'=>by have:=hO g h'; omega⟩
theorem Stp.blk {O:bz} {b E:Nat} {cs:List Value} {h h':Heap} (p:Stp O h h') (k:Blk h b cs E) (hb:¬ O b):Blk h' b cs E:=k.old (p.block b k.lt hb)
theorem Stp.row {O:bz} {B E w:Nat} {s:Slc} {xs:List Value} {h h':Heap} (p:Stp O h h') (R:Row B h E w s xs) (hb:∀ g,s.blk=some g->¬ O g):Row B h' E w s xs:=R.keep fun g hg=>p.block g (R.bd hg).2 (hb g hg)
/-- what holds whatever is done to the blocks of O, and beyond -/
def Imm (O:bz) (h:Heap) (p:Heap->Prop):Prop:=∀ h',Stp O h h'->p h'
theorem Imm.now {O:bz} {h:Heap} {p:Heap->Prop} (I:Imm O h p):p h:=I h (Stp.refl _ _)
theorem Imm.imp {O:bz} {h:Heap} {p q:Heap->Prop} (I:Imm O h p) (k:∀ h',p h'->q h'):Imm O h q:=fun h' s=>k h' (I h' s)
theorem Imm.step {O O':bz} {h h':Heap} {p:Heap->Prop} (I:Imm O h p) (s:Stp O h h') (hO:∀ g,O' g->O g∨h.size<=g):Imm O' h' p :=
 fun h2 s2=>I h2 (s.trans s2 hO)
theorem Imm.stp {O:bz} {h h':Heap} {p:Heap->Prop} (I:Imm O h p) (s:Stp O h h'):Imm O h' p:=I.step s fun _ h=>.inl h
theorem Imm.ext {O:bz} {h h':Heap} {p:Heap->Prop} (I:Imm O h p) (X:Ext h.size h h'):Imm O h' p:=I.stp (.bu X)
theorem Imm.mono {O O':bz} {h:Heap} {p:Heap->Prop} (I:Imm O h p) (hO:∀ g,O' g->O g∨h.size<=g):Imm O' h p:=I.step (Stp.refl _ _) hO
theorem Imm.eQ {O:bz} {b E:Nat} {cs:List Value} {h:Heap} (k:Blk h b cs E) (hb:¬ O b):Imm O h fun h'=>Blk h' b cs E:=fun h' p=>p.blk k hb
/-- what stood when the heap was h0, and nothing of it may be written since -/
theorem Imm.La {O:bz} {h0 h:Heap} {p:Heap->Prop} (I:∀ h',Ext h0.size h0 h'->p h') (X:Ext h0.size h0 h) (hO:∀ g,O g->h0.size<=g):Imm O h p :=
 fun h' s=>I h' (X.trans ⟨s.size,fun g hg=>s.block g (Nat.lt_of_lt_of_le hg X.size) fun h2=>by have:=hO g h2; omega⟩)
end Go.Q
end
section
/- A member of a replicated log, plainly: what the code computes, without memory. -/
namespace Go.Q.Rf
abbrev Ent:=Int × List Int
def W (x:Int):Int:=IntKind.u64.wrap x
structure Msg where
 kind:Int
 term:Int
 index:Int
 logTerm:Int
 commit:Int
 yes:Bool
 aM:List Ent
 aQ:List Int
deriving DecidableEq
structure rZ where
 kind:Int
 term:Int
 aN:Int
 index:Int
 aM:List Ent
 aQ:List Int
deriving DecidableEq
abbrev gQ:=Int × Msg
structure Lg where
 ix:Int
 tm:Int
 es:List Ent
deriving DecidableEq
namespace Lg
def lastT (l:Lg):Int:=match l.es.getLast? with | some e=>e.1 | none=>l.tm
def last (l:Lg):Int:=l.ix + l.es.length
def aF (l:Lg) (p:Int):Int × Int :=
 if p < l.ix then (0,13) else if p > l.last then (0,6) else if p=l.ix then (l.tm,0) else ((l.es.getD (p - l.ix - 1).toNat (0,[])).1,0)
def mat (l:Lg) (p t:Int):Bool:=((l.aF p).2 == 0) && ((l.aF p).1 == t)
def frm (l:Lg) (p most:Int):List Ent × Int :=
 if p=0 then ([],1) else if (l.aF (p - 1)).2≠0 then ([],(l.aF (p - 1)).2) else ((l.es.drop (p - 1 - l.ix).toNat).take most.toNat,0)
def dG (ix p:Int) (now:List Ent) (i:Nat) (x:Ent):List Ent :=
 if W (p + i + 1)<=ix then now
 else if (W (p + i + 1) - ix - 1).toNat < now.length then (if (now.getD (W (p + i + 1) - ix - 1).toNat (0,[])).1=x.1 then now else now.take (W (p + i + 1) - ix - 1).toNat ++ [x]) else now ++ [x]
def fD (ix p:Int) (es more:List Ent):Nat->List Ent
 | 0=>es
 | i + 1=>match more[i]? with | some x=>dG ix p (fD ix p es more i) i x | none=>fD ix p es more i
def append (l:Lg) (p t:Int) (more:List Ent):Lg × Int × Int :=
 if p>=l.ix/\l.mat p t=false then (l,0,6)
 else if (fD l.ix p l.es more more.length).length > 64 then (l,0,8) else ({ l with es:=fD l.ix p l.es more more.length },W (p + more.length),0)
def cut (l:Lg) (p:Int):Lg × Int :=
 if (l.aF p).2≠0 then (l,(l.aF p).2) else (⟨p,(l.aF p).1,l.es.drop (p - l.ix).toNat⟩,0)
def newer (l:Lg) (p t:Int):Bool:=decide (t > l.lastT) || ((t == l.lastT) && decide (p>=l.last))
end Lg
/-- the greatest number that more than half are at least -/
def cnt (l:List Int) (v:Int):Nat:=l.countP fun x=>decide (v<=x)
def cmt (l:List Int):Int:=(l.filter fun v=>decide (l.length / 2 + 1<=cnt l v)).foldl max 0
structure RS where
 me:Int
 n:Int
 term:Int
 aN:Int
 log:Lg
 aQ:List Int
 commit:Int
 role:Int
 leader:Int
 ticks:Int
 ballot:Option (List Int)
 next:List Int
 has:List Int
 keeps:List rZ
deriving DecidableEq
namespace RS
def fq (r:RS):RS:={ r with keeps:=r.keeps ++ [⟨1,r.term,r.aN,0,[],[]⟩] }
def aK (r:RS) (term:Int):RS:=if term > r.term then fq { r with term:=term,aN:=0 } else r
def follow (r:RS) (term leader:Int):RS:={ r.aK term with role:=0,leader:=leader,ballot:=none }
def nodes (r:RS):List Int:=((List.range r.n.toNat).map (fun (i:Nat)=>(i:Int))).filter fun i=>i != r.me
def others (r:RS) (f:Int->Msg):List gQ:=r.nodes.map fun i=>(i,f i)
def due (r:RS) (node:Int):Msg :=
 if r.next.getD node.toNat 0<=r.log.ix then ⟨5,r.term,r.log.ix,r.log.tm,r.commit,false,[],r.aQ⟩
 else ⟨3,r.term,W (r.next.getD node.toNat 0 - 1),(r.log.aF (W (r.next.getD node.toNat 0 - 1))).1,r.commit,false,(r.log.frm (r.next.getD node.toNat 0) 4).1,[]⟩
def settle (r:RS):RS :=
 if cmt r.has > r.commit/\(r.log.aF (cmt r.has)).2=0/\(r.log.aF (cmt r.has)).1=r.term then { r with commit:=cmt r.has } else r
def put (r:RS) (cmd:List Int):RS × Int × Int :=
 if (r.log.append r.log.last r.log.lastT [(r.term,cmd)]).2.2≠0 then (r,0,(r.log.append r.log.last r.log.lastT [(r.term,cmd)]).2.2)
 else (settle { r with log:=(r.log.append r.log.last r.log.lastT [(r.term,cmd)]).1,keeps:=r.keeps ++ [⟨2,r.log.lastT,0,r.log.last,[(r.term,cmd)],[]⟩],has:=r.has.set r.me.toNat (r.log.append r.log.last r.log.lastT [(r.term,cmd)]).2.1 },(r.log.append r.log.last r.log.lastT [(r.term,cmd)]).2.1,0)
def won (r:RS):Bool:=match r.ballot with | some l=>decide ((l.length:Int)>=r.n / 2 + 1) | none=>false
def lead (r:RS):RS:={ r with role:=2,leader:=r.me,ticks:=0,ballot:=none,next:=List.replicate r.n.toNat (W (r.log.last + 1)),has:=(List.replicate r.n.toNat 0).set r.me.toNat r.log.last }
def win (r:RS):RS × List gQ :=
 if r.role≠1∨r.won=false then (r,[]) else ((put r.lead []).1,others (put r.lead []).1 (due (put r.lead []).1))
def asks (r:RS):RS:={ fq { r with term:=W (r.term + 1),role:=1,leader:=-1,ticks:=0,aN:=r.me + 1 } with ballot:=some [r.me] }
def dJ (r:RS):RS × List gQ :=
 if r.term>=4611686018427387904 then (r,[])
 else (r.asks.win.1,r.asks.others (fun _=>⟨1,r.asks.term,r.log.last,r.log.lastT,0,false,[],[]⟩) ++ r.asks.win.2)
def tick (r:RS):RS × List gQ :=
 if r.role=2/\(r.ticks + 1) % 3=0 then ({ r with ticks:=r.ticks + 1 },others { r with ticks:=r.ticks + 1 } (due { r with ticks:=r.ticks + 1 }))
 else if r.role≠2/\r.ticks + 1>=10 + 7 * r.me then dJ { r with ticks:=r.ticks + 1 } else ({ r with ticks:=r.ticks + 1 },[])
def answer (r:RS) (to kind:Int) (yes:Bool) (index:Int):List gQ:=[(to,⟨kind,r.term,index,0,0,yes,[],[]⟩)]
def mP (r:RS) (from':Int) (m:Msg):Bool:=(r.aN == 0 || r.aN == from' + 1) && r.log.newer m.index m.logTerm
def lv (r:RS) (from':Int) (m:Msg):RS × List gQ :=
 if r.mP from' m then ((if r.aN=0 then { fq { r with aN:=from' + 1 } with ticks:=0 } else { r with ticks:=0 }),r.answer from' 2 true 0) else (r,r.answer from' 2 false 0)
def DF:rZ:=⟨0,0,0,0,[],[]⟩
def nC (r:RS) (m:Msg):Nat->List Ent->rZ
 | _,[]=>DF
 | i,x :: xs =>
  if W (m.index + i + 1)<=r.log.ix∨r.log.mat (W (m.index + i + 1)) x.1=true then nC r m (i + 1) xs
  else ⟨2,(if i > 0/\W (W (m.index + i + 1) - 1) > r.log.ix then (m.aM.getD (i - 1) (0,[])).1 else (r.log.aF (W (W (m.index + i + 1) - 1))).1),0,W (W (m.index + i + 1) - 1),x :: xs,[]⟩
def fresh (r:RS) (m:Msg):rZ:=nC r m 0 m.aM
/-- it follows who sent it -/
def dZ (r:RS) (from':Int) (m:Msg):RS:={ r.follow m.term from' with ticks:=0 }
def Ae (r1:RS) (m:Msg):RS :=
 { r1 with log:=(r1.log.append m.index m.logTerm m.aM).1,keeps:=if (r1.fresh m).aM.length > 0 then r1.keeps ++ [r1.fresh m] else r1.keeps,commit:=max r1.commit (min m.commit (r1.log.append m.index m.logTerm m.aM).2.1) }
def mQ (r1:RS) (from':Int) (m:Msg):RS × List gQ :=
 if (r1.log.append m.index m.logTerm m.aM).2.2≠0 then (r1,r1.answer from' 4 false (min r1.log.last (max m.index 1 - 1)))
 else (r1.Ae m,(r1.Ae m).answer from' 4 true (r1.log.append m.index m.logTerm m.aM).2.1)
def appends (r:RS) (from':Int) (m:Msg):RS × List gQ:=(r.dZ from' m).mQ from' m
def base (r:RS) (index term:Int) (aQ:List Int):RS :=
 { r with log:=if r.log.mat index term then (r.log.cut index).1 else ⟨index,term,[]⟩,aQ:=aQ,keeps:=r.keeps ++ [⟨3,term,0,index,[],aQ⟩] }
def lV (r1:RS) (m:Msg):RS:=if m.index > r1.commit then { r1.base m.index m.logTerm m.aQ with commit:=m.index } else r1
def dK (r:RS) (from':Int) (m:Msg):RS × List gQ:=((r.dZ from' m).lV m,((r.dZ from' m).lV m).answer from' 4 true ((r.dZ from' m).lV m).commit)
def back (r:RS) (from':Int) (m:Msg):RS:={ r with next:=r.next.set from'.toNat (max 1 (min (W (r.next.getD from'.toNat 0 - 1)) (W (m.index + 1)))) }
def gD (r:RS) (from':Int) (m:Msg):RS :=
 settle { r with has:=r.has.set from'.toNat (max (r.has.getD from'.toNat 0) m.index),next:=r.next.set from'.toNat (max (r.next.getD from'.toNat 0) (W (m.index + 1))) }
def appended (r:RS) (from':Int) (m:Msg):RS × List gQ :=
 if r.role≠2 then (r,[])
 else if m.yes=false then (r.back from' m,[(from',(r.back from' m).due from')])
 else if m.index > r.log.last then (r,[])
 else if (r.gD from' m).next.getD from'.toNat 0<=r.log.last then (r.gD from' m,[(from',(r.gD from' m).due from')]) else (r.gD from' m,[])
def late (r:RS) (from':Int) (m:Msg):List gQ :=
 if m.kind=1 then r.answer from' 2 false 0 else if m.kind=3∨m.kind=5 then r.answer from' 4 false 0 else []
def say (l:List Int) (v n:Int):List Int:=if v < 0∨v>=n∨v∈l then l else l ++ [v]
def counted (r:RS) (from':Int) (m:Msg):RS:=if r.role=1/\m.yes=true then { r with ballot:=r.ballot.map fun l=>say l from' r.n } else r
def take2 (r:RS) (from':Int) (m:Msg):RS × List gQ :=
 if m.kind=1 then r.lv from' m else if m.kind=2 then (r.counted from' m).win else if m.kind=3 then r.appends from' m else if m.kind=4 then r.appended from' m else r.dK from' m
def take (r:RS) (from':Int) (m:Msg):RS × List gQ :=
 if from' < 0∨from'>=r.n∨from'=r.me∨m.kind < 1∨m.kind > 5 then (r,[])
 else if m.term < r.term then (r,r.late from' m)
 else if m.term > r.term then (r.follow m.term (-1)).take2 from' m
 else r.take2 from' m
def aI (r:RS) (cmd:List Int):RS × Int × Int:=if r.role≠2 then (r,0,18) else r.put cmd
def entry (r:RS) (index:Int):Ent × Int :=
 if (r.log.aF index).2≠0 then ((0,[]),(r.log.aF index).2)
 else if (r.log.frm index 1).2≠0 then ((0,[]),13) else match (r.log.frm index 1).1 with | x :: _=>(x,0) | []=>((0,[]),13)
def mU (r:RS) (index:Int) (aQ:List Int):RS × Int :=
 if index > r.commit then (r,14) else if (r.log.aF index).2≠0 then (r,(r.log.aF index).2) else (r.base index (r.log.aF index).1 aQ,0)
def start (me n term aN:Int) (l:Lg) (aQ:List Int):RS:=⟨me,n,term,aN,l,aQ,l.ix,0,-1,0,none,[],[],[]⟩
end RS
end Go.Q.Rf
end
section
/- Entries and logs in memory. -/
namespace Go.Q
theorem SlcAt.IL {O:bz} {B E w:Nat} {s:Slc} {xs:List Value} {h:Heap} (R:Row B h E w s xs) (hb:∀ g,s.blk=some g->¬ O g):Imm O h fun h'=>SlcAt h' s xs:=fun h' p=>(p.row R hb).slc
theorem Blk.put {h:Heap} {b E i:Nat} {cs:List Value} {v:Value} (K:Blk h b cs E) (hi:i < cs.length):WrH h ((⟨b,0,none⟩:Addr).add i)/\∀ h2,h2=setH h ((⟨b,0,none⟩:Addr).add i) v->Blk h2 b (cs.set i v) E/\Upd b h h2:=by
 rw [add_mk,Nat.zero_add]
 refine ⟨K.wr hi,fun h2 e=>?_⟩
 subst e
 exact ⟨K.set,⟨by rw [jQ]; exact Nat.le_refl _,fun j _ hne=>jg (by simpa using hne)⟩⟩
theorem Blk.get {h:Heap} {b E:Nat} {cs:List Value} (K:Blk h b cs E) (i:Nat):af h ((⟨b,0,none⟩:Addr).add i)=cs[i]?:=by
 rw [add_mk,Nat.zero_add,K.cell]
theorem Row.Cw {B E w g:Nat} {h:Heap} {s:Slc} {xs:List Value} (r:Row B h E w s xs) (hg:s.blk=some g):∃ cur,Blk h g cur E:=by
 rcases r.2.2 with ⟨k,_⟩ | ⟨g',cur,a1,a2,a3,_⟩
 ·simp [Slc.blk,k] at hg
 ·simp [Slc.blk,a1] at hg; subst hg
  exact ⟨cur,a3⟩
theorem Row.rz {E w:Nat} (h:Heap) (cs:List Value) (n:Nat) (hn:n * w=cs.length) (hm:n<=maxLen):Row h.size (h.push (.cells cs.toArray E)) E w ⟨some ⟨h.size,0,none⟩,n,n⟩ cs :=
 ⟨hn.symm,hm,.inr ⟨h.size,cs,rfl,Nat.le_refl _,Blk.push _ _ _,Nat.le_refl _,by show n * w<=_; omega,by show cs.take (n * w)=cs; rw [hn,List.take_length]⟩⟩
namespace Yi
open Rf (Lg)
def qU (es:List Ent):Prop:=∀ e∈es,(0<=e.1/\e.1 < 18446744073709551616)/\isB e.2/\e.2.length<=1099511627776
theorem qU.app {x y:List Ent} (h:qU x) (k:qU y):qU (x ++ y):=fun e he=>(List.mem_append.1 he).elim (h e) (k e)
theorem qU.take {x:List Ent} (h:qU x) (n:Nat):qU (x.take n):=fun e he=>h e (List.mem_of_mem_take he)
theorem qU.drop {x:List Ent} (h:qU x) (n:Nat):qU (x.drop n):=fun e he=>h e (List.mem_of_mem_drop he)
abbrev ecs (vs:List ae):List Value:=vs.flatMap ae.cs
theorem jV (vs:List ae):(ecs vs).length=vs.length * 2:=rW (w:=2) (fun _=>rfl) vs
theorem BB (vs:List ae) (i j:Nat) (hj:j < 2):(ecs vs)[i * 2 + j]? = (vs[i]?).bind fun v=>(ae.cs v)[j]?:=vN (w:=2) (fun _=>rfl) vs i j hj
theorem yC (vs:List ae) (v:ae):ecs (vs ++ [v])=ecs vs ++ ae.cs v:=by simp [ecs]
theorem vY (vs:List ae) (n:Nat):(ecs vs).take (n * 2)=ecs (vs.take n):=Rw.Ew (w:=2) (fun _=>rfl) vs n
theorem yP (vs:List ae) (n:Nat):(ecs vs).drop (n * 2)=ecs (vs.drop n):=by
 have h:=List.take_append_drop (n * 2) (ecs vs)
 have k:ecs vs=ecs (vs.take n) ++ ecs (vs.drop n):=by rw [← List.flatMap_append,List.take_append_drop]
 rw [vY] at h
 exact List.append_cancel_left (h.trans k)
theorem Bz (vs:List ae):∀ x∈ecs vs,x.oneCell'=true:=by
 intro x hx
 obtain ⟨v,_,hv⟩:=List.mem_flatMap.1 hx
 exact uu (l:=ae.cs v) (by simp [ae.cs,Value.oneCell']) x hv
/-- an entry that may be read -/
structure ry (h:Heap) (v:ae) (e:Ent):Prop where
 t:v.cZ=e.1
 c:SlcAt h v.oH (b8 e.2)
 l:v.oH.len=e.2.length
theorem ry.ext {h h':Heap} {v:ae} {e:Ent} (a:ry h v e) (X:Ext h.size h h'):ry h' v e:=⟨a.t,a.c.ext X,a.l⟩
def Each (h:Heap) (vs:List ae) (es:List Ent):Prop:=vs.length=es.length/\∀ (i:Nat) v e,vs[i]? = some v->es[i]? = some e->ry h v e
theorem Each.nil (h:Heap):Each h [] []:=⟨rfl,by simp⟩
theorem Each.ext {h h':Heap} {vs:List ae} {es:List Ent} (a:Each h vs es) (X:Ext h.size h h'):Each h' vs es:=⟨a.1,fun i v e hv he=>(a.2 i v e hv he).ext X⟩
theorem Each.take {h:Heap} {vs:List ae} {es:List Ent} (a:Each h vs es) (n:Nat):Each h (vs.take n) (es.take n) :=
 ⟨by simp [a.1],fun i v e hv he=>by
  rw [List.getElem?_take] at hv he
  split at hv
  ·rename_i hi; rw [if_pos hi] at he; exact a.2 i v e hv he
  ·cases hv⟩
theorem Each.drop {h:Heap} {vs:List ae} {es:List Ent} (a:Each h vs es) (n:Nat):Each h (vs.drop n) (es.drop n) :=
 ⟨by simp [a.1],fun i v e hv he=>by rw [List.getElem?_drop] at hv he; exact a.2 _ v e hv he⟩
theorem Each.app {h:Heap} {vs us:List ae} {es fs:List Ent} (a:Each h vs es) (b:Each h us fs):Each h (vs ++ us) (es ++ fs):=by
 refine ⟨by simp [a.1,b.1],fun i v e hv he=>?_⟩
 rcases Nat.lt_or_ge i vs.length with hi | hi
 ·rw [List.getElem?_append_left hi] at hv
  rw [List.getElem?_append_left (by rw [← a.1]; exact hi)] at he
  exact a.2 i v e hv he
 ·rw [List.getElem?_append_right hi] at hv
  rw [List.getElem?_append_right (by rw [← a.1]; exact hi),← a.1] at he
  exact b.2 _ v e hv he
theorem Each.one {h:Heap} {v:ae} {e:Ent} (a:ry h v e):Each h [v] [e]:=⟨rfl,fun i w f hw hf=>by
 cases i with
 | zero=>simp at hw hf; subst hw; subst hf; exact a
 | succ i=>simp at hw⟩
/-- entries that may be read -/
structure dB (h:Heap) (s:Slc) (es:List Ent):Prop where
 l:s.len=es.length
 c:s.len<=s.cap
 e:∃ vs,SlcAt h s (ecs vs)/\Each h vs es
theorem dB.ext {h h':Heap} {s:Slc} {es:List Ent} (a:dB h s es) (X:Ext h.size h h'):dB h' s es:=by
 obtain ⟨vs,S,E⟩:=a.e
 exact ⟨a.l,a.c,vs,S.ext X,E.ext X⟩
theorem dB.nil (h:Heap):dB h ⟨none,0,0⟩ []:=⟨rfl,Nat.le_refl _,[],⟨fun _=>rfl,fun a ha=>by cases ha⟩,Each.nil h⟩
theorem dB.get {h:Heap} {s:Slc} {es:List Ent} (A:dB h s es) {i:Nat} {e:Ent} (he:es[i]? = some e):∃ a v,s.a=some a/\aJ h (a.add (i * 2)) (ae.cs v)/\ry h v e:=by
 obtain ⟨vs,S,E⟩:=A.e
 have hi:i < vs.length:=by rw [E.1]; exact (List.getElem?_eq_some_iff.1 he).1
 obtain ⟨v,hv⟩:∃ v,vs[i]? = some v:=⟨_,List.getElem?_eq_getElem hi⟩
 have L:=LsAt.tJ (w:=2) (fun x=>rfl) S (by rw [A.l,E.1]) (by decide)
 obtain ⟨a,ha,C⟩:=L.at' i v hv
 exact ⟨a,v,ha,C,E.2 i v e hv he⟩
/-- a part of entries -/
theorem dB.sub {h:Heap} {s:Slc} {es:List Ent} (A:dB h s es) {l u m:Nat} (h1:l<=u) (h2:u<=es.length) (h3:u<=m) (h4:m<=s.cap):dB h (dS s 2 l u m) ((es.drop l).take (u - l)):=by
 obtain ⟨vs,S,E⟩:=A.e
 have hl:=E.1
 refine ⟨by simp [dS]; omega,by simp [dS]; omega,(vs.drop l).take (u - l),⟨fun hn=>?_,fun a ha j v hj=>?_⟩,(E.drop l).take (u - l)⟩
 ·have:s.a=none:=by simp only [dS] at hn; split at hn <;> simpa using hn
  have h0:=S.1 this
  have:=jV vs
  rw [h0] at this
  simp at this
  have:vs=[]:=List.eq_nil_of_length_eq_zero (by omega)
  simp [this]
 ·cases hs:s.a with
  | none=>simp [dS,hs] at ha
  | some b =>
   by_cases hm:m=l
   ·rw [show u - l=0 from by omega] at hj; simp at hj
   simp [dS,hs,hm] at ha
   subst ha
   rw [← vY,← yP,List.getElem?_take] at hj
   split at hj
   ·rw [List.getElem?_drop] at hj
    rw [fI]
    exact S.2 b hs _ v hj
   ·cases hj
/-- entries in new memory -/
structure nD (B:Nat) (h:Heap) (s:Slc) (es:List Ent) (vs:List ae):Prop where
 r:Row B h 65 2 s (ecs vs)
 l:vs.length=es.length
 e:∀ (i:Nat) v e,vs[i]? = some v->es[i]? = some e->v.cZ=e.1/\Row B h 5 1 v.oH (b8 e.2)
theorem nD.len {B:Nat} {h:Heap} {s:Slc} {es:List Ent} {vs:List ae} (o:nD B h s es vs):s.len=es.length:=by
 have:=o.r.1; rw [jV,o.l] at this; omega
theorem nD.each {B:Nat} {h:Heap} {s:Slc} {es:List Ent} {vs:List ae} (o:nD B h s es vs):Each h vs es :=
 ⟨o.l,fun i v e hv he=>⟨(o.e i v e hv he).1,(o.e i v e hv he).2.slc,by simpa using (o.e i v e hv he).2.len⟩⟩
theorem nD.aM {B:Nat} {h:Heap} {s:Slc} {es:List Ent} {vs:List ae} (o:nD B h s es vs):dB h s es:=⟨o.len,o.r.cap,vs,o.r.slc,o.each⟩
theorem nD.keep {B:Nat} {h h':Heap} {s:Slc} {es:List Ent} {vs:List ae} (o:nD B h s es vs) (k:∀ g,B<=g->g < h.size->h'[g]? = h[g]?):nD B h' s es vs :=
 ⟨o.r.keep fun g hg=>k g (o.r.bd hg).1 (o.r.bd hg).2,o.l,fun i v e hv he=>⟨(o.e i v e hv he).1,(o.e i v e hv he).2.keep fun g hg=>k g ((o.e i v e hv he).2.bd hg).1 ((o.e i v e hv he).2.bd hg).2⟩⟩
theorem nD.ext {B:Nat} {h h':Heap} {s:Slc} {es:List Ent} {vs:List ae} (o:nD B h s es vs) (X:Ext h.size h h'):nD B h' s es vs:=o.keep fun g _ hg=>X.block g hg
theorem nD.imm {O:bz} {B:Nat} {h:Heap} {s:Slc} {es:List Ent} {vs:List ae} (o:nD B h s es vs) (hO:∀ g,O g->g < B):Imm O h fun h'=>dB h' s es :=
 fun h' p=>(o.keep fun g hB hg=>p.block g hg fun hg'=>by have:=hO g hg'; omega).aM
theorem uT {p0:Slc} {es:List Ent} {k:KP Slc} {h:Heap} (A:dB h p0 es) (ok:qU es) (hl:es.length<=1099511627776)
  (H:∀ s' h' vs,nD h.size h' s' es vs->Ext h.size h h'->k s' h'):mO p0 k h:=by
 unfold mO
 rw [A.l]
 refine ⟨fun q h'=>∃ vs,0<=q.2/\q.2<=es.length/\nD h.size h' q.1 (es.take q.2.toNat) vs/\Ext h.size h h',fun q _=>(es.length - q.2).toNat,⟨[],by simp,by simp,⟨Row.nil _ _ _ _,by simp,by simp⟩,Ext.refl _ _⟩,?_⟩
 rintro out i h1 ⟨vs,i0,i1,O,X⟩
 simp only at i0 i1 O
 unfold uj
 by_cases hi:i < es.length
 ·rw [if_pos (by simpa using hi)]
  have hie:i.toNat < es.length:=by omega
  have he:es[i.toNat]? = some es[i.toNat]:=by simp [hie]
  generalize es[i.toNat]=e at he
  obtain ⟨a,v,ha,c1,c2⟩:=(A.ext X).get he
  have oke:=ok e (List.mem_of_getElem? he)
  refine ⟨a,ha,i0,by rw [A.l]; exact hi,v,c1,_,_,rfl,rfl,?_⟩
  have P0:=Blk.push h1 (ae.cs ⟨0,⟨none,0,0⟩⟩) 65
  have P1:=P0.jZ (vs:=ae.cs v) (by simp [ae.cs])
  have X2:Ext h1.size h1 (aU (h1.push (.cells (ae.cs ⟨0,⟨none,0,0⟩⟩).toArray 65)) ⟨h1.size,0,none⟩ 0 (ae.cs v)):=(Ext.push h1 _ (Nat.le_refl _)).trans (Ext.sets _ _ _ (Nat.le_refl _))
  refine ⟨_,dE.eQ P0 (by simp [ae.cs]),rfl,?_⟩
  have z2:=X2.size
  have zp:h1.size < (aU (h1.push (.cells (ae.cs ⟨0,⟨none,0,0⟩⟩).toArray 65)) ⟨h1.size,0,none⟩ 0 (ae.cs v)).size:=P1.lt
  generalize aU (h1.push (.cells (ae.cs ⟨0,⟨none,0,0⟩⟩).toArray 65)) ⟨h1.size,0,none⟩ 0 (ae.cs v)=h2 at *
  refine ⟨v.cZ,by rw [P1.cell]; rfl,v.oH,by rw [add_mk,P1.cell]; rfl,sG c2.l (c2.c.ext X2) (by omega) fun r h3 R3 X3=>?_⟩
  have z3:=X3.size
  refine ⟨by rw [(P1.ext X3 zp).cell]; rfl,_,_,rfl,rfl,?_⟩
  have O2:=(O.ext X2).ext X3
  have ol:=O.len
  simp at ol
  have z1:=X.size
  refine App.row (O2.r.pushed _) (by simp; omega) rfl rfl (uu (by kernel_rfl)) (by omega) (by simp only [maxLen]; omega) fun s' h4 R4 _ z4 ho _=>?_
  have z4':h3.size + 1<=h4.size:=by simpa using z4
  have old:∀ g,g < h3.size->out.blk≠some g->h4[g]? = h3[g]?:=fun g hg hne=>by
   rw [ho g (by simp; omega) hne,Array.getElem?_push,if_neg (by omega)]
  have kr:∀ {s:Slc} {xs:List Value} {C:Nat},Row C h3 5 1 s xs->Row C h4 5 1 s xs:=fun R=>R.keep fun g hg=>old g (R.bd hg).2 fun e=>R.yu O2.r (by decide) hg e
  rw [az (by omega) (by omega)]
  refine ⟨⟨vs ++ [⟨v.cZ,r⟩],by dsimp only; omega,by dsimp only; omega,?_,?_⟩,by dsimp only; omega⟩
  ·dsimp only
   rw [show (i + 1).toNat=i.toNat + 1 from by omega,List.take_add_one,he]
   refine ⟨by rw [yC]; exact R4,by simp [O2.l],fun j w f hw hf=>?_⟩
   rcases Nat.lt_or_ge j vs.length with hj | hj
   ·rw [List.getElem?_append_left hj] at hw
    rw [List.getElem?_append_left (by rw [← O2.l]; exact hj)] at hf
    obtain ⟨k1,k2⟩:=O2.e j w f hw hf
    exact ⟨k1,kr k2⟩
   ·rw [List.getElem?_append_right hj] at hw
    rw [List.getElem?_append_right (by rw [← O2.l]; exact hj)] at hf
    have hi2:j=vs.length:=by
     have:=(List.getElem?_eq_some_iff.1 hw).1
     simp at this; omega
    rw [hi2] at hw
    rw [hi2,← O2.l] at hf
    simp at hw hf
    subst hw; subst hf
    exact ⟨c2.t,kr (R3.mono (by omega))⟩
  ·exact X.trans ((X2.mono (by omega)).trans ((X3.mono (by omega)).trans ⟨by omega,fun j hj=>old j (by omega) fun e=>by have:=(O2.r.bd e).1; omega⟩))
 ·rw [if_neg (by simpa using hi)]
  have:i.toNat=es.length:=by omega
  rw [this,List.take_length] at O
  exact H _ _ vs O X
/-- a log in memory: its own blocks are b, and the entries' row -/
structure dV (O:bz) (h:Heap) (b:Nat) (s:Slc) (l:Lg):Prop where
 k:Blk h b (mE.cs ⟨l.ix,l.tm,s⟩) 117
 r:∃ vs,Row 0 h 65 2 s (ecs vs)/\Imm O h fun h'=>Each h' vs l.es
 ob:O b
 os:∀ g,s.blk=some g->O g
 x0:0<=l.ix
 x1:l.ix + l.es.length < 18446744073709551616
 t0:0<=l.tm/\l.tm < 18446744073709551616
 ok:qU l.es
 sz:l.es.length<=1000
section
variable {O O' S:bz} {h h':Heap} {b:Nat} {s:Slc} {l:Lg} {p t:Int}
theorem dV.len (L:dV O h b s l):s.len=l.es.length:=by
 obtain ⟨vs,R,I⟩:=L.r
 have:=R.1; rw [jV,I.now.1] at this; omega
theorem dV.aM (L:dV O h b s l):dB h s l.es:=by
 obtain ⟨vs,R,I⟩:=L.r
 exact ⟨L.len,R.cap,vs,R.slc,I.now⟩
theorem dV.stp (L:dV O h b s l) (p:Stp S h h') (hS:∀ g,S g->O g∨h.size<=g) (hb:¬ S b) (hs:∀ g,s.blk=some g->¬ S g):dV O h' b s l:=by
 obtain ⟨vs,R,I⟩:=L.r
 exact ⟨p.blk L.k hb,⟨vs,p.row R hs,I.stp (p.mono hS)⟩,L.ob,L.os,L.x0,L.x1,L.t0,L.ok,L.sz⟩
theorem dV.ext (L:dV O h b s l) (X:Ext h.size h h'):dV O h' b s l:=L.stp (S:=fun _=>False) (.bu X) (fun _ h=>h.elim) (fun h=>h) (fun _ _ h=>h)
theorem dV.sub (L:dV O h b s l) (hO:∀ g,O' g->O g∨h.size<=g) (hb:O' b) (hs:∀ g,s.blk=some g->O' g):dV O' h b s l:=by
 obtain ⟨vs,R,I⟩:=L.r
 exact ⟨L.k,⟨vs,R,I.mono hO⟩,hb,hs,L.x0,L.x1,L.t0,L.ok,L.sz⟩
theorem dV.c0 (L:dV O h b s l):af h ⟨b,0,none⟩=some (.int .u64 l.ix):=by rw [L.k.cell]; rfl
theorem dV.c1 (L:dV O h b s l):af h ((⟨b,0,none⟩:Addr).add 1)=some (.int .u64 l.tm):=by rw [add_mk,L.k.cell]; rfl
theorem dV.c2 (L:dV O h b s l):af h ((⟨b,0,none⟩:Addr).add 2)=some (Slc.v s):=by rw [add_mk,L.k.cell]; rfl
theorem xX {k:KP (Int × Int)} (L:dV O h b s l) (H:k (l.ix,l.tm) h):iA (some ⟨b,0,none⟩) k h:=by
 unfold iA
 rw [if_neg (by simp)]
 exact ⟨_,rfl,_,L.c0,_,L.c1,H⟩
theorem dV.term (L:dV O h b s l) {i:Nat} {e:Ent} (he:l.es[i]? = some e):∃ a,s.a=some a/\af h (a.add (i * 2))=some (.int .u64 e.1):=by
 obtain ⟨a,v,ha,C,E⟩:=L.aM.get he
 refine ⟨a,ha,?_⟩
 have:=C 0 (.int .u64 v.cZ) rfl
 rwa [fI,Nat.add_zero,E.t] at this
theorem sZ {k:KP (Int × Int)} (L:dV O h b s l) (H:k (l.last,l.lastT) h):fF (some ⟨b,0,none⟩) k h:=by
 have hl:=L.len
 have x0:=L.x0; have x1:=L.x1; have sz:=L.sz
 unfold fF
 rw [if_neg (by simp)]
 refine ⟨_,rfl,s,L.c2,_,rfl,?_⟩
 rw [hl]
 by_cases hz:l.es.length=0
 ·rw [if_neg (by simpa using hz)]
  refine ⟨_,L.c0,_,L.c1,?_⟩
  have e0:l.es=[]:=List.eq_nil_of_length_eq_zero hz
  have:l.last=l.ix/\l.lastT=l.tm:=by unfold Lg.last Lg.lastT; rw [e0]; simp
  rw [this.1,this.2] at H; exact H
 ·rw [if_pos (by simp; omega)]
  obtain ⟨e,he⟩:∃ e,l.es[l.es.length - 1]? = some e:=⟨_,List.getElem?_eq_getElem (by omega)⟩
  obtain ⟨a,ha,hc⟩:=L.term he
  rw [az (by omega) (by omega),show ((l.es.length:Int) - 1).toNat=l.es.length - 1 from by omega,aY (x:=(l.es.length:Int)) (by omega) (by omega)]
  refine ⟨_,L.c0,s,L.c2,a,ha,by omega,by omega,_,hc,?_⟩
  rw [aY (by omega) (by omega)]
  have:l.last=l.ix + l.es.length/\l.lastT=e.1:=⟨rfl,by unfold Lg.lastT; rw [List.getLast?_eq_getElem?,he]⟩
  rw [this.1,this.2] at H; exact H
theorem dV.Bg (L:dV O h b s l):0<=l.last/\l.last < 18446744073709551616:=by
 have:=L.x0; have:=L.x1; unfold Lg.last; omega
theorem rP {k:KP (Int × Int)} (L:dV O h b s l) (p0:0<=p) (p1:p < 18446744073709551616) (H:k (l.aF p) h):dY (some ⟨b,0,none⟩) p k h:=by
 have x0:=L.x0; have x1:=L.x1; have sz:=L.sz
 unfold dY
 refine xX L (sZ L ?_)
 unfold Lg.aF at H
 by_cases h1:p < l.ix
 ·rw [if_pos (by simpa using h1)]; rw [if_pos h1] at H; exact H
 rw [if_neg (by simpa using h1)]; rw [if_neg h1] at H
 by_cases h2:p > l.last
 ·rw [if_pos (by simpa using h2)]; rw [if_pos h2] at H; exact H
 rw [if_neg (by simpa using h2)]; rw [if_neg h2] at H
 by_cases h3:p=l.ix
 ·rw [if_pos (by simpa using h3)]; rw [if_pos h3] at H; exact H
 rw [if_neg (by simpa using h3)]; rw [if_neg h3] at H
 have hlast:l.last=l.ix + l.es.length:=rfl
 obtain ⟨e,he⟩:∃ e,l.es[(p - l.ix - 1).toNat]? = some e:=⟨_,List.getElem?_eq_getElem (by omega)⟩
 obtain ⟨a,ha,hc⟩:=L.term he
 rw [aY (x:=p - l.ix) (by omega) (by omega),aY (x:=p - l.ix - 1) (by omega) (by omega)]
 refine ⟨_,rfl,s,L.c2,a,ha,by omega,by rw [L.len]; omega,_,hc,?_⟩
 rw [List.getD_eq_getElem?_getD,he] at H
 exact H
theorem yl {k:KP Bool} (L:dV O h b s l) (p0:0<=p) (p1:p < 18446744073709551616) (H:k (l.mat p t) h):kZ (some ⟨b,0,none⟩) p t k h:=by
 unfold kZ
 exact rP L p0 p1 H
theorem CY {k:KP Bool} (L:dV O h b s l) (H:k (l.newer p t) h):mG (some ⟨b,0,none⟩) p t k h:=by
 unfold mG
 exact sZ L H
theorem ve {l:Lg} (h:(l.aF p).2=0):l.ix<=p/\p<=l.ix + l.es.length:=by
 unfold Lg.aF Lg.last at h
 split at h
 ·simp at h
 ·split at h
  ·simp at h
  ·omega
theorem Eg {most:Int} {k:KP (Slc × Int)} (L:dV O h b s l) (p0:0<=p) (p1:p < 18446744073709551616) (m0:0<=most) (m1:most<=64)
  (H:∀ s' h' vs,nD h.size h' s' (l.frm p most).1 vs->Ext h.size h h'->k (s',(l.frm p most).2) h'):nU (some ⟨b,0,none⟩) p most k h:=by
 have x0:=L.x0; have x1:=L.x1; have sz:=L.sz
 have nl:nD h.size h ⟨none,0,0⟩ [] []:=⟨Row.nil _ _ _ _,rfl,by simp⟩
 unfold nU
 unfold Lg.frm at H
 by_cases hp:p=0
 ·rw [if_pos (by simpa using hp)]; rw [if_pos hp] at H
  exact H _ _ [] nl (Ext.refl _ _)
 rw [if_neg (by simpa using hp),aY (x:=p - 1) (by omega) (by omega)]; rw [if_neg hp] at H
 refine rP L (by omega) (by omega) ?_
 by_cases ht:(l.aF (p - 1)).2=0
 ·rw [if_neg (by simpa using ht)]; rw [if_neg (by simpa using ht)] at H
  obtain ⟨h1,h2⟩:=ve ht
  have hl:=L.len
  have hc:=L.aM.c
  rw [if_neg (by simp)]
  refine ⟨_,rfl,s,L.c2,_,L.c0,?_⟩
  rw [aY (x:=p - 1 - l.ix) (by omega) (by omega)]
  refine ⟨_,by omega,by omega,by omega,by omega,rfl,?_⟩
  have A1:=L.aM.sub (l:=(p - 1 - l.ix).toNat) (u:=(s.len:Int).toNat) (m:=(s.cap:Int).toNat) (by omega) (by omega) (by omega) (by omega)
  generalize dS s 2 (p - 1 - l.ix).toNat (s.len:Int).toNat (s.cap:Int).toNat=s6 at A1 ⊢
  have hA1:=A1.l
  rw [List.take_of_length_le (by simp; omega)] at A1 hA1
  have hc1:=A1.c
  have e:(if (if (s6.len:Int) < most then (s6.len:Int) else most) > 0 then (if (s6.len:Int) < most then (s6.len:Int) else most) else 0)=((min s6.len most.toNat:Nat):Int):=by
   split <;> split <;> omega
  rw [e]
  refine ⟨_,by omega,by omega,by omega,by omega,rfl,?_⟩
  have A2:=A1.sub (l:=0) (u:=((min s6.len most.toNat:Nat):Int).toNat) (m:=(s6.cap:Int).toNat) (by omega) (by omega) (by omega) (by omega)
  rw [List.drop_zero] at A2
  have e2:(l.es.drop (p - 1 - l.ix).toNat).take (((min s6.len most.toNat:Nat):Int).toNat - 0)=(l.es.drop (p - 1 - l.ix).toNat).take most.toNat:=by
   rcases Nat.le_total s6.len most.toNat with hm | hm
   ·rw [Nat.min_eq_left hm,List.take_of_length_le (by omega),List.take_of_length_le (by omega)]
   ·rw [Nat.min_eq_right hm]; congr 1
  rw [e2] at A2
  exact uT A2 ((L.ok.drop _).take _) (by simp; omega) fun s' h' vs F X=>H s' h' vs F X
 ·rw [if_pos (by simpa using ht)]; rw [if_pos (by simpa using ht)] at H
  exact H _ _ [] nl (Ext.refl _ _)
theorem yO {k:KP Slc} (L:dV O h b s l) (H:∀ s' h' vs,nD h.size h' s' l.es vs->Ext h.size h h'->k s' h'):fu (some ⟨b,0,none⟩) k h:=by
 unfold fu
 rw [if_neg (by simp)]
 exact ⟨_,rfl,s,L.c2,uT L.aM L.ok (by have:=L.sz; omega) H⟩
/-- a new log -/
theorem Bu {ix tm:Int} {p2:Slc} {es:List Ent} {k:KP (Option Addr)} (A:dB h p2 es) (ok:qU es) (sz:es.length<=1000) (x0:0<=ix) (x1:ix + es.length < 18446744073709551616) (t0:0<=tm/\tm < 18446744073709551616)
  (H:∀ b s' h',(∀ O:bz,(∀ g,O g->g < h.size)->dV (fun g=>O g∨g=b∨s'.blk=some g) h' b s' ⟨ix,tm,es⟩)->h.size<=b->(∀ g,s'.blk=some g->h.size<=g)->Ext h.size h h'->k (some ⟨b,0,none⟩) h'):rD ix tm p2 k h:=by
 unfold rD
 refine uT A ok (by omega) fun s1 h1 vs F X=>?_
 refine ⟨_,_,rfl,rfl,?_⟩
 have X2:=Ext.push h1 (.cells (mE.cs ⟨ix,tm,s1⟩).toArray 117) (Nat.le_refl _)
 have z1:=X.size
 have F2:=F.ext X2
 have K:=Blk.push h1 (mE.cs ⟨ix,tm,s1⟩) 117
 generalize h1.push (.cells (mE.cs ⟨ix,tm,s1⟩).toArray 117)=h2 at *
 refine H h1.size s1 h2 (fun O hO=>⟨K,⟨vs,F2.r.mono (Nat.zero_le _),fun h' p=>⟨F2.l,fun i v e hv he=>?_⟩⟩,.inr (.inl rfl),fun g hg=>.inr (.inr hg),x0,x1,t0,ok,sz⟩) z1 (fun g hg=>(F2.r.bd hg).1) (X.trans (X2.mono z1))
 obtain ⟨k1,k2⟩:=F2.e i v e hv he
 have:=p.row k2 fun g hg hO'=>by
  rcases hO' with h3 | h3 | h3
  ·have:=(k2.bd hg).1; have:=hO g h3; omega
  ·subst h3; exact k2.aZ K (by decide) hg
  ·exact k2.yu F2.r (by decide) hg h3
 exact ⟨k1,this.slc,by simpa using this.len⟩
end
end Yi
end Go.Q
end

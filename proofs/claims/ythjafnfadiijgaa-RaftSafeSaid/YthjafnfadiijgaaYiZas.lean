/- A part of the proof of statements of this seat: lemmas, no statement of their own. -/
import Derived.Test.YthjafnfadiijgaaYiZal
import Derived.Test.YthjafnfadiijgaaYiZaq
import Derived.Test.YthjafnfadiijgaaYiZar
set_option linter.unusedVariables false
set_option linter.unusedSimpArgs false
set_option maxRecDepth 100000
section
/- A member in memory. -/
namespace Go.Q.Yi
open Rf
theorem _root_.Go.Q.Row.pO {B B' E E' w w':Nat} {h:Heap} {s t:Slc} {xs ys:List Value} (R:Row B h E w s xs) (L:Row B' h E' w' t ys) (hE:E≠E') {g:Nat} (hs:s.blk=some g) (ht:t.blk=some g):False:=R.vP L hE hs ht
/-! ### ballots -/
def bits (l:List Int):Nat:=(l.map fun x=>2 ^ x.toNat).sum
theorem Ba (l:List Int) (v:Int):bits (l ++ [v])=bits l + 2 ^ v.toNat:=by simp [bits]
theorem xK {n:Nat} (hn:n<=32):∀ {l:List Int},l.Nodup->(∀ x∈l,0<=x/\x < n)->bits l < 2 ^ n/\pcR 32 (bits l)=l.length/\∀ i:Nat,bits l / 2 ^ i % 2=if (i:Int)∈l then 1 else 0
 | [],_,_=>⟨by simp [bits]; exact Nat.pos_of_ne_zero (by simp),by simp only [bits,List.map_nil,List.sum_nil,List.length_nil]; decide +kernel,fun i=>by simp [bits]⟩
 | x :: l,hd,hb=>by
  obtain ⟨h1,h2⟩:=List.nodup_cons.1 hd
  obtain ⟨a,b,c⟩:=xK hn (l:=l) h2 fun y hy=>hb y (List.mem_cons_of_mem _ hy)
  obtain ⟨x0,x1⟩:=hb x List.mem_cons_self
  have ex:bits (x :: l)=bits l + 2 ^ x.toNat:=by simp [bits,Nat.add_comm]
  have cx:bits l / 2 ^ x.toNat % 2=0:=by rw [c x.toNat,if_neg (by rw [Int.toNat_of_nonneg x0]; exact h1)]
  rw [ex]
  refine ⟨FR (by omega) a cx,by rw [AA 32 _ _ (by omega) cx,b]; simp,fun i=>?_⟩
  rw [D7 cx,c i]
  by_cases hi:i=x.toNat
  ·rw [if_pos hi,if_pos (by rw [hi,Int.toNat_of_nonneg x0]; exact List.mem_cons_self)]
  ·rw [if_neg hi]
   by_cases hm:(i:Int)∈l
   ·rw [if_pos hm,if_pos (List.mem_cons_of_mem _ hm)]
   ·rw [if_neg hm,if_neg (fun h=>(List.mem_cons.1 h).elim (fun e=>hi (by omega)) hm)]
/-! ### the greatest number that more than half have -/
theorem uP:∀ (l:List Int) (a:Int),a<=l.foldl max a/\(∀ x∈l,x<=l.foldl max a)/\(l.foldl max a=a∨l.foldl max a∈l)
 | [],a=>⟨Int.le_refl _,by simp,.inl rfl⟩
 | y :: l,a=>by
  obtain ⟨h1,h2,h3⟩:=uP l (max a y)
  refine ⟨by simp only [List.foldl_cons]; omega,fun x hx=>?_,?_⟩
  ·simp only [List.foldl_cons]
   rcases List.mem_cons.1 hx with rfl | hx
   ·omega
   ·exact h2 x hx
  ·simp only [List.foldl_cons]
   rcases h3 with h3 | h3
   ·rcases Int.le_total a y with h | h
    ·right; rw [h3,Int.max_eq_right h]; exact List.mem_cons_self
    ·left; rw [h3,Int.max_eq_left h]
   ·exact .inr (List.mem_cons_of_mem _ h3)
theorem Cm.cmt {l:List Int} {c:Int} (h:Cm l c) (nn:∀ x∈l,0<=x):Rf.cmt l=c:=by
 unfold Rf.cmt
 have ec:∀ v,Rf.cnt l v=cnt l v:=fun v=>rfl
 rcases h with ⟨rfl,rfl⟩ | ⟨h1,h2,h3⟩
 ·rfl
 ·obtain ⟨a,b,d⟩:=uP (l.filter fun v=>decide (l.length / 2 + 1<=Rf.cnt l v)) 0
  have hc:c∈l.filter fun v=>decide (l.length / 2 + 1<=Rf.cnt l v):=List.mem_filter.2 ⟨h1,by rw [decide_eq_true_eq,ec]; exact h2⟩
  have k1:=b c hc
  rcases d with d | d
  ·have:=nn c h1; omega
  ·have:=List.mem_filter.1 d
   rw [decide_eq_true_eq,ec] at this
   have:=h3 _ this.2
   omega
/-! ### messages, letters, what is to be kept -/
structure rH (h:Heap) (v:ah) (x:Msg):Prop where
 k:v.mO=x.kind/\v.bP=x.term/\v.kY=x.index/\v.qm=x.logTerm/\v.qo=x.commit/\v.yw=x.yes
 e:cZ h v.dF x.aK
 s:SlcAt h v.lW (b8 x.aQ)
 sl:v.lW.len=x.aQ.length
theorem rH.ext {h h':Heap} {v:ah} {x:Msg} (m:rH h v x) (X:Ext h.size h h'):rH h' v x:=⟨m.k,m.e.ext X,m.s.ext X,m.sl⟩
structure uQ (h:Heap) (v:aj) (x:qj):Prop where
 k:v.mO=x.kind/\v.bP=x.term/\v.vB=x.bR/\v.kY=x.index
 e:cZ h v.dF x.aK
 s:SlcAt h v.lW (b8 x.aQ)
 sl:v.lW.len=x.aQ.length
def uU (h:Heap) (vs:List aj) (xs:List qj):Prop:=vs.length=xs.length/\∀ (i:Nat) v x,vs[i]? = some v->xs[i]? = some x->uQ h v x
theorem uU.snoc {h:Heap} {vs:List aj} {xs:List qj} {v:aj} {x:qj} (a:uU h vs xs) (k:uQ h v x):uU h (vs ++ [v]) (xs ++ [x]):=by
 refine ⟨by simp [a.1],fun i w f hw hf=>?_⟩
 rcases Nat.lt_or_ge i vs.length with hi | hi
 ·rw [List.getElem?_append_left hi] at hw
  rw [List.getElem?_append_left (by rw [← a.1]; exact hi)] at hf
  exact a.2 i w f hw hf
 ·rw [List.getElem?_append_right hi] at hw
  rw [List.getElem?_append_right (by rw [← a.1]; exact hi),← a.1] at hf
  have:i - vs.length=0:=by have:=(List.getElem?_eq_some_iff.1 hw).1; simp at this; omega
  rw [this] at hw hf
  simp at hw hf
  subst hw; subst hf; exact k
theorem xO (vs:List aj):(vs.flatMap aj.cs).length=vs.length * 6:=qg (w:=6) (fun _=>rfl) vs
theorem nk (h:Heap):SlcAt h ⟨none,0,0⟩ []:=⟨fun _=>rfl,fun a ha=>by cases ha⟩
/-! ### a member -/
structure RLy where
 b:Nat
 lb:Nat
 es:Slc
 aQ:Slc
 next:Slc
 has:Slc
 keeps:Slc
 bal:Option Nat
def own (L:RLy):bz:=fun g=>g=L.b∨g=L.lb∨L.es.blk=some g∨L.next.blk=some g∨L.has.blk=some g∨L.keeps.blk=some g∨L.bal=some g
def rcs (L:RLy) (r:RS):List Value:=iG.cs ⟨r.me,r.n,r.term,r.bR,some ⟨L.lb,0,none⟩,L.aQ,r.commit,r.role,r.leader,r.ticks,L.bal.map fun c=>⟨c,0,none⟩,L.next,L.has,L.keeps⟩
def yV (h:Heap) (n:Int):Option Nat->Option (List Int)->Prop
 | some c,some l=>Blk h c (iE.cs ⟨n,(bits l:Int)⟩) 123
 | none,none=>True
 | _,_=>False
structure Parts (O:bz) (h:Heap) (L:RLy) (log:Lg) (aQ next has:List Int) (keeps:List qj) (ballot:Option (List Int)) (n:Int):Prop where
 l:dM O h L.lb L.es log
 sn:Imm O h fun h=>SlcAt h L.aQ (b8 aQ)
 sl:L.aQ.len=aQ.length
 nx:Row 0 h 22 1 L.next (u8s next)
 hs:Row 0 h 22 1 L.has (u8s has)
 dj:∀ g,L.next.blk=some g->L.has.blk=some g->False
 kp:∃ ks,Row 0 h 107 6 L.keeps (ks.flatMap aj.cs)/\Imm O h fun h=>uU h ks keeps
 bl:yV h n L.bal ballot
structure WFr (r:RS):Prop where
 n:1<=r.n/\r.n<=32
 me:0<=r.me/\r.me < r.n
 tm:0<=r.term/\r.term < 18446744073709551616
 vt:-9223372036854775808<=r.bR/\r.bR < 9223372036854775808
 cm:0<=r.commit/\r.commit < 18446744073709551616
 tk:0<=r.ticks/\r.ticks<=1000000000
 ld:r.role=2->r.next.length=r.n.toNat/\r.has.length=r.n.toNat
 nx:∀ x∈r.next,0<=x/\x < 18446744073709551616
 hs:∀ x∈r.has,0<=x/\x < 18446744073709551616
 bl:∀ l,r.ballot=some l->l.Nodup/\∀ x∈l,0<=x/\x < r.n
 sn:isB r.aQ/\r.aQ.length<=1099511627776
 kp:r.keeps.length<=1000000
structure aB (O:bz) (h:Heap) (L:RLy) (r:RS):Prop where
 k:Blk h L.b (rcs L r) 94
 p:Parts O h L r.log r.aQ r.next r.has r.keeps r.ballot r.n
 ow:∀ g,own L g->O g
 ob:∀ g,O g->g < h.size
 wf:WFr r
section
variable {O O' S:bz} {h h':Heap} {L:RLy} {r:RS} {log:Lg} {aQ next has:List Int} {keeps:List qj} {ballot:Option (List Int)} {n:Int}
theorem yV.old {h h':Heap} {n:Int}:∀ {c:Option Nat} {b:Option (List Int)},yV h n c b->(∀ g,c=some g->h'[g]? = h[g]?)->yV h' n c b
 | some c,some l,H,e=>Blk.old H (e c rfl)
 | none,none,_,_=>trivial
 | some _,none,H,_=>H.elim
 | none,some _,H,_=>H.elim
theorem yV.lt {h:Heap} {n:Int}:∀ {c:Option Nat} {b:Option (List Int)},yV h n c b->∀ g,c=some g->g < h.size
 | some c,some l,H,g,e=>by cases e; exact Blk.lt H
 | some _,none,H,_,_=>H.elim
theorem yV.blk {h:Heap} {n:Int}:∀ {c:Option Nat} {b:Option (List Int)},yV h n c b->∀ g,c=some g->∃ cs,Blk h g cs 123
 | some c,some l,H,g,e=>by cases e; exact ⟨_,H⟩
 | some _,none,H,_,_=>H.elim
/-- what was done elsewhere leaves the parts -/
theorem Parts.stp (P:Parts O h L log aQ next has keeps ballot n) (p:Stp S h h') (hS:∀ g,S g->O g∨h.size<=g)
  (h1:¬ S L.lb) (h2:∀ g,L.es.blk=some g->¬ S g) (h3:∀ g,L.next.blk=some g->¬ S g) (h4:∀ g,L.has.blk=some g->¬ S g) (h5:∀ g,L.keeps.blk=some g->¬ S g) (h6:∀ g,L.bal=some g->¬ S g):Parts O h' L log aQ next has keeps ballot n:=by
 obtain ⟨ks,K,I⟩:=P.kp
 exact ⟨P.l.stp p hS h1 h2,P.sn.stp (p.mono hS),P.sl,p.row P.nx h3,p.row P.hs h4,P.dj,⟨ks,p.row K h5,I.stp (p.mono hS)⟩,P.bl.old fun g e=>p.block g (P.bl.lt g e) (h6 g e)⟩
theorem Parts.sub (P:Parts O h L log aQ next has keeps ballot n) (hO:∀ g,O' g->O g∨h.size<=g) (h1:O' L.lb) (h2:∀ g,L.es.blk=some g->O' g):Parts O' h L log aQ next has keeps ballot n:=by
 obtain ⟨ks,K,I⟩:=P.kp
 exact ⟨P.l.sub hO h1 h2,P.sn.mono hO,P.sl,P.nx,P.hs,P.dj,⟨ks,K,I.mono hO⟩,P.bl⟩
/-- what was done to a block of another type leaves the parts -/
theorem Parts.upd {b E:Nat} {cs:List Value} (P:Parts O h L log aQ next has keeps ballot n) (K:Blk h b cs E) (U:Upd b h h') (hb:O b) (hE:E≠117/\E≠65/\E≠22/\E≠107/\E≠123):Parts O h' L log aQ next has keeps ballot n:=by
 obtain ⟨e1,e2,e3,e4,e5⟩:=hE
 obtain ⟨ks,Kr,I⟩:=P.kp
 obtain ⟨vs,R,_⟩:=P.l.r
 refine P.stp (S:=fun g=>g=b) (.dD U (.inl rfl)) (fun g hg=>.inl (by subst hg; exact hb)) (fun e=>?_) (fun g hg e=>?_) (fun g hg e=>?_) (fun g hg e=>?_) (fun g hg e=>?_) fun g hg e=>?_
 ·subst e; exact e1 (K.inj P.l.k).2
 ·subst e; exact R.aW K (Ne.symm e2) hg
 ·subst e; exact P.nx.aW K (Ne.symm e3) hg
 ·subst e; exact P.hs.aW K (Ne.symm e3) hg
 ·subst e; exact Kr.aW K (Ne.symm e4) hg
 ·subst e
  obtain ⟨cs',K'⟩:=P.bl.blk _ hg
  exact e5 (K.inj K').2
theorem aB.ob' (R:aB O h L r) {g:Nat} (hg:own L g):g < h.size:=R.ob g (R.ow g hg)
theorem aB.Ob (R:aB O h L r):O L.b:=R.ow _ (.inl rfl)
/-- the same blocks, one field or more of the member's block written -/
theorem aB.yM {r':RS} (R:aB O h L r) (K:Blk h' L.b (rcs L r') 94) (U:Upd L.b h h') (w:WFr r') (e:r'.log=r.log/\r'.aQ=r.aQ/\r'.next=r.next/\r'.has=r.has/\r'.keeps=r.keeps/\r'.ballot=r.ballot/\r'.n=r.n):aB O h' L r':=by
 obtain ⟨e1,e2,e3,e4,e5,e6,e7⟩:=e
 refine ⟨K,?_,R.ow,fun g hg=>Nat.lt_of_lt_of_le (R.ob g hg) U.size,w⟩
 rw [e1,e2,e3,e4,e5,e6,e7]
 exact R.p.upd R.k U R.Ob (by decide)
theorem aB.ext (R:aB O h L r) (X:Ext h.size h h'):aB O h' L r :=
 ⟨R.k.ext X R.k.lt,R.p.stp (S:=fun _=>False) (.bi X) (fun _ h=>h.elim) (fun h=>h) (fun _ _ h=>h) (fun _ _ h=>h) (fun _ _ h=>h) (fun _ _ h=>h) (fun _ _ h=>h),R.ow,fun g hg=>Nat.lt_of_lt_of_le (R.ob g hg) X.size,R.wf⟩
theorem aB.sub (R:aB O h L r) (hO:∀ g,O' g->O g) (hw:∀ g,own L g->O' g):aB O' h L r :=
 ⟨R.k,R.p.sub (fun g hg=>.inl (hO g hg)) (hw _ (.inr (.inl rfl))) fun g hg=>hw g (.inr (.inr (.inl hg))),hw,fun g hg=>R.ob g (hO g hg),R.wf⟩
/-- what is done elsewhere leaves a member -/
theorem aB.stp (R:aB O h L r) (p:Stp S h h') (hS:∀ g,S g->O g∨h.size<=g) (hd:∀ g,own L g->¬ S g):aB O h' L r :=
 ⟨p.blk R.k (hd _ (.inl rfl)),R.p.stp p hS (hd _ (.inr (.inl rfl))) (fun g hg=>hd g (.inr (.inr (.inl hg)))) (fun g hg=>hd g (.inr (.inr (.inr (.inl hg))))) (fun g hg=>hd g (.inr (.inr (.inr (.inr (.inl hg)))))) (fun g hg=>hd g (.inr (.inr (.inr (.inr (.inr (.inl hg))))))) fun g hg=>hd g (.inr (.inr (.inr (.inr (.inr (.inr hg)))))),R.ow,fun g hg=>Nat.lt_of_lt_of_le (R.ob g hg) p.size,R.wf⟩
def G (O:bz) (L:RLy):bz:=fun g=>O g∨own L g
/-- what a call leaves of a member -/
structure Res (O:bz) (h:Heap) (L:RLy) (r':RS) (h':Heap) (L':RLy):Prop where
 R:aB (G O L') h' L' r'
 S:Stp (own L) h h'
 F:∀ g,own L' g->own L g∨h.size<=g
 b:L'.b=L.b
theorem aB.g (R:aB O h L r):aB (G O L) h L r:=R.sub (fun g hg=>hg.elim (fun h=>h) (R.ow g)) fun g hg=>.inr hg
theorem Res.of {r':RS} (R:aB O h' L r') (S:Stp (own L) h h'):Res O h L r' h' L:=⟨R.g,S,fun g hg=>.inl hg,rfl⟩
theorem Res.trans {r1 r2:RS} {h1 h2:Heap} {L1 L2:RLy} (p:Res O h L r1 h1 L1) (q:Res (G O L1) h1 L1 r2 h2 L2):Res O h L r2 h2 L2 :=
 ⟨q.R.sub (fun g hg=>hg.elim (fun h=>.inl (.inl h)) .inr) fun g hg=>.inr hg,p.S.trans q.S p.F,fun g hg=>(q.F g hg).elim (p.F g) fun h2=>.inr (Nat.le_trans p.S.size h2),q.b.trans p.b⟩
theorem Res.ext {r':RS} {h2:Heap} {L':RLy} (p:Res O h L r' h' L') (X:Ext h'.size h' h2):Res O h L r' h2 L':=⟨p.R.ext X,p.S.trans (O':=fun _=>False) (.bi X) fun _ h=>h.elim,p.F,p.b⟩
/-- behind new blocks -/
theorem Res.pre {r':RS} {h0:Heap} {L':RLy} (p:Res O h L r' h' L') (X:Ext h0.size h0 h) (ow:∀ g,own L g->g < h0.size):Res O h0 L r' h' L' :=
 ⟨p.R,(Stp.bi (O:=own L) X).trans' p.S,fun g hg=>(p.F g hg).elim .inl fun h2=>.inr (Nat.le_trans X.size h2),p.b⟩
theorem Res.imm {r':RS} {L':RLy} {p:Heap->Prop} (q:Res O h L r' h' L') (R:aB O h L r) (I:Imm O h p):Imm (G O L') h' p :=
 I.step (q.S.mono fun g hg=>.inl (R.ow g hg)) fun g hg=>hg.elim .inl fun h2=>(q.F g h2).elim (fun h3=>.inl (R.ow g h3)) .inr
/-- a block of another type isn't a member's own -/
theorem aB.lZ {E b:Nat} {cs:List Value} (R:aB O h L r) (K:Blk h b cs E) (hE:E≠94/\E≠117/\E≠65/\E≠22/\E≠107/\E≠123):¬ own L b:=by
 obtain ⟨e0,e1,e2,e3,e4,e5⟩:=hE
 obtain ⟨ks,Kr,I⟩:=R.p.kp
 obtain ⟨vs,Rr,_⟩:=R.p.l.r
 rintro (h | h | h | h | h | h | h)
 ·subst h; exact e0 (K.inj R.k).2
 ·subst h; exact e1 (K.inj R.p.l.k).2
 ·exact Rr.aW K (Ne.symm e2) h
 ·exact R.p.nx.aW K (Ne.symm e3) h
 ·exact R.p.hs.aW K (Ne.symm e3) h
 ·exact Kr.aW K (Ne.symm e4) h
 ·obtain ⟨cs',K'⟩:=R.p.bl.blk _ h
  exact e5 (K.inj K').2
/-! fields -/
theorem aB.c (R:aB O h L r) (i:Nat):af h ((⟨L.b,0,none⟩:Addr).add i)=(rcs L r)[i]?:=R.k.get i
theorem aB.c0 (R:aB O h L r):af h ⟨L.b,0,none⟩=some (.int .i64 r.me):=R.k.cell
end
end Go.Q.Yi
end
section
/- A member's small calls. -/
namespace Go.Q.Yi
open Rf
section
variable {O:bz} {h:Heap} {L:RLy} {r:RS}
theorem rM {v:aj} {x:qj} {k:Heap->Prop} (R:aB O h L r) (hk:r.keeps.length < 1000000) (V:Imm O h fun h=>uQ h v x)
  (H:∀ h' L',Res O h L { r with keeps:=r.keeps ++ [x] } h' L'->k h') :
  App 107 6 80 [.int .i64 0,.int .u64 0,.int .i64 0,.int .u64 0,.slice none 0 0,.slice none 0 0] h L.keeps 1 (aj.cs v) (fun s8 h9=>∃ h10:Heap,WrH h9 ((⟨L.b,0,none⟩:Addr).add 13)/\h10=setH h9 ((⟨L.b,0,none⟩:Addr).add 13) (Slc.v s8)/\(k h10)):=by
 have P:=R.p
 obtain ⟨ks,K,I⟩:=P.kp
 obtain ⟨vs,Re,_⟩:=P.l.r
 have kl:=K.1
 rw [xO,I.now.1] at kl
 refine App.xI K (Nat.zero_le _) rfl rfl (qX (by kernel_rfl)) (by omega) (by simp only [maxLen]; omega) fun s h1 R1 l1 z1 o1 b1 _=>?_
 have S1:Stp (fun g=>L.keeps.blk=some g) h h1:=⟨z1,fun g hg hn=>o1 g hg hn⟩
 have nkb:∀ {b E:Nat} {cs:List Value},Blk h b cs E->E≠107->¬ L.keeps.blk=some b:=fun Kb hE e=>K.aW Kb (Ne.symm hE) e
 have K1:=S1.blk R.k (nkb R.k (by decide))
 obtain ⟨w,f⟩:=K1.put (i:=13) (v:=Slc.v s) (by show 13 < 14; omega)
 refine ⟨_,w,rfl,?_⟩
 obtain ⟨K2,U2⟩:=f _ rfl
 generalize setH h1 ((⟨L.b,0,none⟩:Addr).add 13) (Slc.v s)=h2 at *
 have sb:∀ g,s.blk=some g->L.keeps.blk=some g∨h.size<=g:=fun g hg=>by
  rcases b1 with ⟨b1,_⟩ | b1
  ·exact .inl (by rw [← b1]; exact hg)
  ·rw [b1] at hg; cases hg; exact .inr (Nat.le_refl _)
 have hO':∀ g,G O { L with keeps:=s } g->O g∨h.size<=g:=fun g hg=>by
  rcases hg with hg | hg | hg | hg | hg | hg | hg | hg
  ·exact .inl hg
  ·exact .inl (R.ow _ (.inl hg))
  ·exact .inl (R.ow _ (.inr (.inl hg)))
  ·exact .inl (R.ow _ (.inr (.inr (.inl hg))))
  ·exact .inl (R.ow _ (.inr (.inr (.inr (.inl hg)))))
  ·exact .inl (R.ow _ (.inr (.inr (.inr (.inr (.inl hg))))))
  ·exact (sb g hg).elim (fun h3=>.inl (R.ow _ (.inr (.inr (.inr (.inr (.inr (.inl h3)))))))) .inr
  ·exact .inl (R.ow _ (.inr (.inr (.inr (.inr (.inr (.inr hg)))))))
 have kO:∀ g,L.keeps.blk=some g->O g:=fun g hg=>R.ow g (.inr (.inr (.inr (.inr (.inr (.inl hg))))))
 have SO:Stp O h h1:=S1.mono fun g hg=>.inl (kO g hg)
 have P1:Parts (G O { L with keeps:=s }) h1 { L with keeps:=s } r.log r.aQ r.next r.has (r.keeps ++ [x]) r.ballot r.n:=by
  refine ⟨?_,P.sn.step SO hO',P.sl,S1.row P.nx fun g hg e=>P.nx.pO K (by decide) hg e,S1.row P.hs fun g hg e=>P.hs.pO K (by decide) hg e,P.dj,⟨ks ++ [v],?_,fun h3 S3=>((I.step SO hO') h3 S3).snoc ((V.step SO hO') h3 S3)⟩,P.bl.old fun g hg=>?_⟩
  ·exact (P.l.sub hO' (.inr (.inr (.inl rfl))) fun g hg=>.inr (.inr (.inr (.inl hg)))).stp S1 (fun g hg=>.inl (.inl (kO g hg))) (nkb P.l.k (by decide)) fun g hg e=>Re.pO K (by decide) hg e
  ·have:(ks ++ [v]).flatMap aj.cs=ks.flatMap aj.cs ++ aj.cs v:=by simp
   rw [this]; exact R1
  ·refine o1 g (P.bl.lt g hg) fun e=>?_
   obtain ⟨cs,Kb⟩:=P.bl.blk g hg
   exact nkb Kb (by decide) e
 have w0:=R.wf
 have ow:∀ g,own { L with keeps:=s } g->own L g∨h.size<=g:=fun g hg=>by
  rcases hg with hg | hg | hg | hg | hg | hg | hg
  ·exact .inl (.inl hg)
  ·exact .inl (.inr (.inl hg))
  ·exact .inl (.inr (.inr (.inl hg)))
  ·exact .inl (.inr (.inr (.inr (.inl hg))))
  ·exact .inl (.inr (.inr (.inr (.inr (.inl hg)))))
  ·exact (sb g hg).elim (fun h3=>.inl (.inr (.inr (.inr (.inr (.inr (.inl h3))))))) .inr
  ·exact .inl (.inr (.inr (.inr (.inr (.inr (.inr hg))))))
 have P2:=P1.upd (L:={ L with keeps:=s }) K1 U2 (.inl R.Ob) (by decide)
 refine H h2 { L with keeps:=s } ⟨⟨K2,P2,fun g hg=>.inr hg,fun g hg=>?_,?_⟩,?_,ow,rfl⟩
 ·rcases hO' g hg with h3 | h3
  ·have:=R.ob g h3; have:=U2.size; omega
  ·rcases hg with hg | hg | hg | hg | hg | hg | hg | hg
   ·have:=R.ob g hg; have:=U2.size; omega
   ·have:=R.ob' (g:=g) (.inl hg); have:=U2.size; omega
   ·have:=R.ob' (g:=g) (.inr (.inl hg)); have:=U2.size; omega
   ·have:=R.ob' (g:=g) (.inr (.inr (.inl hg))); have:=U2.size; omega
   ·have:=R.ob' (g:=g) (.inr (.inr (.inr (.inl hg)))); have:=U2.size; omega
   ·have:=R.ob' (g:=g) (.inr (.inr (.inr (.inr (.inl hg))))); have:=U2.size; omega
   ·have:=(R1.bd hg).2; have:=U2.size; omega
   ·have:=R.ob' (g:=g) (.inr (.inr (.inr (.inr (.inr (.inr hg)))))); have:=U2.size; omega
 ·exact ⟨w0.n,w0.me,w0.tm,w0.vt,w0.cm,w0.tk,w0.ld,w0.nx,w0.hs,w0.bl,w0.sn,by simp; omega⟩
 ·exact (S1.mono (O':=own L) fun g hg=>.inl (.inr (.inr (.inr (.inr (.inr (.inl hg))))))).trans (Stp.dD (O:=own L) U2 (.inl (.inl rfl))) fun g hg=>.inl hg
theorem rE {k:KP Unit} (R:aB O h L r) (hk:r.keeps.length < 1000000) (H:∀ h' L',Res O h L r.fI h' L'->k () h'):fP (some ⟨L.b,0,none⟩) k h:=by
 unfold fP
 refine ⟨_,rfl,L.keeps,R.c 13,_,R.c 2,_,R.c 3,_,_,rfl,rfl,?_⟩
 have X:=Ext.push h (.cells (aj.cs ⟨1,r.term,r.bR,0,⟨none,0,0⟩,⟨none,0,0⟩⟩).toArray 107) (Nat.le_refl _)
 have R1:=R.ext X
 generalize h.push (.cells (aj.cs ⟨1,r.term,r.bR,0,⟨none,0,0⟩,⟨none,0,0⟩⟩).toArray 107)=h1 at *
 refine ⟨R1.c 13,rM (x:=⟨1,r.term,r.bR,0,[],[]⟩) R1 hk (fun h' _=>⟨⟨rfl,rfl,rfl,rfl⟩,cZ.nil h',nk h',rfl⟩) fun h' L' q=>H h' L' (q.pre X fun g hg=>R.ob' hg)⟩
theorem tZ {term leader:Int} {k:KP Unit} (R:aB O h L r) (hk:r.keeps.length < 1000000) (t0:0<=term/\term < 18446744073709551616) (H:∀ h' L',Res O h L (r.follow term leader) h' L'->k () h'):iH (some ⟨L.b,0,none⟩) term leader k h:=by
 have w0:=R.wf
 have j1:∀ {h1:Heap} {L1:RLy},Res O h L (r.aR term) h1 L1->ic (some ⟨L.b,0,none⟩) leader k h1:=fun {h1 L1} q=>by
  have R1:=q.R
  have w1:=R1.wf
  rw [← q.b]
  unfold ic
  obtain ⟨w,f⟩:=R1.k.put (i:=7) (v:=.int .i64 0) (by show 7 < 14; omega)
  refine ⟨_,rfl,_,w,rfl,?_⟩
  obtain ⟨K2,U2⟩:=f _ rfl
  generalize setH h1 ((⟨L1.b,0,none⟩:Addr).add 7) (.int .i64 0)=h2 at *
  obtain ⟨w,f⟩:=K2.put (i:=8) (v:=.int .i64 leader) (by show 8 < 14; omega)
  refine ⟨_,w,rfl,?_⟩
  obtain ⟨K3,U3⟩:=f _ rfl
  generalize setH h2 ((⟨L1.b,0,none⟩:Addr).add 8) (.int .i64 leader)=h3 at *
  obtain ⟨w,f⟩:=K3.put (i:=10) (v:=.pointer none) (by show 10 < 14; omega)
  refine ⟨_,w,rfl,?_⟩
  obtain ⟨K4,U4⟩:=f _ rfl
  generalize setH h3 ((⟨L1.b,0,none⟩:Addr).add 10) (.pointer none)=h4 at *
  have U:=(U2.trans U3).trans U4
  have P4:=R1.p.upd R1.k U R1.Ob (by decide)
  have ow:∀ g,own { L1 with bal:=none } g->own L1 g:=fun g hg=>by
   rcases hg with hg | hg | hg | hg | hg | hg | hg
   ·exact .inl hg
   ·exact .inr (.inl hg)
   ·exact .inr (.inr (.inl hg))
   ·exact .inr (.inr (.inr (.inl hg)))
   ·exact .inr (.inr (.inr (.inr (.inl hg))))
   ·exact .inr (.inr (.inr (.inr (.inr (.inl hg)))))
   ·cases hg
  have R4:aB (G O L1) h4 { L1 with bal:=none } (r.follow term leader) :=
   ⟨K4,⟨P4.l,P4.sn,P4.sl,P4.nx,P4.hs,P4.dj,P4.kp,trivial⟩,fun g hg=>R1.ow g (ow g hg),fun g hg=>Nat.lt_of_lt_of_le (R1.ob g hg) U.size,
    ⟨w1.n,w1.me,w1.tm,w1.vt,w1.cm,w1.tk,(fun e=>by cases e),w1.nx,w1.hs,(fun l e=>by cases e),w1.sn,w1.kp⟩⟩
  exact H h4 _ (q.trans ⟨R4.sub (fun g hg=>hg.elim (fun h=>h) fun h=>R1.ow g (ow g h)) fun g hg=>.inr hg,(Stp.dD U (.inl (.inl rfl))),fun g hg=>.inl (ow g hg),rfl⟩)
 unfold iH
 refine ⟨_,rfl,_,R.c 2,?_⟩
 unfold RS.aR at j1
 by_cases ht:term > r.term
 ·rw [if_pos (by simpa using ht)]
  rw [if_pos ht] at j1
  obtain ⟨w,f⟩:=R.k.put (i:=2) (v:=.int .u64 term) (by show 2 < 14; omega)
  refine ⟨_,w,rfl,?_⟩
  obtain ⟨K2,U2⟩:=f _ rfl
  generalize setH h ((⟨L.b,0,none⟩:Addr).add 2) (.int .u64 term)=h2 at *
  obtain ⟨w,f⟩:=K2.put (i:=3) (v:=.int .i64 0) (by show 3 < 14; omega)
  refine ⟨_,w,rfl,?_⟩
  obtain ⟨K3,U3⟩:=f _ rfl
  generalize setH h2 ((⟨L.b,0,none⟩:Addr).add 3) (.int .i64 0)=h3 at *
  have R3:aB O h3 L { r with term:=term,bR:=0 }:=R.yM K3 (U2.trans U3) ⟨w0.n,w0.me,t0,by simp,w0.cm,w0.tk,w0.ld,w0.nx,w0.hs,w0.bl,w0.sn,w0.kp⟩ ⟨rfl,rfl,rfl,rfl,rfl,rfl,rfl⟩
  have q0:Res O h L { r with term:=term,bR:=0 } h3 L:=Res.of R3 (Stp.dD (U2.trans U3) (.inl (.inl rfl)))
  exact rE q0.R hk fun h' L' q=>j1 (q0.trans q)
 ·rw [if_neg (by simpa using ht)]
  rw [if_neg ht] at j1
  exact j1 (Res.of R (Stp.refl _ _))
end
end Go.Q.Yi
end
section
/- Letters. -/
namespace Go.Q.Yi
open Rf
theorem Ar (vs:List aF):(vs.flatMap aF.cs).length=vs.length * 9:=qg (w:=9) (fun _=>rfl) vs
structure aJ (O:bz) (h:Heap) (s:Slc) (l:List lY):Prop where
 m:∃ ms:List aF,Row 0 h 45 9 s (ms.flatMap aF.cs)/\ms.length=l.length/\∀ (i:Nat) m x,ms[i]? = some m->l[i]? = some x->m.rF=x.1/\Imm (OB O s) h fun h=>rH h m.f_M x.2
 n:∀ g,s.blk=some g->¬ O g
def yl (O:bz) (h:Heap) (v:ah) (x:Msg):Prop:=∀ S:bz,(∀ g,S g->O g∨∃ cs E,Blk h g cs E/\E≠65/\E≠5)->Imm S h fun h=>rH h v x
section
variable {O:bz} {h:Heap} {L:RLy} {r:RS}
theorem aJ.len {s:Slc} {l:List lY} (M:aJ O h s l):s.len=l.length:=by
 obtain ⟨ms,R,e,_⟩:=M.m
 have:=R.1; rw [Ar,e] at this; omega
theorem aJ.nil (O:bz) (h:Heap):aJ O h ⟨none,0,0⟩ []:=⟨⟨[],Row.nil _ _ _ _,rfl,by simp⟩,fun g hg=>by simp [Slc.blk] at hg⟩
theorem aJ.ext {s:Slc} {l:List lY} {h':Heap} (M:aJ O h s l) (X:Ext h.size h h'):aJ O h' s l:=by
 obtain ⟨ms,R,e,I⟩:=M.m
 exact ⟨⟨ms,R.ext X fun g hg=>(R.bd hg).2,e,fun i m x hm hx=>⟨(I i m x hm hx).1,(I i m x hm hx).2.ext X⟩⟩,M.n⟩
theorem aJ.sub {O':bz} {s:Slc} {l:List lY} (M:aJ O h s l) (hO:∀ g,O' g->O g):aJ O' h s l:=by
 obtain ⟨ms,R,e,I⟩:=M.m
 exact ⟨⟨ms,R,e,fun i m x hm hx=>⟨(I i m x hm hx).1,(I i m x hm hx).2.mono fun g hg=>.inl (hg.elim (fun h=>.inl (hO g h)) .inr)⟩⟩,fun g hg h=>M.n g hg (hO g h)⟩
/-- behind a step of a member -/
theorem aJ.step {O' S:bz} {s:Slc} {l:List lY} {h':Heap} (M:aJ O h s l) (p:Stp S h h') (hS:∀ g,S g->O g∨h.size<=g) (hO:∀ g,O' g->O g∨h.size<=g):aJ O' h' s l:=by
 obtain ⟨ms,R,e,I⟩:=M.m
 refine ⟨⟨ms,p.row R fun g hg h=>(hS g h).elim (M.n g hg) fun h2=>by have:=(R.bd hg).2; omega,e,fun i m x hm hx=>⟨(I i m x hm hx).1,(I i m x hm hx).2.step (p.mono fun g hg=>(hS g hg).elim (fun h=>.inl (.inl h)) .inr) fun g hg=>?_⟩⟩,fun g hg h=>(hO g h).elim (M.n g hg) fun h2=>by have:=(R.bd hg).2; omega⟩
 rcases hg with hg | hg
 ·exact (hO g hg).elim (fun h=>.inl (.inl h)) .inr
 ·exact .inl (.inr hg)
theorem ww {out:Slc} {l:List lY} {v:ah} {x:Msg} {node:Int} {k:KP Slc} (M:aJ O h out l) (D:yl O h v x) (ob:∀ g,O g->g < h.size) (hl:l.length < 100000)
  (H:∀ s h',aJ O h' s (l ++ [(node,x)])->Stp (fun g=>out.blk=some g) h h'->(∀ g,s.blk=some g->out.blk=some g∨h.size<=g)->k s h') :
  App 45 9 104 [.int .i64 0,.int .i64 0,.int .u64 0,.int .u64 0,.int .u64 0,.int .u64 0,.bool false,.slice none 0 0,.slice none 0 0] h out 1 (aF.cs ⟨node,v⟩) k:=by
 have ol:=M.len
 obtain ⟨ms,R,e,I⟩:=M.m
 refine App.xI R (Nat.zero_le _) rfl rfl (qX (by kernel_rfl)) (by omega) (by simp only [maxLen]; omega) fun s h1 R1 l1 z1 o1 b1 _=>?_
 have S1:Stp (fun g=>out.blk=some g) h h1:=⟨z1,fun g hg hn=>o1 g hg hn⟩
 have sb:∀ g,s.blk=some g->out.blk=some g∨h.size<=g:=fun g hg=>by
  rcases b1 with ⟨b1,_⟩ | b1
  ·exact .inl (by rw [← b1]; exact hg)
  ·rw [b1] at hg; cases hg; exact .inr (Nat.le_refl _)
 refine H s h1 ⟨⟨ms ++ [⟨node,v⟩],?_,by simp [e],fun i m y hm hy=>?_⟩,fun g hg h2=>?_⟩ S1 sb
 ·have:(ms ++ [(⟨node,v⟩:aF)]).flatMap aF.cs=ms.flatMap aF.cs ++ aF.cs ⟨node,v⟩:=by simp
  rw [this]; exact R1
 ·rcases Nat.lt_or_ge i ms.length with hi | hi
  ·rw [List.getElem?_append_left hi] at hm
   rw [List.getElem?_append_left (by rw [← e]; exact hi)] at hy
   refine ⟨(I i m y hm hy).1,(I i m y hm hy).2.step (S1.mono fun g hg=>.inl (.inr hg)) fun g hg=>?_⟩
   rcases hg with hg | hg
   ·exact .inl (.inl hg)
   ·exact (sb g hg).elim (fun h=>.inl (.inr h)) .inr
  ·rw [List.getElem?_append_right hi] at hm
   rw [List.getElem?_append_right (by rw [← e]; exact hi),← e] at hy
   have:i - ms.length=0:=by have:=(List.getElem?_eq_some_iff.1 hm).1; simp at this; omega
   rw [this] at hm hy
   simp at hm hy
   subst hm; subst hy
   refine ⟨rfl,(D (OB O out) fun g hg=>hg.elim .inl fun h=>.inr (by obtain ⟨c,K⟩:=R.y5 h; exact ⟨c,_,K,by decide⟩)).step (S1.mono fun g hg=>.inl (.inr hg)) fun g hg=>?_⟩
   rcases hg with hg | hg
   ·exact .inl (.inl hg)
   ·exact (sb g hg).elim (fun h=>.inl (.inr h)) .inr
 ·exact (sb g hg).elim (fun h=>M.n g h h2) fun h3=>by have:=ob g h2; omega
theorem yo {v:ah} {x:Msg} {node:Int} (D:yl O h v x) (ob:∀ g,O g->g < h.size):aJ O (h.push (.cells (aF.cs ⟨node,v⟩).toArray 45)) ⟨some ⟨h.size,0,none⟩,1,1⟩ [(node,x)]:=by
 have X:=Ext.push h (.cells (aF.cs ⟨node,v⟩).toArray 45) (Nat.le_refl _)
 refine ⟨⟨[⟨node,v⟩],?_,rfl,fun i m y hm hy=>?_⟩,fun g hg h2=>?_⟩
 ·exact (Row.pI (E:=45) (w:=9) h (aF.cs ⟨node,v⟩) 1 rfl (by decide)).mono (Nat.zero_le _)
 ·have:i=0:=by have:=(List.getElem?_eq_some_iff.1 hm).1; simp at this; omega
  rw [this] at hm hy
  simp at hm hy
  subst hm; subst hy
  exact ⟨rfl,(D O fun g hg=>.inl hg).step (.bi X) fun g hg=>hg.elim .inl fun h=>.inr (by simp [Slc.blk] at h; omega)⟩
 ·simp [Slc.blk] at hg; have:=ob g h2; omega
theorem Dj {v:ah} {x:Msg} (k:v.mO=x.kind/\v.bP=x.term/\v.kY=x.index/\v.qm=x.logTerm/\v.qo=x.commit/\v.yw=x.yes) (e1:v.dF=⟨none,0,0⟩) (e2:v.lW=⟨none,0,0⟩) (e3:x.aK=[]) (e4:x.aQ=[]):yl O h v x:=fun S _ h' _=>⟨k,by rw [e1,e3]; exact cZ.nil _,by rw [e2,e4]; exact nk _,by rw [e2,e4]; rfl⟩
theorem qH {B:Nat} {h:Heap} {s:Slc} {xs:List Int} (R:Row B h 22 1 s (u8s xs)) {i:Int} (i0:0<=i) (i1:i < xs.length):∃ a:Addr,s.a=some a/\(0:Int)<=i/\i < (s.len:Int)/\af h (a.add (i.toNat * 1))=some (.int .u64 (xs.getD i.toNat 0)):=by
 have hl:=R.1
 have e:(u8s xs).length=xs.length:=by simp [u8s]
 rw [e] at hl
 obtain ⟨v,hv⟩:∃ v,xs[i.toNat]? = some v:=⟨_,List.getElem?_eq_getElem (by omega)⟩
 obtain ⟨a,ha,_,h2,hc⟩:=Fz (s:=s) (zs:=xs) R.slc (by omega) i0 hv
 exact ⟨a,ha,i0,h2,by rw [List.getD_eq_getElem?_getD,hv]; exact hc⟩
/-- what a node is to have -/
theorem CE {node:Int} {k:KP ah} (R:aB O h L r) (n0:0<=node) (n1:node < r.next.length) (H:∀ v h',yl O h' v (r.due node)->Ext h.size h h'->k v h'):jQ (some ⟨L.b,0,none⟩) node k h:=by
 unfold jQ
 refine ⟨_,_,rfl,rfl,?_⟩
 have X:=Ext.push h (.cells (ah.cs ⟨0,0,0,0,0,false,⟨none,0,0⟩,⟨none,0,0⟩⟩).toArray 26) (Nat.le_refl _)
 have P0:=Blk.push h (ah.cs ⟨0,0,0,0,0,false,⟨none,0,0⟩,⟨none,0,0⟩⟩) 26
 obtain ⟨b1,eb⟩:∃ y,y=h.size:=⟨_,rfl⟩
 obtain ⟨h2,e2⟩:∃ y,y=h.push (.cells (ah.cs ⟨0,0,0,0,0,false,⟨none,0,0⟩,⟨none,0,0⟩⟩).toArray 26):=⟨_,rfl⟩
 rw [← eb,← e2] at P0 ⊢
 rw [← e2] at X
 have R2:=R.ext X
 have z2:=X.size
 have bl2:=P0.lt
 obtain ⟨a5,ha5,i0,i1,hc⟩:=qH R2.p.nx n0 n1
 have nb:=R.wf.nx
 have vb:0<=r.next.getD node.toNat 0/\r.next.getD node.toNat 0 < 18446744073709551616:=by
  obtain ⟨v,hv⟩:∃ v,r.next[node.toNat]? = some v:=⟨_,List.getElem?_eq_getElem (by omega)⟩
  rw [List.getD_eq_getElem?_getD,hv]; exact nb v (List.mem_of_getElem? hv)
 refine ⟨_,rfl,L.next,R2.c 11,a5,ha5,i0,i1,_,hc,_,R2.c 4,sK R2.p.l ?_⟩
 unfold RS.due at H
 generalize r.next.getD node.toNat 0=v6 at *
 have tail:∀ {v:ah} {h5:Heap},Ext h2.size h2 h5->yl O h5 v (if v6<=r.log.ix then ⟨5,r.term,r.log.ix,r.log.tm,r.commit,false,[],r.aQ⟩ else ⟨3,r.term,W (v6 - 1),(r.log.aH (W (v6 - 1))).1,r.commit,false,(r.log.frm v6 4).1,[]⟩) ->
   ∃ h27:Heap,bZ h5 (⟨b1,0,none⟩:Addr) 8/\h27=aO h5 (⟨b1,0,none⟩:Addr) 0 (ah.cs v)/\(∃ v28:ah,aD h27 (⟨b1,0,none⟩:Addr) (ah.cs v28)/\k v28 h27):=fun {v h5} X5 D=>by
  have P5:=P0.ext X5 bl2
  refine ⟨_,bZ.dL P5 (by show 8<=8; omega),rfl,?_⟩
  have P6:=P5.jN (vs:=ah.cs v) rfl
  have z5:=X5.size
  have X6:Ext h.size h5 (aO h5 ⟨b1,0,none⟩ 0 (ah.cs v)):=Ext.sets _ _ _ (by show h.size<=b1; omega)
  have old:∀ g,g≠b1->(aO h5 ⟨b1,0,none⟩ 0 (ah.cs v))[g]? = h5[g]?:=fun g hg=>kD _ _ hg
  generalize aO h5 ⟨b1,0,none⟩ 0 (ah.cs v)=h6 at *
  refine ⟨v,aD.dL P6,H v h6 (fun S hS=>?_) (X.trans ((X5.mono z2).trans X6))⟩
  refine (D (fun g=>S g∨g=b1) fun g hg=>?_).step ⟨X6.size,fun g hg hn=>old g fun e=>hn (.inr e)⟩ fun g hg=>.inl (.inl hg)
  by_cases e:g=b1
  ·subst e; exact .inr ⟨_,_,P5,by decide⟩
  ·exact (hg.resolve_right e |> hS g).imp id fun ⟨cs,E,K,hE⟩=>⟨cs,E,K.old (old g e).symm,hE⟩
 have ob2:=R2.ob
 by_cases hv:v6<=r.log.ix
 ·rw [if_pos (by simpa using hv)]
  simp only [if_pos hv] at H tail
  have wf:=R.wf
  refine ⟨_,R2.c 2,_,R2.c 6,L.aQ,R2.c 5,pQ (l:=r.aQ) R2.p.sl R2.p.sn.now (by have:=wf.sn.2; omega) fun s h3 R3 X3=>?_⟩
  have R4:=R2.ext X3
  refine ⟨R4.c 6,R4.c 2,tail X3 fun S hS h' p=>?_⟩
  have R5:=p.row R3 fun g hg h5=>by
   rcases hS g h5 with h6 | ⟨cs,E,K,hE⟩
   ·have:=(R3.bd hg).1; have:=ob2 g h6; omega
   ·exact R3.aW K hE.2.symm hg
  exact ⟨⟨rfl,rfl,rfl,rfl,rfl,rfl⟩,cZ.nil h',R5.slc,by simpa using R5.len⟩
 ·rw [if_neg (by simpa using hv)]
  simp only [if_neg hv] at H tail
  have ln:=R.p.l.x0
  refine ⟨_,R2.c 4,Aq R2.p.l vb.1 vb.2 (by omega) (by omega) fun s h3 vs F3 X3=>?_⟩
  have R3:=R2.ext X3
  have ew:IntKind.u64.wrap (v6 - 1)=W (v6 - 1):=rfl
  obtain ⟨w0,w1⟩:=uu (v6 - 1)
  refine ⟨_,R3.c 4,p9 R3.p.l w0 w1 ⟨_,R3.c 2,_,R3.c 6,tail X3 fun S hS h' p=>?_⟩⟩
  have hn:∀ {B E w:Nat} {s:Slc} {xs:List Value},Row B h3 E w s xs->(E=65∨E=5)->h2.size<=B->∀ g,s.blk=some g->¬ S g:=fun Rw hE hB g hg h5=>by
   rcases hS g h5 with h6 | ⟨cs,E',K,hE'⟩
   ·have:=(Rw.bd hg).1; have:=ob2 g h6; omega
   ·rcases hE with rfl | rfl
    ·exact Rw.aW K hE'.1.symm hg
    ·exact Rw.aW K hE'.2.symm hg
  have F5:lT h2.size h' s (r.log.frm v6 4).1 vs:=⟨p.row F3.r (hn F3.r (.inl rfl) (Nat.le_refl _)),F3.l,fun i v e hv he=>⟨(F3.e i v e hv he).1,p.row (F3.e i v e hv he).2 (hn (F3.e i v e hv he).2 (.inr rfl) (Nat.le_refl _))⟩⟩
  exact ⟨⟨rfl,rfl,rfl,rfl,rfl,rfl⟩,F5.aK,nk h',rfl⟩
/-! ### to all others -/
def ni (me:Int) (i:Nat):List Int:=((List.range i).map (fun (j:Nat)=>(j:Int))).filter fun j=>j != me
theorem sJ (me:Int) (i:Nat):ni me (i + 1)=ni me i ++ if (i:Int)=me then [] else [(i:Int)]:=by
 unfold ni
 rw [List.range_succ,List.map_append,List.filter_append]
 congr 1
 by_cases h:(i:Int)=me <;> simp [h]
theorem ru (me:Int) (i:Nat):(ni me i).length<=i:=by
 unfold ni
 exact Nat.le_trans (List.length_filter_le _ _) (by simp)
theorem rW {k:KP Slc} (R:aB O h L r) (hn:r.next.length=r.n.toNat) (H:∀ s h',aJ O h' s (r.others r.due)->Ext h.size h h'->(∀ g,s.blk=some g->h.size<=g)->k s h'):bN (some ⟨L.b,0,none⟩) (some ⟨L.b,0,none⟩) k h:=by
 have wf:=R.wf
 have nb:=wf.n
 unfold bN
 refine ⟨_,rfl,_,R.c 1,?_⟩
 unfold iT
 refine ⟨fun q h'=>0<=q.2/\q.2<=r.n/\aJ O h' q.1 ((ni r.me q.2.toNat).map fun i=>(i,r.due i))/\Ext h.size h h'/\(∀ g,q.1.blk=some g->h.size<=g),fun q _=>(r.n - q.2).toNat,⟨Int.le_refl _,by omega,aJ.nil _ _,Ext.refl _ _,fun g hg=>by simp [Slc.blk] at hg⟩,?_⟩
 rintro out i h1 ⟨i0,i1,M,X,ob⟩
 dsimp only at i0 i1 M ob
 have R1:=R.ext X
 have z1:=X.size
 unfold iF
 have nx:∀ {s:Slc} {h2:Heap},i < r.n->aJ O h2 s ((ni r.me (i.toNat + 1)).map fun i=>(i,r.due i))->Ext h.size h h2->(∀ g,s.blk=some g->h.size<=g)->bC (some ⟨L.b,0,none⟩) (some ⟨L.b,0,none⟩) r.n i s k (fun q h'=>(0<=q.2/\q.2<=r.n/\aJ O h' q.1 ((ni r.me q.2.toNat).map fun i=>(i,r.due i))/\Ext h.size h h'/\(∀ g,q.1.blk=some g->h.size<=g))/\(r.n - q.2).toNat < (r.n - i).toNat) h2:=fun {s h2} hi M2 X2 ob2=>by
  unfold bC
  rw [ay (by omega) (by omega)]
  exact ⟨⟨by dsimp only; omega,by dsimp only; omega,by dsimp only; rw [show (i + 1).toNat=i.toNat + 1 from by omega]; exact M2,X2,ob2⟩,by dsimp only; omega⟩
 by_cases hi:i < r.n
 ·rw [if_pos (by simpa using hi)]
  refine ⟨_,rfl,_,R1.c0,?_⟩
  have es:=sJ r.me i.toNat
  rw [Int.toNat_of_nonneg i0] at es
  by_cases hm:i=r.me
  ·rw [if_neg (by simpa using hm)]
   rw [if_pos hm,List.append_nil] at es
   exact nx hi (by rw [es]; exact M) X ob
  ·rw [if_pos (by simpa using hm)]
   rw [if_neg hm] at es
   refine CE R1 i0 (by omega) fun v h2 D X2=>?_
   have z2:=X2.size
   refine ⟨_,_,rfl,rfl,?_⟩
   have X3:=Ext.push h2 (.cells (aF.cs ⟨i,v⟩).toArray 45) (Nat.le_refl _)
   have K3:=Blk.push h2 (aF.cs ⟨i,v⟩) 45
   have D3:yl O (h2.push (.cells (aF.cs ⟨i,v⟩).toArray 45)) v (r.due i):=fun S hS=>by
    refine (D (fun g=>S g/\g < h2.size) fun g hg=>(hS g hg.1).imp id fun ⟨cs,E,K,hE⟩=>⟨cs,E,K.old (X3.block g hg.2).symm,hE⟩).step (.bi X3) fun g hg=>?_
    by_cases hz:g < h2.size
    ·exact .inl ⟨hg,hz⟩
    ·exact .inr (by omega)
   have M3:=(M.ext X2).ext X3
   have R3:=(R1.ext X2).ext X3
   generalize h2.push (.cells (aF.cs ⟨i,v⟩).toArray 45)=h3 at *
   have z3:=X3.size
   refine ww M3 D3 R3.ob (by rw [List.length_map]; have:=ru r.me i.toNat; omega) fun s h4 M4 S4 f4=>nx hi ?_ (X.trans ((X2.mono z1).trans ((X3.mono (by omega)).trans (S4.ext (fun g hg=>ob g hg) (by omega))))) fun g hg=>(f4 g hg).elim (ob g) fun h=>by omega
   rw [es,List.map_append]; exact M4
 ·rw [if_neg (by simpa using hi)]
  have:i.toNat=r.n.toNat:=by omega
  rw [this] at M
  exact H out h1 M X ob
theorem Fb {c0 c1 c2:Nat} {node ix tm:Int} {E0:Nat} {k:KP ah} (R:aB O h L r) (K0:Blk h c0 [.pointer (some ⟨L.b,0,none⟩)] E0) (K1:Blk h c1 [.int .u64 ix] 22) (K2:Blk h c2 [.int .u64 tm] 22)
  (H:∀ v h',yl O h' v ⟨1,r.term,ix,tm,0,false,[],[]⟩->Ext h.size h h'->k v h'):jK node ⟨c0,0,none⟩ ⟨c1,0,none⟩ ⟨c2,0,none⟩ k h:=by
 unfold jK
 refine ⟨_,_,rfl,rfl,?_⟩
 have X:=Ext.push h (.cells (ah.cs ⟨0,0,0,0,0,false,⟨none,0,0⟩,⟨none,0,0⟩⟩).toArray 26) (Nat.le_refl _)
 have P0:=Blk.push h (ah.cs ⟨0,0,0,0,0,false,⟨none,0,0⟩,⟨none,0,0⟩⟩) 26
 have R2:=R.ext X
 have k0:=K0.ext X K0.lt
 have k1:=K1.ext X K1.lt
 have k2:=K2.ext X K2.lt
 generalize h.push (.cells (ah.cs ⟨0,0,0,0,0,false,⟨none,0,0⟩,⟨none,0,0⟩⟩).toArray 26)=h2 at *
 refine ⟨_,by rw [k0.cell]; rfl,_,rfl,_,R2.c 2,_,by rw [k1.cell]; rfl,_,by rw [k2.cell]; rfl,_,bZ.dL P0 (by show 8<=8; omega),rfl,?_⟩
 have P6:=P0.jN (vs:=ah.cs ⟨1,r.term,ix,tm,0,false,⟨none,0,0⟩,⟨none,0,0⟩⟩) rfl
 have X6:Ext h.size h2 (aO h2 ⟨h.size,0,none⟩ 0 (ah.cs ⟨1,r.term,ix,tm,0,false,⟨none,0,0⟩,⟨none,0,0⟩⟩)):=Ext.sets _ _ _ (Nat.le_refl _)
 exact ⟨_,aD.dL P6,H _ _ (Dj ⟨rfl,rfl,rfl,rfl,rfl,rfl⟩ rfl rfl rfl rfl) (X.trans X6)⟩
theorem vX {c0 c1 c2:Nat} {ix tm:Int} {E0:Nat} {k:KP Slc} (R:aB O h L r) (K0:Blk h c0 [.pointer (some ⟨L.b,0,none⟩)] E0) (K1:Blk h c1 [.int .u64 ix] 22) (K2:Blk h c2 [.int .u64 tm] 22)
  (H:∀ s h',aJ O h' s (r.others fun _=>⟨1,r.term,ix,tm,0,false,[],[]⟩)->Ext h.size h h'->(∀ g,s.blk=some g->h.size<=g)->k s h'):bF (some ⟨L.b,0,none⟩) ⟨c0,0,none⟩ ⟨c1,0,none⟩ ⟨c2,0,none⟩ k h:=by
 have wf:=R.wf
 have nb:=wf.n
 obtain ⟨m,em⟩:∃ m:Msg,m=⟨1,r.term,ix,tm,0,false,[],[]⟩:=⟨_,rfl⟩
 unfold bF
 refine ⟨_,rfl,_,R.c 1,?_⟩
 unfold fC
 refine ⟨fun q h'=>0<=q.2/\q.2<=r.n/\aJ O h' q.1 ((ni r.me q.2.toNat).map fun i=>(i,m))/\Ext h.size h h'/\(∀ g,q.1.blk=some g->h.size<=g),fun q _=>(r.n - q.2).toNat,⟨Int.le_refl _,by omega,aJ.nil _ _,Ext.refl _ _,fun g hg=>by simp [Slc.blk] at hg⟩,?_⟩
 rintro out i h1 ⟨i0,i1,M,X,ob⟩
 dsimp only at i0 i1 M ob
 have R1:=R.ext X
 have z1:=X.size
 unfold eQ
 have nx:∀ {s:Slc} {h2:Heap},i < r.n->aJ O h2 s ((ni r.me (i.toNat + 1)).map fun i=>(i,m))->Ext h.size h h2->(∀ g,s.blk=some g->h.size<=g)->aT (some ⟨L.b,0,none⟩) ⟨c0,0,none⟩ ⟨c1,0,none⟩ ⟨c2,0,none⟩ r.n i s k (fun q h'=>(0<=q.2/\q.2<=r.n/\aJ O h' q.1 ((ni r.me q.2.toNat).map fun i=>(i,m))/\Ext h.size h h'/\(∀ g,q.1.blk=some g->h.size<=g))/\(r.n - q.2).toNat < (r.n - i).toNat) h2:=fun {s h2} hi M2 X2 ob2=>by
  unfold aT
  rw [ay (by omega) (by omega)]
  exact ⟨⟨by dsimp only; omega,by dsimp only; omega,by dsimp only; rw [show (i + 1).toNat=i.toNat + 1 from by omega]; exact M2,X2,ob2⟩,by dsimp only; omega⟩
 by_cases hi:i < r.n
 ·rw [if_pos (by simpa using hi)]
  refine ⟨_,rfl,_,R1.c0,?_⟩
  have es:=sJ r.me i.toNat
  rw [Int.toNat_of_nonneg i0] at es
  by_cases hm:i=r.me
  ·rw [if_neg (by simpa using hm)]
   rw [if_pos hm,List.append_nil] at es
   exact nx hi (by rw [es]; exact M) X ob
  ·rw [if_pos (by simpa using hm)]
   rw [if_neg hm] at es
   refine Fb R1 (K0.ext X K0.lt) (K1.ext X K1.lt) (K2.ext X K2.lt) fun v h2 D X2=>?_
   rw [← em] at D
   have z2:=X2.size
   refine ⟨_,_,rfl,rfl,?_⟩
   have X3:=Ext.push h2 (.cells (aF.cs ⟨i,v⟩).toArray 45) (Nat.le_refl _)
   have D3:yl O (h2.push (.cells (aF.cs ⟨i,v⟩).toArray 45)) v m:=fun S hS=>by
    refine (D (fun g=>S g/\g < h2.size) fun g hg=>(hS g hg.1).imp id fun ⟨cs,E,K,hE⟩=>⟨cs,E,K.old (X3.block g hg.2).symm,hE⟩).step (.bi X3) fun g hg=>?_
    by_cases hz:g < h2.size
    ·exact .inl ⟨hg,hz⟩
    ·exact .inr (by omega)
   have M3:=(M.ext X2).ext X3
   have R3:=(R1.ext X2).ext X3
   generalize h2.push (.cells (aF.cs ⟨i,v⟩).toArray 45)=h3 at *
   have z3:=X3.size
   refine ww M3 D3 R3.ob (by rw [List.length_map]; have:=ru r.me i.toNat; omega) fun s h4 M4 S4 f4=>nx hi ?_ (X.trans ((X2.mono z1).trans ((X3.mono (by omega)).trans (S4.ext (fun g hg=>ob g hg) (by omega))))) fun g hg=>(f4 g hg).elim (ob g) fun h=>by omega
   rw [es,List.map_append]; exact M4
 ·rw [if_neg (by simpa using hi)]
  have:i.toNat=r.n.toNat:=by omega
  rw [this,em] at M
  exact H out h1 M X ob
end
end Go.Q.Yi
end

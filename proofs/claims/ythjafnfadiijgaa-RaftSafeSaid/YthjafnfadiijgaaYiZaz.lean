/- A part of the proof of statements of this seat: lemmas, no statement of their own. -/
import Derived.Test.YthjafnfadiijgaaYiZay
import Derived.Test.YthjafnfadiijgaaYiZav
import Derived.Test.YthjafnfadiijgaaYiZao
set_option linter.unusedVariables false
set_option linter.unusedSimpArgs false
set_option maxRecDepth 100000
section
/- What a member has stored is what it has. -/
namespace Go.Q.Rf
structure SS where
 term:Int
 bR:Int
 log:Lg
 aQ:List Int
def ofR (r:RS):SS:=⟨r.term,r.bR,r.log,r.aQ⟩
/-- something more is stored; none: it doesn't fit -/
def nC (s:SS) (k:qj):Option SS :=
 if k.kind=1 then some { s with term:=k.term,bR:=k.bR }
 else if k.kind=2 then (if (s.log.append k.index k.term k.aK).2.2=0 then some { s with log:=(s.log.append k.index k.term k.aK).1 } else none)
 else if k.kind=3 then some { s with log:=if s.log.mat k.index k.term then (s.log.cut k.index).1 else ⟨k.index,k.term,[]⟩,aQ:=k.aQ }
 else none
def kf:SS->List qj->Option SS
 | s,[]=>some s
 | s,k :: l=>match nC s k with | some s'=>kf s' l | none=>none
theorem Fj (s:SS) (l:List qj) (k:qj):kf s (l ++ [k])=match kf s l with | some s'=>nC s' k | none=>none:=by
 induction l generalizing s with
 | nil=>show (match nC s k with | some s'=>kf s' [] | none=>none)=nC s k; cases nC s k <;> rfl
 | cons a l ih =>
  show (match nC s a with | some s'=>kf s' (l ++ [k]) | none=>none)=match (match nC s a with | some s'=>kf s' l | none=>none) with | some s'=>nC s' k | none=>none
  cases nC s a with
  | none=>rfl
  | some s'=>exact ih s'
/-- what is to be kept, kept behind what was stored, is what it has -/
def Sy (s:SS) (r:RS):Prop:=kf s r.keeps=some (ofR r)
section
variable {s:SS} {r:RS} {f:Int} {m:Msg}
theorem Sy.of {r':RS} (h:Sy s r) (e:r'.keeps=r.keeps) (e2:ofR r'=ofR r):Sy s r':=by unfold Sy at *; rw [e,e2]; exact h
theorem Sy.one {r':RS} {k:qj} (h:Sy s r) (e:r'.keeps=r.keeps ++ [k]) (e2:nC (ofR r) k=some (ofR r')):Sy s r':=by unfold Sy at *; rw [e,Fj,h]; exact e2
theorem Sy.fI {r':RS} (h:Sy s r) (e:r'.keeps=r.keeps) (el:r'.log=r.log) (es:r'.aQ=r.aQ):Sy s r'.fI:=by
 refine h.one (k:=⟨1,r'.term,r'.bR,0,[],[]⟩) (by unfold RS.fI; dsimp only; rw [e]) ?_
 unfold nC ofR
 rw [if_pos rfl]
 show some (SS.mk r'.term r'.bR r.log r.aQ)=some (SS.mk r'.term r'.bR r'.log r'.aQ)
 rw [el,es]
theorem Sy.aR (h:Sy s r) (t:Int):Sy s (r.aR t):=by
 unfold RS.aR
 split
 ·exact h.fI rfl rfl rfl
 ·exact h
theorem Sy.follow (h:Sy s r) (t l:Int):Sy s (r.follow t l):=(h.aR t).of rfl rfl
theorem Sy.settle (h:Sy s r):Sy s r.settle:=by unfold RS.settle; split <;> exact h.of rfl rfl
theorem Sy.put (h:Sy s r) (cmd:List Int):Sy s (r.put cmd).1:=by
 unfold RS.put
 split
 ·exact h
 ·rename_i c
  have c':=Decidable.not_not.1 c
  refine Sy.settle (h.one (k:=⟨2,r.log.lastT,0,r.log.last,[(r.term,cmd)],[]⟩) rfl ?_)
  unfold nC ofR
  rw [if_neg (by show ¬ (2:Int)=1; decide),if_pos rfl]
  dsimp only
  rw [if_pos c']
theorem Sy.win (h:Sy s r):Sy s r.win.1:=by
 unfold RS.win
 split
 ·exact h
 ·exact Sy.put (h.of (r':=r.lead) rfl rfl) []
theorem Sy.asks (h:Sy s r):Sy s r.asks:=(Sy.fI (r':={ r with term:=W (r.term + 1),role:=1,leader:=-1,ticks:=0,bR:=r.me + 1 }) h rfl rfl rfl).of rfl rfl
theorem Sy.iA (h:Sy s r):Sy s r.iA.1:=by
 unfold RS.iA
 split
 ·exact h
 ·exact h.asks.win
theorem Sy.tick (h:Sy s r):Sy s r.tick.1:=by
 unfold RS.tick
 split
 ·exact h.of rfl rfl
 ·split
  ·exact Sy.iA (h.of rfl rfl)
  ·exact h.of rfl rfl
theorem Sy.nE (h:Sy s r):Sy s (r.nE f m).1:=by
 unfold RS.nE
 split
 ·dsimp only
  split
  ·exact (Sy.fI (r':={ r with bR:=f + 1 }) h rfl rfl rfl).of rfl rfl
  ·exact h.of rfl rfl
 ·exact h
theorem Sy.counted (h:Sy s r):Sy s (r.counted f m):=by
 unfold RS.counted
 split
 ·exact h.of rfl rfl
 ·exact h
theorem Sy.lu (h:Sy s r):Sy s (r.lu f m):=(h.follow m.term f).of rfl rfl
theorem Sy.base (h:Sy s r) (x t:Int) (sn:List Int):Sy s (r.base x t sn):=by
 refine h.one (k:=⟨3,t,0,x,[],sn⟩) rfl ?_
 unfold nC ofR RS.base
 rw [if_neg (by show ¬ (3:Int)=1; decide),if_neg (by show ¬ (3:Int)=2; decide),if_pos rfl]
theorem Sy.oC (h:Sy s r):Sy s (r.oC m):=by
 unfold RS.oC
 split
 ·exact (h.base m.index m.logTerm m.aQ).of rfl rfl
 ·exact h
theorem Sy.back (h:Sy s r):Sy s (r.back f m):=h.of rfl rfl
theorem Sy.nZ (h:Sy s r):Sy s (r.nZ f m):=Sy.settle (h.of rfl rfl)
theorem Sy.appended (h:Sy s r):Sy s (r.appended f m).1:=by
 unfold RS.appended
 split
 ·exact h
 ·split
  ·exact h.back
  ·split
   ·exact h
   ·split
    ·exact h.nZ
    ·exact h.nZ
theorem Sy.iC (h:Sy s r) (cmd:List Int):Sy s (r.iC cmd).1:=by
 unfold RS.iC
 split
 ·exact h
 ·exact h.put cmd
theorem Sy.nG (h:Sy s r) (x:Int) (sn:List Int):Sy s (r.nG x sn).1:=by
 unfold RS.nG
 split
 ·exact h
 ·split
  ·exact h
  ·exact h.base x _ sn
/-! ### entries that the log hasn't -/
theorem xQ {l:Lg} {p t:Int}:l.mat p t=true ↔ l.aH p=(t,0):=by
 unfold Lg.mat
 rw [Prod.ext_iff]
 simp [and_comm]
theorem DL {l:Lg} {p t:Int} (h:l.mat p t=true) (hp:l.ix < p):(p - l.ix - 1).toNat < l.es.length/\(l.es.getD (p - l.ix - 1).toNat (0,[])).1=t:=by
 rw [xQ] at h
 unfold Lg.aH at h
 rw [if_neg (by omega)] at h
 split at h
 ·cases h
 ·rename_i q
  unfold Lg.last at q
  rw [if_neg (by omega)] at h
  exact ⟨by omega,by have:=congrArg Prod.fst h; exact this⟩
variable {l:Lg} {p t:Int} {more:List Ent}
/-- is the entry i there, or below the base? -/
def skp (l:Lg) (p:Int) (i:Nat) (x:Ent):Prop:=W (p + i + 1)<=l.ix∨l.mat (W (p + i + 1)) x.1=true
theorem uo {n:Nat} (h:∀ j x,j < n->more[j]? = some x->skp l p j x):∀ i,i<=n->Lg.fF l.ix p l.es more i=l.es
 | 0,_=>rfl
 | i + 1,hi=>by
  show (match more[i]? with | some x=>Lg.dR l.ix p (Lg.fF l.ix p l.es more i) i x | none=>Lg.fF l.ix p l.es more i)=_
  rw [uo h i (by omega)]
  cases hx:more[i]? with
  | none=>rfl
  | some x =>
   dsimp only
   unfold Lg.dR
   by_cases c:W (p + i + 1)<=l.ix
   ·rw [if_pos c]
   ·rw [if_neg c]
    rcases h i x (by omega) hx with q | q
    ·exact absurd q c
    ·have:=DL q (by omega)
     rw [if_pos this.1,if_pos this.2]
theorem w9 {i:Nat} (p0:0<=p) (bd:p + more.length<=100000000) (il:i<=more.length) (h:Lg.fF l.ix p l.es more i=l.es):∀ j,i + j<=more.length->Lg.fF l.ix (p + i) l.es (more.drop i) j=Lg.fF l.ix p l.es more (i + j)
 | 0,_=>h.symm
 | j + 1,hj=>by
  show (match (more.drop i)[j]? with | some x=>Lg.dR l.ix (p + i) (Lg.fF l.ix (p + i) l.es (more.drop i) j) j x | none=>Lg.fF l.ix (p + i) l.es (more.drop i) j)=(match more[i + j]? with | some x=>Lg.dR l.ix p (Lg.fF l.ix p l.es more (i + j)) (i + j) x | none=>Lg.fF l.ix p l.es more (i + j))
  rw [List.getElem?_drop,w9 p0 bd il h j (by omega)]
  cases more[i + j]? with
  | none=>rfl
  | some x =>
   dsimp only
   unfold Lg.dR
   rw [show p + (i:Int) + (j:Int) + 1=p + ((i + j:Nat):Int) + 1 from by omega]
theorem tH (r:RS) (m:Msg) (p0:0<=m.index):∀ (xs:List Ent) (i:Nat),m.aK.drop i=xs->(∀ j x,j < i->m.aK[j]? = some x->skp r.log m.index j x) ->
  (r.lL m i xs=RS.Ad/\∀ j x,m.aK[j]? = some x->skp r.log m.index j x)∨∃ i0 x,m.aK[i0]? = some x/\¬ skp r.log m.index i0 x/\(∀ j x,j < i0->m.aK[j]? = some x->skp r.log m.index j x) /\
   r.lL m i xs=⟨2,(if i0 > 0/\W (W (m.index + i0 + 1) - 1) > r.log.ix then (m.aK.getD (i0 - 1) (0,[])).1 else (r.log.aH (W (W (m.index + i0 + 1) - 1))).1),0,W (W (m.index + i0 + 1) - 1),m.aK.drop i0,[]⟩
 | [],i,hd,hs=>by
  left
  refine ⟨rfl,fun j x hx=>hs j x ?_ hx⟩
  have:=List.drop_eq_nil_iff.1 hd
  have:=(List.getElem?_eq_some_iff.1 hx).1
  omega
 | x :: xs,i,hd,hs=>by
  have hx:m.aK[i]? = some x:=by
   have:=congrArg (fun l=>l[0]?) hd
   simpa using this
  unfold RS.lL
  by_cases c:W (m.index + i + 1)<=r.log.ix∨r.log.mat (W (m.index + i + 1)) x.1=true
  ·rw [if_pos c]
   refine tH r m p0 xs (i + 1) ?_ fun j y hj hy=>?_
   ·rw [← List.drop_drop,hd]; rfl
   ·by_cases e:j=i
    ·subst e; rw [hx] at hy; cases hy; exact c
    ·exact hs j y (by omega) hy
  ·rw [if_neg c]
   exact .inr ⟨i,x,hx,c,hs,by rw [hd]⟩
theorem Sy.wh (h:Sy s r) (p0:0<=m.index) (bd:m.index + m.aK.length<=100000000) (lx:0<=r.log.ix) (ok:(r.log.append m.index m.logTerm m.aK).2.2=0):Sy s (r.wh m):=by
 have ok':=ok
 unfold Lg.append at ok
 by_cases c1:m.index>=r.log.ix/\r.log.mat m.index m.logTerm=false
 ·rw [if_pos c1] at ok; simp at ok
 rw [if_neg c1] at ok
 by_cases c2:(Lg.fF r.log.ix m.index r.log.es m.aK m.aK.length).length > 64
 ·rw [if_pos c2] at ok; simp at ok
 have ev:(r.log.append m.index m.logTerm m.aK).1 = { r.log with es:=Lg.fF r.log.ix m.index r.log.es m.aK m.aK.length }:=by
  unfold Lg.append; rw [if_neg c1,if_neg c2]
 unfold RS.wh
 rw [ev]
 rcases tH r m p0 m.aK 0 (by simp) (fun j x hj _=>absurd hj (Nat.not_lt_zero _)) with ⟨e,sk⟩ | ⟨i0,x,hx,nsk,sk,e⟩
 ·have ef:r.fresh m=RS.Ad:=e
  rw [ef,uo (fun j x _ hx=>sk j x hx) m.aK.length (Nat.le_refl _)]
  exact h.of rfl rfl
 ·have il:=(List.getElem?_eq_some_iff.1 hx).1
  have w1:W (m.index + i0 + 1)=m.index + i0 + 1:=wo (by omega) (by omega)
  have w2:W (m.index + i0 + 1 - 1)=m.index + i0:=by rw [wo (by omega) (by omega)]; omega
  unfold skp at nsk
  rw [w1] at e nsk
  rw [w2] at e
  have ef:r.fresh m=⟨2,(if i0 > 0/\m.index + i0 > r.log.ix then (m.aK.getD (i0 - 1) (0,[])).1 else (r.log.aH (m.index + i0)).1),0,m.index + i0,m.aK.drop i0,[]⟩:=e
  rw [ef]
  rw [if_pos (by show 0 < (m.aK.drop i0).length; rw [List.length_drop]; omega)]
  refine h.one rfl ?_
  unfold nC ofR
  rw [if_neg (by show ¬ (2:Int)=1; decide),if_pos (by rfl)]
  dsimp only
  have as':=uo (l:=r.log) (p:=m.index) sk i0 (Nat.le_refl _)
  have eq:=w9 (l:=r.log) p0 bd (by omega) as' (m.aK.drop i0).length (by rw [List.length_drop]; omega)
  rw [show i0 + (m.aK.drop i0).length=m.aK.length from by rw [List.length_drop]; omega] at eq
  -- the term that it stands behind
  have mt:m.index + i0>=r.log.ix->r.log.mat (m.index + i0) (if i0 > 0/\m.index + i0 > r.log.ix then (m.aK.getD (i0 - 1) (0,[])).1 else (r.log.aH (m.index + i0)).1)=true:=fun ge=>by
   by_cases z:i0 > 0/\m.index + i0 > r.log.ix
   ·rw [if_pos z]
    obtain ⟨y,hy⟩:∃ y,m.aK[i0 - 1]? = some y:=⟨_,List.getElem?_eq_getElem (by omega)⟩
    rw [List.getD_eq_getElem?_getD,hy]
    have:=sk (i0 - 1) y (by omega) hy
    unfold skp at this
    rw [show m.index + ((i0 - 1:Nat):Int) + 1=m.index + i0 from by omega,wo (by omega) (by omega)] at this
    exact this.elim (fun q=>by omega) id
   ·rw [if_neg z]
    have err:(r.log.aH (m.index + i0)).2=0:=by
     by_cases y:i0=0
     ·subst y
      have:r.log.mat m.index m.logTerm=true:=by
       cases hh:r.log.mat m.index m.logTerm with
       | true=>rfl
       | false=>exact absurd ⟨by omega,hh⟩ c1
      rw [xQ] at this
      rw [show m.index + ((0:Nat):Int)=m.index from by omega,this]
     ·have:m.index + i0=r.log.ix:=by omega
      rw [this]
      unfold Lg.aH Lg.last
      rw [if_neg (by omega),if_neg (by omega),if_pos rfl]
    rw [xQ,← err]
  obtain ⟨T,eT⟩:∃ T,T=(if i0 > 0/\m.index + i0 > r.log.ix then (m.aK.getD (i0 - 1) (0,[])).1 else (r.log.aH (m.index + i0)).1):=⟨_,rfl⟩
  rw [← eT] at mt ⊢
  have c3:¬ (m.index + (i0:Int)>=r.log.ix/\r.log.mat (m.index + i0) T=false):=fun z=>by rw [mt z.1] at z; exact Bool.noConfusion z.2
  unfold Lg.append
  rw [if_neg c3,eq,if_neg c2]
  rfl
theorem Sy.appends (h:Sy s r) (p0:0<=m.index) (bd:m.index + m.aK.length<=100000000) (lx:0<=r.log.ix):Sy s (r.appends f m).1:=by
 unfold RS.appends RS.ou
 have h1:Sy s (r.lu f m):=h.lu
 have hl:(r.lu f m).log=r.log:=by
  show (r.aR m.term).log=r.log
  unfold RS.aR; split <;> rfl
 split
 ·exact h1
 ·rename_i c
  exact h1.wh p0 bd (by rw [hl]; exact lx) (Decidable.not_not.1 c)
theorem Sy.take2 (h:Sy s r) (k3:m.kind=3->0<=m.index/\m.index + m.aK.length<=100000000) (lx:0<=r.log.ix):Sy s (r.take2 f m).1:=by
 unfold RS.take2
 split
 ·exact h.nE
 ·split
  ·exact h.counted.win
  ·split
   ·rename_i c; exact h.appends (k3 c).1 (k3 c).2 lx
   ·split
    ·exact h.appended
    ·exact h.lu.oC
theorem Sy.take (h:Sy s r) (k3:m.kind=3->0<=m.index/\m.index + m.aK.length<=100000000) (lx:0<=r.log.ix):Sy s (r.take f m).1:=by
 unfold RS.take
 split
 ·exact h
 ·split
  ·exact h
  ·split
   ·refine (h.follow m.term (-1)).take2 k3 ?_
    show 0<=(r.aR m.term).log.ix
    unfold RS.aR; split <;> exact lx
   ·exact h.take2 k3 lx
end
end Go.Q.Rf
end
section
/- What is stored, in memory. -/
namespace Go.Q.Yi
open Rf
/-- a stored log: the block is b; its entries are never written again -/
structure oh (O:bz) (h:Heap) (b:Nat) (s:Slc) (l:Lg):Prop where
 k:Blk h b (aG.cs ⟨l.ix,l.tm,s⟩) 75
 e:∃ vs,s.len=vs.length/\s.len<=s.cap/\Imm O h fun h=>SlcAt h s (ecs vs)/\Each h vs l.es
 x0:0<=l.ix/\l.ix<=1000000000
 sz:l.es.length<=1000
 ob:O b
theorem Bz {h h':Heap} {a:Addr} (e:h'[a.block]? = h[a.block]?):af h' a=af h a:=by unfold af; rw [e]
/-- entries that stay whatever is done to O lie in a row that is none of O's -/
theorem CU {O:bz} {h:Heap} {s:Slc} {es:List Ent} (I:Imm O h fun h=>cZ h s es):∃ vs,s.len=vs.length/\s.len<=s.cap/\Imm O h fun h=>SlcAt h s (ecs vs)/\Each h vs es:=by
 obtain ⟨l,c,vs,A,E⟩:=I.now
 refine ⟨vs,by rw [l,E.1],c,fun h' p=>?_⟩
 by_cases he:es=[]
 ·subst he
  have:vs=[]:=List.eq_nil_of_length_eq_zero (by rw [E.1]; rfl)
  subst this
  exact ⟨⟨fun _=>rfl,fun a ha j v hj=>by simp [ecs] at hj⟩,Each.nil _⟩
 obtain ⟨e0,he0⟩:∃ e,es[0]? = some e:=⟨_,List.getElem?_eq_getElem (List.length_pos_iff.2 he)⟩
 obtain ⟨a,_,ha,_,_⟩:=I.now.get he0
 have nO:¬ O a.block:=fun hO=>by
  have S:Stp O h (h.setIfInBounds a.block (.cells #[] 0 (0,0))):=⟨by simp,fun g hg hn=>by
   rw [Array.getElem?_setIfInBounds_ne (fun e=>hn (by rw [← e]; exact hO))]⟩
  obtain ⟨a',v',ha',C,_⟩:=(I _ S).get he0
  rw [ha] at ha'; cases ha'
  have:=C 0 (.int .u64 v'.bP) rfl
  unfold af at this
  rw [show ((a.add (0 * 2)).add 0).block=a.block from by simp] at this
  by_cases hb:a.block < h.size
  ·rw [Array.getElem?_setIfInBounds_self_of_lt hb] at this
   dsimp only at this
   split at this
   ·cases this
   ·simp at this
  ·rw [Array.getElem?_eq_none (by simp; omega)] at this
   cases this
 have ab:a.block < h.size:=by
  obtain ⟨v,hv⟩:∃ v,vs[0]? = some v:=⟨_,List.getElem?_eq_getElem (by rw [E.1]; exact List.length_pos_iff.2 he)⟩
  have:=A.2 a ha 0 (.int .u64 v.bP) (by rw [ecs,show (0:Nat)=0 * 2 + 0 from rfl,xq vs 0 0 (by omega),hv]; rfl)
  unfold af at this
  rw [show (a.add 0).block=a.block from by simp] at this
  rcases Nat.lt_or_ge a.block h.size with hb | hb
  ·exact hb
  ·rw [Array.getElem?_eq_none hb] at this; cases this
 have old:=p.block _ ab nO
 have A':SlcAt h' s (ecs vs):=⟨A.1,fun b hb j v hj=>by
  rw [ha] at hb; cases hb
  have q:af h' (a.add j)=af h (a.add j):=Bz (by rw [add_block]; exact old)
  exact q.trans (A.2 a ha j v hj)⟩
 refine ⟨A',E.1,fun i v e hv he=>?_⟩
 obtain ⟨a',v',ha',C,D⟩:=(I h' p).get he
 rw [ha] at ha'; cases ha'
 have hA:=A'.2 a ha
 have c0:=hA (i * 2) (.int .u64 v.bP) (by rw [show i * 2=i * 2 + 0 from rfl,xq vs i 0 (by omega),hv]; rfl)
 have c1:=hA (i * 2 + 1) (Slc.v v.lS) (by rw [xq vs i 1 (by omega),hv]; rfl)
 have d0:=C 0 (.int .u64 v'.bP) rfl
 have d1:=C 1 (Slc.v v'.lS) rfl
 rw [dI] at d0 d1
 rw [Nat.add_zero,c0] at d0
 rw [c1] at d1
 have e1:v'.bP=v.bP:=by have:=Option.some.inj d0; injection this with _ q; exact q.symm
 have e2:v'.lS=v.lS:=by
  have:=Option.some.inj d1
  unfold Slc.v at this
  injection this with q1 q2 q3
  cases hv1:v.lS; cases hv2:v'.lS
  rw [hv1,hv2] at q1 q2 q3
  simp only at q1 q2 q3
  subst q1; subst q2; subst q3; rfl
 exact ⟨by rw [← e1]; exact D.t,by rw [← e2]; exact D.c,by rw [← e2]; exact D.l⟩
section
variable {O O' S:bz} {h h':Heap} {b:Nat} {s:Slc} {l:Lg} {p t:Int}
theorem oh.aK (L:oh O h b s l):Imm O h fun h=>cZ h s l.es:=by
 obtain ⟨vs,l1,l2,I⟩:=L.e
 exact I.imp fun h' ⟨a,c⟩=>⟨by rw [l1]; exact c.1,l2,vs,a,c⟩
theorem oh.len (L:oh O h b s l):s.len=l.es.length:=L.aK.now.l
theorem oh.move (L:oh O h b s l) (p:Stp S h h') (hS:∀ g,S g->O g∨h.size<=g) (hb:¬ S b) (hO:∀ g,O' g->O g∨h.size<=g) (hw:O' b):oh O' h' b s l:=by
 obtain ⟨vs,l1,l2,I⟩:=L.e
 exact ⟨p.blk L.k hb,⟨vs,l1,l2,I.step (p.mono hS) hO⟩,L.x0,L.sz,hw⟩
theorem oh.ext (L:oh O h b s l) (X:Ext h.size h h'):oh O h' b s l:=L.move (S:=fun _=>False) (.bi X) (fun _ h=>h.elim) (fun h=>h) (fun _ h=>.inl h) L.ob
theorem oh.c0 (L:oh O h b s l):af h ⟨b,0,none⟩=some (.int .u64 l.ix):=by rw [L.k.cell]; rfl
theorem oh.c1 (L:oh O h b s l):af h ((⟨b,0,none⟩:Addr).add 1)=some (.int .u64 l.tm):=by rw [add_mk,L.k.cell]; rfl
theorem oh.c2 (L:oh O h b s l):af h ((⟨b,0,none⟩:Addr).add 2)=some (Slc.v s):=by rw [add_mk,L.k.cell]; rfl
theorem oh.term (L:oh O h b s l) {i:Nat} {e:Ent} (he:l.es[i]? = some e):∃ a,s.a=some a/\af h (a.add (i * 2))=some (.int .u64 e.1):=by
 obtain ⟨a,v,ha,C,E⟩:=L.aK.now.get he
 refine ⟨a,ha,?_⟩
 have:=C 0 (.int .u64 v.bP) rfl
 rwa [dI,Nat.add_zero,E.t] at this
theorem yt {k:KP (Int × Int)} (L:oh O h b s l) (H:k (l.last,l.lastT) h):lD (some ⟨b,0,none⟩) k h:=by
 have hl:=L.len
 have x0:=L.x0; have sz:=L.sz
 unfold lD
 refine ⟨_,rfl,s,L.c2,?_⟩
 rw [hl]
 by_cases hz:l.es.length=0
 ·rw [if_pos (by simpa using hz)]
  refine ⟨_,L.c0,_,L.c1,?_⟩
  have e0:l.es=[]:=List.eq_nil_of_length_eq_zero hz
  have:l.last=l.ix/\l.lastT=l.tm:=by unfold Lg.last Lg.lastT; rw [e0]; simp
  rw [this.1,this.2] at H; exact H
 ·rw [if_neg (by simp; exact fun e=>hz (by rw [e]; rfl))]
  obtain ⟨e,he⟩:∃ e,l.es[l.es.length - 1]? = some e:=⟨_,List.getElem?_eq_getElem (by omega)⟩
  obtain ⟨a,ha,hc⟩:=L.term he
  refine ⟨_,L.c0,s,L.c2,s,L.c2,s,L.c2,?_⟩
  rw [hl,ay (by omega) (by omega),show ((l.es.length:Int) - 1).toNat=l.es.length - 1 from by omega,aL (x:=(l.es.length:Int)) (by omega) (by omega)]
  refine ⟨a,ha,by omega,by omega,_,hc,?_⟩
  rw [aL (by omega) (by omega)]
  have:l.last=l.ix + l.es.length/\l.lastT=e.1:=⟨rfl,by unfold Lg.lastT; rw [List.getLast?_eq_getElem?,he]⟩
  rw [this.1,this.2] at H; exact H
theorem vS {k:KP (Int × Int)} (L:oh O h b s l) (H:k (l.aH p) h):iI (some ⟨b,0,none⟩) p k h:=by
 have x0:=L.x0; have sz:=L.sz
 unfold iI
 refine yt L ⟨_,rfl,_,L.c0,?_⟩
 unfold Lg.aH at H
 by_cases h1:p < l.ix
 ·rw [if_pos (by simpa using h1)]; rw [if_pos h1] at H; exact H
 rw [if_neg (by simpa using h1)]; rw [if_neg h1] at H
 by_cases h2:p > l.last
 ·rw [if_pos (by simpa using h2)]; rw [if_pos h2] at H; exact H
 rw [if_neg (by simpa using h2)]; rw [if_neg h2] at H
 refine ⟨_,L.c0,?_⟩
 by_cases h3:p=l.ix
 ·rw [if_pos (by simpa using h3)]; rw [if_pos h3] at H; exact ⟨_,L.c1,H⟩
 rw [if_neg (by simpa using h3)]; rw [if_neg h3] at H
 have hlast:l.last=l.ix + l.es.length:=rfl
 obtain ⟨e,he⟩:∃ e,l.es[(p - l.ix - 1).toNat]? = some e:=⟨_,List.getElem?_eq_getElem (by omega)⟩
 obtain ⟨a,ha,hc⟩:=L.term he
 refine ⟨s,L.c2,_,L.c0,?_⟩
 rw [aL (x:=p - l.ix) (by omega) (by omega),aL (x:=p - l.ix - 1) (by omega) (by omega)]
 refine ⟨a,ha,by omega,by rw [L.len]; omega,_,hc,?_⟩
 rw [List.getD_eq_getElem?_getD,he] at H
 exact H
theorem Am {s:Slc} {vs:List ae} (A:SlcAt h s (ecs vs)) (hl:s.len=vs.length) {lo hi:Nat} (h1:lo<=hi) (h2:hi<=s.len) (h3:s.len<=s.cap):SlcAt h (dC s 2 lo hi s.cap) (ecs ((vs.drop lo).take (hi - lo)))/\(dC s 2 lo hi s.cap).len=((vs.drop lo).take (hi - lo)).length:=by
 refine ⟨⟨fun hn=>?_,fun a ha j v hj=>?_⟩,by simp [dC]; omega⟩
 ·have:s.a=none:=by simp only [dC] at hn; split at hn <;> simpa using hn
  have h0:=A.1 this
  have:=ji vs
  rw [h0] at this
  simp at this
  have:vs=[]:=List.eq_nil_of_length_eq_zero (by omega)
  simp [this]
 ·rw [← sQ,← ve] at hj
  have jl:=(List.getElem?_eq_some_iff.1 hj).1
  rw [List.getElem?_take,if_pos (by simp at jl; omega),List.getElem?_drop] at hj
  have jl2:=(List.getElem?_eq_some_iff.1 hj).1
  rw [ji] at jl2
  cases hs:s.a with
  | none=>simp [dC,hs] at ha
  | some a0 =>
   have hm':¬ s.cap=lo:=fun e=>by omega
   simp [dC,hs,hm'] at ha
   subst ha
   rw [dI]
   exact A.2 a0 hs _ v hj
/-- entries are copied to a new row -/
theorem BC {t:Slc} {vs:List ae} {k:KP Slc} (hl:t.len=vs.length) (hs:SlcAt h t (ecs vs)) (hsz:vs.length<=1000000)
  (H:∀ s' h',Row h.size h' 65 2 s' (ecs vs)->Ext h.size h h'->k s' h'):∃ l,SlcAt (h.push (.cells ([]:List Value).toArray 65)) t l/\App 65 2 32 [.int .u64 0,.slice none 0 0] (h.push (.cells ([]:List Value).toArray 65)) ⟨some ⟨h.size,0,none⟩,0,0⟩ t.len l k:=by
 have hp:∀ o:Obj,Ext h.size h (h.push o):=fun o=>Ext.push h o (Nat.le_refl _)
 refine ⟨ecs vs,hs.ext (hp _),?_⟩
 have R:Row h.size (h.push (.cells ([]:List Value).toArray 65)) 65 2 ⟨some ⟨h.size,0,none⟩,0,0⟩ [] :=
  ⟨by simp,by simp [maxLen],.inr ⟨h.size,[],rfl,Nat.le_refl _,Blk.push _ _ _,Nat.le_refl _,by simp,by simp⟩⟩
 refine App.row R (by simp) rfl (by rw [ji,hl]) (xG vs) (by simp only; omega) (by simp only [maxLen]; omega) fun s' h' R' _ hsz' ho _=>?_
 refine H s' h' (by simpa using R') ⟨by simp at hsz'; omega,fun i hi=>?_⟩
 rw [ho i (by simp; omega) (by simp [Slc.blk]; omega),(hp _).block i hi]
/-- where the loop of SAppend stands -/
structure Eu (O:bz) (h0:Heap) (lix:Int) (p:Int) (es more:List Ent) (q:Slc × Int) (h:Heap):Prop where
 i:0<=q.2/\q.2<=more.length
 x:Ext h0.size h0 h
 r:∃ vs,Row h0.size h 65 2 q.1 (ecs vs)/\Imm (OB O q.1) h fun h=>Each h vs (Lg.fF lix p es more q.2.toNat)
 sz:(Lg.fF lix p es more q.2.toNat).length<=1000 + q.2.toNat
theorem yJ {lix p:Int} {now:List Ent} {i:Nat} {x:Ent}:(Lg.dR lix p now i x).length<=now.length + 1:=by
 unfold Lg.dR
 split
 ·omega
 ·split
  ·split
   ·omega
   ·simp; omega
  ·simp
theorem Dr {t0:Option Addr} {i:Int} {p3 now:Slc} {cur more:List Ent} {vt:List ae} {e:Ent} {h0:Heap} {k:KP (Int × Int)} {nx:KP (Slc × Int)}
  (X0:Ext h0.size h0 h) (R:Row h0.size h 65 2 now (ecs vt)) (I:Imm (OB O now) h fun h'=>Each h' vt cur) {ws:List ae} (Al:p3.len=ws.length) (A:Imm O h0 fun h=>SlcAt h p3 (ecs ws)/\Each h ws more) (ob:∀ g,O g->g < h0.size) (i0:0<=i) (he:more[i.toNat]? = some e) (sz:cur.length<=1000000) (ml:more.length<=1000000)
  (H:∀ s' h' vs',Row h0.size h' 65 2 s' (ecs vs')->Imm (OB O s') h' (fun h'=>Each h' vs' (cur ++ [e]))->Ext h0.size h0 h'->nx (s',i + 1) h'):fu t0 p p3 i now k nx h:=by
 have tl:now.len=cur.length:=by have:=R.1; rw [ji,I.now.1] at this; omega
 have hie:=(List.getElem?_eq_some_iff.1 he).1
 have z0:=X0.size
 have J:Imm (OB O now) h fun h=>SlcAt h p3 (ecs ws)/\Each h ws more:=A.step (Stp.bi X0) fun g hg=>hg.elim .inl fun hg=>.inr (R.bd hg).1
 have wl:=J.now.2.1
 obtain ⟨v,hv⟩:∃ v,ws[i.toNat]? = some v:=⟨_,List.getElem?_eq_getElem (by rw [wl]; exact hie)⟩
 obtain ⟨a,ha,c1⟩:=(LsAt.qh (w:=2) (fun x=>rfl) J.now.1 Al (by decide)).at' i.toNat v hv
 unfold fu
 refine ⟨a,ha,i0,by rw [Al,wl]; omega,v,c1,_,_,rfl,rfl,?_⟩
 have X1:=Ext.push h (.cells (ae.cs v).toArray 65) (Nat.le_refl _)
 have R1:=R.pushed (.cells (ae.cs v).toArray 65)
 have I1:=I.ext X1
 have E1:Imm (OB O now) (h.push (.cells (ae.cs v).toArray 65)) fun h=>oD h v e:=(J.ext X1).imp fun _ q=>q.2.2 _ v e hv he
 generalize h.push (.cells (ae.cs v).toArray 65)=h1 at *
 have z1:=X1.size
 refine App.row R1 (by omega) rfl rfl (qX (by kernel_rfl)) (by omega) (by simp only [maxLen]; omega) fun s' h2 R2 l2 z2 o2 b2=>?_
 have S2:Stp (fun g=>now.blk=some g) h1 h2:=⟨z2,fun g hg hn=>o2 g hg hn⟩
 have hO:∀ g,OB O s' g->OB O now g∨h1.size<=g:=fun g hg=>by
  rcases hg with hg | hg
  ·exact .inl (.inl hg)
  ·rcases b2 with b2 | b2
   ·exact .inl (.inr (by rw [← b2]; exact hg))
   ·rw [b2] at hg; cases hg; exact .inr (Nat.le_refl _)
 have S2':=S2.mono (O':=OB O now) fun g hg=>.inl (.inr hg)
 unfold dJ
 refine ⟨_,rfl,?_⟩
 rw [ay (by omega) (by omega)]
 refine H s' h2 (vt ++ [v]) (by rw [uM]; exact R2) (fun h3 S3=>((I1.step S2' hO) h3 S3).app (Each.one ((E1.step S2' hO) h3 S3))) ?_
 exact X0.trans ((X1.mono z0).trans ⟨z2,fun g hg=>o2 g (by omega) fun e=>by have:=(R1.bd e).1; omega⟩)
theorem yG {p3:Slc} {more:List Ent} {k:KP (Int × Int)} (L:oh O h b s l) (ob:∀ g,O g->g < h.size) (A:Imm O h fun h=>cZ h p3 more) (p0:0<=p) (hm:more.length<=100000)
  (H:∀ h' s',oh O h' b s' (l.append p t more).1->Stp (fun g=>g=b) h h'->k (l.append p t more).2 h'):lK (some ⟨b,0,none⟩) p t p3 k h:=by
 have x0:=L.x0
 have sz:=L.sz
 obtain ⟨ws,wl,wc,A⟩:=CU A
 unfold lK
 refine vS L ⟨_,rfl,_,L.c0,?_⟩
 unfold Lg.append at H
 by_cases hc:p>=l.ix/\l.mat p t=false
 ·rw [if_pos hc] at H
  rw [if_pos (by
   rw [Bool.and_eq_true,decide_eq_true_eq]
   refine ⟨hc.1,?_⟩
   have:=hc.2
   unfold Lg.mat at this
   rw [Bool.and_eq_false_iff] at this
   rw [Bool.or_eq_true]
   exact this.imp (fun q=>by simpa using q) (fun q=>by simpa using q))]
  exact H h s L (Stp.refl _ _)
 rw [if_neg hc] at H
 rw [if_neg (by
  rw [Bool.and_eq_true,decide_eq_true_eq]
  intro q
  refine hc ⟨q.1,?_⟩
  unfold Lg.mat
  rw [Bool.and_eq_false_iff]
  have:=q.2
  rw [Bool.or_eq_true] at this
  exact this.imp (fun q=>by simpa using q) (fun q=>by simpa using q))]
 have hp:p<=l.ix + 1000:=by
  by_cases h1:p>=l.ix
  ·have:l.mat p t=true:=by cases hm:l.mat p t with | true=>rfl | false=>exact absurd ⟨h1,hm⟩ hc
   have:=EQ this; omega
  ·omega
 obtain ⟨vs,vl,vc,I⟩:=L.e
 have Xp:=Ext.push h (.cells ([]:List Value).toArray 65) (Nat.le_refl _)
 refine ⟨_,_,rfl,rfl,s,(L.ext Xp).c2,BC vl I.now.1 (by have:=I.now.2.1; omega) fun now h1 R1 X1=>?_⟩
 have z1:=X1.size
 have I1:Imm (OB O now) h1 fun h=>Each h vs l.es:=(I.step (Stp.bi X1) fun g hg=>hg.elim .inl fun hg=>.inr (R1.bd hg).1).imp fun _ q=>q.2
 unfold oV
 refine ⟨Eu O h l.ix p l.es more,fun q _=>(more.length - q.2).toNat,⟨⟨by omega,by omega⟩,X1,⟨vs,R1,I1⟩,by show l.es.length<=1000 + 0; omega⟩,?_⟩
 rintro now i h2 ⟨⟨i0,i1⟩,X,⟨vt,R,J⟩,sz2⟩
 dsimp only at i0 i1 R J sz2
 have z2:=X.size
 have tl:now.len=(Lg.fF l.ix p l.es more i.toNat).length:=by have:=R.1; rw [ji,J.now.1] at this; omega
 have L2:=L.ext X
 have nx:∀ {s':Slc} {cur':List Ent} {h':Heap} (vs':List ae),i < more.length->Lg.fF l.ix p l.es more (i.toNat + 1)=cur'->cur'.length<=1000 + (i.toNat + 1)->Row h.size h' 65 2 s' (ecs vs')->Imm (OB O s') h' (fun h'=>Each h' vs' cur')->Ext h.size h h'->Eu O h l.ix p l.es more (s',i + 1) h'/\(more.length - (i + 1)).toNat < (more.length - i).toNat:=fun vs' hi e1 e2 R' I' X' =>
  ⟨⟨⟨by show 0<=i + 1; omega,by show i + 1<=_; omega⟩,X',⟨vs',R',by show Imm _ _ fun h=>Each h vs' (Lg.fF l.ix p l.es more (i + 1).toNat); rw [show (i + 1).toNat=i.toNat + 1 from by omega,e1]; exact I'⟩,by show (Lg.fF l.ix p l.es more (i + 1).toNat).length<=1000 + (i + 1).toNat; rw [show (i + 1).toNat=i.toNat + 1 from by omega,e1]; exact e2⟩,by omega⟩
 obtain ⟨cur,ecur⟩:∃ c,c=Lg.fF l.ix p l.es more i.toNat:=⟨_,rfl⟩
 rw [← ecur] at J sz2 tl
 have J3:Imm (OB O now) h2 fun h=>SlcAt h p3 (ecs ws)/\Each h ws more:=A.step (Stp.bi X) fun g hg=>hg.elim .inl fun hg=>.inr (R.bd hg).1
 have wl2:=J3.now.2.1
 unfold nX
 by_cases hi:i < (p3.len:Int)
 ·rw [if_pos (by simpa using hi)]
  have hie:i.toNat < more.length:=by omega
  obtain ⟨e,he⟩:∃ e,more[i.toNat]? = some e:=⟨_,List.getElem?_eq_getElem hie⟩
  have hst:Lg.fF l.ix p l.es more (i.toNat + 1)=Lg.dR l.ix p cur i.toNat e:=by
   rw [ecur]
   show (match more[i.toNat]? with | some x=>Lg.dR l.ix p (Lg.fF l.ix p l.es more i.toNat) i.toNat x | none=>Lg.fF l.ix p l.es more i.toNat)=_
   rw [he]
  have cl:(Lg.dR l.ix p cur i.toNat e).length<=1000 + (i.toNat + 1):=Nat.le_trans yJ (by omega)
  rw [aL (x:=i) (by omega) (by omega)]
  have ew:IntKind.u64.wrap (IntKind.u64.wrap (p + i) + 1)=Rf.W (p + i.toNat + 1):=by
   rw [show ((i.toNat:Nat):Int)=i from by omega]
   exact Ap
  rw [ew]
  have stay:Lg.dR l.ix p cur i.toNat e=cur->dJ (some ⟨b,0,none⟩) p p3 i now k (fun q h'=>Eu O h l.ix p l.es more q h'/\(more.length - q.2).toNat < (more.length - i).toNat) h2:=fun hs=>by
   unfold dJ
   refine ⟨_,rfl,?_⟩
   rw [ay (by omega) (by omega)]
   exact nx vt (by omega) (hst.trans hs) (by omega) R J X
  refine ⟨_,rfl,_,rfl,_,L2.c0,?_⟩
  by_cases hle:Rf.W (p + i.toNat + 1)<=l.ix
  ·rw [if_pos (by simpa using hle)]
   exact stay (by unfold Lg.dR; rw [if_pos hle])
  rw [if_neg (by simpa using hle)]
  refine ⟨l.ix,L2.c0,_,rfl,?_⟩
  have hK:Rf.W (p + i.toNat + 1)=p + i + 1:=by
   unfold Rf.W
   rw [aL (by omega) (by omega)]
   omega
  have hst2:=hst
  unfold Lg.dR at hst2
  rw [hK] at hst2 hle ⊢
  rw [if_neg hle] at hst2
  rw [aL (x:=p + i + 1 - l.ix) (by omega) (by omega),aL (x:=p + i + 1 - l.ix - 1) (by omega) (by omega),ay (x:=p + i + 1 - l.ix - 1) (by omega) (by omega)]
  have hcap:=R.cap
  -- the entry is put behind what is left
  have more':∀ {t:Slc} {cur':List Ent} {h':Heap} (vt':List ae),Ext h.size h h'->Row h.size h' 65 2 t (ecs vt')->Imm (OB O t) h' (fun h'=>Each h' vt' cur')->cur'.length<=cur.length->Lg.fF l.ix p l.es more (i.toNat + 1)=cur' ++ [e] ->
    fu (some ⟨b,0,none⟩) p p3 i t k (fun q h'=>Eu O h l.ix p l.es more q h'/\(more.length - q.2).toNat < (more.length - i).toNat) h':=fun {t cur' h'} vt' X' R' J' hl hs =>
   Dr X' R' J' wl A ob i0 he (by omega) (by omega) fun s' h4 vs' R4 J4 X4=>nx vs' (by omega) hs (by simp; omega) R4 J4 X4
  by_cases hk:p + i + 1 - l.ix - 1 < (now.len:Int)
  ·rw [if_pos (by simpa using hk)]
   have hkc:(p + i + 1 - l.ix - 1).toNat < cur.length:=by omega
   rw [if_pos hkc] at hst2
   obtain ⟨f,hf⟩:∃ f,cur[(p + i + 1 - l.ix - 1).toNat]? = some f:=⟨_,List.getElem?_eq_getElem hkc⟩
   have hgd:cur.getD (p + i + 1 - l.ix - 1).toNat (0,[])=f:=by rw [List.getD_eq_getElem?_getD,hf]; rfl
   rw [hgd] at hst2
   obtain ⟨a',d1,d2⟩:=y7 R J.now hf
   obtain ⟨a2,d3,d4⟩:=(cZ.mk (s:=p3) (by rw [wl,wl2]) wc ⟨ws,J3.now.1,J3.now.2⟩:cZ h2 p3 more).get he |>.elim fun a q=>q.elim fun v q=>(⟨a,q.1,by have:=q.2.1 0 (.int .u64 v.bP) rfl; rw [dI,Nat.add_zero,q.2.2.t] at this; exact this⟩:∃ a,p3.a=some a/\af h2 (a.add (i.toNat * 2))=some (.int .u64 e.1))
   refine ⟨a',d1,by omega,hk,_,d2,a2,d3,i0,by rw [wl,wl2]; omega,_,d4,?_⟩
   unfold iy
   by_cases ht:f.1=e.1
   ·rw [if_pos (by simpa using ht)]
    rw [if_pos ht] at hst2
    exact stay (hst.symm.trans hst2)
   ·rw [if_neg (by simpa using ht),if_pos (by simpa using hk)]
    rw [if_neg ht] at hst2
    refine ⟨_,_,rfl,rfl,_,by decide,by omega,by omega,by omega,rfl,?_⟩
    have SB:=Am R.slc (s:=now) (vs:=vt) (by rw [tl,J.now.1]) (lo:=(0:Int).toNat) (hi:=(p + i + 1 - l.ix - 1).toNat) (by show 0<=_; omega) (by omega) hcap
    rw [show ((now.cap:Nat):Int).toNat=now.cap from by omega]
    generalize dC now 2 (0:Int).toNat (p + i + 1 - l.ix - 1).toNat now.cap=s6 at SB ⊢
    have e6:(vt.drop (0:Int).toNat).take ((p + i + 1 - l.ix - 1).toNat - (0:Int).toNat)=vt.take (p + i + 1 - l.ix - 1).toNat:=rfl
    rw [e6] at SB
    refine BC SB.2 SB.1 (by have:=J.now.1; rw [List.length_take]; omega) fun s7 h7 R7 X7=>?_
    refine more' (cur':=cur.take (p + i + 1 - l.ix - 1).toNat) (vt.take (p + i + 1 - l.ix - 1).toNat) (X.trans (X7.mono z2)) (R7.mono z2) ?_ (by rw [List.length_take]; omega) hst2
    exact ((J.step (O':=OB O s7) (Stp.bi X7) fun g hg=>hg.elim (fun q=>.inl (.inl q)) fun q=>.inr (R7.bd q).1).imp fun _ E=>E.take _)
  ·rw [if_neg (by simpa using hk)]
   unfold iy
   rw [if_neg (by simp),if_neg (by simpa using hk)]
   rw [if_neg (by omega)] at hst2
   exact more' vt X R J (Nat.le_refl _) hst2
 ·rw [if_neg (by simpa using hi)]
  have hin:i.toNat=more.length:=by omega
  rw [hin] at ecur
  rw [← ecur] at H
  by_cases h64:cur.length > 64
  ·rw [if_pos (by simp; omega)]
   rw [if_pos h64] at H
   exact H h2 s L2 (.bi X)
  ·rw [if_neg (by simp; omega)]
   rw [if_neg h64] at H
   obtain ⟨w1,w2⟩:=L2.k.put (i:=2) (v:=Slc.v now) (by show 2 < 3; omega)
   refine ⟨_,rfl,_,w1,rfl,_,rfl,?_⟩
   obtain ⟨K,U⟩:=w2 _ rfl
   generalize setH h2 ((⟨b,0,none⟩:Addr).add 2) (Slc.v now)=h3 at *
   rw [wl,wl2,aL (x:=(more.length:Int)) (by omega) (by omega)]
   have S3:Stp (fun g=>g=b) h2 h3:=.dD U (.inl rfl)
   have nb:∀ g,now.blk=some g->g≠b:=fun g hg e=>by subst e; exact R.aW L2.k (by decide) hg
   have R3:=S3.row R nb
   refine H h3 now ⟨K,⟨vt,by rw [tl,J.now.1],R.cap,?_⟩,L.x0,by show cur.length<=1000; omega,L.ob⟩ ((Stp.bi (O:=fun g=>g=b) X).trans' S3)
   have nO:∀ g,now.blk=some g->¬ O g:=fun g hg hO=>by have:=(R.bd hg).1; have:=ob g hO; omega
   have J4:=J.step (O':=O) (S3.mono fun g hg=>.inl (.inl (by subst hg; exact L.ob))) fun g hg=>.inl (.inl hg)
   exact fun h4 S4=>⟨(S4.row R3 nO).slc,J4 h4 S4⟩
theorem Dm {k:KP Int} (L:oh O h b s l) (ob:∀ g,O g->g < h.size) (p1:p<=1000000000)
  (H:∀ h' s',oh O h' b s' (l.cut p).1->Stp (fun g=>g=b) h h'->k (l.cut p).2 h'):nL (some ⟨b,0,none⟩) p k h:=by
 have x0:=L.x0
 have sz:=L.sz
 unfold nL
 refine vS L ?_
 unfold Lg.cut at H
 by_cases ht:(l.aH p).2=0
 ·rw [if_neg (by simpa using ht)]; rw [if_neg (by simpa using ht)] at H
  obtain ⟨h1,h2⟩:=rP ht
  have hl:=L.len
  obtain ⟨vs,vl,vc,I⟩:=L.e
  have vl2:=I.now.2.1
  refine ⟨_,rfl,s,L.c2,_,L.c0,?_⟩
  rw [aL (x:=p - l.ix) (by omega) (by omega)]
  refine ⟨_,by omega,by omega,by omega,by omega,rfl,?_⟩
  have SB:=Am I.now.1 vl (lo:=(p - l.ix).toNat) (hi:=(s.len:Int).toNat) (by omega) (by omega) vc
  rw [show ((s.cap:Nat):Int).toNat=s.cap from by omega]
  rw [show (vs.drop (p - l.ix).toNat).take ((s.len:Int).toNat - (p - l.ix).toNat)=vs.drop (p - l.ix).toNat from List.take_of_length_le (by rw [List.length_drop]; omega)] at SB
  generalize dC s 2 (p - l.ix).toNat (s.len:Int).toNat s.cap=s6 at SB ⊢
  have Xp:=Ext.push h (.cells ([]:List Value).toArray 65) (Nat.le_refl _)
  refine ⟨_,_,rfl,rfl,(L.ext Xp).c0,(L.ext Xp).c2,BC SB.2 SB.1 (by rw [List.length_drop]; omega) fun s' h' R' X=>?_⟩
  have z1:=X.size
  have L1:=L.ext X
  obtain ⟨w1,f1⟩:=L1.k.put (i:=2) (v:=Slc.v s') (by show 2 < 3; omega)
  refine ⟨_,w1,rfl,?_⟩
  obtain ⟨K2,U2⟩:=f1 _ rfl
  generalize setH h' ((⟨b,0,none⟩:Addr).add 2) (Slc.v s')=h2 at *
  obtain ⟨w3,f3⟩:=K2.put (i:=0) (v:=.int .u64 p) (by show 0 < 3; omega)
  rw [show (⟨b,0,none⟩:Addr).add 0=⟨b,0,none⟩ from rfl] at w3 f3
  refine ⟨_,w3,rfl,?_⟩
  obtain ⟨K3,U3⟩:=f3 _ rfl
  generalize setH h2 (⟨b,0,none⟩:Addr) (.int .u64 p)=h3 at *
  obtain ⟨w4,f4⟩:=K3.put (i:=1) (v:=.int .u64 (l.aH p).1) (by show 1 < 3; omega)
  refine ⟨_,w4,rfl,?_⟩
  obtain ⟨K4,U4⟩:=f4 _ rfl
  generalize setH h3 ((⟨b,0,none⟩:Addr).add 1) (.int .u64 (l.aH p).1)=h4 at *
  have U:=(U2.trans U3).trans U4
  have S:Stp (fun g=>g=b) h' h4:=Stp.dD U (.inl rfl)
  have S0:Stp (fun g=>g=b) h h4:=(Stp.bi (O:=fun g=>g=b) X).trans' S
  have sb:∀ g,s'.blk=some g->h.size<=g:=fun g hg=>(R'.bd hg).1
  have R4:=S.row R' fun g hg e=>by have:=sb g hg; have:=L.k.lt; omega
  have I4:=I.stp (S0.mono fun g hg=>.inl (by subst hg; exact L.ob))
  refine H h4 s' ⟨K4,⟨vs.drop (p - l.ix).toNat,?_,R4.cap,fun h5 S5=>⟨(S5.row R4 fun g hg hO=>by have:=sb g hg; have:=ob g hO; omega).slc,(I4 h5 S5).2.drop _⟩⟩,⟨by show 0<=p; omega,by show p<=_; omega⟩,by show (l.es.drop _).length<=1000; rw [List.length_drop]; omega,L.ob⟩ S0
  have:=R4.1; rw [ji] at this; omega
 ·rw [if_pos (by simpa using ht)]; rw [if_pos (by simpa using ht)] at H
  exact H _ _ L (Stp.refl _ _)
/-! ### what a member has stored -/
structure SLy where
 b:Nat
 lb:Nat
 es:Slc
 aQ:Slc
def scs (L:SLy) (s:SS):List Value:=aC.cs ⟨s.term,s.bR,some ⟨L.lb,0,none⟩,L.aQ⟩
structure mI (O:bz) (h:Heap) (L:SLy) (s:SS):Prop where
 k:Blk h L.b (scs L s) 73
 l:oh O h L.lb L.es s.log
 sn:Imm O h fun h=>SlcAt h L.aQ (b8 s.aQ)
 sl:L.aQ.len=s.aQ.length
 ob:O L.b
def nK (L:SLy):bz:=fun g=>g=L.b∨g=L.lb
variable {L:SLy} {st st':SS} {x:qj} {v:aj}
theorem mI.move (A:mI O h L st) (p:Stp S h h') (hS:∀ g,S g->O g∨h.size<=g) (hd:∀ g,nK L g->¬ S g) (hO:∀ g,O' g->O g∨h.size<=g) (hw:∀ g,nK L g->O' g):mI O' h' L st :=
 ⟨p.blk A.k (hd _ (.inl rfl)),A.l.move p hS (hd _ (.inr rfl)) hO (hw _ (.inr rfl)),A.sn.step (p.mono hS) hO,A.sl,hw _ (.inl rfl)⟩
theorem mI.c (A:mI O h L st) (i:Nat):af h ((⟨L.b,0,none⟩:Addr).add i)=(scs L st)[i]?:=A.k.get i
theorem mI.ext (A:mI O h L st) (X:Ext h.size h h'):mI O h' L st:=A.move (S:=fun _=>False) (.bi X) (fun _ h=>h.elim) (fun _ _ h=>h) (fun _ h=>.inl h) fun g hg=>hg.elim (fun e=>by subst e; exact A.ob) fun e=>by subst e; exact A.l.ob
/-- what is to be kept fits -/
structure WFk (x:qj):Prop where
 i:0<=x.index/\x.index<=1000000000
 z:x.aK.length<=100000
theorem zi {l:Lg} {p t:Int}:l.mat p t=(((l.aH p).2 == 0) && ((l.aH p).1 == t)):=rfl
theorem Eb {k:KP Bool} (A:mI O h L st) (ob:∀ g,O g->g < h.size) (V:Imm O h fun h=>uQ h v x) (w:WFk x) (e:nC st x=some st')
  (H:∀ h' L',mI (fun g=>O g∨g=L'.lb) h' L' st'->L'.b=L.b->(L'.lb=L.lb∨h.size<=L'.lb)->L'.lb < h'.size->Stp (nK L) h h'->k true h'):lh (some ⟨L.b,0,none⟩) v k h:=by
 obtain ⟨k1,k2,k3,k4⟩:=V.now.k
 unfold lh
 refine ⟨_,_,rfl,rfl,?_⟩
 have X:=Ext.push h (.cells (aj.cs v).toArray 107) (Nat.le_refl _)
 have C:=Blk.push h (aj.cs v) 107
 have A1:=A.ext X
 have V1:=V.ext X
 have z:=X.size
 have ob1:∀ g,O g->g < (h.push (.cells (aj.cs v).toArray 107)).size:=fun g hg=>by have:=ob g hg; omega
 obtain ⟨cb,ecb⟩:∃ c,c=h.size:=⟨_,rfl⟩
 rw [← ecb] at C ⊢
 generalize h.push (.cells (aj.cs v).toArray 107)=h1 at *
 have cO:¬ O cb:=fun hO=>by have:=ob _ hO; omega
 have self:∀ {h':Heap} {L':SLy} {s':SS},mI O h' L' s'->mI (fun g=>O g∨g=L'.lb) h' L' s':=fun {h' L' s'} B=>B.move (S:=fun _=>False) (Stp.refl _ _) (fun _ h=>h.elim) (fun _ _ h=>h) (fun g hg=>.inl (hg.elim id fun e=>by subst e; exact B.l.ob)) fun g hg=>hg.elim (fun e=>.inl (by subst e; exact B.ob)) fun e=>.inr e
 refine ⟨v.mO,by rw [C.cell]; rfl,?_⟩
 unfold nC at e
 rw [k1]
 by_cases h1':x.kind=1
 ·rw [if_pos (by simpa using h1')]
  rw [if_pos h1'] at e
  cases e
  obtain ⟨w1,f1⟩:=A1.k.put (i:=0) (v:=.int .u64 x.term) (by show 0 < 4; omega)
  rw [show (⟨L.b,0,none⟩:Addr).add 0=⟨L.b,0,none⟩ from rfl] at w1 f1
  refine ⟨v.bP,by rw [C.get]; rfl,_,rfl,_,by exact w1,rfl,?_⟩
  rw [k2]
  obtain ⟨K2,U2⟩:=f1 _ rfl
  have C2:=C.old (U2.block cb C.lt fun e=>cO (by rw [e]; exact A.ob))
  generalize setH h1 (⟨L.b,0,none⟩:Addr) (.int .u64 x.term)=h2 at *
  obtain ⟨w2,f2⟩:=K2.put (i:=1) (v:=.int .i64 x.bR) (by show 1 < 4; omega)
  refine ⟨v.vB,by rw [C2.get]; rfl,_,by exact w2,rfl,?_⟩
  rw [k3]
  obtain ⟨K3,U3⟩:=f2 _ rfl
  generalize setH h2 ((⟨L.b,0,none⟩:Addr).add 1) (.int .i64 x.bR)=h3 at *
  have U:=U2.trans U3
  have S3:Stp (fun g=>g=L.b) h1 h3:=.dD U (.inl rfl)
  have nb:L.lb≠L.b:=fun e=>by
   have q:=A.l.k
   rw [e] at q
   exact absurd (q.inj A.k).2 (by decide)
  have B:mI O h3 L { st with term:=x.term,bR:=x.bR }:=⟨K3,A1.l.move S3 (fun g hg=>.inl (by subst hg; exact A.ob)) nb (fun _ h=>.inl h) A.l.ob,A1.sn.stp (S3.mono fun g hg=>.inl (by subst hg; exact A.ob)),A.sl,A.ob⟩
  exact H h3 L (self B) rfl (.inl rfl) (by have:=B.l.k.lt; exact this) ((Stp.bi (O:=nK L) X).trans' (S3.mono fun g hg=>.inl (.inl hg)))
 rw [if_neg (by simpa using h1')]
 rw [if_neg h1'] at e
 by_cases h2':x.kind=2
 ·rw [if_pos (by simpa using h2')]
  rw [if_pos h2'] at e
  split at e
  ·rename_i ok
   cases e
   refine ⟨_,rfl,_,A1.c 2,v.kY,by rw [C.get]; rfl,v.bP,by rw [C.get]; rfl,v.dF,by rw [C.get]; rfl,?_⟩
   rw [k4,k2]
   refine yG A1.l ob1 (V1.imp fun _ q=>q.e) w.i.1 w.z fun h3 s3 L3 S3=>?_
   rw [ok]
   have nb:L.b≠L.lb:=fun e=>by
    have q:=A.l.k
    rw [← e] at q
    exact absurd (q.inj A.k).2 (by decide)
   have B:mI O h3 { L with es:=s3 } { st with log:=(st.log.append x.index x.term x.aK).1 }:=⟨S3.blk A1.k nb,L3,A1.sn.stp (S3.mono fun g hg=>.inl (by subst hg; exact A.l.ob)),A.sl,A.ob⟩
   exact H h3 _ (self B) rfl (.inl rfl) (by have:=L3.k.lt; exact this) ((Stp.bi (O:=nK L) X).trans' (S3.mono fun g hg=>.inl (.inr hg)))
  ·cases e
 rw [if_neg (by simpa using h2')]
 rw [if_neg h2'] at e
 by_cases h3':x.kind=3
 ·rw [if_pos (by simpa using h3')]
  rw [if_pos h3'] at e
  have e:=Option.some.inj e
  have nb:L.b≠L.lb:=fun e=>by
   have q:=A.l.k
   rw [← e] at q
   exact absurd (q.inj A.k).2 (by decide)
  -- the snapshot is written last
  have tail:∀ {h5:Heap} {lb:Nat} {s5:Slc} {l5:Lg} {O5:bz},Blk h5 L.b (scs { L with lb:=lb } st) 73->oh O5 h5 lb s5 l5->(∀ g,O g->O5 g)->(∀ g,O5 g->O g∨g=lb)->(lb=L.lb∨h1.size<=lb)->Stp (nK L) h1 h5->{ st with log:=l5,aQ:=x.aQ } = st'->gu (some ⟨L.b,0,none⟩) ⟨cb,0,none⟩ k h5:=fun {h5 lb s5 l5 O5} K5 L5 o1 o2 o3 S5 e5=>by
   have C5:=S5.blk C fun q=>q.elim (fun e=>cO (by rw [e]; exact A.ob)) fun e=>cO (by rw [e]; exact A.l.ob)
   unfold gu
   obtain ⟨w1,f1⟩:=K5.put (i:=3) (v:=Slc.v v.lW) (by show 3 < 4; omega)
   refine ⟨v.lW,by rw [C5.get]; rfl,_,rfl,_,w1,rfl,?_⟩
   obtain ⟨K6,U6⟩:=f1 _ rfl
   generalize setH h5 ((⟨L.b,0,none⟩:Addr).add 3) (Slc.v v.lW)=h6 at *
   have S6:Stp (fun g=>g=L.b) h5 h6:=.dD U6 (.inl rfl)
   have nb5:L.b≠lb:=fun e=>by
    have q:=L5.k
    rw [← e] at q
    exact absurd (q.inj K5).2 (by decide)
   have L6:=L5.move S6 (O':=fun g=>O g∨g=lb) (fun g hg=>.inl (by subst hg; exact o1 _ A.ob)) (fun e=>nb5 e.symm) (fun g hg=>.inl (hg.elim (o1 g) fun e=>by subst e; exact L5.ob)) (.inr rfl)
   have S16:Stp (nK L) h1 h6:=S5.trans' (S6.mono fun g hg=>.inl (.inl hg))
   have V6:Imm (fun g=>O g∨g=lb) h6 fun h=>uQ h v x:=V1.step (S16.mono fun g hg=>.inl (hg.elim (fun e=>by subst e; exact A.ob) fun e=>by subst e; exact A.l.ob)) fun g hg=>by
    rcases hg with hg | rfl
    ·exact .inl hg
    ·rcases o3 with o3 | o3
     ·exact .inl (by rw [o3]; exact A.l.ob)
     ·exact .inr o3
   subst e5
   exact H h6 ⟨L.b,lb,s5,v.lW⟩ ⟨K6,L6,V6.imp fun _ q=>q.s,by show v.lW.len=x.aQ.length; exact V.now.sl,.inl A.ob⟩ rfl (o3.imp id fun q=>Nat.le_trans z q) L6.k.lt ((Stp.bi (O:=nK L) X).trans' S16)
  refine ⟨_,rfl,_,A1.c 2,v.kY,by rw [C.get]; rfl,?_⟩
  rw [k4]
  refine vS A1.l ?_
  have yes:st.log.mat x.index x.term=true->dA (some ⟨L.b,0,none⟩) ⟨cb,0,none⟩ true k h1:=fun hm=>by
   unfold dA
   rw [if_pos rfl]
   refine ⟨_,rfl,_,A1.c 2,v.kY,by rw [C.get]; rfl,?_⟩
   rw [k4]
   refine Dm A1.l ob1 w.i.2 fun h3 s3 L3 S3=>?_
   rw [if_pos hm] at e
   exact tail (S3.blk A1.k nb) L3 (fun _ h=>h) (fun _ h=>.inl h) (.inl rfl) (S3.mono fun g hg=>.inl (.inr hg)) e
  have no:st.log.mat x.index x.term=false->dA (some ⟨L.b,0,none⟩) ⟨cb,0,none⟩ false k h1:=fun hm=>by
   unfold dA
   rw [if_neg (by simp)]
   refine ⟨v.kY,by rw [C.get]; rfl,v.bP,by rw [C.get]; rfl,_,_,rfl,rfl,_,rfl,?_⟩
   rw [k4,k2]
   have X2:=Ext.push h1 (.cells (aG.cs ⟨x.index,x.term,⟨none,0,0⟩⟩).toArray 75) (Nat.le_refl _)
   have N2:=Blk.push h1 (aG.cs ⟨x.index,x.term,⟨none,0,0⟩⟩) 75
   have A2:=A1.ext X2
   generalize h1.push (.cells (aG.cs ⟨x.index,x.term,⟨none,0,0⟩⟩).toArray 75)=h2 at *
   obtain ⟨nb2,enb⟩:∃ c,c=h1.size:=⟨_,rfl⟩
   rw [← enb] at N2 ⊢
   obtain ⟨w1,f1⟩:=A2.k.put (i:=2) (v:=.pointer (some ⟨nb2,0,none⟩)) (by show 2 < 4; omega)
   refine ⟨_,w1,rfl,?_⟩
   obtain ⟨K3,U3⟩:=f1 _ rfl
   generalize setH h2 ((⟨L.b,0,none⟩:Addr).add 2) (.pointer (some ⟨nb2,0,none⟩))=h3 at *
   have S3:Stp (fun g=>g=L.b) h2 h3:=.dD U3 (.inl rfl)
   have bl:=A1.k.lt
   have N3:=S3.blk N2 (by omega)
   rw [if_neg (by rw [hm]; simp)] at e
   refine tail (lb:=nb2) (s5:=⟨none,0,0⟩) (O5:=fun g=>O g∨g=nb2) K3 ⟨N3,⟨[],rfl,Nat.le_refl _,fun h4 _=>⟨⟨fun _=>rfl,fun a ha=>by cases ha⟩,Each.nil _⟩⟩,w.i,by show 0<=1000; omega,.inr rfl⟩ (fun _ h=>.inl h) (fun _ h=>h) (.inr (by omega)) ((Stp.bi (O:=nK L) X2).trans' (S3.mono fun g hg=>.inl (.inl hg))) e
  by_cases he:(st.log.aH x.index).2=0
  ·rw [if_pos (by simpa using he)]
   refine ⟨v.bP,by rw [C.get]; rfl,?_⟩
   rw [k2]
   cases hm:((st.log.aH x.index).1 == x.term) with
   | true=>exact yes (by rw [zi,he,hm]; rfl)
   | false=>exact no (by rw [zi,he,hm]; rfl)
  ·rw [if_neg (by simpa using he)]
   exact no (by rw [zi,Bool.and_eq_false_iff]; exact .inl (by simpa using he))
 ·rw [if_neg h3'] at e; cases e
end
end Go.Q.Yi
end

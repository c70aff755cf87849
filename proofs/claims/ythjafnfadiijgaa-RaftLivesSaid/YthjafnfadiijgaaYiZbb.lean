/- A part of the proof of statements of this seat: lemmas, no statement of their own. -/
import Derived.Test.YthjafnfadiijgaaYiZba
import Derived.Test.YthjafnfadiijgaaYiZay
import Derived.Test.YthjafnfadiijgaaYiZam
import Derived.Test.YthjafnfadiijgaaYiZav
import Derived.Test.YthjafnfadiijgaaYiZap
set_option linter.unusedVariables false
set_option linter.unusedSimpArgs false
set_option linter.unusedSectionVars false
set_option maxRecDepth 100000
section
/- Letters of members may be taken; what they are to keep fits. -/
namespace Go.Q.Yi
open Rf
/-- what holds of a member that stands in memory -/
structure WL (r:RS):Prop where
 tm:0<=r.term/\r.term < 18446744073709551616
 cm:0<=r.commit/\r.commit < 18446744073709551616
 sn:isB r.aQ/\r.aQ.length<=1099511627776
 x0:0<=r.log.ix
 x1:r.log.ix + r.log.es.length < 18446744073709551616
 t0:0<=r.log.tm/\r.log.tm < 18446744073709551616
 ok:qU r.log.es
 sz:r.log.es.length<=1000
theorem aC.wl {O:bz} {h:Heap} {L:RLy} {r:RS} (R:aC O h L r):WL r:=⟨R.wf.tm,R.wf.cm,R.wf.sn,R.p.l.x0,R.p.l.x1,R.p.l.t0,R.p.l.ok,R.p.l.sz⟩
section
variable {r:RS} {f:Int} {m:Msg}
theorem WL.term (w:WL r) (p:Int):0<=(r.log.aF p).1/\(r.log.aF p).1 < 18446744073709551616:=by
 unfold Lg.aF
 split
 ·decide
 ·split
  ·decide
  ·split
   ·exact w.t0
   ·rename_i h5 h6 h7
    have hlast:r.log.last=r.log.ix + r.log.es.length:=rfl
    obtain ⟨e,he⟩:∃ e,r.log.es[(p - r.log.ix - 1).toNat]? = some e:=⟨_,List.getElem?_eq_getElem (by omega)⟩
    rw [List.getD_eq_getElem?_getD,he]
    exact (w.ok _ (List.mem_of_getElem? he)).1
theorem WL.lastT (w:WL r):0<=r.log.lastT/\r.log.lastT < 18446744073709551616:=by
 unfold Lg.lastT
 cases h:r.log.es.getLast? with
 | none=>exact w.t0
 | some e=>exact (w.ok _ (List.mem_of_getLast? h)).1
theorem qx {k t i l:Int} {y:Bool} (ht:0<=t/\t < 18446744073709551616) (hi:0<=i/\i < 18446744073709551616) (hl:0<=l/\l < 18446744073709551616):WFm ⟨k,t,i,l,0,y,[],[]⟩ :=
 ⟨ht,hi,hl,by show (0:Int)<=0/\(0:Int) < _; omega,(fun e he=>by cases he),by show 0<=1000; omega,vX,by show 0<=_; omega⟩
theorem Bo (w:WL r) (i:Int):WFm (r.due i):=by
 unfold RS.due
 split
 ·exact ⟨w.tm,⟨w.x0,by have:=w.x1; show r.log.ix < _; omega⟩,w.t0,w.cm,(fun e he=>by cases he),by show 0<=1000; omega,w.sn⟩
 ·refine ⟨w.tm,xI _,w.term _,w.cm,?_,?_,vX,by show 0<=_; omega⟩
  ·show qU (r.log.frm _ 4).1
   unfold Lg.frm
   split
   ·exact fun e he=>by cases he
   ·split
    ·exact fun e he=>by cases he
    ·exact (w.ok.drop _).take _
  ·show (r.log.frm _ 4).1.length<=1000
   unfold Lg.frm
   split
   ·show 0<=1000; omega
   ·split
    ·show 0<=1000; omega
    ·show (List.take _ _).length<=1000
     rw [List.length_take]
     have:(4:Int).toNat=4:=rfl
     omega
theorem xA {g:Int->Msg} (hg:∀ i,WFm (g i)):∀ x∈r.others g,WFm x.2:=fun x hx=>by
 unfold RS.others at hx
 obtain ⟨i,_,rfl⟩:=List.mem_map.1 hx
 exact hg i
theorem GQ (w:WL r.win.1):∀ x∈r.win.2,WFm x.2:=by
 unfold RS.win at w ⊢
 split
 ·exact fun x hx=>by cases hx
 ·rename_i c
  rw [if_neg c] at w
  exact xA fun i=>Bo w i
theorem WL.last (w:WL r):0<=r.log.last/\r.log.last < 18446744073709551616:=by
 have:=w.x0; have:=w.x1; unfold Lg.last; omega
theorem EC (w:WL r) (w':WL r.tick.1):∀ x∈r.tick.2,WFm x.2:=by
 unfold RS.tick at w' ⊢
 split
 ·exact xA fun i=>Bo (r:={ r with ticks:=r.ticks + 1 }) ⟨w.tm,w.cm,w.sn,w.x0,w.x1,w.t0,w.ok,w.sz⟩ i
 ·rename_i c1
  rw [if_neg c1] at w'
  split
  ·rename_i c2
   rw [if_pos c2] at w'
   unfold RS.dJ at w' ⊢
   split
   ·exact fun x hx=>by cases hx
   ·rename_i c3
    rw [if_neg c3] at w'
    intro x hx
    rcases List.mem_append.1 hx with hx | hx
    ·exact xA (fun i=>qx (xI _) w.last w.lastT) x hx
    ·exact GQ w' x hx
  ·exact fun x hx=>by cases hx
theorem one_wf {i:Int} {y:Msg} (h:WFm y):∀ x∈[((i,y):gQ)],WFm x.2:=fun x hx=>by simp at hx; subst hx; exact h
theorem CO (wt:0<=r.term/\r.term < 18446744073709551616) (wl:0<=r.log.last/\r.log.last < 18446744073709551616) (mt:0<=m.term/\m.term < 18446744073709551616) (mi:0<=m.index/\m.index < 18446744073709551616) (w':WL (r.take2 f m).1):∀ x∈(r.take2 f m).2,WFm x.2:=by
 have z:(0:Int)<=0/\(0:Int) < 18446744073709551616:=by omega
 unfold RS.take2 at w' ⊢
 split
 ·unfold RS.lv
  split
  ·exact one_wf (qx wt z z)
  ·exact one_wf (qx wt z z)
 rename_i c1
 rw [if_neg c1] at w'
 split
 ·rename_i c2
  rw [if_pos c2] at w'
  exact GQ w'
 rename_i c2
 rw [if_neg c2] at w'
 split
 ·rename_i c3
  rw [if_pos c3] at w'
  unfold RS.appends RS.mQ at w' ⊢
  split
  ·rename_i c4
   rw [if_pos c4] at w'
   have hl:(r.dZ f m).log=r.log:=by
    show (r.aK m.term).log=r.log
    unfold RS.aK; split <;> rfl
   refine one_wf (qx w'.tm ?_ z)
   rw [hl]; omega
  ·rename_i c4
   rw [if_neg c4] at w'
   exact one_wf (qx w'.tm xy z)
 rename_i c3
 rw [if_neg c3] at w'
 split
 ·rename_i c4
  rw [if_pos c4] at w'
  unfold RS.appended at w' ⊢
  split
  ·exact fun x hx=>by cases hx
  rename_i d1
  rw [if_neg d1] at w'
  split
  ·rename_i d2
   rw [if_pos d2] at w'
   exact one_wf (Bo w' _)
  rename_i d2
  rw [if_neg d2] at w'
  split
  ·exact fun x hx=>by cases hx
  rename_i d3
  rw [if_neg d3] at w'
  split
  ·rename_i d4
   rw [if_pos d4] at w'
   exact one_wf (Bo w' _)
  ·exact fun x hx=>by cases hx
 ·rename_i c4
  rw [if_neg c4] at w'
  unfold RS.dK at w' ⊢
  exact one_wf (qx w'.tm w'.cm z)
theorem JA (w:WL r) (wm:WFm m) (w':WL (r.take f m).1):∀ x∈(r.take f m).2,WFm x.2:=by
 have z:(0:Int)<=0/\(0:Int) < 18446744073709551616:=by omega
 unfold RS.take at w' ⊢
 split
 ·exact fun x hx=>by cases hx
 rename_i c1
 rw [if_neg c1] at w'
 split
 ·unfold RS.late
  split
  ·exact one_wf (qx w.tm z z)
  ·split
   ·exact one_wf (qx w.tm z z)
   ·exact fun x hx=>by cases hx
 rename_i c2
 rw [if_neg c2] at w'
 split
 ·rename_i c3
  rw [if_pos c3] at w'
  refine CO ?_ ?_ wm.t wm.i w'
  ·show 0<=(r.aK m.term).term/\(r.aK m.term).term < _
   unfold RS.aK; rw [if_pos c3]; exact wm.t
  ·show 0<=(r.aK m.term).log.last/\(r.aK m.term).log.last < _
   unfold RS.aK; rw [if_pos c3]; exact w.last
 ·rename_i c3
  rw [if_neg c3] at w'
  exact CO w.tm w.last wm.t wm.i w'
/-! ### what is to be kept fits -/
def Kpt (r:RS):Prop:=∀ k∈r.keeps,WFk k
theorem Kpt.of {r':RS} (h:Kpt r) (e:r'.keeps=r.keeps):Kpt r':=fun k hk=>h k (by rw [← e]; exact hk)
theorem Kpt.one {r':RS} {k:rZ} (h:Kpt r) (e:r'.keeps=r.keeps ++ [k]) (w:WFk k):Kpt r':=fun x hx=>by
 rw [e] at hx
 rcases List.mem_append.1 hx with hx | hx
 ·exact h x hx
 ·simp at hx; subst hx; exact w
theorem wk0 {a b c:Int} {s:List Int}:WFk ⟨a,b,c,0,[],s⟩:=⟨by show (0:Int)<=0/\(0:Int)<=_; omega,by show 0<=100000; omega⟩
theorem Kpt.aK (h:Kpt r) (t:Int):Kpt (r.aK t)/\(r.aK t).log=r.log:=by
 unfold RS.aK
 split
 ·exact ⟨h.one rfl wk0,rfl⟩
 ·exact ⟨h,rfl⟩
theorem Kpt.follow (h:Kpt r) (t l:Int):Kpt (r.follow t l):=(h.aK t).1.of rfl
theorem Kpt.dZ (h:Kpt r):Kpt (r.dZ f m):=(h.follow m.term f).of rfl
theorem Kpt.settle (h:Kpt r):Kpt r.settle:=by unfold RS.settle; split <;> exact h.of rfl
def lok (l:Lg):Prop:=0<=l.last/\l.last<=1000000000
theorem Kpt.put (h:Kpt r) (l:lok r.log) (cmd:List Int):Kpt (r.put cmd).1:=by
 unfold RS.put
 split
 ·exact h
 ·exact Kpt.settle (h.one rfl ⟨l,by show 1<=100000; omega⟩)
theorem Kpt.win (h:Kpt r) (l:lok r.log):Kpt r.win.1:=by
 unfold RS.win
 split
 ·exact h
 ·exact Kpt.put (h.of (r':=r.lead) rfl) l []
theorem Kpt.tick (h:Kpt r) (l:lok r.log):Kpt r.tick.1:=by
 unfold RS.tick
 split
 ·exact h.of rfl
 ·split
  ·unfold RS.dJ
   split
   ·exact h.of rfl
   ·exact Kpt.win (h.one rfl wk0) l
  ·exact h.of rfl
theorem Kpt.base (h:Kpt r) {x:Int} (hx:0<=x/\x<=1000000000) (t:Int) (sn:List Int):Kpt (r.base x t sn):=h.one rfl ⟨hx,by show 0<=100000; omega⟩
theorem Kpt.aI (h:Kpt r) (l:lok r.log) (cmd:List Int):Kpt (r.aI cmd).1:=by
 unfold RS.aI
 split
 ·exact h
 ·exact h.put l cmd
theorem Kpt.mU (h:Kpt r) {x:Int} (hx:0<=x/\x<=1000000000) (sn:List Int):Kpt (r.mU x sn).1:=by
 unfold RS.mU
 split
 ·exact h
 ·split
  ·exact h
  ·exact h.base hx _ sn
theorem zg (p0:0<=m.index) (bd:m.index + m.aM.length<=100000000) (z:m.aM.length<=1000):∀ (xs:List Ent) (i:Nat),i + xs.length=m.aM.length->WFk (r.nC m i xs)
 | [],i,_=>wk0
 | x :: xs,i,hi=>by
  simp at hi
  unfold RS.nC
  split
  ·exact zg p0 bd z xs (i + 1) (by omega)
  ·have e:W (W (m.index + i + 1) - 1)=m.index + i:=by
    unfold W
    rw [aY (x:=m.index + i + 1) (by omega) (by omega),aY (by omega) (by omega)]
    omega
   refine ⟨?_,by show (x :: xs).length<=_; simp; omega⟩
   show 0<=W (W (m.index + i + 1) - 1)/\W (W (m.index + i + 1) - 1)<=_
   rw [e]; omega
theorem Kpt.take2 (h:Kpt r) (l:lok r.log) (z:m.aM.length<=1000) (k3:m.kind=3->0<=m.index/\m.index + m.aM.length<=100000000) (k5:m.kind=5->0<=m.index/\m.index<=1000000000) (hk:1<=m.kind/\m.kind<=5):Kpt (r.take2 f m).1:=by
 unfold RS.take2
 split
 ·unfold RS.lv
  split
  ·dsimp only
   split
   ·exact h.one rfl wk0
   ·exact h.of rfl
  ·exact h
 split
 ·have c:Kpt (r.counted f m)/\(r.counted f m).log=r.log:=by
   unfold RS.counted
   split
   ·exact ⟨h.of rfl,rfl⟩
   ·exact ⟨h,rfl⟩
  exact c.1.win (by rw [c.2]; exact l)
 split
 ·rename_i c
  obtain ⟨p0,bd⟩:=k3 c
  unfold RS.appends RS.mQ
  split
  ·exact h.dZ
  ·unfold RS.Ae
   by_cases q:((r.dZ f m).fresh m).aM.length > 0
   ·exact (h.dZ (f:=f) (m:=m)).one (k:=(r.dZ f m).fresh m) (by dsimp only; rw [if_pos q]) (zg p0 bd z m.aM 0 (by omega))
   ·exact (h.dZ (f:=f) (m:=m)).of (by dsimp only; rw [if_neg q])
 split
 ·unfold RS.appended
  split
  ·exact h
  split
  ·exact h.of rfl
  split
  ·exact h
  split
  ·exact Kpt.settle (h.of rfl)
  ·exact Kpt.settle (h.of rfl)
 ·unfold RS.dK RS.lV
  dsimp only
  split
  ·exact (h.dZ.base (k5 (by omega)) m.logTerm m.aQ).of rfl
  ·exact h.dZ
theorem Kpt.take (h:Kpt r) (l:lok r.log) (z:m.aM.length<=1000) (k3:m.kind=3->0<=m.index/\m.index + m.aM.length<=100000000) (k5:m.kind=5->0<=m.index/\m.index<=1000000000):Kpt (r.take f m).1:=by
 unfold RS.take
 split
 ·exact h
 rename_i c
 split
 ·exact h
 split
 ·exact (h.follow m.term (-1)).take2 (by show lok (r.aK m.term).log; rw [(h.aK m.term).2]; exact l) z k3 k5 (by omega)
 ·exact h.take2 l z k3 k5 (by omega)
end
end Go.Q.Yi
end
section
/- The document's example: a node alone. -/
namespace Go.Q.Yi
open Rf
def sK:Nat->RS
 | 0=>RS.start 0 1 0 0 ⟨0,0,[]⟩ []
 | n + 1=>(sK n).tick.1
def xw:RS:=((sK 10).aI [120]).1
theorem Co:(List.range 10).all (fun n=>(sK n).role != 2 && (sK n).role != 1 && decide ((sK n).keeps.length < 100) && decide ((sK n).ticks < 1000))=true:=by decide +kernel
theorem A8:(sK 10).role=2/\(sK 10).keeps.length < 100/\((sK 10).aI [120]).2=(2,0)/\xw.entry 2=((1,[120]),0)/\xw.role=2/\xw.leader=0/\xw.commit=2/\xw.term=1:=by decide +kernel
theorem Res.ge {O:bz} {h0 h h':Heap} {L L':RLy} {r r':RS} (q:Res O h L r' h' L') (R:aC O h L r) (hO:∀ g,O g->h0.size<=g) (hz:h0.size<=h.size):∀ g,G O L' g->h0.size<=g:=fun g hg=>hg.elim (hO g) fun h1=>(q.F g h1).elim (fun h2=>hO g (R.ow g h2)) fun h2=>by omega
theorem Res.X {O:bz} {h0 h h':Heap} {L L':RLy} {r r':RS} (q:Res O h L r' h' L') (R:aC O h L r) (hO:∀ g,O g->h0.size<=g) (hz:h0.size<=h.size):Ext h0.size h h':=q.S.ext (fun g hg=>hO g (R.ow g hg)) hz
theorem FY {k:KP (Option Addr)} {h:Heap} (H:∀ O L h',aC O h' L (sK 10)->(∀ g,O g->h.size<=g)->Ext h.size h h'->k (some ⟨L.b,0,none⟩) h'):rR k h:=by
 unfold rR
 refine vD (l:=⟨0,0,[]⟩) (aQ:=[]) (by omega) (by omega) (by omega) (by omega) (.inl ⟨rfl,rfl⟩) (pJ h) rfl vX (by simp) fun L0 h1 M1 o1 X1=>?_
 have M1:=M1 (fun _=>False) fun _ h=>h.elim
 unfold uI
 refine ⟨fun i h'=>∃ n:Nat,i=n/\n<=10/\∃ O L,L.b=L0.b/\aC O h' L (sK n)/\(∀ g,O g->h.size<=g)/\Ext h.size h h',fun i _=>(20 - i).toNat,⟨0,rfl,by omega,_,L0,rfl,M1,fun g hg=>hg.elim (fun h=>h.elim) (o1 g),X1⟩,?_⟩
 rintro i h2 ⟨n,rfl,hn,O,L,eb,M,oO,X⟩
 have z:=X.size
 unfold ui
 rw [if_pos (by simp; omega),← eb]
 refine uD M ?_
 by_cases h10:n=10
 ·subst h10
  rw [A8.1]
  show jF _ _ false _ _ _
  unfold jF
  rw [if_neg (by simp)]
  exact H O L h2 M oO X
 ·have f:=List.all_eq_true.1 Co n (by simp; omega)
  simp only [Bool.and_eq_true,bne_iff_ne,ne_eq,decide_eq_true_eq] at f
  obtain ⟨⟨⟨f1,f2⟩,f3⟩,f4⟩:=f
  show jF _ _ (!((sK n).role == 2)) _ _ _
  rw [show (!((sK n).role == 2))=true from by simpa using f1]
  unfold jF
  rw [if_pos rfl]
  refine Bt M (by omega) (by omega) fun s h3 L3 q Ml sb=>?_
  rw [az (by omega) (by omega)]
  have z3:=q.S.size
  exact ⟨_,rfl,⟨n + 1,by omega,by omega,_,L3,q.b,q.R,q.ge M oO z,X.trans (q.X M oO z)⟩,by dsimp only; omega⟩
theorem D5 {k:KP Bool} {h:Heap} (H:∀ h',Ext h.size h h'->k true h'):rV k h:=by
 obtain ⟨f1,f2,f3,f4,f5,f6,f7,f8⟩:=A8
 unfold rV
 refine FY fun O L h2 M oO X=>?_
 have z2:=X.size
 refine ⟨_,_,rfl,rfl,_,rfl,?_⟩
 have X3:=Ext.push h2 (.cells ([.int .u8 120]:List Value).toArray 5 (1,2)) (Nat.le_refl _)
 have B3:=Blk.JY h2 [.int .u8 120] 5 (lo:=1) (hi:=2) (Nat.le_refl _)
 have M3:=M.ext X3
 generalize h2.push (.cells ([.int .u8 120]:List Value).toArray 5 (1,2))=h3 at *
 have z3:=X3.size
 refine vE (cmd:=[120]) M3 (by omega) (B3.slc (o:=0) (n:=1) rfl) rfl (fun b hb=>by simp at hb; omega) (by simp) fun h4 L4 q4=>?_
 have M4:=q4.R
 change aC (G O L4) h4 L4 xw at M4
 rw [f3]
 have o4:=q4.ge M3 oO (by omega)
 have X4:=q4.X M3 oO (by omega)
 have z4:=X4.size
 rw [← q4.b]
 refine yS (p:=2) M4 (by omega) fun v h5 v1 v2 X5=>?_
 rw [f4] at v1 v2 ⊢
 have M5:=M4.ext X5
 have z5:=X5.size
 refine ⟨_,_,rfl,rfl,?_⟩
 have P0:=Blk.push h5 (ae.cs ⟨0,⟨none,0,0⟩⟩) 65
 have P1:=P0.jZ (vs:=ae.cs v) rfl
 have X6:Ext h5.size h5 (aU (h5.push (.cells (ae.cs ⟨0,⟨none,0,0⟩⟩).toArray 65)) ⟨h5.size,0,none⟩ 0 (ae.cs v)):=(Ext.push h5 _ (Nat.le_refl _)).trans (Ext.sets _ _ _ (Nat.le_refl _))
 refine ⟨_,dE.eQ P0 (by show 2<=2; omega),rfl,?_⟩
 generalize aU (h5.push (.cells (ae.cs ⟨0,⟨none,0,0⟩⟩).toArray 65)) ⟨h5.size,0,none⟩ 0 (ae.cs v)=h6 at *
 have M6:=M5.ext X6
 have R6:=v2.ext X6 fun g hg=>(v2.bd hg).2
 have z6:=X6.size
 refine uD M6 ?_
 rw [f5,if_pos (by simp)]
 refine FM M6 ?_
 rw [f6]
 unfold oK
 rw [if_pos (by simp)]
 refine o9 M6 ?_
 rw [f7]
 unfold oP
 rw [if_pos (by simp)]
 refine ⟨v.oH,by rw [P1.get]; rfl,[120],by have:=R6.len; simp at this; simp; omega,R6.slc,?_⟩
 unfold oN
 rw [if_pos (by decide +kernel)]
 refine sF M6 ?_
 rw [f8]
 unfold oV
 exact H h6 (X.trans ((X3.mono z2).trans (X4.trans ((X5.mono (by omega)).trans (X6.mono (by omega))))))
end Go.Q.Yi
end
section
/- All the members, the letters, what was known, who led: in memory. -/
namespace Go.Q.Yi
open Rf
theorem aC.move {O O' S:bz} {h h':Heap} {L:RLy} {r:RS} (R:aC O h L r) (p:Stp S h h') (hS:∀ g,S g->O g∨h.size<=g) (hd:∀ g,own L g->¬ S g) (hO:∀ g,O' g->O g∨h.size<=g) (hw:∀ g,own L g->O' g) (ob:∀ g,O' g->g < h'.size):aC O' h' L r:=by
 have P:=R.p.stp p hS (hd _ (.inr (.inl rfl))) (fun g hg=>hd g (.inr (.inr (.inl hg)))) (fun g hg=>hd g (.inr (.inr (.inr (.inl hg))))) (fun g hg=>hd g (.inr (.inr (.inr (.inr (.inl hg)))))) (fun g hg=>hd g (.inr (.inr (.inr (.inr (.inr (.inl hg))))))) fun g hg=>hd g (.inr (.inr (.inr (.inr (.inr (.inr hg))))))
 obtain ⟨ks,K,I⟩:=R.p.kp
 obtain ⟨vs,Re,Ie⟩:=R.p.l.r
 refine ⟨p.blk R.k (hd _ (.inl rfl)),⟨?_,R.p.sn.step (p.mono hS) hO,P.sl,P.nx,P.hs,P.dj,⟨ks,p.row K fun g hg=>hd g (.inr (.inr (.inr (.inr (.inr (.inl hg)))))),I.step (p.mono hS) hO⟩,P.bl⟩,hw,ob,R.wf⟩
 exact ⟨P.l.k,⟨vs,p.row Re fun g hg=>hd g (.inr (.inr (.inl hg))),Ie.step (p.mono hS) hO⟩,hw _ (.inr (.inl rfl)),fun g hg=>hw g (.inr (.inr (.inl hg))),P.l.x0,P.l.x1,P.l.t0,P.l.ok,P.l.sz⟩
structure MLy where
 w:Nat
 m:Slc
 lt:Slc
 kn:Slc
 ld:Slc
 rs:Int->RLy
 ss:Int->SLy
def mbs (n:Int) (M:MLy):List ax:=(List.range n.toNat).map fun (i:Nat)=>⟨some ⟨(M.rs i).b,0,none⟩,some ⟨(M.ss i).b,0,none⟩⟩
def ins (l:List Int):List Value:=l.map (Value.int .i64)
def CW (O:bz) (h:Heap) (s:Slc) (l:List Let):Prop:=∃ ls:List ai,Row 0 h 109 10 s (ls.flatMap ai.cs)/\ls.length=l.length/\∀ (i:Nat) v x,ls[i]? = some v->l[i]? = some x->v.uw=x.1/\v.Dt=x.2.1/\Imm O h fun h=>uE h v.f_M x.2.2
def KnI (O:bz) (h:Heap) (s:Slc) (l:List Ent):Prop:=∃ vs:List ae,Row 0 h 65 2 s (ecs vs)/\vs.length=l.length/\∀ (i:Nat) v x,vs[i]? = some v->l[i]? = some x->Imm O h fun h=>ry h v x
def In (n i:Int):Prop:=0<=i/\i < n
def wcs (M:MLy):List Value:=bJ.cs ⟨M.m,M.lt,M.kn,M.ld,false⟩
/-- the blocks of the world's own rows -/
structure Own (n:Int) (O:bz) (M:MLy):Prop where
 w:O M.w
 m:∀ g,M.m.blk=some g->O g
 l:∀ g,M.lt.blk=some g->O g
 k:∀ g,M.kn.blk=some g->O g
 d:∀ g,M.ld.blk=some g->O g
/-- what must stay whatever the world does -/
class QC where
 Q:Heap->Prop
structure WAt [QC] (n:Int) (O:bz) (h:Heap) (M:MLy) (R:Int->RS) (S:Int->SS) (Ls:List Let) (kn:List Ent) (ld:List Int):Prop where
 n1:1<=n/\n<=32
 w:Blk h M.w (wcs M) 56
 m:Row 0 h 60 2 M.m ((mbs n M).flatMap ax.cs)
 r:∀ i,In n i->aC O h (M.rs i) (R i)
 rd:∀ i j,In n i->In n j->i≠j->∀ g,own (M.rs i) g->¬ own (M.rs j) g
 s:∀ i,In n i->oI O h (M.ss i) (S i)
 sd:∀ i j,In n i->In n j->i≠j->∀ g,pQ (M.ss i) g->¬ pQ (M.ss j) g
 l:CW O h M.lt Ls
 k:KnI O h M.kn kn
 kd:∀ i,In n i->∀ g,M.kn.blk=some g->¬ own (M.rs i) g
 d:Row 0 h 3 1 M.ld (ins ld)
 ow:Own n O M
 ob:∀ g,O g->g < h.size
 im:Imm O h QC.Q
theorem CW.move {O O' X:bz} {h h':Heap} {s:Slc} {l:List Let} (A:CW O h s l) (p:Stp X h h') (hX:∀ g,X g->O g∨h.size<=g) (hO:∀ g,O' g->O g∨h.size<=g) (hd:∀ g,s.blk=some g->¬ X g):CW O' h' s l:=by
 obtain ⟨ls,R,e,I⟩:=A
 exact ⟨ls,p.row R hd,e,fun i v x hv hx=>⟨(I i v x hv hx).1,(I i v x hv hx).2.1,(I i v x hv hx).2.2.step (p.mono hX) hO⟩⟩
theorem KnI.move {O O' X:bz} {h h':Heap} {s:Slc} {l:List Ent} (A:KnI O h s l) (p:Stp X h h') (hX:∀ g,X g->O g∨h.size<=g) (hO:∀ g,O' g->O g∨h.size<=g) (hd:∀ g,s.blk=some g->¬ X g):KnI O' h' s l:=by
 obtain ⟨vs,R,e,I⟩:=A
 exact ⟨vs,p.row R hd,e,fun i v x hv hx=>(I i v x hv hx).step (p.mono hX) hO⟩
theorem vR {O:bz} {h:Heap} {L:SLy} {s:SS} (A:oI O h L s) {g:Nat} (hg:pQ L g):∃ cs E,Blk h g cs E/\(E=73∨E=75):=by
 rcases hg with rfl | rfl
 ·exact ⟨_,_,A.k,.inl rfl⟩
 ·exact ⟨_,_,A.l.k,.inr rfl⟩
section
variable [QC] {n:Int} {O O' X:bz} {h h':Heap} {M:MLy} {R:Int->RS} {S:Int->SS} {Ls:List Let} {kn:List Ent} {ld:List Int} {i:Int}
theorem oI.own (A:oI O h (M.ss i) (S i)):∀ g,pQ (M.ss i) g->O g:=fun g hg=>hg.elim (fun e=>by subst e; exact A.ob) fun e=>by subst e; exact A.l.ob
/-- a row's block isn't a member's -/
theorem WAt.nr (W:WAt n O h M R S Ls kn ld) (hi:In n i) {B E w:Nat} {s:Slc} {xs:List Value} (T:Row B h E w s xs) (hE:E≠94/\E≠117/\E≠65/\E≠22/\E≠107/\E≠123):∀ g,s.blk=some g->¬ own (M.rs i) g:=fun g hg=>by
 obtain ⟨cs,K⟩:=T.Cw hg
 exact (W.r i hi).nH K hE
theorem WAt.nsr (W:WAt n O h M R S Ls kn ld) {j:Int} (hi:In n i) (hj:In n j):∀ g,pQ (M.ss j) g->¬ own (M.rs i) g:=fun g hg=>by
 obtain ⟨cs,E,K,hE⟩:=vR (W.s j hj) hg
 refine (W.r i hi).nH K ?_
 rcases hE with rfl | rfl <;> decide
theorem WAt.vT (W:WAt n O h M R S Ls kn ld) (hi:In n i) {B E w:Nat} {s:Slc} {xs:List Value} (T:Row B h E w s xs) (hE:E≠73/\E≠75):∀ g,s.blk=some g->¬ pQ (M.ss i) g:=fun g hg hs=>by
 obtain ⟨cs,E',K,hE'⟩:=vR (W.s i hi) hs
 refine T.aZ K ?_ hg
 rcases hE' with rfl | rfl
 ·exact hE.1
 ·exact hE.2
theorem WAt.nw (W:WAt n O h M R S Ls kn ld) (hi:In n i):¬ own (M.rs i) M.w:=(W.r i hi).nH W.w (by decide)
theorem WAt.nws (W:WAt n O h M R S Ls kn ld) (hi:In n i):¬ pQ (M.ss i) M.w:=fun hs=>by
 obtain ⟨cs,E',K,hE'⟩:=vR (W.s i hi) hs
 have:=(K.inj W.w).2
 rcases hE' with rfl | rfl <;> exact absurd this (by decide)
theorem WAt.ext (W:WAt n O h M R S Ls kn ld) (p:Ext h.size h h'):WAt n O h' M R S Ls kn ld:=by
 have q:Stp (fun _=>False) h h':=.bu p
 have ob:∀ g,O g->g < h'.size:=fun g hg=>by have:=W.ob g hg; have:=p.size; omega
 exact ⟨W.n1,q.blk W.w fun h=>h,q.row W.m fun _ _ h=>h,fun i hi=>(W.r i hi).ext p,W.rd,fun i hi=>(W.s i hi).ext p,W.sd,W.l.move q (fun _ h=>h.elim) (fun _ h=>.inl h) fun _ _ h=>h,W.k.move q (fun _ h=>h.elim) (fun _ h=>.inl h) fun _ _ h=>h,W.kd,q.row W.d fun _ _ h=>h,W.ow,ob,W.im.ext p⟩
def Ab (M:MLy) (i:Int) (L:RLy):MLy:={ M with rs:=fun k=>if k=i then L else M.rs k }
def sets (M:MLy) (i:Int) (L:SLy):MLy:={ M with ss:=fun k=>if k=i then L else M.ss k }
theorem lX {L:RLy}:(Ab M i L).rs i=L:=if_pos rfl
theorem iO {L:RLy} {j:Int} (h:j≠i):(Ab M i L).rs j=M.rs j:=if_neg h
theorem u6 {L:SLy}:(sets M i L).ss i=L:=if_pos rfl
theorem rG {L:SLy} {j:Int} (h:j≠i):(sets M i L).ss j=M.ss j:=if_neg h
theorem GV {L:RLy} (e:L.b=(M.rs i).b):mbs n (Ab M i L)=mbs n M:=by
 unfold mbs
 refine List.map_congr_left fun j _=>?_
 by_cases c:(j:Int)=i
 ·rw [← c] at e ⊢
  rw [lX,e]; rfl
 ·rw [iO c]; rfl
theorem Ib {L:SLy} (e:L.b=(M.ss i).b):mbs n (sets M i L)=mbs n M:=by
 unfold mbs
 refine List.map_congr_left fun j _=>?_
 by_cases c:(j:Int)=i
 ·rw [← c] at e ⊢
  rw [u6,e]; rfl
 ·rw [rG c]; rfl
/-- a member acts -/
theorem WAt.act (W:WAt n O h M R S Ls kn ld) (hi:In n i) {r':RS} {L':RLy} (q:Res O h (M.rs i) r' h' L'):WAt n (G O L') h' (Ab M i L') (upd R i r') S Ls kn ld:=by
 have Ri:=W.r i hi
 have p:=q.S
 have hX:∀ g,own (M.rs i) g->O g∨h.size<=g:=fun g hg=>.inl (Ri.ow g hg)
 have hO:∀ g,G O L' g->O g∨h.size<=g:=fun g hg=>hg.elim .inl fun h1=>(q.F g h1).elim (fun h2=>.inl (Ri.ow g h2)) .inr
 have fr:∀ g,own L' g->g < h.size->own (M.rs i) g:=fun g hg hl=>(q.F g hg).elim id fun h2=>by omega
 have hw:∀ g,O g->G O L' g:=fun g hg=>.inl hg
 have ow:=W.ow
 refine ⟨W.n1,p.blk W.w (W.nw hi),?_,fun j hj=>?_,fun j k hj hk hn g h1 h2=>?_,fun j hj=>?_,W.sd,W.l.move p hX hO (by obtain ⟨_,T,_⟩:=W.l; exact W.nr hi T (by decide)),W.k.move p hX hO (W.kd i hi),fun j hj g hg h1=>?_,p.row W.d (W.nr hi W.d (by decide)),⟨hw _ ow.w,fun g hg=>hw g (ow.m g hg),fun g hg=>hw g (ow.l g hg),fun g hg=>hw g (ow.k g hg),fun g hg=>hw g (ow.d g hg)⟩,q.R.ob,W.im.step (p.mono hX) hO⟩
 ·rw [GV q.b]; exact p.row W.m (W.nr hi W.m (by decide))
 ·by_cases c:j=i
  ·subst c; rw [lX,upd_same]; exact q.R
  ·rw [iO c,aL c]
   exact (W.r j hj).move p hX (W.rd j i hj hi c) hO (fun g hg=>hw g ((W.r j hj).ow g hg)) q.R.ob
 ·by_cases c:j=i
  ·subst c
   have ck:k≠j:=fun e=>hn e.symm
   rw [lX] at h1; rw [iO ck] at h2
   exact W.rd j k hj hk hn g (fr g h1 ((W.r k hk).ob' h2)) h2
  ·rw [iO c] at h1
   by_cases ck:k=i
   ·subst ck
    rw [lX] at h2
    exact W.rd j k hj hk hn g h1 (fr g h2 ((W.r j hj).ob' h1))
   ·rw [iO ck] at h2
    exact W.rd j k hj hk hn g h1 h2
 ·exact (W.s j hj).move p hX (W.nsr hi hj) hO fun g hg=>hw g ((W.s j hj).own g hg)
 ·by_cases c:j=i
  ·subst c
   rw [lX] at h1
   exact W.kd j hj g hg (fr g h1 (W.ob g (ow.k g hg)))
  ·rw [iO c] at h1
   exact W.kd j hj g hg h1
/-- something is stored -/
theorem WAt.keep (W:WAt n O h M R S Ls kn ld) (hi:In n i) {s':SS} {L':SLy} (A:oI (fun g=>O g∨g=L'.lb) h' L' s') (eb:L'.b=(M.ss i).b) (el:L'.lb=(M.ss i).lb∨h.size<=L'.lb) (ll:L'.lb < h'.size) (p:Stp (pQ (M.ss i)) h h'):WAt n (fun g=>O g∨g=L'.lb) h' (sets M i L') R (vP S i s') Ls kn ld:=by
 have Si:=W.s i hi
 have hX:∀ g,pQ (M.ss i) g->O g∨h.size<=g:=fun g hg=>.inl (Si.own g hg)
 have hO:∀ g,(O g∨g=L'.lb)->O g∨h.size<=g:=fun g hg=>hg.elim .inl fun e=>by
  subst e
  exact el.elim (fun e=>.inl (by rw [e]; exact Si.l.ob)) .inr
 have fr:∀ g,pQ L' g->g < h.size->pQ (M.ss i) g:=fun g hg hl=>by
  rcases hg with hg | hg
  ·exact .inl (hg.trans eb)
  ·rcases el with el | el
   ·exact .inr (hg.trans el)
   ·omega
 have hw:∀ g,O g->O g∨g=L'.lb:=fun g hg=>.inl hg
 have ob:∀ g,(O g∨g=L'.lb)->g < h'.size:=fun g hg=>hg.elim (fun hg=>by have:=W.ob g hg; have:=p.size; omega) fun e=>by omega
 have ow:=W.ow
 have sb:∀ j,In n j->∀ g,pQ (M.ss j) g->g < h.size:=fun j hj g hg=>W.ob g ((W.s j hj).own g hg)
 obtain ⟨_,TL,_⟩:=W.l
 obtain ⟨_,TK,_⟩:=W.k
 refine ⟨W.n1,p.blk W.w (W.nws hi),?_,fun j hj=>?_,W.rd,fun j hj=>?_,fun j k hj hk hn g h1 h2=>?_,W.l.move p hX hO (W.vT hi TL (by decide)),W.k.move p hX hO (W.vT hi TK (by decide)),W.kd,p.row W.d (W.vT hi W.d (by decide)),⟨hw _ ow.w,fun g hg=>hw g (ow.m g hg),fun g hg=>hw g (ow.l g hg),fun g hg=>hw g (ow.k g hg),fun g hg=>hw g (ow.d g hg)⟩,ob,W.im.step (p.mono hX) hO⟩
 ·rw [Ib eb]; exact p.row W.m (W.vT hi W.m (by decide))
 ·exact (W.r j hj).move p hX (fun g h1 h2=>W.nsr hj hi g h2 h1) hO (fun g hg=>hw g ((W.r j hj).ow g hg)) ob
 ·unfold vP
  by_cases c:j=i
  ·subst c; rw [u6,if_pos rfl]; exact A
  ·rw [rG c,if_neg c]
   exact (W.s j hj).move p hX (W.sd j i hj hi c) hO fun g hg=>hw g ((W.s j hj).own g hg)
 ·by_cases c:j=i
  ·subst c
   have ck:k≠j:=fun e=>hn e.symm
   rw [u6] at h1; rw [rG ck] at h2
   exact W.sd j k hj hk hn g (fr g h1 (sb k hk g h2)) h2
  ·rw [rG c] at h1
   by_cases ck:k=i
   ·subst ck
    rw [u6] at h2
    exact W.sd j k hj hk hn g h1 (fr g h2 (sb j hj g h1))
   ·rw [rG ck] at h2
    exact W.sd j k hj hk hn g h1 h2
end
end Go.Q.Yi
end
section
/- The world's rows: what is put behind, what is written. -/
namespace Go.Q.Yi
open Rf
theorem JH {p0 p1:Slc} {l m:List Int} {k:KP Bool} {h:Heap} (h0:SlcAt h p0 (b8 l)) (l0:p0.len=l.length) (h1:SlcAt h p1 (b8 m)) (l1:p1.len=m.length) (hb:l.length<=4611686018427387904) (H:k (decide (l=m)) h):sU p0 p1 k h:=by
 unfold sU
 by_cases hlm:l.length=m.length
 ·rw [if_neg (by simp [l0,l1,hlm])]
  refine ⟨fun i h'=>0<=i/\i<=l.length/\l.take i.toNat=m.take i.toNat/\h'=h,fun i _=>(l.length - i).toNat,⟨by omega,by omega,by simp,rfl⟩,?_⟩
  rintro i h' ⟨i0,i1,he,rfl⟩
  unfold um
  by_cases hi:i < l.length
  ·rw [if_pos (by simp [l0]; omega)]
   have n0:p0.a≠none:=fun hn=>by have:=h0.1 hn; simp at this; simp [this] at hi; omega
   have n1:p1.a≠none:=fun hn=>by have:=h1.1 hn; simp at this; simp [this] at hlm; simp [hlm] at hi; omega
   obtain ⟨a,ha⟩:=Option.ne_none_iff_exists'.1 n0
   obtain ⟨b,hb'⟩:=Option.ne_none_iff_exists'.1 n1
   have hla:i.toNat < l.length:=by omega
   have hma:i.toNat < m.length:=by omega
   refine ⟨a,ha,i0,by omega,l[i.toNat],?_,b,hb',i0,by omega,m[i.toNat],?_,?_⟩
   ·rw [Nat.mul_one]; exact h0.2 a ha i.toNat _ (by simp [hla])
   ·rw [Nat.mul_one]; exact h1.2 b hb' i.toNat _ (by simp [hma])
   ·by_cases hv:l[i.toNat]=m[i.toNat]
    ·rw [if_neg (by simp [hv]),az (by omega) (by omega)]
     refine ⟨_,rfl,⟨by omega,by omega,?_,rfl⟩,by dsimp only; omega⟩
     rw [show (i + 1).toNat=i.toNat + 1 from by omega,List.take_succ_eq_append_getElem hla,List.take_succ_eq_append_getElem hma,he,hv]
    ·rw [if_pos (by simpa using hv)]
     have:decide (l=m)=false:=by
      rw [decide_eq_false_iff_not]
      rintro rfl
      exact hv rfl
     rw [← this]; exact H
  ·rw [if_neg (by simp [l0]; omega)]
   have:l=m:=by
    have e1:l.take i.toNat=l:=List.take_of_length_le (by omega)
    have e2:m.take i.toNat=m:=List.take_of_length_le (by omega)
    rw [e1,e2] at he; exact he
   simpa [this] using H
 ·rw [if_pos (by simp [l0,l1]; omega)]
  have:decide (l=m)=false:=by rw [decide_eq_false_iff_not]; rintro rfl; exact hlm rfl
  rw [← this]; exact H
theorem Jy {x:Int} {n:Nat} {k:KP Int} {h:Heap} (n0:1<=n) (n1:n<=1000000) (H:∀ r:Int,0<=r->r < n->k r h):mM x n k h:=by
 unfold mM qb
 rw [if_neg (by simp; omega)]
 have h1:-(n:Int) < x.tmod n/\x.tmod n < n:=by
  refine ⟨?_,Int.tmod_lt_of_pos x (by omega)⟩
  have:=Int.tmod_lt_of_pos (-x) (b:=n) (by omega)
  rw [Int.neg_tmod] at this; omega
 refine ⟨by omega,_,rfl,?_⟩
 by_cases hx:x.tmod n < 0
 ·rw [if_pos (by simpa using hx)]
  refine ⟨_,rfl,?_⟩
  rw [az (by omega) (by omega)]
  exact H _ (by omega) (by omega)
 ·rw [if_neg (by simpa using hx)]
  exact H _ (by omega) (by omega)
/-- a step of the world's own -/
structure Go (O:bz) (h:Heap) (O':bz) (h':Heap):Prop where
 p:Stp O h h'
 o:∀ g,O' g->O g∨h.size<=g
 w:∀ g,O g->O' g
theorem Go.imm {O O':bz} {h h':Heap} {p:Heap->Prop} (a:Go O h O' h') (I:Imm O h p):Imm O' h' p:=I.step a.p a.o
section
variable [QC] {n:Int} {O O' X:bz} {h h':Heap} {M:MLy} {R:Int->RS} {S:Int->SS} {Ls:List Let} {kn:List Ent} {ld:List Int} {i:Int}
theorem WAt.c (W:WAt n O h M R S Ls kn ld) (j:Nat):af h ((⟨M.w,0,none⟩:Addr).add j)=(wcs M)[j]?:=W.w.get j
theorem WAt.c0 (W:WAt n O h M R S Ls kn ld):af h ⟨M.w,0,none⟩=some (Slc.v M.m):=W.w.cell
theorem WAt.ml (W:WAt n O h M R S Ls kn ld):(M.m.len:Int)=n:=by
 have:=W.m.1
 have e:((mbs n M).flatMap ax.cs).length=(mbs n M).length * 2:=rW (w:=2) (fun _=>rfl) _
 have e2:(mbs n M).length=n.toNat:=by simp [mbs]
 have:=W.n1
 omega
/-- a member's pointers -/
theorem WAt.mr (W:WAt n O h M R S Ls kn ld) (hi:In n i):∃ a:Addr,M.m.a=some a/\(0:Int)<=i/\i < (M.m.len:Int)/\af h (a.add (i.toNat * 2))=some (.pointer (some ⟨(M.rs i).b,0,none⟩))/\af h ((a.add (i.toNat * 2)).add 1)=some (.pointer (some ⟨(M.ss i).b,0,none⟩)):=by
 have hm:(mbs n M)[i.toNat]? = some ⟨some ⟨(M.rs i).b,0,none⟩,some ⟨(M.ss i).b,0,none⟩⟩:=by
  unfold mbs
  have:=hi.1; have:=hi.2
  rw [List.getElem?_map,List.getElem?_range (by omega)]
  simp only [Option.map_some]
  rw [show ((i.toNat:Nat):Int)=i from by omega]
 have ml:=W.ml
 have L:=LsAt.tJ (cs:=ax.cs) (w:=2) (fun _=>rfl) W.m.slc (by simp [mbs]; have:=W.n1; omega) (by decide)
 obtain ⟨a,ha,c⟩:=L.at' _ _ hm
 refine ⟨a,ha,hi.1,by rw [ml]; exact hi.2,?_,c 1 _ rfl⟩
 have:=c 0 (.pointer (some ⟨(M.rs i).b,0,none⟩)) rfl
 rwa [fI,Nat.add_zero] at this
/-- something is done to the world's rows alone -/
theorem WAt.rows (W:WAt n O h M R S Ls kn ld) {M':MLy} {Ls':List Let} {kn':List Ent} {ld':List Int} (p:Stp X h h') (hX:∀ g,X g->g=M.w∨M.lt.blk=some g∨M.kn.blk=some g∨M.ld.blk=some g)
  (e:M'.w=M.w/\M'.m=M.m/\M'.rs=M.rs/\M'.ss=M.ss) (hO:∀ g,O' g->O g∨h.size<=g) (hw:∀ g,O g->O' g) (ob:∀ g,O' g->g < h'.size) (K:Blk h' M.w (wcs M') 56)
  (l:CW O' h' M'.lt Ls') (k:KnI O' h' M'.kn kn') (kb:∀ g,M'.kn.blk=some g->M.kn.blk=some g∨h.size<=g) (d:Row 0 h' 3 1 M'.ld (ins ld')) (ow:Own n O' M'):WAt n O' h' M' R S Ls' kn' ld':=by
 obtain ⟨e1,e2,e3,e4⟩:=e
 obtain ⟨_,TL,_⟩:=W.l
 obtain ⟨_,TK,_⟩:=W.k
 have XO:∀ g,X g->O g∨h.size<=g:=fun g hg=>by
  rcases hX g hg with rfl | hg | hg | hg
  ·exact .inl W.ow.w
  ·exact .inl (W.ow.l g hg)
  ·exact .inl (W.ow.k g hg)
  ·exact .inl (W.ow.d g hg)
 have nr:∀ i,In n i->∀ g,own (M.rs i) g->¬ X g:=fun i hi g h1 hg=>by
  rcases hX g hg with rfl | hg | hg | hg
  ·exact W.nw hi h1
  ·exact W.nr hi TL (by decide) g hg h1
  ·exact W.kd i hi g hg h1
  ·exact W.nr hi W.d (by decide) g hg h1
 have ns:∀ i,In n i->∀ g,pQ (M.ss i) g->¬ X g:=fun i hi g h1 hg=>by
  rcases hX g hg with rfl | hg | hg | hg
  ·exact W.nws hi h1
  ·exact W.vT hi TL (by decide) g hg h1
  ·exact W.vT hi TK (by decide) g hg h1
  ·exact W.vT hi W.d (by decide) g hg h1
 have mbe:mbs n M'=mbs n M:=by unfold mbs; rw [e3,e4]
 refine ⟨W.n1,by rw [e1]; exact K,?_,fun i hi=>?_,by rw [e3]; exact W.rd,fun i hi=>?_,by rw [e4]; exact W.sd,l,k,fun i hi g hg h1=>?_,d,ow,ob,W.im.step (p.mono XO) hO⟩
 ·rw [e2,mbe]
  refine p.row W.m fun g hg h1=>?_
  rcases hX g h1 with rfl | h1 | h1 | h1
  ·exact W.m.aZ W.w (by decide) hg
  ·exact W.m.rA TL (by decide) hg h1
  ·exact W.m.rA TK (by decide) hg h1
  ·exact W.m.rA W.d (by decide) hg h1
 ·rw [e3]; exact (W.r i hi).move p XO (nr i hi) hO (fun g hg=>hw g ((W.r i hi).ow g hg)) ob
 ·rw [e4]; exact (W.s i hi).move p XO (ns i hi) hO fun g hg=>hw g ((W.s i hi).own g hg)
 ·rw [e3] at h1
  rcases kb g hg with h2 | h2
  ·exact W.kd i hi g h2 h1
  ·have:=(W.r i hi).ob' h1; omega
/-! letters -/
theorem CW.len {s:Slc} {l:List Let} (A:CW O h s l):s.len=l.length:=by
 obtain ⟨ls,T,e,_⟩:=A
 have:=T.1
 have e2:(ls.flatMap ai.cs).length=ls.length * 10:=rW (w:=10) (fun _=>rfl) _
 omega
theorem KnI.len {s:Slc} {l:List Ent} (A:KnI O h s l):s.len=l.length:=by
 obtain ⟨ls,T,e,_⟩:=A
 have:=T.1
 rw [jV] at this
 omega
theorem GL (W:WAt n O h M R S Ls kn ld) {s':Slc} {Ls':List Let} {h1:Heap} {k:Heap->Prop} (p:Stp (fun g=>M.lt.blk=some g) h h1) (sb:∀ g,s'.blk=some g->M.lt.blk=some g∨h.size<=g) (A:CW (OB O s') h1 s' Ls') (hb:∀ g,s'.blk=some g->g < h1.size)
  (H:∀ O' h',WAt n O' h' { M with lt:=s' } R S Ls' kn ld->Go O h O' h'->k h'):∃ h2:Heap,WrH h1 ((⟨M.w,0,none⟩:Addr).add 1)/\h2=setH h1 ((⟨M.w,0,none⟩:Addr).add 1) (Slc.v s')/\k h2:=by
 obtain ⟨_,TL,_⟩:=W.l
 obtain ⟨_,TK,_⟩:=W.k
 have K1:=p.blk W.w fun e=>TL.aZ W.w (by decide) e
 obtain ⟨w1,f1⟩:=K1.put (i:=1) (v:=Slc.v s') (by show 1 < 5; omega)
 refine ⟨_,w1,rfl,?_⟩
 obtain ⟨K2,U2⟩:=f1 _ rfl
 generalize setH h1 ((⟨M.w,0,none⟩:Addr).add 1) (Slc.v s')=h2 at *
 have S2:Stp (fun g=>g=M.w) h1 h2:=.dQ U2 (.inl rfl)
 have P:Stp (fun g=>g=M.w∨M.lt.blk=some g) h h2:=(p.mono fun g hg=>.inl (.inr hg)).trans S2 fun g hg=>.inl (.inl hg)
 have hO:∀ g,OB O s' g->O g∨h.size<=g:=fun g hg=>hg.elim .inl fun q=>(sb g q).elim (fun q=>.inl (W.ow.l g q)) .inr
 have PO:∀ g,(g=M.w∨M.lt.blk=some g)->O g∨h.size<=g:=fun g hg=>.inl (hg.elim (fun e=>by subst e; exact W.ow.w) (W.ow.l g))
 have ob:∀ g,OB O s' g->g < h2.size:=fun g hg=>by
  have:=U2.size; have:=P.size
  exact hg.elim (fun q=>by have:=W.ob g q; omega) fun q=>by have:=hb g q; omega
 obtain ⟨_,TA,_⟩:=id A
 refine H (OB O s') h2 (W.rows (X:=fun g=>g=M.w∨M.lt.blk=some g) P (fun g hg=>hg.elim .inl fun q=>.inr (.inl q)) ⟨rfl,rfl,rfl,rfl⟩ hO (fun g hg=>.inl hg) ob K2 (A.move S2 (fun g hg=>.inl (.inl (by subst hg; exact W.ow.w))) (fun g hg=>.inl hg) fun g hg e=>by subst e; exact TA.aZ K1 (by decide) hg) (W.k.move P PO hO fun g hg e=>?_) (fun g hg=>.inl hg) (P.row W.d fun g hg e=>?_) ⟨.inl W.ow.w,fun g hg=>.inl (W.ow.m g hg),fun g hg=>.inr hg,fun g hg=>.inl (W.ow.k g hg),fun g hg=>.inl (W.ow.d g hg)⟩) ⟨P.mono PO,hO,fun g hg=>.inl hg⟩
 ·rcases e with rfl | e
  ·exact TK.aZ W.w (by decide) hg
  ·exact TK.rA TL (by decide) hg e
 ·rcases e with rfl | e
  ·exact W.d.aZ W.w (by decide) hg
  ·exact W.d.rA TL (by decide) hg e
theorem Dk (W:WAt n O h M R S Ls kn ld) {v:ai} {x:Let} {k:Heap->Prop} (hv:v.uw=x.1/\v.Dt=x.2.1/\Imm O h fun h=>uE h v.f_M x.2.2) (hl:Ls.length<=3000)
  (H:∀ O' h' s',WAt n O' h' { M with lt:=s' } R S (Ls ++ [x]) kn ld->Go O h O' h'->k h'):App 109 10 112 [.int .i64 0,.int .i64 0,.int .i64 0,.int .u64 0,.int .u64 0,.int .u64 0,.int .u64 0,.bool false,.slice none 0 0,.slice none 0 0] h M.lt 1 (ai.cs v) (fun s h'=>∃ h2:Heap,WrH h' ((⟨M.w,0,none⟩:Addr).add 1)/\h2=setH h' ((⟨M.w,0,none⟩:Addr).add 1) (Slc.v s)/\k h2):=by
 have ll:=W.l.len
 obtain ⟨ls,T,e,I⟩:=W.l
 refine App.BR T (Nat.zero_le _) rfl rfl (uu (by kernel_rfl)) (by omega) (by simp only [maxLen]; omega) fun s h1 R1 l1 z1 o1 b1 _=>?_
 have S1:Stp (fun g=>M.lt.blk=some g) h h1:=⟨z1,fun g hg hn=>o1 g hg hn⟩
 have sb:∀ g,s.blk=some g->M.lt.blk=some g∨h.size<=g:=fun g hg=>by
  rcases b1 with ⟨b1,_⟩ | b1
  ·exact .inl (by rw [← b1]; exact hg)
  ·rw [b1] at hg; cases hg; exact .inr (Nat.le_refl _)
 have hO:∀ g,OB O s g->O g∨h.size<=g:=fun g hg=>hg.elim .inl fun q=>(sb g q).elim (fun q=>.inl (W.ow.l g q)) .inr
 have SO:Stp O h h1:=S1.mono fun g hg=>.inl (W.ow.l g hg)
 refine GL W S1 sb ⟨ls ++ [v],?_,by simp [e],fun i u y hu hy=>?_⟩ (fun g hg=>(R1.bd hg).2) fun O' h' W' G=>H O' h' s W' G
 ·have:(ls ++ [v]).flatMap ai.cs=ls.flatMap ai.cs ++ ai.cs v:=by simp
  rw [this]; exact R1
 ·rcases Nat.lt_or_ge i ls.length with hi | hi
  ·rw [List.getElem?_append_left hi] at hu
   rw [List.getElem?_append_left (by rw [← e]; exact hi)] at hy
   exact ⟨(I i u y hu hy).1,(I i u y hu hy).2.1,(I i u y hu hy).2.2.step SO hO⟩
  ·rw [List.getElem?_append_right hi] at hu
   rw [List.getElem?_append_right (by rw [← e]; exact hi),← e] at hy
   have:i - ls.length=0:=by have:=(List.getElem?_eq_some_iff.1 hu).1; simp at this; omega
   rw [this] at hu hy
   simp at hu hy
   subst hu; subst hy
   exact ⟨hv.1,hv.2.1,hv.2.2.step SO hO⟩
end
end Go.Q.Yi
end

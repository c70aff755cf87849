/- A part of the proof of statements of this seat: lemmas, no statement of their own. -/
import Derived.Test.YtmilimlmimckbaaGreatDoorYoZap
set_option linter.unusedVariables false
set_option linter.unusedSimpArgs false
section
namespace Go.V
open Go.Q
noncomputable section
inductive OC | q (g:PO) | p (g:PO) | l (g:LO) | e (g:EO)
def zot (P:Program) (σ:Sg) (n:Nat) (o:Oper):OC->Prop
 | .q g=>QOk P σ n o g
 | .p g=>POk P σ n o g
 | .l g=>LOk P σ n o g
 | .e g=>EOk P σ n o g
def toE:OC->EO | .q g=>eP g | .p g=>eP g | .l g=>eL g | .e g=>g
theorem qk8 {P:Program} {σ:Sg} {n:Nat} {o:Oper} {c:OC} (h:zot P σ n o c):EOk P σ n o (toE c):=by
 cases c with
 | q g=>exact qmr (QOk.p h)
 | p g=>exact qmr h
 | l g=>exact qpk h
 | e g=>exact h
def noO:OC:=.q noP
section
variable {P:Program} {T:Tab} {tb:TT} {σ:Sg} {n:Nat} {o:Oper}
theorem zap:zot P σ n o noO:=qlf
def qg6:BinOp->Option Bool | .eql=>some false | .neq=>some true | _=>none
theorem znj {op:BinOp} {ng:Bool} (h:qg6 op=some ng):(op = .eql/\ng=false)∨(op = .neq/\ng=true):=by cases op <;> simp [qg6] at h <;> subst h <;> simp
def zx8 (tb:TT) (σ:Sg) (n:Nat) (op:BinOp) (t:Nat) (x y:Operand):OC:=match tif tb t with
 | some ⟨.int _,_,_,_⟩=>(match op with | .shl=>.q (pSh σ n qil x y) | .shr=>.q (pSh σ n qij x y) | op=>.q (qly σ n op x y))
 | some ⟨.string,_,_,_⟩=>(match op with | .add=>.q (qqa σ n x y) | op=>.q (qqc σ n op x y))
 | some ⟨.bool,_,_,_⟩=>(match qg6 op with | some ng=>.q (qq2 σ n ng x y) | none=>noO)
 | some ⟨.pointer _,_,_,_⟩=>(match qg6 op with | some ng=>.q (qm7 σ n 0 ng x y) | none=>noO)
 | some ⟨.slice _,_,_,_⟩=>(match qg6 op with | some ng=>.q (qm7 σ n 1 ng x y) | none=>noO)
 | some ⟨.map _ _,_,_,_⟩=>(match qg6 op with | some ng=>.q (qm7 σ n 2 ng x y) | none=>noO)
 | some i=>(match tkb tb t,qg6 op with | true,some ng=>.q (qq5 σ n i.z ng x y) | _,_=>noO)
 | none=>noO
theorem zy4 (B:TbOk P T tb) {op:BinOp} {t t':TypeId} {x y:Operand} (ho:o.op = .binOp op t x y t'):zot P σ n o (zx8 tb σ n op t x y):=by
 unfold zx8;split
 ·split
  ·exact qem ho
  ·exact qe9 ho
  ·exact qbc ho
 ·split
  ·exact qho ho
  ·exact qg1 ho
 ·rename_i h;split
  ·rename_i hn;exact qgd B ho (znj hn) h
  ·exact zap
 ·rename_i h;split
  ·rename_i hn;exact zsp B ho (znj hn) h (.inl rfl)
  ·exact zap
 ·rename_i h;split
  ·rename_i hn;exact zsp B ho (znj hn) h (.inr (.inl rfl))
  ·exact zap
 ·rename_i h;split
  ·rename_i hn;exact zsp B ho (znj hn) h (.inr (.inr rfl))
  ·exact zap
 ·rename_i h;split
  ·rename_i hk hn;exact qfq (B.kd h hk) ho (znj hn)
  ·exact zap
 ·exact zap
def eMk (σ:Sg) (n:Nat) (x:Operand):EO:=⟨fun _ st e h K=>(opd σ n x).x st e fun v=>dS.x v false fun b o l c=>zuz h b fun _ _ w _ _ _ _=>Bool.rec (motive:=fun _=>Rs) false (K (.sl b o l c) h) w⟩
def frz (h:zaa) (a:Addr):zaa:=h.modify a.block fun
 | .cells c el (lo,hi)=>.cells c el (if lo==hi then (a.off,a.off+1) else (min lo a.off,max hi (a.off+1)))
 | o=>o
theorem qjj (B:TbOk P T tb) {t el n1 b1 n2 b2:Nat} {z1 z2:List Value} {x:Operand} (ho:o.op = .convert t t x) (ht:tif tb t=some ⟨.slice el,n1,b1,z1⟩) (hel:tif tb el=some ⟨.int .u8,n2,b2,z2⟩):EOk P σ n o (eMk σ n x):=fun call CO st e h K H=>by
 obtain⟨v,hv,H⟩:=zaf H;rcases zvc H with⟨_,H⟩ | ⟨b,o',l,c,hq,H2⟩
 ·cases H
 clear H;subst hq;obtain⟨bl,hb,H⟩:=zd3 H2;obtain⟨hw,H⟩:=zbz H;refine⟨_,_,H,fun N base φ a hc F R=>?_⟩;obtain⟨u1,e1,c1⟩:=F.ev hv;have c1':=c1;obtain⟨p,hp,_,rfl⟩:=zdj.1 c1;have rb:RelB φ bl p hc:=(R.blk b _ p (R.idlt hp) hb hp).1;obtain⟨cs,el',lo,hi,k1,k2,k3⟩:=rb.wr hw;obtain⟨td,j1,j3⟩:=zai B.ok (B.get ht);rw [zce j3] at j1;obtain⟨td2,l1,l3⟩:=zai B.ok (B.get hel);rw [zjx l3] at l1
 let h':zaa:=frz hc ⟨p.b,cs.size,none⟩
 have hh:∀ w:World,w.heap=hc->(w.freeze ⟨p.b,cs.size,none⟩ 1).heap=h':=fun w hw=>by
  unfold World.freeze;rw [if_neg (by decide)];simp only [hw];rfl
 have hy:Yh P (eA a) hc o (.slice (some (p.at o')) l (za1 p.k c)) h':=by
  intro ρ w hA hw
  have hs:w.shape? p.b=some (el',cs.size):=by
   unfold World.shape?;rw [hw,k1]
  have hv:ρ x = .slice (some (p.at o')) l (za1 p.k c):=hA _ _ e1;refine⟨w.freeze ⟨p.b,cs.size,none⟩ 1,⟨rfl,rfl,rfl,hh w hw,fun _=>Nat.le_refl _⟩,.inl ?_⟩;have hb':(p.at o').block=p.b:=rfl;simp [execOp,ho,hv,convert,run_underlying j1,run_underlying l1,markStringish,hb',hs]
 have hat:h'[p.b]? = some (.cells cs el' (if lo==hi then (cs.size,cs.size+1) else (min lo cs.size,max hi (cs.size+1)))):=by
  show (frz hc ⟨p.b,cs.size,none⟩)[p.b]? = _
  unfold frz;rw [Array.getElem?_modify,if_pos rfl,k1];rfl
 obtain⟨lo2,hi2,hfr,hlo2⟩:∃ lo2 hi2,(if lo==hi then (cs.size,cs.size+1) else (min lo cs.size,max hi (cs.size+1)))=(lo2,hi2)/\cs.size<=lo2:=by
  by_cases hlh:lo=hi
  ·exact⟨cs.size,cs.size+1,by simp [hlh],Nat.le_refl _⟩
  ·have:=k2.resolve_left hlh
   exact⟨min lo cs.size,max hi (cs.size+1),by simp [hlh],by omega⟩
 rw [hfr] at hat;have hsz:h'.size=hc.size:=by show (frz hc _).size=_;simp [frz]
 have hoth:∀ i,i≠p.b->h'[i]? = hc[i]?:=fun i hi=>by
  show (frz hc ⟨p.b,cs.size,none⟩)[i]? = _
  unfold frz;rw [Array.getElem?_modify,if_neg (fun e=>hi e.symm)]
 have hcell:∀ j,zab h' (p.at j)=zab hc (p.at j):=fun j=>by
  unfold zab Pl.at;simp only [hat,k1]
 have rb':RelB φ bl p h':=by
  refine⟨by rw [hsz];exact rb.lt,rb.dn,rb.rn,fun j hj=>?_,fun _=>⟨cs,el',lo2,hi2,hat,?_,k3⟩⟩
  ·obtain⟨v,u,q1,q2,q3,q4⟩:=rb.cell j hj
   exact⟨v,u,q1,q2,q3,by rw [hcell];exact q4⟩
  ·exact .inr hlo2
 have same:Go.V.st DH b (some (.c bl)) h.h=Go.V.st DH b (some (.c bl)) h.h:=rfl
 have R':Rel base φ h h':=by
  refine⟨R.lt,R.nx,R.un,R.gl,fun b' bl'' y hb' hg e2=>?_,R.sep,by rw [hsz];exact R.sz,fun i hi=>?_⟩
  ·by_cases hbb:b'=b
   ·subst hbb
    rw [hp] at e2;cases e2;rw [hb] at hg;cases hg;exact⟨rb',(R.blk _ _ _ hb' hb hp).2⟩
   ·obtain⟨r2,q2⟩:=R.blk b' bl'' y hb' hg e2
    exact⟨r2.heap (by rw [hsz];exact Nat.le_refl _) (hoth _ (R.sep b b' _ _ p y (R.idlt hp) hb' hb hg hp e2 (Ne.symm hbb) hw).symm),q2⟩
  ·rw [hoth i (by have:=(R.blk b _ p (R.idlt hp) hb hp).2 hw;omega)];exact R.old i hi
 refine(YE.of_h hy).mono ?_;rintro _ _ ⟨rfl,rfl⟩;exact⟨φ,Ex.rfl,R',c1'⟩
def zyd (tb:TT) (σ:Sg) (n s t:Nat) (x:Operand):OC:=match tif tb s,tif tb t with
 | some _,some ⟨.int k,_,_,_⟩=>.q (qln σ n k x)
 | some ⟨.slice el,_,_,_⟩,some ⟨.string,_,_,_⟩=>(match tif tb el with | some ⟨.int .u8,_,_,_⟩=>.p (qq4 σ n x) | _=>noO)
 | some ⟨.string,_,_,_⟩,some ⟨.slice el,_,_,_⟩=>(match tif tb el with | some ⟨.int .u8,_,_,_⟩=>.l (qrl σ n el x) | _=>noO)
 | some ⟨.slice el,_,_,_⟩,some ⟨.slice _,_,_,_⟩=>(match Nat.beq s t,tif tb el with | true,some ⟨.int .u8,_,_,_⟩=>.e (eMk σ n x) | _,_=>noO)
 | some _,some ⟨.string,_,_,_⟩=>.q ⟨fun st e _ K=>(opd σ n x).x st e fun v=>dZ.x v fun l=>K (.s l)⟩
 | _,_=>noO
theorem zv6 (B:TbOk P T tb) {s t:TypeId} {x:Operand} (ho:o.op = .convert s t x):zot P σ n o (zyd tb σ n s t x):=by
 unfold zyd;split
 ·rename_i h1 h2;exact qbj B ho h1 h2
 ·rename_i h1 h2;split
  ·rename_i h3;exact qe3 B ho h1 h3 h2
  ·exact zap
 ·rename_i h1 h2;split
  ·rename_i h3;exact qfa B ho h2 h3 h1
  ·exact zap
 ·rename_i h1 h2;split
  ·rename_i hst h3
   have hst':s=t:=Nat.eq_of_beq_eq_true hst;subst hst';exact qjj B ho h1 h3
  ·exact zap
 ·rename_i h1 h2;exact qbx B ho h1 h2
 ·exact zap
theorem qce {t kt et n1 b1:Nat} {z1:List Value} (B:TbOk P T tb) (h:tif tb t=some ⟨.map kt et,n1,b1,z1⟩):P.underlying t=some (.map kt et):=by
 obtain⟨td,k1,k3⟩:=zai B.ok (B.get h)
 cases td <;> simp [tyb] at k3
 rename_i a b;obtain⟨rfl,rfl⟩:=k3;exact k1
def qm6 (tb:TT) (kt:Nat):Option KT:=match tif tb kt with
 | some ⟨.int k,_,_,_⟩=>some (.i k)
 | some ⟨.string,_,_,_⟩=>some .s
 | some i=>(match tkb tb kt with | true=>some (.o i.z) | false=>none)
 | none=>none
theorem zx9 (B:TbOk P T tb) {kt:Nat} {k:KT} (h:qm6 tb kt=some k):qkh P kt k:=by
 unfold qm6 at h;split at h
 ·rename_i hi
  cases h
  obtain⟨td,k1,k3⟩:=zai B.ok (B.get hi);rw [zjx k3] at k1;exact k1
 ·rename_i hi
  cases h
  obtain⟨td,k1,k3⟩:=zai B.ok (B.get hi);rw [zen k3] at k1;exact k1
 ·rename_i hi
  split at h
  ·rename_i hk
   cases h
   exact zv7 (B.kd hi hk)
  ·cases h
 ·cases h
def qom (i:TI):Option AV:=match zAs i.z with
 | some l=>(match isA i.d with | true=>some (.ag l) | false=>(match l with | [v]=>some v | _=>none))
 | none=>none
theorem qh6 (B:TbOk P T tb) {t:Nat} {i:TI} {v:AV} (ht:tif tb t=some i) (h:qom i=some v):∃ z,(∀ w,(zeroValue t).run P w = .ok z w)/\∀ φ,cv φ v=some z:=by
 unfold qom at h;split at h
 ·rename_i l hl
  obtain⟨z2,z3⟩:=zme _ _ hl;split at h
  ·rename_i ha
   cases h
   exact⟨.agg i.z.toArray,fun w=>qcv B.ok (B.get ht) ha rfl w,fun φ=>zfn.2 ⟨_,z2 φ,z3,rfl⟩⟩
  ·rename_i ha
   split at h
   ·rename_i v0
    cases h
    have h1:=z2 (fun _=>none);obtain⟨u,r,hz,hu,hr⟩:=zcp h1
    cases hr
    refine⟨u,fun w=>qjr B.ok (B.get ht) ha hz w,fun φ=>?_⟩;have h2:=z2 φ;rw [hz] at h2;obtain⟨u',r',e,hu',_⟩:=zcp h2
    cases e;exact hu'
   ·cases h
 ·cases h
def qhi (tb:TT) (σ:Sg) (n t:Nat) (x y:Operand) (ok:Bool):OC:=match tif tb t with
 | some ⟨.map kt et,_,_,_⟩=>(match qm6 tb kt,tif tb et with
  | some k,some i=>(match qom i with | some zv=>.p (pLk σ n k zv ok x y) | none=>noO)
  | _,_=>noO)
 | _=>noO
theorem qbh (B:TbOk P T tb) {t:TypeId} {x y:Operand} {ok:Bool} (ho:o.op = .lookup t x y ok):zot P σ n o (qhi tb σ n t x y ok):=by
 unfold qhi;split
 ·rename_i h;split
  ·rename_i h1 h2;split
   ·rename_i h3
    obtain⟨z,hz,hv⟩:=qh6 B h2 h3;exact qjd (zx9 B h1) (qce B h) hz hv ho
   ·exact zap
  ·exact zap
 ·exact zap
def qe8 (tb:TT) (σ:Sg) (n t:Nat) (x y z:Operand):OC:=match tif tb t with
 | some ⟨.map kt _,_,_,_⟩=>(match qm6 tb kt with | some k=>.e (eMu σ n k x y z) | none=>noO)
 | _=>noO
theorem qal (B:TbOk P T tb) {t:TypeId} {x y z:Operand} (ho:o.op = .mapUpdate t x y z):zot P σ n o (qe8 tb σ n t x y z):=by
 unfold qe8;split
 ·rename_i h;split
  ·rename_i h1;exact qjy (zx9 B h1) (qce B h) ho
  ·exact zap
 ·exact zap
def qhg (tb:TT) (σ:Sg) (n t:Nat) (x:Operand):OC:=match TT.rec (motive:=fun _=>Bool) (fun _ _ c _=>Nat.testBit c t) tb with | true=>.l (lMc σ n x) | false=>noO
theorem qbk (B:TbOk P T tb) {t:TypeId} {x:Operand} (ho:o.op = .makeChan t x):zot P σ n o (qhg tb σ n t x):=by
 unfold qhg;split
 ·rename_i h
  have h':Nat.testBit tb.c t=true:=by cases tb;exact h
  obtain⟨d,el,i,h1,h2,h3⟩:=B.ch t h';exact qlq B ho h1 h2 h3
 ·exact zap
def qio (l:List Nat) (c:Nat):Int:=List.rec (.negSucc 0) (fun b _ ih=>Bool.rec (Int.rec (fun n=>.ofNat (Nat.succ n)) (fun _=>.negSucc 0) ih) (.ofNat 0) (Nat.beq b c)) l
theorem zzo {c:Nat} (hc:c<256):∀ l:List Nat,(∀ n∈l,n<256)->qio l c=Lib.indexByte (l.map UInt8.ofNat) (UInt8.ofNat c)
 | [],_=>rfl
 | b :: r,h=>by
  have hb:b<256:=h b List.mem_cons_self;have ih:=zzo hc r fun n hn=>h n (List.mem_cons_of_mem _ hn)
  have hbc:(UInt8.ofNat b==UInt8.ofNat c)=Nat.beq b c:=by
   rw [Bool.eq_iff_iff,beq_iff_eq,Nat.beq_eq];constructor
   ·intro e
    have:=congrArg UInt8.toNat e;simpa [Nat.mod_eq_of_lt hb,Nat.mod_eq_of_lt hc] using this
   ·intro e;rw [e]
  rw [List.map_cons];unfold Lib.indexByte;rw [hbc,← ih];have hge:=Lib.indexByte_ge (r.map UInt8.ofNat) (UInt8.ofNat c);rw [← ih] at hge;show (Bool.rec (Int.rec (fun n=>Int.ofNat (Nat.succ n)) (fun _=>Int.negSucc 0) (qio r c)) (Int.ofNat 0) (Nat.beq b c):Int)=_
  cases Nat.beq b c with
  | true=>rfl
  | false =>
   show (Int.rec (fun n=>Int.ofNat (Nat.succ n)) (fun _=>Int.negSucc 0) (qio r c):Int)=_
   generalize qio r c=q at hge
   cases q with
   | ofNat n =>
    have:((Int.ofNat n) == -1)=false:=by rw [← Bool.not_eq_true,beq_iff_eq];intro h;cases h
    rw [this];rfl
   | negSucc n =>
    have:n=0:=by omega
    subst this;rfl
def qrb (σ:Sg) (n:Nat) (x y:Operand):PO:=⟨fun st e _ K=>(opd σ n x).x st e fun v=>dZ.x v fun l=>(opd σ n y).x st e fun w=>dU.x w fun c=>Bool.rec (motive:=fun _=>Rs) false (zvx (qio l c) fun i=>K (.i .i64 i)) (Nat.blt c 256)⟩
theorem qe0 {f:Nat} (X:XOk P f .ibs) {x y:Operand} {ts:Array TypeId} (ho:o.op = .call { callee:=.value (.func f),args:=#[x,y],argTypes:=ts }):QOk P σ n o (qrb σ n x y):=fun st e h K H=>by
 obtain⟨v,hv,H1⟩:=zaf H;obtain⟨l,hq,H2⟩:=zm8 H1;obtain⟨w,hw,H3⟩:=zaf H2;obtain⟨c,hq',H4⟩:=qbi H3;obtain⟨hc,H5⟩:=zn3 H4;rw [intK_eq] at H5;clear H H1 H2 H3 H4;subst hq hq';refine⟨_,H5,fun N φ a hc0 F=>⟨_,?_,rfl⟩⟩;obtain⟨u1,e1,c1⟩:=F.ev hv;obtain⟨u2,e2,c2⟩:=F.ev hw;obtain⟨hl,rfl⟩:=zog.1 c1
 cases c2
 have hx:qio l c=Lib.indexByte (bytes l).data.toList (Int.ofNat c).toNat.toUInt8:=by
  rw [zzo hc l hl];simp only [bytes,List.toList_toArray];rfl
 rw [hx];exact qkz (vs:=[.string (bytes l),.int .u8 (Int.ofNat c)]) (as':=[x,y]) (fun w=>X _ _ w) ho (by simp only [evs,e1,e2])
def qq3 (σ:Sg) (n:Nat) (x y z:Operand):PO:=⟨fun st e _ K=>(opd σ n x).x st e fun v=>dI.x v fun k a=>(opd σ n y).x st e fun v=>dI.x v fun k1 b=>(opd σ n z).x st e fun v=>dI.x v fun k2 c =>
 Bool.rec (motive:=fun _=>Rs) false (Int.rec (motive:=fun _=>Rs) (fun a=>Int.rec (motive:=fun _=>Rs) (fun b=>Int.rec (motive:=fun _=>Rs) (fun c=>Bool.rec (motive:=fun _=>Rs) false
  (zb3 (Nat.add (Nat.add a b) c) fun t=>zb3 (Nat.mod t 18446744073709551616) fun lo=>zb3 (Nat.div t 18446744073709551616) fun hi=>K (.tu [.i .u64 (.ofNat lo),.i .u64 (.ofNat hi)])) (Nat.ble c 1)) (fun _=>false) c) (fun _=>false) b) (fun _=>false) a) (and (keq .u64 k) (and (keq .u64 k1) (keq .u64 k2)))⟩
theorem qhj {f:Nat} (X:XOk P f .add) {x y z:Operand} {ts:Array TypeId} (ho:o.op = .call { callee:=.value (.func f),args:=#[x,y,z],argTypes:=ts }):QOk P σ n o (qq3 σ n x y z):=fun st e h K H=>by
 obtain⟨v,hv,H1⟩:=zaf H;obtain⟨k,a,hq,H2⟩:=zha H1;obtain⟨w,hw,H3⟩:=zaf H2;obtain⟨k1,b,hq1,H4⟩:=zha H3;obtain⟨q,hz,H5⟩:=zaf H4;obtain⟨k2,c,hq2,H6⟩:=zha H5;obtain⟨hh,H7⟩:=zbz H6;obtain⟨h1,hh⟩:=zag.1 hh;obtain⟨h2,h3⟩:=zag.1 hh;have e1:=zhi h1;have e2:=zhi h2;have e3:=zhi h3;clear H H1 H2 H3 H4 H5 H6 hh h1 h2 h3;subst hq hq1 hq2 e1 e2 e3
 cases a with
 | negSucc a=>cases H7
 | ofNat a=>cases b with
  | negSucc b=>cases H7
  | ofNat b=>cases c with
   | negSucc c=>cases H7
   | ofNat c =>
    have H8:Bool.rec (motive:=fun _=>Rs) false (zb3 (Nat.add (Nat.add a b) c) fun t=>zb3 (Nat.mod t 18446744073709551616) fun lo=>zb3 (Nat.div t 18446744073709551616) fun hi=>K (.tu [.i .u64 (.ofNat lo),.i .u64 (.ofNat hi)])) (Nat.ble c 1)=true:=H7;obtain⟨hc,H9⟩:=zhu H8;rw [natK_eq,natK_eq,natK_eq] at H9;refine⟨_,H9,fun N φ ac hc0 F=>⟨_,?_,rfl⟩⟩;obtain⟨u1,e1,c1⟩:=F.ev hv;obtain⟨u2,e2,c2⟩:=F.ev hw;obtain⟨u3,e3,c3⟩:=F.ev hz
    cases c1;cases c2;cases c3
    exact qkz (vs:=[.int .u64 (Int.ofNat a),.int .u64 (Int.ofNat b),.int .u64 (Int.ofNat c)]) (as':=[x,y,z]) (fun w=>X _ _ _ w ⟨Int.natCast_nonneg _,Int.natCast_nonneg _,Int.natCast_nonneg _,by show (c:Int)<=1;omega⟩) ho (by simp only [evs,e1,e2,e3])
def qqv (σ:Sg) (n:Nat) (k:XK) (l:List Operand):OC:=match k,l with
 | .ibs,[x,y]=>.q (qrb σ n x y)
 | .add,[x,y,z]=>.q (qq3 σ n x y z)
 | _,_=>noO
def zr1 (tb:TT) (σ:Sg) (n:Nat) (c:Call):OC:=match c.callee with
 | .value x=>(match x with | .func f=>(match txk tb f with | some k=>qqv σ n k c.args.toList | none=>.e (qe6 σ n (.func f) c.args.toList)) | x=>.e (qe6 σ n x c.args.toList))
 | .builtin b=>(match b,c.args.toList,c.argTypes.toList with
  | .len,[x],[t]=>(match tif tb t with | some ⟨.slice _,_,_,_⟩=>.q (qpu σ n x) | some ⟨.string,_,_,_⟩=>.q (qp5 σ n x) | some ⟨.array k _,_,_,_⟩=>.q (qqq σ n k x) | some ⟨.map _ _,_,_,_⟩=>.p (qrk σ n x) | _=>noO)
  | .clear,[x],[t]=>(match tif tb t with | some ⟨.map _ _,_,_,_⟩=>.e (qqb σ n x) | _=>noO)
  | .cap,[x],[t]=>(match tif tb t with | some ⟨.slice _,_,_,_⟩=>.q (qpz σ n x) | _=>noO)
  | .min,[x,y],_=>.q (qna σ n false x y)
  | .max,[x,y],_=>.q (qna σ n true x y)
  | .append,[x,y],[t,t']=>(match tif tb t with
   | some ⟨.slice el,_,_,_⟩=>(match tif tb el with
    | some i=>(match Nat.beq i.z.length i.n,Nat.beq t t',tif tb t' with
     | true,true,_=>.e (qpt σ n el i.n i.b x y)
     | true,false,some ⟨.string,_,_,_⟩=>(match Nat.beq i.n 1 with | true=>.e (qj0 σ n el i.n i.b x y) | false=>noO)
     | true,false,some ⟨.int .i64,_,_,_⟩=>(match zAs i.z with | some z=>(match Nat.beq (zgs z) i.n with | true=>.e (qmj σ n el i.n i.b z x y) | false=>noO) | none=>noO)
     | _,_,_=>noO)
    | none=>noO)
   | _=>noO)
  | .copy,[x,y],[t,_]=>(match tif tb t with | some ⟨.slice el,_,_,_⟩=>(match tif tb el with | some i=>.e (qqo σ n i.n x y) | none=>noO) | _=>noO)
  | _,_,_=>noO)
 | _=>noO
theorem qif {α:Type} {a:Array α} {x:α} (h:a.toList=[x]):a = #[x]:=Array.toList_inj.1 (by simpa using h)
theorem qfg {α:Type} {a:Array α} {x y:α} (h:a.toList=[x,y]):a = #[x,y]:=Array.toList_inj.1 (by simpa using h)
theorem zuw (B:TbOk P T tb) {c:Call} (ho:o.op = .call c):zot P σ n o (zr1 tb σ n c):=by
 obtain⟨cl,as',ts⟩:=c;unfold zr1
 cases cl with
 | value x =>
  simp only;split
  ·rename_i f
   split
   ·rename_i k hk
    have X:=B.xk hk;unfold qqv;split
    ·rename_i x y hl
     have ha':=qfg hl;subst ha';exact qe0 X ho
    ·rename_i x y z hl
     have ha':as' = #[x,y,z]:=Array.toList_inj.1 (by simpa using hl);subst ha';exact qhj X ho
    ·exact zap
   ·exact zui ho
  ·exact zui ho
 | invoke r m=>exact zap
 | builtin b =>
  simp only;split
  ·rename_i x t ha hts
   have ha':=qif ha;have ht':=qif hts;subst ha';subst ht';split
   ·rename_i h;exact qfp B ho h
   ·rename_i h;exact qev B ho h
   ·rename_i h;exact qfx B ho h
   ·rename_i h;exact qhw B (qce B h) ho
   ·exact zap
  ·rename_i x t ha hts
   have ha':=qif ha;have ht':=qif hts;subst ha';subst ht';split
   ·rename_i h;exact qgi (qce B h) ho
   ·exact zap
  ·rename_i x t ha hts
   have ha':=qif ha;have ht':=qif hts;subst ha';subst ht';split
   ·rename_i h;exact qgk B ho h
   ·exact zap
  ·rename_i x y ha
   have ha':=qfg ha;subst ha';exact qeu ho
  ·rename_i x y ha
   have ha':=qfg ha;subst ha';exact qgp ho
  ·rename_i x y t t' ha hts
   have ha':=qfg ha;have ht':=qfg hts;subst ha';subst ht';split
   ·rename_i h;split
    ·rename_i h2;split
     ·rename_i hz htt
      have htt':t=t':=Nat.eq_of_beq_eq_true htt;subst htt';exact qf1 B ho h h2 hz
     ·rename_i hz htt h3;split
      ·rename_i h1;exact qav B ho h h3 h2 hz h1
      ·exact zap
     ·rename_i hz htt h3;split
      ·rename_i z hzz;split
       ·rename_i h1;exact qa7 B ho h h3 h2 hzz hz h1
       ·exact zap
      ·exact zap
     ·exact zap
    ·exact zap
   ·exact zap
  ·rename_i x y t t' ha hts
   have ha':=qfg ha;have ht':=qfg hts;subst ha';subst ht';split
   ·rename_i h;split
    ·rename_i h2;exact qha B ho h h2
    ·exact zap
   ·exact zap
  ·exact zap
def qhm (tb:TT) (σ:Sg) (n t:Nat) (x:Operand) (j:Nat):OC:=match tif tb t with
 | some ⟨.struct fs,_,_,_⟩=>(match fs[j]? with
  | some (ft,off)=>(match tif tb ft with | some ⟨_,_+1,_,_⟩=>.q (pFa σ n off x) | _=>noO)
  | none=>noO)
 | _=>noO
theorem qcg (B:TbOk P T tb) {t j:Nat} {x:Operand} (ho:o.op = .fieldAddr t x j):zot P σ n o (qhm tb σ n t x j):=by
 unfold qhm;split
 ·rename_i h;split
  ·rename_i h2;split
   ·rename_i h3;exact qj6 B ho h h2 h3 rfl
   ·exact zap
  ·exact zap
 ·exact zap
def qh4 (tb:TT) (σ:Sg) (n t:Nat) (x:Operand) (j:Nat):OC:=match tif tb t with
 | some ⟨.struct fs,_,_,_⟩=>(match fs[j]? with
  | some (ft,off)=>(match tif tb ft with | some i=>.q (pFv σ n off i.n (!isA i.d) x) | none=>noO)
  | none=>noO)
 | _=>noO
theorem qaq (B:TbOk P T tb) {t j:Nat} {x:Operand} (ho:o.op = .field t x j):zot P σ n o (qh4 tb σ n t x j):=by
 unfold qh4;split
 ·rename_i h;split
  ·rename_i h2;split
   ·rename_i h3;exact qkq B ho h h2 h3
   ·exact zap
  ·exact zap
 ·exact zap
def qib (tb:TT) (σ:Sg) (n t:Nat) (x y:Operand):OC:=match tif tb t with
 | some ⟨.slice el,_,_,_⟩=>(match tif tb el with | some i=>.q (pIs σ n i.n x y) | none=>noO)
 | some ⟨.array len el,_,_,_⟩=>(match tif tb el with | some i=>.q (pIp σ n len i.n x y) | none=>noO)
 | _=>noO
theorem qch (B:TbOk P T tb) {t:Nat} {x y:Operand} (ho:o.op = .indexAddr t x y):zot P σ n o (qib tb σ n t x y):=by
 unfold qib;split
 ·rename_i h;split
  ·rename_i h2;exact qiu B ho h h2
  ·exact zap
 ·rename_i h;split
  ·rename_i h2;exact qmf B ho h h2
  ·exact zap
 ·exact zap
def qfb (tb:TT) (σ:Sg) (n t:Nat) (x y:Operand):OC:=match tif tb t with
 | some ⟨.string,_,_,_⟩=>.q (pIx σ n x y)
 | some ⟨.array len el,_,_,_⟩=>(match tif tb el with | some i=>.q (pIv σ n len i.n (!isA i.d) x y) | none=>noO)
 | _=>noO
theorem qa3 (B:TbOk P T tb) {t:Nat} {x y:Operand} (ho:o.op = .index t x y):zot P σ n o (qfb tb σ n t x y):=by
 unfold qfb;split
 ·rename_i h;exact qkg B ho h
 ·rename_i h;split
  ·rename_i h2;exact qlr B ho h h2
  ·exact zap
 ·exact zap
def qic (tb:TT) (σ:Sg) (n t:Nat) (ps:List (Nat × Operand)):OC:=match tif tb t with
 | some ⟨.struct fs,_,_,z⟩=>(match qkd tb fs,zAs z with | some l,some z=>.q (zt5 σ n (lAt l) z ps) | _,_=>noO)
 | some ⟨.array _ el,_,_,z⟩=>(match tif tb el,zAs z with | some i,some z=>.q (zt5 σ n (plA i.n) z ps) | _,_=>noO)
 | _=>noO
theorem qb7 (B:TbOk P T tb) {t:Nat} {ps:Array (Nat × Operand)} (ho:o.op = .build t ps):zot P σ n o (qic tb σ n t ps.toList):=by
 unfold qic;split
 ·rename_i h;split
  ·rename_i h1 h2;exact zuu B ho h h1 h2
  ·exact zap
 ·rename_i h;split
  ·rename_i h1 h2;exact zvs B ho h h1 h2
  ·exact zap
 ·exact zap
def qf3 (tb:TT) (σ:Sg) (n t:Nat) (x:Operand) (lo hi:Option Operand):OC:=match tif tb t with
 | some ⟨.slice el,_,_,_⟩=>(match tif tb el with | some i=>.q (pSl σ n i.n x lo hi) | none=>noO)
 | some ⟨.array len el,_,_,_⟩=>(match tif tb el with | some i=>.q (pSa σ n len i.n x lo hi) | none=>noO)
 | some ⟨.string,_,_,_⟩=>.q (pSs σ n x lo hi)
 | _=>noO
theorem qca (B:TbOk P T tb) {t:Nat} {x:Operand} {lo hi:Option Operand} (ho:o.op = .slice t x lo hi none):zot P σ n o (qf3 tb σ n t x lo hi):=by
 unfold qf3;split
 ·rename_i h;split
  ·rename_i h2;exact qj8 B ho h h2
  ·exact zap
 ·rename_i h;split
  ·rename_i h2;exact qli B ho h h2
  ·exact zap
 ·rename_i h;exact qjs B ho h
 ·exact zap
def qbs (tb:TT) (t:Nat) (k:Nat->TI->List AV->OC):OC:=match tif tb t with
 | some ⟨.slice el,_,_,_⟩=>(match tif tb el with
  | some i=>(match zAs i.z,Nat.beq i.z.length i.n with | some z,true=>k el i z | _,_=>noO)
  | none=>noO)
 | _=>noO
theorem ztk {t:Nat} {k:Nat->TI->List AV->OC} (h:∀ el n1 b1 z1 i z,tif tb t=some ⟨.slice el,n1,b1,z1⟩->tif tb el=some i->zAs i.z=some z->Nat.beq i.z.length i.n=true->zot P σ n o (k el i z)):zot P σ n o (qbs tb t k):=by
 unfold qbs;split
 ·rename_i h1;split
  ·rename_i h2;split
   ·rename_i h3 h4;exact h _ _ _ _ _ _ h1 h2 h3 h4
   ·exact zap
  ·exact zap
 ·exact zap
def cop (tb:TT) (σ:Sg) (n:Nat) (op:Op):OC:=match op with
 | .move x=>.q (qie σ n x)
 | .assign x=>.q (qie σ n x)
 | .pick c x y=>.q (qju σ n c x y)
 | .nilCheck x=>.q (qp7 σ n x)
 | .binOp op t x y _=>zx8 tb σ n op t x y
 | .unOp .not _ x=>.q (qrm σ n x)
 | .unOp .neg _ x=>.q (qrj σ n x)
 | .unOp .xor _ x=>.q (qp0 σ n x)
 | .convert s t x=>zyd tb σ n s t x
 | .extract x i=>.q (qp9 σ n x i)
 | .fieldAddr t x j=>qhm tb σ n t x j
 | .field t x j=>qh4 tb σ n t x j
 | .indexAddr t x y=>qib tb σ n t x y
 | .index t x y=>qfb tb σ n t x y
 | .build t ps=>qic tb σ n t ps.toList
 | .buildSlice t len ps=>qbs tb t fun el i z=>.l (lBs σ n el i.n len z ps.toList)
 | .makeSlice t x y=>qbs tb t fun el i z=>.l (lMk σ n el i.n i.b z x y)
 | .slice t x lo hi none=>qf3 tb σ n t x lo hi
 | .sliceToArrayPointer t x=>(match tif tb t with | some ⟨.array len _,_,_,_⟩=>.q (qp1 σ n len x) | _=>noO)
 | .makeFunc (.func g) fs cs=>.q (pMf σ n g fs.toList cs.toList)
 | .load t x=>(match tif tb t with | some i=>.p (pLd σ n i.n (!isA i.d) x) | none=>noO)
 | .store t x y=>(match tif tb t with | some i=>(match isA i.d with | true=>.e (qqr σ n i.n x y) | false=>(match Nat.beq i.n 1 with | true=>.e (eSt σ n x y) | false=>noO)) | none=>noO)
 | .alloc t=>(match tif tb t with | some i=>(match zAs i.z with | some z=>.l (lAl t i.n z) | none=>noO) | none=>noO)
 | .box t x=>.l (lBx σ n t x)
 | .lookup t x y ok=>qhi tb σ n t x y ok
 | .mapUpdate t x y z=>qe8 tb σ n t x y z
 | .makeMap t none=>.l lMm
 | .makeChan t x=>qhg tb σ n t x
 | .call c=>zr1 tb σ n c
 | _=>noO
theorem zqy (B:TbOk P T tb):zot P σ n o (cop tb σ n o.op):=by
 generalize ho:o.op=op;unfold cop;split
 ·exact zts (.inl ho)
 ·exact zts (.inr ho)
 ·exact qax ho
 ·exact qh8 ho
 ·exact zy4 B ho
 ·exact qg2 ho
 ·exact qgr ho
 ·exact qgg ho
 ·exact zv6 B ho
 ·exact qet ho
 ·exact qcg B ho
 ·exact qaq B ho
 ·exact qch B ho
 ·exact qa3 B ho
 ·exact qb7 B ho
 ·exact ztk fun el n1 b1 z1 i z h1 h2 h3 h4=>qkw B ho h1 h2 h3 h4
 ·exact ztk fun el n1 b1 z1 i z h1 h2 h3 h4=>qll B ho h1 h2 h3 h4
 ·exact qca B ho
 ·split
  ·rename_i h;exact qgu B ho h
  ·exact zap
 ·exact qjb ho
 ·split
  ·rename_i h;exact ql8 B ho h
  ·exact zap
 ·split
  ·rename_i h;split
   ·exact qe4 B ho h
   ·split
    ·rename_i h1;exact qmg B ho h h1
    ·exact zap
  ·exact zap
 ·split
  ·rename_i h;split
   ·rename_i h1;exact qi1 B ho h h1
   ·exact zap
  ·exact zap
 ·exact qle ho
 ·exact qbh B ho
 ·exact qal B ho
 ·exact qlm ho
 ·exact qbk B ho
 ·exact zuw B ho
 ·exact zap
end
end
end Go.V
end
section
namespace Go.V
open Go.Q
noncomputable section
def FrE (N:Nat) (φ:Ph) (e:En) (a:Act):Prop:=FrV N φ [] 0 [] e a
def zpp (E:Nat) (e:En):Prop:=∀ t,t<4 ^ DE->Nat.testBit E t=false->gt DE t e=none
def SgOk (n:Nat) (σ:Sg):Prop:=∀ t j,slk t σ = .st j->j<n
theorem SgOk.nil:SgOk 0 []:=fun t j h=>by simp [slk] at h
theorem zt9 {n:Nat} {s:Src} {v:AV} {st:St} {e:En} (h:∀ j,s = .st j->j<n):den (n+1) (v :: st) e s=den n st e s:=by
 cases s with
 | st j =>
  have:=h j rfl;show (v :: st)[n+1-j-1]? = st[n-j-1]?
  rw [show n+1-j-1=(n-j-1)+1 from by omega,List.getElem?_cons_succ]
 | en t=>rfl
 | co v=>rfl
 | no=>rfl
theorem zzh {n:Nat} {v:AV} {st:St} {e:En}:den (n+1) (v :: st) e (.st n)=some v:=by
 show (v :: st)[n+1-n-1]? = some v
 rw [show n+1-n-1=0 from by omega];rfl
theorem SgOk.push {n:Nat} {σ:Sg} {d:Nat} (h:SgOk n σ):SgOk (n+1) ((d,.st n) :: σ):=fun t j hj=>by
 rw [zcf] at hj;split at hj
 ·cases hj;exact Nat.lt_succ_self _
 ·exact Nat.lt_succ_of_lt (h t j hj)
theorem qh0 {n:Nat} {σ:Sg} (h:SgOk n σ) {x:Operand} {j:Nat} (hj:zsa σ x = .st j):j<n:=by
 cases x with
 | tmp t =>
  have hj':(Bool.rec (motive:=fun _=>Src) Src.no (slk t σ) (Nat.blt t 256)) = .st j:=hj
  cases hb:Nat.blt t 256 with
  | false=>rw [hb] at hj';cases hj'
  | true=>rw [hb] at hj';exact h t j hj'
 | const v =>
  have hj':ofV v = .st j:=hj;unfold ofV at hj'
  split at hj' <;> cases hj'
 | global g =>
  have hj':(Bool.rec (motive:=fun _=>Src) Src.no (Src.co (AV.p g 0)) (Nat.blt g GN)) = .st j:=hj
  cases hb:Nat.blt g GN with
  | false=>rw [hb] at hj';cases hj'
  | true=>rw [hb] at hj';cases hj'
 | func g=>cases hj
theorem SgOk.alias {n:Nat} {σ:Sg} {d:Nat} {x:Operand} (h:SgOk n σ):SgOk n ((d,zsa σ x) :: σ):=fun t j hj=>by
 rw [zcf] at hj;split at hj
 ·exact qh0 h hj
 ·exact h t j hj
theorem zyw {a:Act} {d s:Nat} {u:Value} (h:d≠s):(a.put (some d) u).tmps[s]? = a.tmps[s]?:=by
 simp only [Act.put];rw [Array.getElem?_setIfInBounds_ne h]
theorem zxu {a:Act} {d:Nat} {u:Value} (h:d<a.tmps.size):(a.put (some d) u).tmps[d]? = some u:=by
 simp [Act.put,h]
theorem FrV.push {N:Nat} {φ:Ph} {σ:Sg} {n:Nat} {st:St} {e:En} {a:Act} (f:FrV N φ σ n st e a) (hs:SgOk n σ) {d:Nat} {v:AV} {u:Value} (hd:d<N) (hv:cv φ v=some u):FrV N φ ((d,.st n) :: σ) (n+1) (v :: st) e (a.put (some d) u):=by
 refine⟨f.gl,f.d,by simp [Act.put,f.sz],fun t w ht hw=>?_⟩;rw [zcf] at hw;by_cases hdt:d=t
 ·subst hdt
  rw [if_pos rfl,zzh] at hw
  cases hw
  exact⟨u,zxu (by rw [f.sz];exact hd),hv⟩
 ·rw [if_neg hdt,zt9 (hs t)] at hw
  rw [zyw hdt];exact f.v t w ht hw
theorem FrV.push0 {N:Nat} {φ:Ph} {σ:Sg} {n:Nat} {st:St} {e:En} {a:Act} (f:FrV N φ σ n st e a) (u:Value):FrV N φ σ n st e (a.put none u):=f
theorem FrV.alias {N:Nat} {φ:Ph} {σ:Sg} {n:Nat} {st:St} {e:En} {a:Act} (f:FrV N φ σ n st e a) {d:Nat} {x:Operand} (hd:d<N):FrV N φ ((d,zsa σ x) :: σ) n st e (a.put (some d) (a.eval x)):=by
 refine⟨f.gl,f.d,by simp [Act.put,f.sz],fun t w ht hw=>?_⟩;rw [zcf] at hw;by_cases hdt:d=t
 ·subst hdt
  rw [if_pos rfl] at hw;exact⟨a.eval x,zxu (by rw [f.sz];exact hd),osrc_ok f hw⟩
 ·rw [if_neg hdt] at hw
  rw [zyw hdt];exact f.v t w ht hw
structure WR where
 f:St->En->En->(En->Rs)->Rs
def WR.x (x:WR):St->En->En->(En->Rs)->Rs:=WR.rec (fun f=>f) x
def wrs (E n:Nat):Sg->WR
 | []=>⟨fun _ _ e K=>K e⟩
 | (t,s) :: r=>Bool.rec (wrs E n r) ⟨fun st e0 e K=>(wrs E n r).x st e0 e fun e=>(qkm n s).x st e0 fun v=>(up DE t).x Rs e (some v) K⟩ (and (Nat.testBit E t) (Nat.blt t 256))
def inS (t:Nat):Sg->Prop
 | []=>False
 | (s,_) :: r=>s=t∨inS t r
theorem zum {E n:Nat} {st:St} {e0:En}:∀(σ:Sg) (e:En) (K:En->Rs),(wrs E n σ).x st e0 e K=true->∃ e',K e'=true/\∀ t,t<4 ^ DE->((inS t σ/\Nat.testBit E t=true)->gt DE t e'=den n st e0 (slk t σ))/\(¬ (inS t σ/\Nat.testBit E t=true)->gt DE t e'=gt DE t e)
 | [],e,K,H=>⟨e,H,fun t ht=>⟨fun h=>h.1.elim,fun _=>rfl⟩⟩
 | (s,v) :: r,e,K,H=>by
  unfold wrs at H
  cases hb:and (Nat.testBit E s) (Nat.blt s 256) with
  | false =>
   rw [hb] at H;obtain⟨e',h1,h2⟩:=zum r e K H;refine⟨e',h1,fun t ht=>⟨fun h=>?_,fun h=>(h2 t ht).2 fun k=>h ⟨.inr k.1,k.2⟩⟩⟩
   have hst:s≠t:=fun hst=>by
    subst hst;rw [h.2,show Nat.blt s 256=true from by rw [Nat.blt_eq];exact ht] at hb
    cases hb
   rw [zcf,if_neg hst]
   exact(h2 t ht).1 ⟨h.1.resolve_left hst,h.2⟩
  | true =>
   rw [hb] at H;obtain⟨hE,hlt⟩:=zag.1 hb;rw [Nat.blt_eq] at hlt;have H':(wrs E n r).x st e0 e (fun e=>(qkm n v).x st e0 fun v=>(up DE s).x Rs e (some v) K)=true:=H;obtain⟨e1,h1,h2⟩:=zum r e _ H';obtain⟨w,hw,h3⟩:=zsz h1;rw [up_eq] at h3;refine⟨_,h3,fun t ht=>?_⟩;by_cases hst:s=t
   ·subst hst
    rw [zht,zcf,if_pos rfl];exact⟨fun _=>hw.symm,fun h=>absurd ⟨.inl rfl,hE⟩ h⟩
   ·rw [zar _ _ _ _ _ hlt ht hst,zcf,if_neg hst]
    exact⟨fun h=>(h2 t ht).1 ⟨h.1.resolve_left hst,h.2⟩,fun h=>(h2 t ht).2 fun k=>h ⟨.inr k.1,k.2⟩⟩
theorem zsu {t:Nat}:∀ {σ:Sg},¬ inS t σ->slk t σ = .en t
 | [],_=>rfl
 | (s,v) :: r,h=>by
  rw [zcf,if_neg fun hs=>h (.inl hs)];exact zsu fun hr=>h (.inr hr)
theorem qdk {E N n:Nat} {σ:Sg} {st:St} {e e':En} (h:∀ t,t<4 ^ DE->((inS t σ/\Nat.testBit E t=true)->gt DE t e'=den n st e (slk t σ))/\(¬ (inS t σ/\Nat.testBit E t=true)->gt DE t e'=gt DE t e)) (he:zpp E e) :
  zpp E e'/\∀ φ a,FrV N φ σ n st e a->FrE N φ e' a:=by
 refine⟨fun t ht hE=>?_,fun φ a f=>⟨f.gl,f.d,f.sz,fun t v ht hv=>?_⟩⟩
 ·rw [(h t ht).2 (fun k=>by rw [hE] at k;cases k.2)];exact he t ht hE
 ·have hv':gt DE t e'=some v:=hv
  by_cases hk:inS t σ/\Nat.testBit E t=true
  ·rw [(h t ht).1 hk] at hv'
   exact f.v t v ht hv'
  ·rw [(h t ht).2 hk] at hv'
   by_cases hE:Nat.testBit E t=true
   ·have:=zsu (fun hi=>hk ⟨hi,hE⟩)
    exact f.v t v ht (by rw [this];exact hv')
   ·rw [he t ht (by simpa using hE)] at hv';cases hv'
structure RG where
 f:zbk->St->En->HS->(En->HS->Rs)->Rs
def RG.x (x:RG):zbk->St->En->HS->(En->HS->Rs)->Rs:=RG.rec (fun f=>f) x
def noR:RG:=⟨fun _ _ _ _ _=>false⟩
def qig (all:List Oper) (j:Nat):Option Nat:=match lAt all j with | some o=>o.dst | none=>none
def zn2 (w:Bool) (b:Bool):Bool:=Bool.rec (not b) b w
theorem zmy (w b:Bool):zn2 w b=(b==w):=by cases w <;> cases b <;> rfl
structure Cx where
 tb:TT
 E:Nat
 N:Nat
def rg (cx:Cx) (all:List Oper):List Oper->Sg->Nat->RG
 | [],σ,n=>⟨fun _ st e h K=>(wrs cx.E n σ).x st e e fun e=>K e h⟩
 | o :: r,σ,n=>match o.guard with
  | none=>(match o.dst with
   | some d=>(match Nat.blt d cx.N with
    | true=>(match o.op with
     | .move x=>rg cx all r ((d,zsa σ x) :: σ) n
     | .assign x=>rg cx all r ((d,zsa σ x) :: σ) n
     | op=>⟨fun call st e h K=>(toE (cop cx.tb σ n op)).x call st e h fun v h=>(rg cx all r ((d,.st n) :: σ) (n+1)).x call (v :: st) e h K⟩)
    | false=>noR)
   | none=>⟨fun call st e h K=>(toE (cop cx.tb σ n o.op)).x call st e h fun _ h=>(rg cx all r σ n).x call st e h K⟩)
  | some (j,want)=>(match qig all j with
   | some q=>(match o.dst with
    | some d=>(match Nat.blt d cx.N with
     | true=>⟨fun call st e h K=>(opd σ n (.tmp q)).x st e fun v=>(dW want).x v fun b=>Bool.rec (motive:=fun _=>Rs)
       ((rg cx all r ((d,.st n) :: σ) (n+1)).x call (und :: st) e h K)
       ((toE (cop cx.tb σ n o.op)).x call st e h fun v h=>(rg cx all r ((d,.st n) :: σ) (n+1)).x call (v :: st) e h K) (zn2 want b)⟩
     | false=>noR)
    | none=>⟨fun call st e h K=>(opd σ n (.tmp q)).x st e fun v=>(dW want).x v fun b=>Bool.rec (motive:=fun _=>Rs)
       ((rg cx all r σ n).x call st e h K)
       ((toE (cop cx.tb σ n o.op)).x call st e h fun _ h=>(rg cx all r σ n).x call st e h K) (zn2 want b)⟩)
   | none=>noR)
section
variable {P:Program} {T:Tab} {cx:Cx}
def qmn (P:Program) (cx:Cx) (ops:Array Oper) (l:List Oper) (σ:Sg) (n:Nat) (g:RG):Prop :=
 ∀(call:zbk),za7 P call->∀(st:St) (e:En) (h:HS) (K:En->HS->Rs),g.x call st e h K=true->SgOk n σ->zpp cx.E e->∃ e' h1,K e' h1=true/\zpp cx.E e' /\
  ∀(base:zaa) (φ:Ph) (a:Act) (w:World) (Q:Exit->Act->World->Prop) (Kw:Act->World->Prop),FrV cx.N φ σ n st e a->Rel base φ h w.heap ->
   (∀ φ' a' w',Ex φ h φ' h1->FrE cx.N φ' e' a'->Rel base φ' h1 w'.heap->WW false w w'.heap w'->Kw a' w')->wpK P ops Q Kw l a w
theorem zw0 {ops:Array Oper} {l:List Oper} {σ:Sg} {n:Nat}:qmn P cx ops l σ n noR:=fun call CO st e h K H=>by cases H
theorem zne {o:Oper} {ops:Array Oper} {tmps:Array Value} (h:o.guard=none):Region.wanted o (yielded ops tmps)=true:=by unfold Region.wanted;rw [h]
theorem qmk {ops:Array Oper} {o:Oper} {a:Act} {w:World} {Q:Exit->Act->World->Prop} {Kw:Act->World->Prop} {r:List Oper} {Φ:Value->zaa->Prop} (hw:Region.wanted o (yielded ops a.tmps)=true) (hy:YE false P (eA a) w.heap o Φ)
  (k:∀ u w',WW false w w'.heap w'->Φ u w'.heap->wpK P ops Q Kw r (a.put o.dst u) w'):wpK P ops Q Kw (o :: r) a w:=by
 simp only [wpK,hw,if_true];exact .inl (hy a w zrm rfl _ _ k)
theorem qga {ops:Array Oper} {o:Oper} {a:Act} {w:World} {Q:Exit->Act->World->Prop} {Kw:Act->World->Prop} {r:List Oper} (hw:Region.wanted o (yielded ops a.tmps)=false) (k:wpK P ops Q Kw r (a.put o.dst undef) w):wpK P ops Q Kw (o :: r) a w:=by
 simp only [wpK,hw,Bool.false_eq_true,if_false];exact k
theorem WW.refl' (w:World):WW false w w.heap w:=WW.self w
theorem zsd {ops:Array Oper} {o:Oper} {r:List Oper} {σ σ':Sg} {n n':Nat} {st:St} {e:En} {h:HS} {K:En->HS->Rs} {call:zbk} (CO:za7 P call) {c:OC} (hc:zot P σ n o c) {g:RG} (G:qmn P cx ops r σ' n' g) {f:AV->St} (hs':SgOk n' σ') (he:zpp cx.E e)
  (hf:∀ φ a v u,FrV cx.N φ σ n st e a->cv φ v=some u->FrV cx.N φ σ' n' (f v) e (a.put o.dst u)) (H:(toE c).x call st e h (fun v h=>g.x call (f v) e h K)=true) :
  ∃ e' h1,K e' h1=true/\zpp cx.E e'/\∀(base:zaa) (φ:Ph) (a:Act) (w:World) (Q:Exit->Act->World->Prop) (Kw:Act->World->Prop),FrV cx.N φ σ n st e a->Rel base φ h w.heap->Region.wanted o (yielded ops a.tmps)=true ->
   (∀ φ' a' w',Ex φ h φ' h1->FrE cx.N φ' e' a'->Rel base φ' h1 w'.heap->WW false w w'.heap w'->Kw a' w')->wpK P ops Q Kw (o :: r) a w:=by
 obtain⟨v,h1,H1,hv⟩:=qk8 hc call CO st e h _ H;obtain⟨e',h2,H2,he',hg⟩:=G call CO (f v) e h1 K H1 hs' he;refine⟨e',h2,H2,he',fun base φ a w Q Kw F R hw k=>qmk hw (hv cx.N base φ a w.heap F R) ?_⟩;rintro u w' hww ⟨φ',X,R',hu⟩;refine hg base φ' _ w' Q Kw (hf φ' a v u (F.mono X.le) hu) R' fun φ'' a'' w'' X2 F2 R2 W2=>k φ'' a'' w'' (X.trans X2) F2 R2 (hww.trans W2)
theorem znp {ops:List Oper} {o:Oper} {j q:Nat} {want:Bool} (hg:o.guard=some (j,want)) (hq:qig ops j=some q) {N:Nat} {φ:Ph} {σ:Sg} {n:Nat} {st:St} {e:En} {a:Act} (F:FrV N φ σ n st e a) {v:AV} (hv:den n st e (zsa σ (.tmp q))=some v) :
  (∀ b,v = .b b->Region.wanted o (yielded ops.toArray a.tmps)=(b==want))/\(v = .tu []->Region.wanted o (yielded ops.toArray a.tmps)=false):=by
 obtain⟨u,e1,c1⟩:=F.ev hv;unfold qig at hq;rw [qd0] at hq
 cases hj:ops[j]? with
 | none=>simp [hj] at hq
 | some oj =>
  simp only [hj] at hq;have e1':lkO (eA a) q=some u:=e1;refine⟨fun b hb=>?_,fun hb=>?_⟩
  ·subst hb;cases c1
   refine zda (lops:=ops) (e:=eA a) (N:=N) ?_ (qhz F);unfold wnt;simp only [hg,hj,hq,e1']
  ·subst hb;cases c1
   refine zda (lops:=ops) (e:=eA a) (N:=N) ?_ (qhz F);unfold wnt;simp only [hg,hj,hq,e1']
theorem zvb (B:TbOk P T cx.tb) (ops:List Oper):∀(l:List Oper) (σ:Sg) (n:Nat),qmn P cx ops.toArray l σ n (rg cx ops l σ n)
 | [],σ,n=>fun call CO st e h K H hs he=>by
  obtain⟨e',h1,h2⟩:=zum σ e _ H;obtain⟨he',hf⟩:=qdk (N:=cx.N) h2 he
  exact⟨e',h,h1,he',fun base φ a w Q Kw F R k=>k φ a w Ex.rfl (hf φ a F) R (WW.refl' w)⟩
 | o :: r,σ,n=>by
  unfold rg;split
  ·rename_i hg
   have hw:∀ a:Act,Region.wanted o (yielded ops.toArray a.tmps)=true:=fun a=>zne hg;split
   ·rename_i d hd
    split
    ·rename_i hlt
     rw [Nat.blt_eq] at hlt
     have al:∀ x:Operand,(o.op = .move x∨o.op = .assign x)->qmn P cx ops.toArray (o :: r) σ n (rg cx ops r ((d,zsa σ x) :: σ) n):=fun x hx call CO st e h K H hs he=>by
      obtain⟨e',h1,H1,he',hg'⟩:=zvb B ops r ((d,zsa σ x) :: σ) n call CO st e h K H hs.alias he;refine⟨e',h1,H1,he',fun base φ a w Q Kw F R k=>?_⟩;have hy:Yl P (eA a) w.heap o (a.eval x)∨True:=.inr trivial;simp only [wpK,hw a,if_true];refine .inl ?_;have hrun:(execOp a.eval o).run P w = .ok (.value (a.eval x)) w:=by rcases hx with hx | hx <;> simp [execOp,hx]
      simp only [Oper.wp,hrun,Oper.upon,hd];exact hg' base φ _ w Q Kw (F.alias hlt) R k
     have gen:qmn P cx ops.toArray (o :: r) σ n ⟨fun call st e h K=>(toE (cop cx.tb σ n o.op)).x call st e h fun v h=>(rg cx ops r ((d,.st n) :: σ) (n+1)).x call (v :: st) e h K⟩:=fun call CO st e h K H hs he=>by
      obtain⟨e',h1,H1,he',hg'⟩:=zsd (cx:=cx) (ops:=ops.toArray) CO (zqy B) (zvb B ops r ((d,.st n) :: σ) (n+1)) (f:=fun v=>v :: st) hs.push he (fun φ a v u F hv=>by rw [hd];exact F.push hs hlt hv) H;exact⟨e',h1,H1,he',fun base φ a w Q Kw F R k=>hg' base φ a w Q Kw F R (hw a) k⟩
     split
     ·rename_i x hx;exact al x (.inl hx)
     ·rename_i x hx;exact al x (.inr hx)
     ·exact gen
    ·exact zw0
   ·rename_i hd
    intro call CO st e h K H hs he;obtain⟨e',h1,H1,he',hg'⟩:=zsd (cx:=cx) (ops:=ops.toArray) CO (zqy B) (zvb B ops r σ n) (f:=fun v=>st) hs he (fun φ a v u F hv=>by rw [hd];exact F.push0 u) H;exact⟨e',h1,H1,he',fun base φ a w Q Kw F R k=>hg' base φ a w Q Kw F R (hw a) k⟩
  ·rename_i j want hg
   split
   ·rename_i q hq
    have com:∀(σ':Sg) (n':Nat) (f:AV->St),∀(call:zbk),za7 P call->∀(st:St) (e:En) (h:HS) (K:En->HS->Rs),(∀(hs:SgOk n σ),SgOk n' σ')->(∀ φ a v u,SgOk n σ->FrV cx.N φ σ n st e a->cv φ v=some u->FrV cx.N φ σ' n' (f v) e (a.put o.dst u)) ->
      ((opd σ n (.tmp q)).x st e fun v=>(dW want).x v fun b=>Bool.rec (motive:=fun _=>Rs) ((rg cx ops r σ' n').x call (f und) e h K) ((toE (cop cx.tb σ n o.op)).x call st e h fun v h=>(rg cx ops r σ' n').x call (f v) e h K) (zn2 want b))=true->SgOk n σ->zpp cx.E e ->
      ∃ e' h1,K e' h1=true/\zpp cx.E e'/\∀(base:zaa) (φ:Ph) (a:Act) (w:World) (Q:Exit->Act->World->Prop) (Kw:Act->World->Prop),FrV cx.N φ σ n st e a->Rel base φ h w.heap ->
       (∀ φ' a' w',Ex φ h φ' h1->FrE cx.N φ' e' a'->Rel base φ' h1 w'.heap->WW false w w'.heap w'->Kw a' w')->wpK P ops.toArray Q Kw (o :: r) a w:=by
     intro σ' n' f call CO st e h K hσ hf H hs he;obtain⟨v,hv,H⟩:=zaf H
     have key:∃ b,(v = .b b∨(v = .tu []/\b = !want))/\Bool.rec (motive:=fun _=>Rs) ((rg cx ops r σ' n').x call (f und) e h K) ((toE (cop cx.tb σ n o.op)).x call st e h fun v h=>(rg cx ops r σ' n').x call (f v) e h K) (zn2 want b)=true:=by
      rcases qlk H with⟨b,rfl,h1⟩ | ⟨rfl,h1⟩
      ·exact⟨b,.inl rfl,h1⟩
      ·exact⟨!want,.inr ⟨rfl,rfl⟩,h1⟩
     obtain⟨b,hvb,H1⟩:=key
     have hwt:∀ φ a,FrV cx.N φ σ n st e a->Region.wanted o (yielded ops.toArray a.tmps)=zn2 want b:=fun φ a F=>by
      obtain⟨w1,w2⟩:=znp hg hq F hv;rcases hvb with rfl | ⟨rfl,rfl⟩
      ·rw [w1 b rfl,zmy]
      ·rw [w2 rfl,zmy];cases want <;> rfl
     cases hgb:zn2 want b with
     | true =>
      rw [hgb] at H1;obtain⟨e',h1,H2,he',hg'⟩:=zsd (cx:=cx) (ops:=ops.toArray) CO (zqy B) (zvb B ops r σ' n') (f:=f) (hσ hs) he (fun φ a v u F hv=>hf φ a v u hs F hv) H1
      exact⟨e',h1,H2,he',fun base φ a w Q Kw F R k=>hg' base φ a w Q Kw F R (by rw [hwt φ a F,hgb]) k⟩
     | false =>
      rw [hgb] at H1;obtain⟨e',h1,H2,he',hg'⟩:=zvb B ops r σ' n' call CO (f und) e h K H1 (hσ hs) he;exact⟨e',h1,H2,he',fun base φ a w Q Kw F R k=>qga (by rw [hwt φ a F,hgb]) (hg' base φ _ w Q Kw (hf φ a und undef hs F (zq4 φ)) R k)⟩
    split
    ·rename_i d hd
     split
     ·rename_i hlt
      rw [Nat.blt_eq] at hlt;intro call CO st e h K H hs he;exact com ((d,.st n) :: σ) (n+1) (fun v=>v :: st) call CO st e h K (fun hs=>hs.push) (fun φ a v u hs F hv=>by rw [hd];exact F.push hs hlt hv) H hs he
     ·exact zw0
    ·rename_i hd
     intro call CO st e h K H hs he;exact com σ n (fun v=>st) call CO st e h K (fun hs=>hs) (fun φ a v u hs F hv=>by rw [hd];exact F.push0 u) H hs he
   ·exact zw0
end
end
end Go.V
end

/- A part of the proof of statements of this seat: lemmas, no statement of their own. -/
import Derived.Test.YtmilimlmimckbaaGreatDoorYoZal
import Derived.Test.YtmilimlmimckbaaGreatDoorYoZad
set_option linter.unusedVariables false
set_option linter.unusedSimpArgs false
section
namespace Go.V
open Go.Q
noncomputable section
structure PO where
 f:St->En->HS->(AV->Rs)->Rs
def PO.x (g:PO):St->En->HS->(AV->Rs)->Rs:=PO.rec (fun f=>f) g
def noP:PO:=⟨fun _ _ _ _=>false⟩
def POk (P:Program) (σ:Sg) (n:Nat) (o:Oper) (g:PO):Prop :=
 ∀(st:St) (e:En) (h:HS) (K:AV->Rs),g.x st e h K=true->∃ v,K v=true/\∀(N:Nat) (φ:Ph) (a:Act) (hc:zaa),FrV N φ σ n st e a->RelR φ h hc->∃ u,Yl P (eA a) hc o u/\cv φ v=some u
def QOk (P:Program) (σ:Sg) (n:Nat) (o:Oper) (g:PO):Prop :=
 ∀(st:St) (e:En) (h:HS) (K:AV->Rs),g.x st e h K=true->∃ v,K v=true/\∀(N:Nat) (φ:Ph) (a:Act) (hc:zaa),FrV N φ σ n st e a->∃ u,Yl P (eA a) hc o u/\cv φ v=some u
section
variable {P:Program} {T:Tab} {tb:TT} {σ:Sg} {n:Nat} {o:Oper}
theorem QOk.p {g:PO} (h:QOk P σ n o g):POk P σ n o g:=fun st e hh K H=>let ⟨v,h1,h2⟩:=h st e hh K H;⟨v,h1,fun N φ a hc F R=>h2 N φ a hc F⟩
theorem qlf:QOk P σ n o noP:=fun st e h K H=>by cases H
theorem qgq:TOk P []:=fun t i h=>by simp [tlk] at h
theorem qb2 {e:Env} {h:zaa} {u:Value} (hp:pev [] e o.op=some u):Yl P e h o u:=zdh qgq hp
def qie (σ:Sg) (n:Nat) (x:Operand):PO:=⟨fun st e _ K=>(opd σ n x).x st e K⟩
theorem zts {x:Operand} (ho:o.op = .move x∨o.op = .assign x):QOk P σ n o (qie σ n x):=fun st e h K H=>by
 obtain⟨v,hv,H⟩:=zaf H;refine⟨v,H,fun N φ a hc F=>?_⟩;obtain⟨u,e1,c1⟩:=F.ev hv;exact⟨u,by rcases ho with ho | ho <;> exact qb2 (by rw [ho];simpa [pev] using e1),c1⟩
def qju (σ:Sg) (n:Nat) (c x y:Operand):PO:=⟨fun st e _ K=>(opd σ n c).x st e fun v=>dB.x v fun b=>Bool.rec (motive:=fun _=>Rs) ((opd σ n y).x st e K) ((opd σ n x).x st e K) b⟩
theorem qax {c x y:Operand} (ho:o.op = .pick c x y):QOk P σ n o (qju σ n c x y):=fun st e h K H=>by
 obtain⟨v,hv,H⟩:=zaf H;obtain⟨b,hq,H2⟩:=zu7 H;clear H;subst hq;revert H2;intro H
 have key:∃ w z,(∀ a:Act,∀ u,evO (eA a) c=some (.bool b)->evO (eA a) z=some u->pev [] (eA a) o.op=some u)/\den n st e (zsa σ z)=some w/\K w=true:=by
  cases b with
  | false=>obtain⟨w,hw,H⟩:=zaf H;exact⟨w,y,fun a u e1 e2=>by rw [ho];simp [pev,e1,e2],hw,H⟩
  | true=>obtain⟨w,hw,H⟩:=zaf H;exact⟨w,x,fun a u e1 e2=>by rw [ho];simp [pev,e1,e2],hw,H⟩
 obtain⟨w,z,hp,hw,H⟩:=key;refine⟨w,H,fun N φ a hc F=>?_⟩;obtain⟨u1,e1,c1⟩:=F.ev hv;obtain⟨u2,e2,c2⟩:=F.ev hw
 cases c1
 exact⟨u2,qb2 (hp a u2 e1 e2),c2⟩
def keq (k k':IntKind):Bool:=IntKind.rec (motive:=fun _=>Bool)
 (IntKind.rec (motive:=fun _=>Bool) true false false false false false false false k') (IntKind.rec (motive:=fun _=>Bool) false true false false false false false false k')
 (IntKind.rec (motive:=fun _=>Bool) false false true false false false false false k') (IntKind.rec (motive:=fun _=>Bool) false false false true false false false false k')
 (IntKind.rec (motive:=fun _=>Bool) false false false false true false false false k') (IntKind.rec (motive:=fun _=>Bool) false false false false false true false false k')
 (IntKind.rec (motive:=fun _=>Bool) false false false false false false true false k') (IntKind.rec (motive:=fun _=>Bool) false false false false false false false true k') k
theorem zhi {k k':IntKind} (h:keq k k'=true):k=k':=by cases k <;> cases k' <;> first | rfl | cases h
def qly (σ:Sg) (n:Nat) (op:BinOp) (x y:Operand):PO:=⟨fun st e _ K=>(opd σ n x).x st e fun v=>dI.x v fun k a=>(opd σ n y).x st e fun v=>dI.x v fun k' b=>Bool.rec (motive:=fun _=>Rs) false ((bi op).x k a b K) (keq k k')⟩
theorem qbc {op:BinOp} {t t':TypeId} {x y:Operand} (ho:o.op = .binOp op t x y t'):QOk P σ n o (qly σ n op x y):=fun st e h K H=>by
 obtain⟨v,hv,H⟩:=zaf H;obtain⟨k,p,hq,H2⟩:=zha H;clear H;subst hq;revert H2;intro H;obtain⟨w,hw,H⟩:=zaf H;obtain⟨k',q,hq,H2⟩:=zha H;clear H;subst hq;revert H2;intro H;obtain⟨hk,H2⟩:=zbz H
 cases zhi hk
 obtain⟨v,u,hK,hb,hc⟩:=qnl H2;refine⟨v,hK,fun N φ a hc' F=>⟨u,?_,hc φ⟩⟩;obtain⟨u1,e1,c1⟩:=F.ev hv;obtain⟨u2,e2,c2⟩:=F.ev hw
 cases c1;cases c2
 refine qb2 ?_;rw [ho]
 cases op <;> simp only [bI] at hb <;> first | (simp only [pev,e1,e2,zz6,if_true];exact hb) | (simp only [zzg,reduceCtorEq] at hb)
def pSh (σ:Sg) (n:Nat) (g:IntKind->Int->Nat->Int) (x y:Operand):PO:=⟨fun st e _ K=>(opd σ n x).x st e fun v=>dI.x v fun k a=>(opd σ n y).x st e fun v=>dN.x v fun b=>zvx (g k a b) fun r=>K (.i k r)⟩
theorem qem {t t':TypeId} {x y:Operand} (ho:o.op = .binOp .shl t x y t'):QOk P σ n o (pSh σ n qil x y):=fun st e h K H=>by
 obtain⟨v,hv,H⟩:=zaf H;obtain⟨k,p,hq,H2⟩:=zha H;clear H;subst hq;revert H2;intro H;obtain⟨w,hw,H⟩:=zaf H;obtain⟨k',q,hq,H2⟩:=zok H;clear H;subst hq;revert H2;intro H;rw [intK_eq,zsv] at H;refine⟨_,H,fun N φ a hc' F=>⟨_,?_,rfl⟩⟩;obtain⟨u1,e1,c1⟩:=F.ev hv;obtain⟨u2,e2,c2⟩:=F.ev hw
 cases c1;cases c2
 show Yl P _ _ o (.int k (shl k p (Int.ofNat q).toNat))
 exact zvq ho e1 e2 (by simp)
theorem qe9 {t t':TypeId} {x y:Operand} (ho:o.op = .binOp .shr t x y t'):QOk P σ n o (pSh σ n qij x y):=fun st e h K H=>by
 obtain⟨v,hv,H⟩:=zaf H;obtain⟨k,p,hq,H2⟩:=zha H;clear H;subst hq;revert H2;intro H;obtain⟨w,hw,H⟩:=zaf H;obtain⟨k',q,hq,H2⟩:=zok H;clear H;subst hq;revert H2;intro H;rw [intK_eq,zp8] at H;refine⟨_,H,fun N φ a hc' F=>⟨_,?_,rfl⟩⟩;obtain⟨u1,e1,c1⟩:=F.ev hv;obtain⟨u2,e2,c2⟩:=F.ev hw
 cases c1;cases c2
 show Yl P _ _ o (.int k (shr k p (Int.ofNat q).toNat))
 exact zzy ho e1 e2 (by simp)
def qrm (σ:Sg) (n:Nat) (x:Operand):PO:=⟨fun st e _ K=>(opd σ n x).x st e fun v=>dB.x v fun b=>Bool.rec (motive:=fun _=>Rs) (K (.b true)) (K (.b false)) b⟩
theorem qg2 {t:TypeId} {x:Operand} (ho:o.op = .unOp .not t x):QOk P σ n o (qrm σ n x):=fun st e h K H=>by
 obtain⟨v,hv,H⟩:=zaf H;obtain⟨b,hq,H2⟩:=zu7 H;clear H;subst hq;revert H2;intro H;refine⟨.b (!b),by cases b <;> exact H,fun N φ a hc' F=>⟨.bool (!b),?_,rfl⟩⟩;obtain⟨u1,e1,c1⟩:=F.ev hv
 cases c1
 exact qb2 (by rw [ho];simp [pev,e1])
def qrj (σ:Sg) (n:Nat) (x:Operand):PO:=⟨fun st e _ K=>(opd σ n x).x st e fun v=>dI.x v fun k a=>zvx (wr k (Int.sub 0 a)) fun r=>K (.i k r)⟩
theorem qgr {t:TypeId} {x:Operand} (ho:o.op = .unOp .neg t x):QOk P σ n o (qrj σ n x):=fun st e h K H=>by
 obtain⟨v,hv,H⟩:=zaf H;obtain⟨k,p,hq,H2⟩:=zha H;clear H;subst hq;revert H2;intro H;rw [intK_eq,zmh] at H;refine⟨_,H,fun N φ a hc' F=>⟨_,?_,rfl⟩⟩;obtain⟨u1,e1,c1⟩:=F.ev hv
 cases c1
 exact qb2 (by rw [ho];simp only [pev,e1];rfl)
def qp0 (σ:Sg) (n:Nat) (x:Operand):PO:=⟨fun st e _ K=>(opd σ n x).x st e fun v=>dI.x v fun k a=>zvx (wr k (.ofNat (Nat.xor (un2 (Bool.rec k.max (-1) k.signed)) (un2 a)))) fun r=>K (.i k r)⟩
theorem qgg {t:TypeId} {x:Operand} (ho:o.op = .unOp .xor t x):QOk P σ n o (qp0 σ n x):=fun st e h K H=>by
 obtain⟨v,hv,H⟩:=zaf H;obtain⟨k,p,hq,H2⟩:=zha H;clear H;subst hq;revert H2;intro H;rw [intK_eq,zwq] at H;refine⟨_,H,fun N φ a hc' F=>⟨_,?_,rfl⟩⟩;obtain⟨u1,e1,c1⟩:=F.ev hv
 cases c1
 intro ρ w hA hw;simp only [execOp,ho,hA _ _ e1,Op.unary,Op.intBits]
 cases hk:k.signed <;> simp [hk]
def qln (σ:Sg) (n:Nat) (k:IntKind) (x:Operand):PO:=⟨fun st e _ K=>(opd σ n x).x st e fun v=>dI.x v fun _ a=>zvx (wr k a) fun r=>K (.i k r)⟩
theorem qbj (B:TbOk P T tb) {s t:TypeId} {k:IntKind} {i:TI} {n1 b1:Nat} {z1:List Value} {x:Operand} (ho:o.op = .convert s t x) (hs:tif tb s=some i) (ht:tif tb t=some ⟨.int k,n1,b1,z1⟩):QOk P σ n o (qln σ n k x):=fun st e h K H=>by
 obtain⟨v,hv,H⟩:=zaf H;obtain⟨k',p,hq,H2⟩:=zha H;clear H;subst hq;revert H2;intro H;rw [intK_eq,zmh] at H;refine⟨_,H,fun N φ a hc' F=>⟨_,?_,rfl⟩⟩;obtain⟨u1,e1,c1⟩:=F.ev hv
 cases c1
 exact zdh B.ok (by rw [ho];simp only [pev,B.get hs,B.get ht,e1])
theorem qd3 (x:Pl) (j:Nat):(⟨x.b,x.o+j,none⟩:Addr)=x.at j:=rfl
def qp7 (σ:Sg) (n:Nat) (x:Operand):PO:=⟨fun st e _ K=>(opd σ n x).x st e fun v=>dP.x v fun b o=>K (.p b o)⟩
theorem qh8 {x:Operand} (ho:o.op = .nilCheck x):QOk P σ n o (qp7 σ n x):=fun st e h K H=>by
 obtain⟨v,hv,H⟩:=zaf H;obtain⟨b,o',hq,H2⟩:=znv H;clear H;subst hq;revert H2;intro H;refine⟨_,H,fun N φ a hc' F=>?_⟩;obtain⟨u1,e1,c1⟩:=F.ev hv;obtain⟨y,hy,rfl⟩:=zv1 c1;exact⟨_,zut ho e1,c1⟩
def pFa (σ:Sg) (n off:Nat) (x:Operand):PO:=⟨fun st e _ K=>(opd σ n x).x st e fun v=>dP.x v fun b o=>zb3 (Nat.add o off) fun o=>K (.p b o)⟩
theorem qj6 (B:TbOk P T tb) {t j:Nat} {fs:List (Nat × Nat)} {n1 b1 ft off m:Nat} {z1:List Value} {i:TI} {x:Operand} (ho:o.op = .fieldAddr t x j) (ht:tif tb t=some ⟨.struct fs,n1,b1,z1⟩) (hf:fs[j]? = some (ft,off)) (hi:tif tb ft=some i) (hm:i.n=m+1):QOk P σ n o (pFa σ n off x):=fun st e h K H=>by
 obtain⟨v,hv,H⟩:=zaf H;obtain⟨b,o',hq,H2⟩:=znv H;clear H;subst hq;revert H2;intro H;rw [natK_eq] at H;refine⟨_,H,fun N φ a hc' F=>?_⟩;obtain⟨u1,e1,c1⟩:=F.ev hv;obtain⟨y,hy,rfl⟩:=zv1 c1;refine⟨.pointer (some ((y.at o').add off)),zdh B.ok ?_,?_⟩
 ·obtain⟨d,n',b',z'⟩:=i
  simp only at hm;subst hm;rw [ho];simp only [pev,B.get ht,e1,hf,B.get hi];rfl
 ·rw [Pl.at_add];simp only [cv,hy,Option.map_some];rfl
def pFv (σ:Sg) (n off m:Nat) (sc:Bool) (x:Operand):PO:=⟨fun st e _ K=>(opd σ n x).x st e fun v=>dG.x v fun l=>Bool.rec (motive:=fun _=>Rs) (zve m (zgz off l) fun l=>K (.ag l)) (zlq (zgz off l) K) sc⟩
theorem zxw {φ:Ph} {l:List AV} {us:List Value} (h:cvs φ l=some us) (h1:∀ w∈us,w.oneCell'=true) (off m:Nat):cv φ (.ag ((l.drop off).take m))=some (.agg ((us.drop off).take m).toArray) :=
 zfn.2 ⟨_,zmv (ztu h off) m,fun w hw=>h1 w (List.mem_of_mem_drop (List.mem_of_mem_take hw)),rfl⟩
theorem qkq (B:TbOk P T tb) {t j:Nat} {fs:List (Nat × Nat)} {n1 b1 ft off:Nat} {z1:List Value} {i:TI} {x:Operand} (ho:o.op = .field t x j) (ht:tif tb t=some ⟨.struct fs,n1,b1,z1⟩) (hf:fs[j]? = some (ft,off)) (hi:tif tb ft=some i):QOk P σ n o (pFv σ n off i.n (!isA i.d) x):=fun st e h K H=>by
 obtain⟨v,hv,H⟩:=zaf H;obtain⟨l,hq,H2⟩:=zsn H;clear H;subst hq;revert H2;intro H;rw [dropL_eq] at H;obtain⟨d,n',b',z'⟩:=i
 cases hd:isA d with
 | true =>
  simp only [hd] at H;obtain⟨h1,H⟩:=zjd _ _ _ H;refine⟨_,H,fun N φ a hc' F=>?_⟩;obtain⟨u1,e1,c1⟩:=F.ev hv;obtain⟨us,h2,h3,rfl⟩:=zfn.1 c1;refine⟨_,zdh B.ok ?_,zxw h2 h3 off n'⟩
  rw [ho];simp only [pev,B.get ht,e1,hf,B.get hi,hd]
 | false =>
  simp only [hd] at H;obtain⟨w,hw,H⟩:=zft H;refine⟨_,H,fun N φ a hc' F=>?_⟩;obtain⟨u1,e1,c1⟩:=F.ev hv;obtain⟨us,h2,h3,rfl⟩:=zfn.1 c1;obtain⟨u,hu,hcu⟩:=zdn _ _ h2 off w (by simpa using hw);refine⟨u,zdh B.ok ?_,hcu⟩;rw [ho];simp only [pev,B.get ht,e1,hf,B.get hi,hd];simpa using hu
def pIs (σ:Sg) (n es:Nat) (x y:Operand):PO:=⟨fun st e _ K=>(opd σ n x).x st e fun v=>dS.x v false fun b o len _=>(opd σ n y).x st e fun v=>dN.x v fun k=>Bool.rec (motive:=fun _=>Rs) false (zb3 (Nat.add o (Nat.mul k es)) fun o=>K (.p b o)) (Nat.blt k len)⟩
theorem qiu (B:TbOk P T tb) {t el n1 b1:Nat} {z1:List Value} {i:TI} {x y:Operand} (ho:o.op = .indexAddr t x y) (ht:tif tb t=some ⟨.slice el,n1,b1,z1⟩) (hi:tif tb el=some i):QOk P σ n o (pIs σ n i.n x y):=fun st e h K H=>by
 obtain⟨v,hv,H⟩:=zaf H;rcases zvc H with⟨hq,H2⟩ | ⟨b,o',l,c,hq,H2⟩ <;> clear H <;> (first | subst hq | skip) <;> revert H2 <;> intro H
 ·cases H
 obtain⟨w,hw,H⟩:=zaf H;obtain⟨k,j,hq,H2⟩:=zok H;clear H;subst hq;revert H2;intro H;obtain⟨hj,H⟩:=zn3 H;rw [natK_eq] at H;refine⟨_,H,fun N φ a hc' F=>?_⟩;obtain⟨u1,e1,c1⟩:=F.ev hv;obtain⟨u2,e2,c2⟩:=F.ev hw;obtain⟨p,hp,_,rfl⟩:=zdj.1 c1
 cases c2
 refine⟨_,qk6 B.ok ho e1 e2 (B.get ht) (B.get hi) (by simp) (by simpa using hj),?_⟩;rw [qd3,Pl.at_add];simp only [cv,hp,Option.map_some];rfl
def pIp (σ:Sg) (n len es:Nat) (x y:Operand):PO:=⟨fun st e _ K=>(opd σ n x).x st e fun v=>dP.x v fun b o=>(opd σ n y).x st e fun v=>dN.x v fun k=>Bool.rec (motive:=fun _=>Rs) false (zb3 (Nat.add o (Nat.mul k es)) fun o=>K (.p b o)) (Nat.blt k len)⟩
theorem qmf (B:TbOk P T tb) {t el len n1 b1:Nat} {z1:List Value} {i:TI} {x y:Operand} (ho:o.op = .indexAddr t x y) (ht:tif tb t=some ⟨.array len el,n1,b1,z1⟩) (hi:tif tb el=some i):QOk P σ n o (pIp σ n len i.n x y):=fun st e h K H=>by
 obtain⟨v,hv,H⟩:=zaf H;obtain⟨b,o',hq,H2⟩:=znv H;clear H;subst hq;revert H2;intro H;obtain⟨w,hw,H⟩:=zaf H;obtain⟨k,j,hq,H2⟩:=zok H;clear H;subst hq;revert H2;intro H;obtain⟨hj,H⟩:=zn3 H;rw [natK_eq] at H;refine⟨_,H,fun N φ a hc' F=>?_⟩;obtain⟨u1,e1,c1⟩:=F.ev hv;obtain⟨u2,e2,c2⟩:=F.ev hw;obtain⟨p,hp,rfl⟩:=zv1 c1
 cases c2
 refine⟨_,zbw B.ok ho e1 e2 (B.get ht) (B.get hi) (by simp) (by simpa using hj),?_⟩;rw [qd3,Pl.at_add];simp only [cv,hp,Option.map_some];rfl
def pIv (σ:Sg) (n len m:Nat) (sc:Bool) (x y:Operand):PO:=⟨fun st e _ K=>(opd σ n x).x st e fun v=>dG.x v fun l=>(opd σ n y).x st e fun v=>dN.x v fun k=>Bool.rec (motive:=fun _=>Rs) false (Bool.rec (motive:=fun _=>Rs) (zve m (zgz (Nat.mul k m) l) fun l=>K (.ag l)) (zlq (zgz (Nat.mul k m) l) K) sc) (Nat.blt k len)⟩
theorem qlr (B:TbOk P T tb) {t el len n1 b1:Nat} {z1:List Value} {i:TI} {x y:Operand} (ho:o.op = .index t x y) (ht:tif tb t=some ⟨.array len el,n1,b1,z1⟩) (hi:tif tb el=some i):QOk P σ n o (pIv σ n len i.n (!isA i.d) x y):=fun st e h K H=>by
 obtain⟨v,hv,H⟩:=zaf H;obtain⟨l,hq,H2⟩:=zsn H;clear H;subst hq;revert H2;intro H;obtain⟨w,hw,H⟩:=zaf H;obtain⟨k,j,hq,H2⟩:=zok H;clear H;subst hq;revert H2;intro H;obtain⟨hj,H⟩:=zn3 H;rw [dropL_eq] at H
 cases hd:isA i.d with
 | true =>
  simp only [hd] at H;obtain⟨h1,H⟩:=zjd _ _ _ H;refine⟨_,H,fun N φ a hc' F=>?_⟩;obtain⟨u1,e1,c1⟩:=F.ev hv;obtain⟨u2,e2,c2⟩:=F.ev hw;obtain⟨us,h2,h3,rfl⟩:=zfn.1 c1
  cases c2
  exact⟨_,qj5 B.ok ho e1 e2 (B.get ht) (B.get hi) hd (by simp) (by simpa using hj),zxw h2 h3 _ _⟩
 | false =>
  simp only [hd] at H;obtain⟨w,hw',H⟩:=zft H;refine⟨_,H,fun N φ a hc' F=>?_⟩;obtain⟨u1,e1,c1⟩:=F.ev hv;obtain⟨u2,e2,c2⟩:=F.ev hw;obtain⟨us,h2,h3,rfl⟩:=zfn.1 c1
  cases c2
  obtain⟨u,hu,hcu⟩:=zdn _ _ h2 (j*i.n) w (by simpa using hw');exact⟨u,qjh B.ok ho e1 e2 (B.get ht) (B.get hi) hd (by simp) (by simpa using hj) (by simpa using hu),hcu⟩
theorem zi1 {φ:Ph} {h:HS} {hc:zaa} (R:RelR φ h hc) {b o' m:Nat} {bl:CB} {x:Pl} {l:List AV} (hx:φ b=some x) (hb:gt DH b h.h=some (.c bl)) (hm:o'+m<=bl.n) (hl:l.length=m) (hg:∀ j,j<m->gt bl.d (o'+j) bl.c=l[j]?) :
  ∃ us,cvs φ l=some us/\us.length=m/\(∀ w∈us,w.oneCell'=true)/\CellsAt hc (x.at o') us:=by
 have key:∀(k:Nat) (r:List AV) (q:Nat),q+k=m->r=l.drop q->∃ us,cvs φ r=some us/\us.length=k/\(∀ w∈us,w.oneCell'=true)/\CellsAt hc (x.at (o'+q)) us:=by
  intro k
  induction k with
  | zero =>
   intro r q hq hr;have:r=[]:=by rw [hr];exact List.drop_eq_nil_of_le (by omega)
   subst this
   exact⟨[],rfl,rfl,by simp,fun j v hj=>by simp at hj⟩
  | succ k ih =>
   intro r q hq hr;have hql:q<l.length:=by omega
   have hr':r=l[q] :: l.drop (q+1):=by rw [hr];exact List.drop_eq_getElem_cons hql
   subst hr';obtain⟨us,h1,h2,h3,h4⟩:=ih (l.drop (q+1)) (q+1) (by omega) rfl;obtain⟨v,u,g1,g2,g3,g4⟩:=R.read hx hb (o:=o'+q) (by omega);rw [hg q (by omega),List.getElem?_eq_getElem hql] at g1
   cases g1
   refine⟨u :: us,zbh g2 h1,by simp [h2],fun w hw=>?_,fun j v hj=>?_⟩
   ·rcases List.mem_cons.1 hw with rfl | hw
    ·exact g3
    ·exact h3 w hw
   ·rw [Pl.at_add]
    cases j with
    | zero=>simp at hj;subst hj;exact g4
    | succ j =>
     simp only [List.getElem?_cons_succ] at hj;have:=h4 j v hj;rw [Pl.at_add] at this;rw [show o'+q+(j+1)=o'+(q+1)+j from by omega];exact this
 have:=key m l 0 (by omega) rfl;simpa using this
def pLd (σ:Sg) (n m:Nat) (sc:Bool) (x:Operand):PO:=⟨fun st e h K=>(opd σ n x).x st e fun v=>dP.x v fun b o=>zuz h b fun bn _ _ _ _ d c=>Bool.rec (motive:=fun _=>Rs)
 (Bool.rec (motive:=fun _=>Rs) false (rd d c m o fun l=>K (.ag l)) (Nat.ble (Nat.add o m) bn)) (Bool.rec (motive:=fun _=>Rs) false ((ac d o).x Rs c fun x=>opt x false K) (Nat.blt o bn)) sc⟩
theorem ql8 (B:TbOk P T tb) {t:Nat} {i:TI} {x:Operand} (ho:o.op = .load t x) (ht:tif tb t=some i):POk P σ n o (pLd σ n i.n (!isA i.d) x):=fun st e h K H=>by
 obtain⟨v,hv,H⟩:=zaf H;obtain⟨b,o',hq,H2⟩:=znv H;clear H;subst hq;revert H2;intro H;obtain⟨bl,hb,H⟩:=zd3 H
 cases hd:isA i.d with
 | true =>
  simp only [hd] at H;obtain⟨hle,H⟩:=zhu H;obtain⟨l,H,hl,hg⟩:=zsc _ _ _ H;refine⟨_,H,fun N φ a hc F R=>?_⟩;obtain⟨u1,e1,c1⟩:=F.ev hv;obtain⟨y,hy,rfl⟩:=zv1 c1;obtain⟨us,k1,k2,k3,k4⟩:=zi1 R hy hb hle hl hg
  exact⟨_,zhv B.ok ho e1 (B.get ht) hd k2 k4,zfn.2 ⟨us,k1,k3,rfl⟩⟩
 | false =>
  simp only [hd] at H;obtain⟨hlt,H⟩:=zn3 H;rw [zmm] at H;obtain⟨w,hw,H⟩:=zjz H;refine⟨_,H,fun N φ a hc F R=>?_⟩;obtain⟨u1,e1,c1⟩:=F.ev hv;obtain⟨y,hy,rfl⟩:=zv1 c1;obtain⟨v,u,g1,g2,g3,g4⟩:=R.read hy hb hlt;rw [hw] at g1;cases g1;exact⟨u,zbd B.ok ho e1 (B.get ht) hd g4,g2⟩
end
end
end Go.V
end
section
namespace Go.V
open Go.Q
noncomputable section
section
variable {P:Program} {T:Tab} {tb:TT} {σ:Sg} {n:Nat} {o:Oper}
structure GO where
 f:St->En->Nat->(Nat->Rs)->Rs
def GO.x (g:GO):St->En->Nat->(Nat->Rs)->Rs:=GO.rec (fun f=>f) g
def qbb (σ:Sg) (n:Nat):Option Operand->GO
 | none=>⟨fun _ _ d K=>K d⟩
 | some x=>⟨fun st e _ K=>(opd σ n x).x st e fun v=>dN.x v K⟩
theorem zh5 {x:Option Operand} {st:St} {e:En} {d:Nat} {K:Nat->Rs} (H:(qbb σ n x).x st e d K=true):∃ m,K m=true/\(x=none->m=d)/\∀ N φ a,FrV N φ σ n st e a->∀ d':Int,(x=none->d'=m)->evB (eA a) d' x=some (m:Int):=by
 cases x with
 | none=>exact⟨d,H,fun _=>rfl,fun N φ a F d' hd=>by simp [evB,hd rfl]⟩
 | some x =>
  obtain⟨v,hv,H⟩:=zaf H;obtain⟨k,m,hq,H2⟩:=zok H;clear H;subst hq;revert H2;intro H;refine⟨m,H,by simp,fun N φ a F d' hd=>?_⟩;obtain⟨u1,e1,c1⟩:=F.ev hv
  cases c1
  simp [evB,e1]
def cok (c l:Nat):Bool:=Bool.rec (Bool.rec false (Nat.ble c BIG) (Nat.ble SM (Nat.sub c l))) true (Nat.blt c SM)
theorem ztc {c l k:Nat} (h:cok c l=true):za1 k (c-l)=za1 k c-l:=by
 unfold cok at h;unfold za1
 cases h1:Nat.blt c SM with
 | true =>
  rw [Nat.blt_eq] at h1
  rw [if_pos (show c-l<SM by omega),if_pos h1]
 | false =>
  rw [h1] at h;have h1':¬ c<SM:=fun hh=>by rw [← Nat.blt_eq] at hh;rw [hh] at h1;cases h1
  cases h2:Nat.ble SM (Nat.sub c l) with
  | false=>rw [h2] at h;cases h
  | true =>
   rw [h2] at h;have h2':SM<=c-l:=Nat.le_of_ble_eq_true h2;have h3:c<=BIG:=Nat.le_of_ble_eq_true h;rw [if_neg (by omega),if_neg h1'];have:SM>=1:=by decide
   omega
def pSl (σ:Sg) (n es:Nat) (x:Operand) (lo hi:Option Operand):PO:=⟨fun st e _ K=>(opd σ n x).x st e fun v=>dS.x v ((qbb σ n lo).x st e 0 fun lo=>(qbb σ n hi).x st e 0 fun hi=>Bool.rec (motive:=fun _=>Rs) false (Bool.rec (motive:=fun _=>Rs) false (K (.nl 1)) (Nat.beq hi 0)) (Nat.beq lo 0))
 fun b o len c=>(qbb σ n lo).x st e 0 fun lo=>(qbb σ n hi).x st e len fun hi =>
  Bool.rec (motive:=fun _=>Rs) false (Bool.rec (motive:=fun _=>Rs) false (zb3 (Nat.sub hi lo) fun l=>zb3 (Nat.sub c lo) fun c' =>
   Bool.rec (motive:=fun _=>Rs)
    (Bool.rec (motive:=fun _=>Rs) (zb3 (Nat.mul lo es) fun r=>K (.es b o r c')) (zb3 (Nat.add o (Nat.mul lo es)) fun o=>K (.sl b o l c')) (or (Nat.ble 1 l) (and (Nat.blt c SM) (Nat.ble 1 c'))))
    (K (.sl b o l c')) (or (Nat.beq lo 0) (and (Nat.blt c SM) (Nat.beq c' 0)))) (and (cok c lo) (or (Nat.ble hi len) (and (Nat.ble hi c) (Nat.blt c SM))))) (Nat.ble lo hi)⟩
theorem zag {a b:Bool}:and a b=true ↔ a=true/\b=true:=by cases a <;> cases b <;> simp
theorem zw3 {a b:Bool}:or a b=true ↔ a=true∨b=true:=by cases a <;> cases b <;> simp
theorem qj8 (B:TbOk P T tb) {t el n1 b1:Nat} {z1:List Value} {i:TI} {x:Operand} {lo hi:Option Operand} (ho:o.op = .slice t x lo hi none) (ht:tif tb t=some ⟨.slice el,n1,b1,z1⟩) (hi':tif tb el=some i):QOk P σ n o (pSl σ n i.n x lo hi):=fun st e h K H=>by
 obtain⟨v,hv,H⟩:=zaf H;rcases zvc H with⟨hq,H2⟩ | ⟨b,o',len,c,hq,H2⟩ <;> clear H <;> (first | subst hq | skip) <;> revert H2 <;> intro H
 ·obtain⟨L,H,hL0,hL⟩:=zh5 H
  obtain⟨M,H,hM0,hM⟩:=zh5 H;obtain⟨hlo,H⟩:=zjf H;obtain⟨hhi,H⟩:=zjf H;subst hlo;subst hhi;refine⟨_,H,fun N φ a hc F=>⟨qh1 1,?_,rfl⟩⟩;obtain⟨u1,e1,c1⟩:=F.ev hv
  cases c1
  have y:=zz0 (P:=P) (e:=eA a) (h:=hc) (s:=⟨none,0,0⟩) (mx:=none) B.ok ho e1 (B.get ht) (B.get hi') (hL N φ a F 0 (by simp)) (hM N φ a F 0 (by simp)) rfl (by simp) (by simp) (by simp) (by simp) (by simp);simpa [zcb,Slc.v,qh1] using y
 ·obtain⟨L,H,hL0,hL⟩:=zh5 H
  obtain⟨M,H,hM0,hM⟩:=zh5 H;obtain⟨hle,H⟩:=zhu H;obtain⟨hcc,H⟩:=zbz H;rw [natK_eq,natK_eq] at H;obtain⟨hck,hbd⟩:=zag.1 hcc
  have hbd':∀ k,len<=za1 k c->M<=za1 k c:=fun k hk=>by
   rcases zw3.1 hbd with h1 | h1
   ·exact Nat.le_trans (Nat.le_of_ble_eq_true h1) hk
   ·obtain⟨h2,h3⟩:=zag.1 h1
    rw [Nat.blt_eq] at h3;unfold za1;rw [if_pos h3];exact Nat.le_of_ble_eq_true h2
  have base:∀ N φ a hc,FrV N φ σ n st e a->∃ y,φ b=some y/\M<=za1 y.k c/\Yl P (eA a) hc o (.slice (if za1 y.k c=L then some (y.at o') else some (y.at (o'+L*i.n))) (M-L) (za1 y.k (c-L))):=by
   intro N φ a hc F;obtain⟨u1,e1,c1⟩:=F.ev hv;obtain⟨y,hy,hcap,rfl⟩:=zdj.1 c1;have hM':=hbd' _ hcap;have yy:=zz0 (P:=P) (e:=eA a) (h:=hc) (s:=⟨some (y.at o'),len,za1 y.k c⟩) (mx:=none) B.ok ho e1 (B.get ht) (B.get hi') (hL N φ a F 0 (fun h0=>by rw [hL0 h0];rfl)) (hM N φ a F (len:Int) (fun h0=>by rw [hM0 h0])) rfl (by simp) (by simp) (by simp;omega) (by simp;omega) (by simp);refine⟨y,hy,hM',?_⟩;rw [ztc hck];simp only [zcb,Slc.v,Int.toNat_natCast,Option.map_some,Pl.at_add] at yy;exact yy
  rcases Bool.eq_false_or_eq_true (or (Nat.beq L 0) (and (Nat.blt c SM) (Nat.beq (c-L) 0))) with hz | hz
  ·have H':K (.sl b o' (M-L) (c-L))=true:=by
    have:(Nat.sub c L)=c-L:=rfl;rw [this,hz] at H;exact H
   refine⟨_,H',fun N φ a hc F=>?_⟩;obtain⟨y,hy,hM',yy⟩:=base N φ a hc F;refine⟨_,yy,?_⟩;have hcap:M-L<=za1 y.k (c-L):=by rw [ztc hck];omega
   refine zdj.2 ⟨y,hy,hcap,?_⟩;congr 1;rcases zw3.1 hz with h1 | h1
   ·have hL0:L=0:=Nat.eq_of_beq_eq_true h1
    subst hL0;simp only [Nat.zero_mul,Nat.add_zero,ite_self];rfl
   ·obtain⟨h2,h3⟩:=zag.1 h1
    rw [Nat.blt_eq] at h2;have h3':c-L=0:=Nat.eq_of_beq_eq_true h3;have:za1 y.k c=c:=by unfold za1;rw [if_pos h2]
    rw [this] at hM' ⊢;rw [if_pos (by omega)];rfl
  ·have hz':∀ x y:Rs,(Bool.rec (motive:=fun _=>Rs) x y (or (Nat.beq L 0) (and (Nat.blt c SM) (Nat.beq (Nat.sub c L) 0))):Rs)=x:=fun x y=>by
    have:(Nat.sub c L)=c-L:=rfl;rw [this,hz]
   rw [hz'] at H;rcases Bool.eq_false_or_eq_true (or (Nat.ble 1 (M-L)) (and (Nat.blt c SM) (Nat.ble 1 (c-L)))) with hw | hw
   ·have H':K (.sl b (o'+L*i.n) (M-L) (c-L))=true:=by
     have e1:(Nat.sub c L)=c-L:=rfl;have e2:(Nat.sub M L)=M-L:=rfl;rw [e1,e2,hw] at H;simp only [natK_eq] at H;exact H
    refine⟨_,H',fun N φ a hc F=>?_⟩;obtain⟨y,hy,hM',yy⟩:=base N φ a hc F;have hcap:M-L<=za1 y.k (c-L):=by rw [ztc hck];omega
    refine⟨_,yy,zdj.2 ⟨y,hy,hcap,?_⟩⟩;congr 1;rw [if_neg ?_]
    ·rfl
    ·intro hcl
     rcases zw3.1 hw with h1 | h1
     ·have:=Nat.le_of_ble_eq_true h1;omega
     ·obtain⟨h2,h3⟩:=zag.1 h1
      rw [Nat.blt_eq] at h2;have h3':=Nat.le_of_ble_eq_true h3;have:za1 y.k c=c:=by unfold za1;rw [if_pos h2]
      omega
   ·have H':K (.es b o' (L*i.n) (c-L))=true:=by
     have e1:(Nat.sub c L)=c-L:=rfl;have e2:(Nat.sub M L)=M-L:=rfl;rw [e1,e2,hw] at H;simp only [natK_eq] at H;exact H
    refine⟨_,H',fun N φ a hc F=>?_⟩;obtain⟨y,hy,hM',yy⟩:=base N φ a hc F
    have hML:M-L=0:=by
     cases h1:Nat.ble 1 (M-L) with
     | true=>rw [h1] at hw;simp at hw
     | false =>
      have:¬ 1<=M-L:=fun hh=>by rw [Nat.ble_eq_true_of_le hh] at h1;cases h1
      omega
    refine⟨_,yy,?_⟩;simp only [cv,hy,Option.map_some,hML];congr 2;rw [ztc hck];by_cases hcl:za1 y.k c=L
    ·rw [if_pos hcl,hcl];simp [Pl.at]
    ·rw [if_neg hcl]
     have:za1 y.k c-L≠0:=by omega
     obtain⟨q,hq⟩:=Nat.exists_eq_succ_of_ne_zero this;rw [hq];simp [Pl.at,Nat.add_assoc]
def pSa (σ:Sg) (n len es:Nat) (x:Operand) (lo hi:Option Operand):PO:=⟨fun st e _ K=>(opd σ n x).x st e fun v=>dP.x v fun b o=>(qbb σ n lo).x st e 0 fun lo=>(qbb σ n hi).x st e len fun hi =>
  Bool.rec (motive:=fun _=>Rs) false (Bool.rec (motive:=fun _=>Rs) false (zb3 (Nat.sub hi lo) fun l=>zb3 (Nat.sub len lo) fun c'=>Bool.rec (motive:=fun _=>Rs) (zb3 (Nat.add o (Nat.mul lo es)) fun o=>K (.sl b o l c')) (K (.sl b o l c')) (Nat.beq lo len)) (and (Nat.ble hi len) (Nat.blt len SM))) (Nat.ble lo hi)⟩
theorem qli (B:TbOk P T tb) {t el len n1 b1:Nat} {z1:List Value} {i:TI} {x:Operand} {lo hi:Option Operand} (ho:o.op = .slice t x lo hi none) (ht:tif tb t=some ⟨.array len el,n1,b1,z1⟩) (hi':tif tb el=some i):QOk P σ n o (pSa σ n len i.n x lo hi):=fun st e h K H=>by
 obtain⟨v,hv,H⟩:=zaf H;obtain⟨b,o',hq,H2⟩:=znv H;clear H;subst hq;revert H2;intro H;obtain⟨L,H,hL0,hL⟩:=zh5 H;obtain⟨M,H,hM0,hM⟩:=zh5 H;obtain⟨hle,H⟩:=zhu H;obtain⟨hcc,H⟩:=zbz H;obtain⟨h1,h2⟩:=zag.1 hcc;replace h1:=Nat.le_of_ble_eq_true h1;rw [Nat.blt_eq] at h2;rw [natK_eq,natK_eq] at H
 have base:∀ N φ a hc,FrV N φ σ n st e a->∃ y,φ b=some y/\Yl P (eA a) hc o (.slice (if len=L then some (y.at o') else some (y.at (o'+L*i.n))) (M-L) (len-L)):=by
  intro N φ a hc F;obtain⟨u1,e1,c1⟩:=F.ev hv;obtain⟨y,hy,rfl⟩:=zv1 c1;have yy:=zej (P:=P) (e:=eA a) (h:=hc) (a:=y.at o') B.ok ho e1 (B.get ht) (B.get hi') (hL N φ a F 0 (fun h0=>by rw [hL0 h0];rfl)) (hM N φ a F (len:Int) (fun h0=>by rw [hM0 h0])) (by simp) (by simp;omega) (by simp;omega);refine⟨y,hy,?_⟩;simp only [zcb,Slc.v,Int.toNat_natCast,Option.map_some,Pl.at_add] at yy;exact yy
 have hcap:∀ k,za1 k (len-L)=len-L:=fun k=>by unfold za1;rw [if_pos (by omega)]
 rcases qer H with⟨he,H⟩ | ⟨he,H⟩
 ·refine⟨.sl b o' (M-L) (len-L),H,fun N φ a hc F=>?_⟩
  obtain⟨y,hy,yy⟩:=base N φ a hc F;refine⟨_,yy,zdj.2 ⟨y,hy,by rw [hcap];exact Nat.sub_le_sub_right h1 L,?_⟩⟩;rw [if_pos he.symm,hcap];rfl
 ·rw [natK_eq] at H
  refine⟨.sl b (o'+L*i.n) (M-L) (len-L),H,fun N φ a hc F=>?_⟩;obtain⟨y,hy,yy⟩:=base N φ a hc F;refine⟨_,yy,zdj.2 ⟨y,hy,by rw [hcap];exact Nat.sub_le_sub_right h1 L,?_⟩⟩;rw [if_neg (fun hh=>he hh.symm),hcap];rfl
def zgs {α:Type} (l:List α):Nat:=List.rec 0 (fun _ _ ih=>Nat.succ ih) l
theorem zav {α:Type}:∀ l:List α,zgs l=l.length
 | []=>rfl
 | v :: r=>by show Nat.succ (zgs r)=_;rw [zav r];rfl
def pSs (σ:Sg) (n:Nat) (x:Operand) (lo hi:Option Operand):PO:=⟨fun st e _ K=>(opd σ n x).x st e fun v=>dZ.x v fun s=>(qbb σ n lo).x st e 0 fun lo=>zb3 (zgs s) fun len=>(qbb σ n hi).x st e len fun hi=>Bool.rec (motive:=fun _=>Rs) false (zve (Nat.sub hi lo) (zgz lo s) fun l=>K (.s l)) (and (Nat.ble lo hi) (Nat.ble hi len))⟩
theorem zpr (l:List Nat) (a b:Nat):(bytes l).extract a b=bytes ((l.drop a).take (b-a)):=by
 apply ByteArray.ext;apply Array.toList_inj.1;rw [ByteArray.data_extract,Array.toList_extract];simp [bytes,List.extract,List.map_drop,List.map_take]
theorem qf4 {l:List Nat} {a b n:Nat} (h:n∈(l.drop a).take b):n∈l:=List.mem_of_mem_drop (List.mem_of_mem_take h)
theorem qjs (B:TbOk P T tb) {t n1 b1:Nat} {z1:List Value} {x:Operand} {lo hi:Option Operand} (ho:o.op = .slice t x lo hi none) (ht:tif tb t=some ⟨.string,n1,b1,z1⟩):QOk P σ n o (pSs σ n x lo hi):=fun st e h K H=>by
 obtain⟨v,hv,H⟩:=zaf H;obtain⟨l,hq,H2⟩:=zm8 H;clear H;subst hq;revert H2;intro H;obtain⟨L,H,hL0,hL⟩:=zh5 H;rw [natK_eq,zav] at H;obtain⟨M,H,hM0,hM⟩:=zh5 H;obtain⟨hb,H⟩:=zbz H;obtain⟨h1,h2⟩:=zag.1 hb;replace h1:=Nat.le_of_ble_eq_true h1;replace h2:=Nat.le_of_ble_eq_true h2;rw [dropL_eq] at H;obtain⟨_,H⟩:=zjd _ _ _ H;refine⟨_,H,fun N φ a hc F=>?_⟩;obtain⟨u1,e1,c1⟩:=F.ev hv;obtain⟨hl,rfl⟩:=zog.1 c1;have yy:=qob (P:=P) (e:=eA a) (h:=hc) (s:=bytes l) B.ok ho e1 (B.get ht) (hL N φ a F 0 (fun h0=>by rw [hL0 h0];rfl)) (hM N φ a F _ (fun h0=>by rw [hM0 h0,zbq])) (by simp) (by simp;omega) (by rw [zbq];simp;omega);refine⟨_,yy,?_⟩;rw [Int.toNat_natCast,Int.toNat_natCast,zpr];exact zog.2 ⟨fun n hn=>hl n (qf4 hn),rfl⟩
def pIx (σ:Sg) (n:Nat) (x y:Operand):PO:=⟨fun st e _ K=>(opd σ n x).x st e fun v=>dZ.x v fun s=>(opd σ n y).x st e fun v=>dN.x v fun k=>zlq (zgz k s) fun c=>K (.i .u8 (.ofNat c))⟩
theorem qkg (B:TbOk P T tb) {t n1 b1:Nat} {z1:List Value} {x y:Operand} (ho:o.op = .index t x y) (ht:tif tb t=some ⟨.string,n1,b1,z1⟩):QOk P σ n o (pIx σ n x y):=fun st e h K H=>by
 obtain⟨v,hv,H⟩:=zaf H;obtain⟨l,hq,H2⟩:=zm8 H;clear H;subst hq;revert H2;intro H;obtain⟨w,hw,H⟩:=zaf H;obtain⟨k,j,hq,H2⟩:=zok H;clear H;subst hq;revert H2;intro H;rw [dropL_eq] at H;obtain⟨c,hcl,H⟩:=zft H;refine⟨_,H,fun N φ a hc F=>?_⟩;obtain⟨u1,e1,c1⟩:=F.ev hv;obtain⟨u2,e2,c2⟩:=F.ev hw;obtain⟨hl,rfl⟩:=zog.1 c1
 cases c2
 have hcl':l[j]? = some c:=by simpa using hcl
 have hj:j<l.length:=(List.getElem?_eq_some_iff.1 hcl').1;have hlt:(Int.ofNat j).toNat<(bytes l).size:=by rw [zbq];exact hj
 refine⟨_,qmu B.ok ho e1 e2 (B.get ht) (by simp) hlt,?_⟩;have hc256:=hl c (List.mem_of_getElem? hcl')
 have he:(bytes l)[(Int.ofNat j).toNat]'hlt=UInt8.ofNat c:=by
  have key:∀(A:Array UInt8) (hA:A=(l.map UInt8.ofNat).toArray) (hh:j<A.size),A[j]=UInt8.ofNat c:=by
   rintro _ rfl hh;simp [(List.getElem?_eq_some_iff.1 hcl').2]
  exact key _ rfl _
 rw [he];simp [cv,Nat.mod_eq_of_lt hc256]
def lEq (a:List Nat):List Nat->Bool:=List.rec (motive:=fun _=>List Nat->Bool) (fun b=>List.rec true (fun _ _ _=>false) b) (fun x _ ih b=>List.rec false (fun y s _=>Bool.rec false (ih s) (Nat.beq x y)) b) a
theorem zqt:∀ a b:List Nat,lEq a b=decide (a=b)
 | [],[]=>rfl
 | [],y :: s=>rfl
 | x :: r,[]=>rfl
 | x :: r,y :: s=>by
  show (Bool.rec (motive:=fun _=>Bool) false (lEq r s) (Nat.beq x y):Bool)=_
  rw [zqt r s];by_cases h:x=y
  ·subst h;rw [show Nat.beq x x=true from by simp];simp
  ·rw [show Nat.beq x y=false from by rw [← Bool.not_eq_true];simpa using h];simp [h]
def lLt (a:List Nat):List Nat->Bool:=List.rec (motive:=fun _=>List Nat->Bool) (fun b=>List.rec false (fun _ _ _=>true) b) (fun x _ ih b=>List.rec false (fun y s _=>Bool.rec (Bool.rec false (ih s) (Nat.beq x y)) true (Nat.blt x y)) b) a
theorem qed:∀ a b:List Nat,(∀ n∈a,n<256)->(∀ n∈b,n<256)->lLt a b=Op.bytesLess (a.map UInt8.ofNat) (b.map UInt8.ofNat)
 | [],[],_,_=>rfl
 | [],y :: s,_,_=>rfl
 | x :: r,[],_,_=>rfl
 | x :: r,y :: s,ha,hb=>by
  show (Bool.rec (motive:=fun _=>Bool) (Bool.rec (motive:=fun _=>Bool) false (lLt r s) (Nat.beq x y)) true (Nat.blt x y):Bool)=_
  rw [qed r s (fun n hn=>ha n (List.mem_cons_of_mem _ hn)) (fun n hn=>hb n (List.mem_cons_of_mem _ hn))];have hx:=ha x (by simp);have hy:=hb y (by simp);simp only [List.map_cons,Op.bytesLess];have e1:(UInt8.ofNat x<UInt8.ofNat y) ↔ x<y:=by rw [UInt8.lt_iff_toNat_lt];simp [Nat.mod_eq_of_lt hx,Nat.mod_eq_of_lt hy]
  have e2:(UInt8.ofNat x=UInt8.ofNat y) ↔ x=y:=by rw [← UInt8.toNat_inj];simp [Nat.mod_eq_of_lt hx,Nat.mod_eq_of_lt hy]
  by_cases h1:x<y
  ·rw [show Nat.blt x y=true from by rw [Nat.blt_eq];exact h1];simp [e1.2 h1]
  ·rw [show Nat.blt x y=false from by rw [← Bool.not_eq_true,Nat.blt_eq];exact h1]
   by_cases h2:x=y
   ·subst h2;rw [show Nat.beq x x=true from by simp];simp
   ·rw [show Nat.beq x y=false from by rw [← Bool.not_eq_true];simpa using h2]
    have n1:¬ UInt8.ofNat x<UInt8.ofNat y:=fun h=>h1 (e1.1 h);have n2:¬ UInt8.ofNat x=UInt8.ofNat y:=fun h=>h2 (e2.1 h);simp [n1,n2]
theorem zjb (l:List Nat):(bytes l).toList=l.map UInt8.ofNat:=by
 rw [ByteArray.toList_eq];simp [bytes]
theorem qfz {l m:List Nat} (hl:∀ n∈l,n<256) (hm:∀ n∈m,n<256):((bytes l).toList==(bytes m).toList)=decide (l=m):=by
 rw [Bool.eq_iff_iff,beq_iff_eq,decide_eq_true_iff];constructor
 ·intro h
  refine znx hl hm ?_;rw [zjb,zjb] at h;unfold bytes;rw [h]
 ·rintro rfl;rfl
def qrc (op:BinOp):List Nat->List Nat->Option Bool:=match op with
 | .eql=>fun a b=>some (lEq a b)
 | .neq=>fun a b=>some (not (lEq a b))
 | .lss=>fun a b=>some (lLt a b)
 | .leq=>fun a b=>some (or (lLt a b) (lEq a b))
 | .gtr=>fun a b=>some (not (or (lLt a b) (lEq a b)))
 | .geq=>fun a b=>some (not (lLt a b))
 | _=>fun _ _=>none
def qqc (σ:Sg) (n:Nat) (op:BinOp) (x y:Operand):PO:=⟨fun st e _ K=>(opd σ n x).x st e fun v=>dZ.x v fun a=>(opd σ n y).x st e fun v=>dZ.x v fun b=>opt (qrc op a b) false fun r=>zru r fun r=>K (.b r)⟩
theorem qg1 {op:BinOp} {t t':TypeId} {x y:Operand} (ho:o.op = .binOp op t x y t'):QOk P σ n o (qqc σ n op x y):=fun st e h K H=>by
 obtain⟨v,hv,H⟩:=zaf H;obtain⟨l,hq,H2⟩:=zm8 H;clear H;subst hq;revert H2;intro H;obtain⟨w,hw,H⟩:=zaf H;obtain⟨m,hq,H2⟩:=zm8 H;clear H;subst hq;revert H2;intro H;obtain⟨r,hr,H⟩:=zjz H;rw [boolK_eq] at H;refine⟨_,H,fun N φ a hc F=>⟨.bool r,?_,rfl⟩⟩;obtain⟨u1,e1,c1⟩:=F.ev hv;obtain⟨u2,e2,c2⟩:=F.ev hw;obtain⟨hl,rfl⟩:=zog.1 c1;obtain⟨hm,rfl⟩:=zog.1 c2;have k1:=qfz hl hm;have k2:=qed l m hl hm;rw [← zjb,← zjb] at k2;rw [← zqt] at k1;refine qb2 ?_;rw [ho]
 cases op <;> simp only [qrc,Option.some.injEq,reduceCtorEq] at hr <;> subst hr <;> simp only [pev,e1,e2,zz6,qb3,k1,← k2]
def qdy {α:Type} (l m:List α) (K:List α->Rs):Rs:=List.rec (motive:=fun _=>(List α->Rs)->Rs) (fun K=>K m) (fun v _ ih K=>ih fun r=>K (v :: r)) l K
theorem zlk {α:Type}:∀(l m:List α) (K:List α->Rs),qdy l m K=K (l++m)
 | [],m,K=>rfl
 | v :: r,m,K=>zlk r m fun r=>K (v :: r)
def qqa (σ:Sg) (n:Nat) (x y:Operand):PO:=⟨fun st e _ K=>(opd σ n x).x st e fun v=>dZ.x v fun a=>(opd σ n y).x st e fun v=>dZ.x v fun b=>Bool.rec (motive:=fun _=>Rs) false (qdy a b fun l=>K (.s l)) (Nat.ble (Nat.add (zgs a) (zgs b)) 9223372036854775807)⟩
theorem qho {t t':TypeId} {x y:Operand} (ho:o.op = .binOp .add t x y t'):QOk P σ n o (qqa σ n x y):=fun st e h K H=>by
 obtain⟨v,hv,H⟩:=zaf H;obtain⟨l,hq,H2⟩:=zm8 H;clear H;subst hq;revert H2;intro H;obtain⟨w,hw,H⟩:=zaf H;obtain⟨m,hq,H2⟩:=zm8 H;clear H;subst hq;revert H2;intro H;obtain⟨hs,H⟩:=zhu H;rw [zav,zav] at hs;have hs':l.length+m.length<=9223372036854775807:=hs;rw [zlk] at H;refine⟨_,H,fun N φ a hc F=>?_⟩;obtain⟨u1,e1,c1⟩:=F.ev hv;obtain⟨u2,e2,c2⟩:=F.ev hw;obtain⟨hl,rfl⟩:=zog.1 c1;obtain⟨hm,rfl⟩:=zog.1 c2;refine⟨_,qni ho e1 e2 (by rw [zbq,zbq];exact hs'),zog.2 ⟨fun n hn=>(List.mem_append.1 hn).elim (hl n) (hm n),?_⟩⟩;congr 1;apply ByteArray.ext;apply Array.toList_inj.1;simp [bytes]
theorem qbx (B:TbOk P T tb) {s t:TypeId} {i:TI} {n1 b1:Nat} {z1:List Value} {x:Operand} (ho:o.op = .convert s t x) (hs:tif tb s=some i) (ht:tif tb t=some ⟨.string,n1,b1,z1⟩):QOk P σ n o ⟨fun st e _ K=>(opd σ n x).x st e fun v=>dZ.x v fun l=>K (.s l)⟩:=fun st e h K H=>by
 obtain⟨v,hv,H⟩:=zaf H;obtain⟨l,hq,H2⟩:=zm8 H;clear H;subst hq;revert H2;intro H;refine⟨_,H,fun N φ a hc' F=>?_⟩;obtain⟨u1,e1,c1⟩:=F.ev hv;obtain⟨_,rfl⟩:=zog.1 c1;exact⟨_,zdh B.ok (by rw [ho];simp only [pev,B.get hs,B.get ht,e1]),c1⟩
end
end
end Go.V
end
section
namespace Go.Q
theorem qi4 {P:Program} {e:Env} {h:zaa} {o:Oper} {fn:Fn} {fs as':List Operand} {us vs:List Value} (ho:o.op = .makeFunc fn fs.toArray as'.toArray) (hu:evs e fs=some us) (hv:evs e as'=some vs):Yl P e h o (.func fn us.toArray vs.toArray):=by
 intro ρ w hA hw;have hm:=zlp hA _ _ hv;have hn:=zlp hA _ _ hu;simp [execOp,ho,Instr.makeFunc,hm,hn]
end Go.Q
end

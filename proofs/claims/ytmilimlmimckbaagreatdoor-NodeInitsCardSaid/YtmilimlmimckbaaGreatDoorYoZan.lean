/- A part of the proof of statements of this seat: lemmas, no statement of their own. -/
import Derived.Test.YtmilimlmimckbaaGreatDoorYoZam
import Derived.Test.YtmilimlmimckbaaGreatDoorYoZaf
import Derived.Test.YtmilimlmimckbaaGreatDoorYoZac
set_option linter.unusedVariables false
set_option linter.unusedSimpArgs false
section
namespace Go.V
open Go.Q
noncomputable section
section
variable {P:Program} {T:Tab} {tb:TT} {σ:Sg} {n:Nat} {o:Oper}
structure DE4 where
 f:AV->Rs->(Nat->Nat->Nat->Rs)->Rs
def DE4.x (x:DE4):AV->Rs->(Nat->Nat->Nat->Rs)->Rs:=DE4.rec (fun f=>f) x
def dR:DE4:=⟨fun v Z K=>AV.rec (motive_1:=fun _=>Rs) (motive_2:=fun _=>Unit) (fun x=>false) (fun k x=>false) (fun l=>false) (fun b o=>false) (fun b o l c=>K b o l) (fun b o r c=>Z) (fun k b=>false) (fun k=>Bool.rec (motive:=fun _=>Rs) false Z (Nat.beq k 1)) (fun g fs cs _ _=>false) (fun t v _=>false) (fun l _=>false) (fun l _=>false) () (fun _ _ _ _=>()) v⟩
theorem qme {v:AV} {Z:Rs} {K:Nat->Nat->Nat->Rs} (h:dR.x v Z K=true):(v = .nl 1/\Z=true)∨(∃ b o r c,v = .es b o r c/\Z=true)∨∃ b o l c,v = .sl b o l c/\K b o l=true:=by
 cases v with
 | sl b o l c=>exact .inr (.inr ⟨_,_,_,_,rfl,h⟩)
 | es b o r c=>exact .inr (.inl ⟨_,_,_,_,rfl,h⟩)
 | nl k=>obtain⟨rfl,h⟩:=zjf (a:=k) h;exact .inl ⟨rfl,h⟩
 | _=>cases h
def slc (es:Nat) (v:AV) (h:HS) (K:Nat->List AV->Rs):Rs:=dR.x v (K 0 []) fun b o l=>zuz h b fun bn _ _ _ _ d c=>Bool.rec (motive:=fun _=>Rs) false (rd d c (Nat.mul l es) o fun vs=>K l vs) (Nat.ble (Nat.add o (Nat.mul l es)) bn)
theorem zmd {es:Nat} {v:AV} {h:HS} {K:Nat->List AV->Rs} (H:slc es v h K=true):∃ m l,K m l=true/\l.length=m*es/\∀ φ hc u,RelR φ h hc->cv φ v=some u->∃ s:Slc,u=s.v/\s.len=m/\∃ us,cvs φ l=some us/\us.length=m*es/\(∀ w∈us,w.oneCell'=true)/\SlcAt hc s us:=by
 have nilc:∀(s:Slc) (hc:zaa),SlcAt hc s []:=fun s hc=>⟨fun _=>rfl,fun a _ j w hj=>by simp at hj⟩
 rcases qme H with⟨hq,H2⟩ | ⟨b,o',r,c,hq,H2⟩ | ⟨b,o',l,c,hq,H2⟩ <;> clear H <;> (first | subst hq | skip) <;> revert H2 <;> intro H
 ·refine⟨0,[],H,by simp,fun φ hc u R hu=>?_⟩
  cases hu
  exact⟨⟨none,0,0⟩,rfl,rfl,[],rfl,by simp,by simp,nilc _ _⟩
 ·refine⟨0,[],H,by simp,fun φ hc u R hu=>?_⟩
  obtain⟨x,hx,rfl⟩:=zu8 hu;exact⟨⟨_,0,_⟩,rfl,rfl,[],rfl,by simp,by simp,nilc _ _⟩
 ·obtain⟨bl,hb,H⟩:=zd3 H
  obtain⟨hle,H⟩:=zhu H;obtain⟨vs,H,hl,hg⟩:=zsc _ _ _ H;refine⟨l,vs,H,hl,fun φ hc u R hu=>?_⟩;obtain⟨x,hx,_,rfl⟩:=zdj.1 hu;obtain⟨us,k1,k2,k3,k4⟩:=zi1 R hx hb hle hl hg;exact⟨⟨some (x.at o'),l,za1 x.k c⟩,rfl,rfl,us,k1,k2,k3,by simp,fun a ha=>by cases ha;exact k4⟩
def dU:D1 Nat:=⟨fun v K=>dI.x v fun k x=>Bool.rec (motive:=fun _=>Rs) false (Int.rec (motive:=fun _=>Rs) (fun n=>K n) (fun _=>false) x) (keq .u8 k)⟩
theorem qbi {v:AV} {K:Nat->Rs} (h:dU.x v K=true):∃ n,v = .i .u8 (.ofNat n)/\K n=true:=by
 obtain⟨k,x,rfl,h⟩:=zha h;obtain⟨hk,h2⟩:=zbz h
 cases zhi hk
 cases x with
 | ofNat n=>exact⟨n,rfl,h2⟩
 | negSucc n=>cases h2
def toN (l:List AV) (K:List Nat->Rs):Rs:=List.rec (motive:=fun _=>(List Nat->Rs)->Rs) (fun K=>K []) (fun v _ ih K=>dU.x v fun n=>zb3 (Nat.mod n 256) fun n=>ih fun r=>K (n :: r)) l K
theorem qdc:∀(l:List AV) (K:List Nat->Rs),toN l K=true->∃ ns:List Nat,l=ns.map (fun n=>AV.i .u8 (.ofNat n))/\K (ns.map (· % 256))=true
 | [],K,h=>⟨[],rfl,h⟩
 | v :: r,K,h=>by
  obtain⟨n,hq,h2⟩:=qbi (v:=v) h;subst hq;rw [natK_eq] at h2;obtain⟨ns,hq,h3⟩:=qdc r _ h2;subst hq;exact⟨n :: ns,rfl,h3⟩
theorem zlw {φ:Ph}:∀ ns:List Nat,cvs φ (ns.map fun n=>AV.i .u8 (.ofNat n))=some (b8 (ns.map Int.ofNat))
 | []=>rfl
 | n :: r=>zbh rfl (zlw r)
theorem qfv (ns:List Nat):qih (ns.map Int.ofNat)=bytes (ns.map (· % 256)):=by
 apply ByteArray.ext;apply Array.toList_inj.1;rw [zx3];simp only [bytes,List.map_map];apply List.map_congr_left;intro n hn;simp only [Function.comp];apply UInt8.toNat_inj.1;simp
def qq4 (σ:Sg) (n:Nat) (x:Operand):PO:=⟨fun st e h K=>(opd σ n x).x st e fun v=>slc 1 v h fun _ vs=>toN vs fun l=>K (.s l)⟩
theorem qe3 (B:TbOk P T tb) {ts td el n1 b1 n2 b2 n3 b3:Nat} {z1 z2 z3:List Value} {x:Operand} (ho:o.op = .convert ts td x) (ht:tif tb ts=some ⟨.slice el,n1,b1,z1⟩) (hel:tif tb el=some ⟨.int .u8,n2,b2,z2⟩) (hd:tif tb td=some ⟨.string,n3,b3,z3⟩):POk P σ n o (qq4 σ n x):=fun st e h K H=>by
 obtain⟨v,hv,H⟩:=zaf H;obtain⟨m,l,H,hl,hs⟩:=zmd H;obtain⟨ns,hq,H2⟩:=qdc _ _ H;clear H;subst hq;revert H2;intro H;refine⟨_,H,fun N φ a hc F R=>?_⟩;obtain⟨u1,e1,c1⟩:=F.ev hv;obtain⟨s,rfl,hm,us,k1,k2,k3,k4⟩:=hs φ hc u1 R c1;rw [zlw] at k1;cases k1;refine⟨_,qo6 (s:=s) (l:=ns.map Int.ofNat) B.ok ho e1 (B.get ht) (B.get hel) (B.get hd) (by simp at hl;simp [hl,hm]) k4,?_⟩;rw [qfv];exact zog.2 ⟨fun n hn=>by obtain⟨q,_,rfl⟩:=List.mem_map.1 hn;exact Nat.mod_lt _ (by decide),rfl⟩
def dLn:D1 Nat:=⟨fun v K=>AV.rec (motive_1:=fun _=>Rs) (motive_2:=fun _=>Unit) (fun x=>false) (fun k x=>false) (fun l=>false) (fun b o=>false) (fun b o l c=>K l) (fun b o r c=>K 0) (fun k b=>false) (fun k=>Bool.rec (motive:=fun _=>Rs) false (K 0) (Nat.beq k 1)) (fun g fs cs _ _=>false) (fun t v _=>false) (fun l _=>false) (fun l _=>false) () (fun _ _ _ _=>()) v⟩
theorem qky {v:AV} {K:Nat->Rs} (h:dLn.x v K=true):∃ m,K m=true/\∀ φ u,cv φ v=some u->∃ a c,u = .slice a m c:=by
 cases v with
 | sl b o l c=>exact⟨l,h,fun φ u hu=>by obtain⟨x,_,_,rfl⟩:=zdj.1 hu;exact⟨_,_,rfl⟩⟩
 | es b o r c=>exact⟨0,h,fun φ u hu=>by obtain⟨x,_,rfl⟩:=zu8 hu;exact⟨_,_,rfl⟩⟩
 | nl k=>obtain⟨rfl,h⟩:=zjf (a:=k) h;exact⟨0,h,fun φ u hu=>by cases hu;exact⟨_,_,rfl⟩⟩
 | _=>cases h
def qpu (σ:Sg) (n:Nat) (x:Operand):PO:=⟨fun st e _ K=>(opd σ n x).x st e fun v=>dLn.x v fun m=>K (.i .i64 (.ofNat m))⟩
def zvn (x:Operand) (t:TypeId):Op:=.call { callee:=.builtin .len,args:=#[x],argTypes:=#[t] }
theorem qfp (B:TbOk P T tb) {t el n1 b1:Nat} {z1:List Value} {x:Operand} (ho:o.op=zvn x t) (ht:tif tb t=some ⟨.slice el,n1,b1,z1⟩):QOk P σ n o (qpu σ n x):=fun st e h K H=>by
 obtain⟨v,hv,H⟩:=zaf H;obtain⟨m,H,hm⟩:=qky H;refine⟨_,H,fun N φ a hc F=>⟨_,?_,rfl⟩⟩;obtain⟨u1,e1,c1⟩:=F.ev hv;obtain⟨ad,c,rfl⟩:=hm φ _ c1;exact zdh B.ok (by rw [ho];simp only [zvn,pev,B.get ht,e1];rfl)
def qp5 (σ:Sg) (n:Nat) (x:Operand):PO:=⟨fun st e _ K=>(opd σ n x).x st e fun v=>dZ.x v fun l=>zb3 (zgs l) fun m=>K (.i .i64 (.ofNat m))⟩
theorem qev (B:TbOk P T tb) {t n1 b1:Nat} {z1:List Value} {x:Operand} (ho:o.op=zvn x t) (ht:tif tb t=some ⟨.string,n1,b1,z1⟩):QOk P σ n o (qp5 σ n x):=fun st e h K H=>by
 obtain⟨v,hv,H⟩:=zaf H;obtain⟨l,hq,H2⟩:=zm8 H;clear H;subst hq;revert H2;intro H;rw [natK_eq,zav] at H;refine⟨_,H,fun N φ a hc F=>⟨_,?_,rfl⟩⟩;obtain⟨u1,e1,c1⟩:=F.ev hv;obtain⟨_,rfl⟩:=zog.1 c1;exact zdh B.ok (by rw [ho];simp only [zvn,pev,B.get ht,e1,zbq];rfl)
def qqq (σ:Sg) (n len:Nat) (x:Operand):PO:=⟨fun st e _ K=>(opd σ n x).x st e fun _=>K (.i .i64 (.ofNat len))⟩
theorem qfx (B:TbOk P T tb) {t len el n1 b1:Nat} {z1:List Value} {x:Operand} (ho:o.op=zvn x t) (ht:tif tb t=some ⟨.array len el,n1,b1,z1⟩):QOk P σ n o (qqq σ n len x):=fun st e h K H=>by
 obtain⟨v,hv,H⟩:=zaf H;refine⟨_,H,fun N φ a hc F=>⟨_,?_,rfl⟩⟩;obtain⟨u1,e1,c1⟩:=F.ev hv;exact zdh B.ok (by rw [ho];simp only [zvn,pev,B.get ht,e1];rfl)
def qpz (σ:Sg) (n:Nat) (x:Operand):PO:=⟨fun st e _ K=>(opd σ n x).x st e fun v=>dS.x v (K (.i .i64 (.ofNat 0))) fun _ _ _ c=>Bool.rec (motive:=fun _=>Rs) false (K (.i .i64 (.ofNat c))) (Nat.blt c SM)⟩
theorem qgk (B:TbOk P T tb) {t el n1 b1:Nat} {z1:List Value} {x:Operand} (ho:o.op = .call { callee:=.builtin .cap,args:=#[x],argTypes:=#[t] }) (ht:tif tb t=some ⟨.slice el,n1,b1,z1⟩):QOk P σ n o (qpz σ n x):=fun st e h K H=>by
 obtain⟨v,hv,H⟩:=zaf H;rcases zvc H with⟨hq,H2⟩ | ⟨b,o',len,c,hq,H2⟩ <;> clear H <;> (first | subst hq | skip) <;> revert H2 <;> intro H
 ·refine⟨_,H,fun N φ a hc F=>⟨_,?_,rfl⟩⟩
  obtain⟨u1,e1,c1⟩:=F.ev hv
  cases c1
  exact qag (s:=⟨none,0,0⟩) B.ok ho e1 (B.get ht)
 ·obtain⟨hc,H⟩:=zn3 H
  refine⟨_,H,fun N φ a hc' F=>⟨_,?_,rfl⟩⟩;obtain⟨u1,e1,c1⟩:=F.ev hv;obtain⟨y,hy,_,rfl⟩:=zdj.1 c1;have hk:za1 y.k c=c:=by unfold za1;rw [if_pos hc]
  rw [hk] at e1;exact qag (s:=⟨some _,len,c⟩) B.ok ho e1 (B.get ht)
def qna (σ:Sg) (n:Nat) (mx:Bool) (x y:Operand):PO:=⟨fun st e _ K=>(opd σ n x).x st e fun v=>dI.x v fun k a=>(opd σ n y).x st e fun v=>dI.x v fun _ b=>Bool.rec (motive:=fun _=>Rs) (K (.i k a)) (K (.i k b)) (Bool.rec (ilt b a) (ilt a b) mx)⟩
theorem qeu {ts:Array TypeId} {x y:Operand} (ho:o.op = .call { callee:=.builtin .min,args:=#[x,y],argTypes:=ts }):QOk P σ n o (qna σ n false x y):=fun st e h K H=>by
 obtain⟨v,hv,H⟩:=zaf H;obtain⟨k,p,hq,H2⟩:=zha H;clear H;subst hq;revert H2;intro H;obtain⟨w,hw,H⟩:=zaf H;obtain⟨k',q,hq,H2⟩:=zha H;clear H;subst hq;revert H2;intro H
 have H':K (.i k (if q<p then q else p))=true:=by
  have H2:Bool.rec (motive:=fun _=>Rs) (K (.i k p)) (K (.i k q)) (ilt q p)=true:=H;rw [zos] at H2;by_cases hh:q<p
  ·rw [if_pos hh];simpa [hh] using H2
  ·rw [if_neg hh];simpa [hh] using H2
 refine⟨_,H',fun N φ a hc' F=>⟨_,?_,rfl⟩⟩;obtain⟨u1,e1,c1⟩:=F.ev hv;obtain⟨u2,e2,c2⟩:=F.ev hw
 cases c1;cases c2
 exact qb2 (by rw [ho];simp only [pev,e1,e2])
theorem qgp {ts:Array TypeId} {x y:Operand} (ho:o.op = .call { callee:=.builtin .max,args:=#[x,y],argTypes:=ts }):QOk P σ n o (qna σ n true x y):=fun st e h K H=>by
 obtain⟨v,hv,H⟩:=zaf H;obtain⟨k,p,hq,H2⟩:=zha H;clear H;subst hq;revert H2;intro H;obtain⟨w,hw,H⟩:=zaf H;obtain⟨k',q,hq,H2⟩:=zha H;clear H;subst hq;revert H2;intro H
 have H':K (.i k (if q > p then q else p))=true:=by
  have H2:Bool.rec (motive:=fun _=>Rs) (K (.i k p)) (K (.i k q)) (ilt p q)=true:=H;rw [zos] at H2;by_cases hh:p<q
  ·rw [if_pos (by exact hh)];simpa [hh] using H2
  ·rw [if_neg (by exact hh)];simpa [hh] using H2
 refine⟨_,H',fun N φ a hc' F=>⟨_,?_,rfl⟩⟩;obtain⟨u1,e1,c1⟩:=F.ev hv;obtain⟨u2,e2,c2⟩:=F.ev hw
 cases c1;cases c2
 exact qb2 (by rw [ho];simp only [pev,e1,e2])
def qp9 (σ:Sg) (n:Nat) (x:Operand) (i:Nat):PO:=⟨fun st e _ K=>(opd σ n x).x st e fun v=>dT.x v fun l=>zlq (zgz i l) K⟩
theorem qet {x:Operand} {i:Nat} (ho:o.op = .extract x i):QOk P σ n o (qp9 σ n x i):=fun st e h K H=>by
 obtain⟨v,hv,H⟩:=zaf H;obtain⟨l,hq,H2⟩:=qpf H;clear H;subst hq;revert H2;intro H;rw [dropL_eq] at H;obtain⟨w,hw,H⟩:=zft H;refine⟨w,H,fun N φ a hc F=>?_⟩;obtain⟨u1,e1,c1⟩:=F.ev hv;obtain⟨us,h2,rfl⟩:=zzw.1 c1;obtain⟨u,hu,hcu⟩:=zdn _ _ h2 i w (by simpa using hw);exact⟨u,qb2 (by rw [ho];simp only [pev,e1];simpa using hu),hcu⟩
structure BD where
 f:St->En->List AV->(List AV->Rs)->Rs
def BD.x (x:BD):St->En->List AV->(List AV->Rs)->Rs:=BD.rec (fun f=>f) x
def pbd (σ:Sg) (n:Nat) (place:Nat->Option (Nat × Nat)):List (Nat × Operand)->BD
 | []=>⟨fun _ _ l K=>K l⟩
 | (j,x) :: r=>match place j with
  | some (off,size)=>⟨fun st e l K=>(opd σ n x).x st e fun v=>dL.x v fun cs=>Bool.rec (motive:=fun _=>Rs) false (qcq off cs l fun l=>(pbd σ n place r).x st e l K) (Nat.beq (zgs cs) size)⟩
  | none=>⟨fun _ _ _ _=>false⟩
theorem zs9 (T:Tab) {place:Nat->Option (Nat × Nat)} {st:St} {e:En}:∀(ps:List (Nat × Operand)) (l:List AV) (K:List AV->Rs),(pbd σ n place ps).x st e l K=true ->
  ∃ l',K l'=true/\∀ N φ a us,FrV N φ σ n st e a->cvs φ l=some us->(∀ w∈us,w.oneCell'=true)->∃ vs out,evp (eA a) ps=some vs/\Go.Q.bld T place us vs=some out/\cvs φ l'=some out/\∀ w∈out,w.oneCell'=true
 | [],l,K,H=>⟨l,H,fun N φ a us F h1 h2=>⟨[],us,rfl,rfl,h1,h2⟩⟩
 | (j,x) :: r,l,K,H=>by
  unfold pbd at H
  cases hp:place j with
  | none=>simp only [hp] at H;cases H
  | some os =>
   obtain⟨off,size⟩:=os;simp only [hp] at H;obtain⟨v,hv,H⟩:=zaf H;obtain⟨H,hcs⟩:=qis H;obtain⟨hsz,H⟩:=zjf H;rw [zav] at hsz;obtain⟨hle,H⟩:=zrf _ _ _ _ H;obtain⟨l',H,ih⟩:=zs9 T r _ K H;refine⟨l',H,fun N φ a us F h1 h2=>?_⟩;obtain⟨u1,e1,c1⟩:=F.ev hv;obtain⟨k1,k2⟩:=hcs c1;have hlen:=cvs_len _ _ k1;have hlu:=cvs_len _ _ h1
   obtain⟨vs,out,i1,i2,i3,i4⟩:=ih N φ a _ F (zwy h1 k1) (fun w hw=>by
    rcases List.mem_append.1 hw with hw | hw
    ·rcases List.mem_append.1 hw with hw | hw
     ·exact h2 w (List.mem_of_mem_take hw)
     ·exact k2 w hw
    ·exact h2 w (List.mem_of_mem_drop hw))
   refine⟨(j,u1) :: vs,out,by simp only [evp,e1,i1],?_,i3,i4⟩;have hs:u1.cells.size=size:=by rw [← Array.length_toList,hlen,hsz]
   simp only [Go.Q.bld,hp];rw [if_pos ⟨hs,by omega⟩,← i2];congr 2;rw [Array.length_toList,hs]
def qkd (tb:TT):List (Nat × Nat)->Option (List (Nat × Nat))
 | []=>some []
 | (ft,off) :: r=>match tif tb ft,qkd tb r with | some i,some l=>some ((off,i.n) :: l) | _,_=>none
theorem zx7 (B:TbOk P T tb):∀(fs l:List (Nat × Nat)),qkd tb fs=some l->szs T fs=some l
 | [],l,h=>h
 | (ft,off) :: r,l,h=>by
  simp only [qkd] at h;split at h
  ·rename_i i l' h1 h2
   cases h
   simp only [szs,B.get h1,zx7 B r l' h2]
  ·cases h
def lAt {α:Type} (l:List α) (j:Nat):Option α:=Option.rec none (fun v=>some v) (List.rec none (fun v _ _=>some v) (zgz j l):Option α)
theorem qd0 {α:Type} (l:List α) (j:Nat):lAt l j=l[j]?:=by
 unfold lAt;rw [dropL_eq]
 cases h:l.drop j with
 | nil =>
  have:=congrArg (fun r=>r[0]?) h;simp at this
  simp [this]
 | cons v r =>
  have:=congrArg (fun r=>r[0]?) h;simp at this;simp [this]
def zt5 (σ:Sg) (n:Nat) (place:Nat->Option (Nat × Nat)) (z:List AV) (ps:List (Nat × Operand)):PO:=⟨fun st e _ K=>(pbd σ n place ps).x st e z fun l=>K (.ag l)⟩
theorem zuu (B:TbOk P T tb) {t:Nat} {parts:Array (Nat × Operand)} {fs l:List (Nat × Nat)} {n1 b1:Nat} {z1:List Value} {z:List AV} (ho:o.op = .build t parts) (ht:tif tb t=some ⟨.struct fs,n1,b1,z1⟩) (hl:qkd tb fs=some l) (hz:zAs z1=some z):QOk P σ n o (zt5 σ n (lAt l) z parts.toList):=fun st e h K H=>by
 obtain⟨l',H,hb⟩:=zs9 T _ _ _ H;refine⟨_,H,fun N φ a hc F=>?_⟩;obtain⟨z2,z3⟩:=zme _ _ hz;obtain⟨vs,out,i1,i2,i3,i4⟩:=hb N φ a z1 F (z2 φ) z3;have:(lAt l)=(l[·]?):=funext fun j=>qd0 l j;rw [this] at i2;refine⟨_,zer (parts:=parts.toList) B.ok (by rw [ho]) (B.get ht) (zx7 B _ _ hl) i1 i2,zfn.2 ⟨out,i3,i4,rfl⟩⟩
def plA (es:Nat) (j:Nat):Option (Nat × Nat):=some (Nat.mul j es,es)
theorem zvs (B:TbOk P T tb) {t len el:Nat} {parts:Array (Nat × Operand)} {n1 b1:Nat} {z1:List Value} {i:TI} {z:List AV} (ho:o.op = .build t parts) (ht:tif tb t=some ⟨.array len el,n1,b1,z1⟩) (hi:tif tb el=some i) (hz:zAs z1=some z):QOk P σ n o (zt5 σ n (plA i.n) z parts.toList):=fun st e h K H=>by
 obtain⟨l',H,hb⟩:=zs9 T _ _ _ H;refine⟨_,H,fun N φ a hc F=>?_⟩;obtain⟨z2,z3⟩:=zme _ _ hz;obtain⟨vs,out,i1,i2,i3,i4⟩:=hb N φ a z1 F (z2 φ) z3;exact⟨_,zuf (parts:=parts.toList) B.ok (by rw [ho]) (B.get ht) (B.get hi) i1 i2,zfn.2 ⟨out,i3,i4,rfl⟩⟩
structure GL where
 f:St->En->(List AV->Rs)->Rs
def GL.x (x:GL):St->En->(List AV->Rs)->Rs:=GL.rec (fun f=>f) x
def gl (σ:Sg) (n:Nat):List Operand->GL
 | []=>⟨fun _ _ K=>K []⟩
 | x :: r=>⟨fun st e K=>(opd σ n x).x st e fun v=>(gl σ n r).x st e fun l=>K (v :: l)⟩
theorem qad {st:St} {e:En}:∀(xs:List Operand) (K:List AV->Rs),(gl σ n xs).x st e K=true->∃ l,K l=true/\l.length=xs.length/\∀ N φ a,FrV N φ σ n st e a->∃ us,evs (eA a) xs=some us/\cvs φ l=some us
 | [],K,H=>⟨[],H,rfl,fun N φ a F=>⟨[],rfl,rfl⟩⟩
 | x :: r,K,H=>by
  obtain⟨v,hv,H⟩:=zaf H;obtain⟨l,H,hl,ih⟩:=qad r _ H;refine⟨v :: l,H,by simp [hl],fun N φ a F=>?_⟩;obtain⟨u1,e1,c1⟩:=F.ev hv;obtain⟨us,i1,i2⟩:=ih N φ a F;exact⟨u1 :: us,by simp only [evs,e1,i1],zbh c1 i2⟩
def pMf (σ:Sg) (n g:Nat) (fs cs:List Operand):PO:=⟨fun st e _ K=>(gl σ n fs).x st e fun fs=>(gl σ n cs).x st e fun cs=>K (.f g fs cs)⟩
theorem qjb {g:Nat} {fs cs:Array Operand} (ho:o.op = .makeFunc (.func g) fs cs):QOk P σ n o (pMf σ n g fs.toList cs.toList):=fun st e h K H=>by
 obtain⟨l1,H,_,h1⟩:=qad _ _ H;obtain⟨l2,H,_,h2⟩:=qad _ _ H;refine⟨_,H,fun N φ a hc F=>?_⟩;obtain⟨us,i1,i2⟩:=h1 N φ a F;obtain⟨vs,j1,j2⟩:=h2 N φ a F;exact⟨_,qi4 (fs:=fs.toList) (as':=cs.toList) (by rw [ho]) i1 j1,by simp only [cv,i2,j2]⟩
def qp1 (σ:Sg) (n len:Nat) (x:Operand):PO:=⟨fun st e _ K=>(opd σ n x).x st e fun v=>dS.x v false fun b o l _=>Bool.rec (motive:=fun _=>Rs) false (K (.p b o)) (Nat.ble len l)⟩
theorem qgu (B:TbOk P T tb) {t len el n1 b1:Nat} {z1:List Value} {x:Operand} (ho:o.op = .sliceToArrayPointer t x) (ht:tif tb t=some ⟨.array len el,n1,b1,z1⟩):QOk P σ n o (qp1 σ n len x):=fun st e h K H=>by
 obtain⟨v,hv,H⟩:=zaf H;rcases zvc H with⟨hq,H2⟩ | ⟨b,o',l,c,hq,H2⟩ <;> clear H <;> (first | subst hq | skip) <;> revert H2 <;> intro H
 ·cases H
 obtain⟨hle,H⟩:=zhu H;refine⟨_,H,fun N φ a hc F=>?_⟩;obtain⟨u1,e1,c1⟩:=F.ev hv;obtain⟨y,hy,_,rfl⟩:=zdj.1 c1;exact⟨_,qhu B.ok ho e1 rfl (B.get ht) hle,by simp only [cv,hy,Option.map_some]⟩
def dNp (k0:Nat):D1 Bool:=⟨fun v K=>AV.rec (motive_1:=fun _=>Rs) (motive_2:=fun _=>Unit) (fun x=>false) (fun k x=>false) (fun l=>false) (fun b o=>Bool.rec (motive:=fun _=>Rs) false (K false) (Nat.beq k0 0)) (fun b o l c=>Bool.rec (motive:=fun _=>Rs) false (K false) (Nat.beq k0 1)) (fun b o r c=>Bool.rec (motive:=fun _=>Rs) false (K false) (Nat.beq k0 1)) (fun k b=>Bool.rec (motive:=fun _=>Rs) false (K false) (and (Nat.beq k0 2) (Nat.beq k 2))) (fun k=>Bool.rec (motive:=fun _=>Rs) false (K true) (Nat.beq k k0)) (fun g fs cs _ _=>false) (fun t v _=>false) (fun l _=>false) (fun l _=>false) () (fun _ _ _ _=>()) v⟩
theorem qec {k0:Nat} (hk:k0=0∨k0=1∨k0=2) {v:AV} {K:Bool->Rs} (h:(dNp k0).x v K=true):∃ r,K r=true/\∀ φ u,cv φ v=some u->(k0=0/\∃ a:Option Addr,u = .pointer a/\r=a.isNone)∨(k0=1/\∃(a:Option Addr) (l c:Nat),u = .slice a l c/\r=a.isNone)∨(k0=2/\∃ a:Option Nat,u = .map a/\r=a.isNone):=by
 cases v with
 | nl k =>
  obtain⟨hq,h2⟩:=zjf (a:=k) h;clear h;subst hq;refine⟨true,h2,fun φ u hu=>?_⟩
  cases hu
  rcases hk with rfl | rfl | rfl
  ·exact .inl ⟨rfl,none,rfl,rfl⟩
  ·exact .inr (.inl ⟨rfl,none,0,0,rfl,rfl⟩)
  ·exact .inr (.inr ⟨rfl,none,rfl,rfl⟩)
 | p b o =>
  obtain⟨hq,h2⟩:=zjf (a:=k0) h;clear h;subst hq
  exact⟨false,h2,fun φ u hu=>by obtain⟨x,_,rfl⟩:=zv1 hu;exact .inl ⟨rfl,some _,rfl,rfl⟩⟩
 | sl b o l c =>
  obtain⟨hq,h2⟩:=zjf (a:=k0) h;clear h;subst hq
  exact⟨false,h2,fun φ u hu=>by obtain⟨x,_,_,rfl⟩:=zdj.1 hu;exact .inr (.inl ⟨rfl,some _,l,_,rfl,rfl⟩)⟩
 | es b o r c =>
  obtain⟨hq,h2⟩:=zjf (a:=k0) h;clear h;subst hq
  exact⟨false,h2,fun φ u hu=>by obtain⟨x,_,rfl⟩:=zu8 hu;exact .inr (.inl ⟨rfl,some _,0,_,rfl,rfl⟩)⟩
 | r k b =>
  obtain⟨hh,h3⟩:=zbz h;clear h;obtain⟨h1,h2⟩:=zag.1 hh;replace h1:=Nat.eq_of_beq_eq_true h1;replace h2:=Nat.eq_of_beq_eq_true h2;subst h1;subst h2;refine⟨false,h3,fun φ u hu=>?_⟩;simp only [cv,Option.map_eq_some_iff] at hu;obtain⟨x,_,rfl⟩:=hu
  exact .inr (.inr ⟨rfl,some x.b,rfl,rfl⟩)
 | _=>cases h
def qgy:Ty->Nat | .pointer _=>0 | .slice _=>1 | .map _ _=>2 | _=>9
def qm7 (σ:Sg) (n k0:Nat) (ng:Bool) (x y:Operand):PO:=⟨fun st e _ K=>(opd σ n x).x st e fun v=>(dNp k0).x v fun r=>(opd σ n y).x st e fun w=>(dNp k0).x w fun q=>Bool.rec (motive:=fun _=>Rs) false (zru (Bool.rec r (not r) ng) fun r=>K (.b r)) q⟩
theorem zsp (B:TbOk P T tb) {op:BinOp} {t t':TypeId} {d:Ty} {n1 b1:Nat} {z1:List Value} {ng:Bool} {x y:Operand} (ho:o.op = .binOp op t x y t') (hop:(op = .eql/\ng=false)∨(op = .neq/\ng=true)) (ht:tif tb t=some ⟨d,n1,b1,z1⟩) (hk:qgy d=0∨qgy d=1∨qgy d=2):QOk P σ n o (qm7 σ n (qgy d) ng x y):=fun st e h K H=>by
 obtain⟨v,hv,H⟩:=zaf H;obtain⟨r,H,h1⟩:=qec hk H;obtain⟨w,hw,H⟩:=zaf H;obtain⟨q,H,h2⟩:=qec hk H;obtain⟨rfl,H⟩:=zbz H;rw [boolK_eq] at H;refine⟨_,H,fun N φ a hc F=>⟨_,?_,rfl⟩⟩;obtain⟨u1,e1,c1⟩:=F.ev hv;obtain⟨u2,e2,c2⟩:=F.ev hw;refine zdh B.ok ?_;have hT:=B.get ht
 have peqr:peq T t u1 u2=some r:=by
  rcases h1 φ u1 c1 with⟨k,a1,rfl,rfl⟩ | ⟨k,a1,l1,cc1,rfl,rfl⟩ | ⟨k,a1,rfl,rfl⟩ <;> rcases h2 φ u2 c2 with⟨k',a2,rfl,ha2⟩ | ⟨k',a2,l2,cc2,rfl,ha2⟩ | ⟨k',a2,rfl,ha2⟩ <;> first | (rw [k] at k';cases k';done) | skip
  ·have:a2=none:=by cases a2 with | none=>rfl | some _=>cases ha2
   subst this
   cases d <;> simp only [qgy,reduceCtorEq] at k <;> simp only [peq,hT]
   all_goals (simp at k;done)
  ·have:a2=none:=by cases a2 with | none=>rfl | some _=>cases ha2
   subst this
   have hz:l2=0/\cc2=0:=by
    cases w with
    | nl j=>simp only [cv,Option.some.injEq] at c2;unfold qh1 at c2;split at c2 <;> cases c2;exact⟨rfl,rfl⟩
    | sl b o l c=>obtain⟨x,_,_,h⟩:=zdj.1 c2;cases h
    | es b o r c=>obtain⟨x,_,h⟩:=zu8 c2;cases h
    | s l=>obtain⟨_,h⟩:=zog.1 c2;cases h
    | ag l=>obtain⟨_,_,_,h⟩:=zfn.1 c2;cases h
    | tu l=>obtain⟨_,_,h⟩:=zzw.1 c2;cases h
    | p b o=>obtain⟨x,_,h⟩:=zv1 c2;cases h
    | r k b=>simp only [cv,Option.map_eq_some_iff] at c2;obtain⟨x,_,h⟩:=c2;split at h <;> cases h
    | f g fs cs=>simp only [cv] at c2;split at c2 <;> cases c2
    | ic t v=>simp only [cv] at c2;split at c2 <;> cases c2
    | b x=>cases c2
    | i k x=>cases c2
   obtain⟨rfl,rfl⟩:=hz
   cases d <;> simp only [qgy,reduceCtorEq] at k <;> simp only [peq,hT]
   all_goals (simp at k;done)
  ·have:a2=none:=by cases a2 with | none=>rfl | some _=>cases ha2
   subst this
   cases d <;> simp only [qgy,reduceCtorEq] at k <;> simp only [peq,hT]
   all_goals (simp at k;done)
 have hpb:zz6 T op t u1 u2=some (.bool (Bool.rec r (!r) ng)):=by
  rcases h1 φ u1 c1 with⟨k,a1,rfl,rfl⟩ | ⟨k,a1,l1,cc1,rfl,rfl⟩ | ⟨k,a1,rfl,rfl⟩ <;> rcases hop with⟨rfl,rfl⟩ | ⟨rfl,rfl⟩ <;> simp only [zz6,peqr]
 rw [ho];rcases hop with⟨rfl,rfl⟩ | ⟨rfl,rfl⟩ <;> simp only [pev,e1,e2] <;> exact hpb
def qq2 (σ:Sg) (n:Nat) (ng:Bool) (x y:Operand):PO:=⟨fun st e _ K=>(opd σ n x).x st e fun v=>dB.x v fun r=>(opd σ n y).x st e fun w=>dB.x w fun q=>zru (Bool.rec (Bool.rec (not q) q r) (Bool.rec q (not q) r) ng) fun r=>K (.b r)⟩
theorem qgd (B:TbOk P T tb) {op:BinOp} {t t':TypeId} {n1 b1:Nat} {z1:List Value} {ng:Bool} {x y:Operand} (ho:o.op = .binOp op t x y t') (hop:(op = .eql/\ng=false)∨(op = .neq/\ng=true)) (ht:tif tb t=some ⟨.bool,n1,b1,z1⟩):QOk P σ n o (qq2 σ n ng x y):=fun st e h K H=>by
 obtain⟨v,hv,H⟩:=zaf H;obtain⟨r,hq,H2⟩:=zu7 H;clear H;subst hq;revert H2;intro H;obtain⟨w,hw,H⟩:=zaf H;obtain⟨q,hq,H2⟩:=zu7 H;clear H;subst hq;revert H2;intro H;rw [boolK_eq] at H;refine⟨_,H,fun N φ a hc F=>⟨_,?_,rfl⟩⟩;obtain⟨u1,e1,c1⟩:=F.ev hv;obtain⟨u2,e2,c2⟩:=F.ev hw
 cases c1;cases c2
 refine zdh B.ok ?_;rw [ho];rcases hop with⟨rfl,rfl⟩ | ⟨rfl,rfl⟩ <;> simp only [pev,e1,e2,zz6,peq,B.get ht] <;> cases r <;> cases q <;> rfl
end
end
end Go.V
end
section
namespace Go.V
open Go.Q
noncomputable section
def und:AV:=.tu []
theorem zq4 (φ:Ph):cv φ und=some undef:=rfl
structure LO where
 f:St->En->HS->(AV->HS->Rs)->Rs
def LO.x (g:LO):St->En->HS->(AV->HS->Rs)->Rs:=LO.rec (fun f=>f) g
def LOk (P:Program) (σ:Sg) (n:Nat) (o:Oper) (g:LO):Prop :=
 ∀(st:St) (e:En) (h:HS) (K:AV->HS->Rs),g.x st e h K=true->h.nx<4 ^ DH/\∃(bl:Blk) (mk:Nat->AV),K (mk h.nx) ⟨h.nx+1,Go.V.st DH h.nx (some bl) h.h⟩=true /\
  ∀(N:Nat) (φ:Ph) (a:Act) (hc:zaa),FrV N φ σ n st e a->YE false P (eA a) hc o fun u hc'=>∃(ob:Obj) (k:Nat),hc'=hc.push ob/\(∀ b,cv (φ.up b ⟨hc.size,0,k⟩) (mk b)=some u)/\∀ φ',φ.le φ'->RelO φ' bl ⟨hc.size,0,k⟩ hc'
def za7 (P:Program) (call:zbk):Prop :=
 ∀(f:Nat) (vs:List AV) (h:HS) (K:AV->HS->Rs),call f vs h K=true->zad P f/\∃ v h1,K v h1=true /\
  ∀(base:zaa) (φ:Ph) (hc:zaa) (us:List Value),Rel base φ h hc->cvs φ vs=some us->CallsHD false P f us.toArray hc fun u hc'=>∃ φ',Ex φ h φ' h1/\Rel base φ' h1 hc'/\cv φ' v=some u
structure EO where
 f:zbk->St->En->HS->(AV->HS->Rs)->Rs
def EO.x (g:EO):zbk->St->En->HS->(AV->HS->Rs)->Rs:=EO.rec (fun f=>f) g
def EOk (P:Program) (σ:Sg) (n:Nat) (o:Oper) (g:EO):Prop :=
 ∀(call:zbk),za7 P call->∀(st:St) (e:En) (h:HS) (K:AV->HS->Rs),g.x call st e h K=true->∃ v h1,K v h1=true /\
  ∀(N:Nat) (base:zaa) (φ:Ph) (a:Act) (hc:zaa),FrV N φ σ n st e a->Rel base φ h hc->YE false P (eA a) hc o fun u hc'=>∃ φ',Ex φ h φ' h1/\Rel base φ' h1 hc'/\cv φ' v=some u
theorem _root_.Go.Q.YE.mono {D:Bool} {P:Program} {e:Env} {h:zaa} {o:Oper} {Φ Ψ:Value->zaa->Prop} (y:YE D P e h o Φ) (k:∀ v h',Φ v h'->Ψ v h'):YE D P e h o Ψ :=
 fun a w hA hw next Q hn=>y a w hA hw next Q fun v w' h1 h2=>hn v w' h1 (k _ _ h2)
theorem _root_.Go.Q.YE.of_y {D:Bool} {P:Program} {e:Env} {h:zaa} {o:Oper} {v:Value} (y:Yl P e h o v):YE D P e h o fun u h'=>u=v/\h'=h:=by
 intro a w hA hw next Q k;simp only [Oper.wp,y _ _ hA hw,Oper.upon];exact k _ _ (WW.self w) ⟨rfl,hw⟩
section
variable {P:Program} {T:Tab} {tb:TT} {σ:Sg} {n:Nat} {o:Oper}
def eP (g:PO):EO:=⟨fun _ st e h K=>g.x st e h fun v=>K v h⟩
theorem qmr {g:PO} (G:POk P σ n o g):EOk P σ n o (eP g):=fun call CO st e h K H=>by
 obtain⟨v,H,hv⟩:=G st e h _ H;refine⟨v,h,H,fun N base φ a hc F R=>?_⟩;obtain⟨u,hy,hu⟩:=hv N φ a hc F R.toR;refine(YE.of_y hy).mono ?_;rintro _ _ ⟨rfl,rfl⟩;exact⟨φ,Ex.rfl,R,hu⟩
def eL (g:LO):EO:=⟨fun _ st e h K=>g.x st e h K⟩
theorem qpk {g:LO} (G:LOk P σ n o g):EOk P σ n o (eL g):=fun call CO st e h K H=>by
 obtain⟨hn,bl,mk,H,hv⟩:=G st e h _ H;refine⟨_,_,H,fun N base φ a hc F R=>(hv N φ a hc F).mono ?_⟩;rintro u hc' ⟨ob,k,rfl,h1,h2⟩;obtain⟨R',X⟩:=R.new (k:=k) (bl:=bl) (ob:=ob) hn (h2 _ (Ph.up_le R.fresh));exact⟨_,X,R',h1 _⟩
theorem zld {k c:Nat} (h:c<SM):za1 k c=c:=by unfold za1;rw [if_pos h]
theorem qrd {φ:Ph} {b:Nat} {x:Pl} (hx:x.o=0):cv (φ.up b x) (.p b 0)=some (.pointer (some ⟨x.b,0,none⟩)):=by simp only [cv,Ph.up_eq,Option.map_some,hx]
theorem qqh {φ:Ph} {b l c:Nat} {x:Pl} (hx:x.o=0) (hc:c<SM) (hl:l<=c):cv (φ.up b x) (.sl b 0 l c)=some (.slice (some ⟨x.b,0,none⟩) l c):=zdj.2 ⟨x,Ph.up_eq,by rw [zld hc];exact hl,by rw [zld hc,hx]⟩
def lAl (t m:Nat) (z:List AV):LO:=⟨fun _ _ h K=>Bool.rec (motive:=fun _=>Rs) false (zrk t m m false z h fun b h=>K (.p b 0) h) (Nat.beq (zgs z) m)⟩
theorem qi1 (B:TbOk P T tb) {t:Nat} {i:TI} {z:List AV} (ho:o.op = .alloc t) (ht:tif tb t=some i) (hz:zAs i.z=some z):LOk P σ n o (lAl t i.n z):=fun st e h K H=>by
 obtain⟨hl,H⟩:=zjf H;rw [zav] at hl;obtain⟨d,c,hn,hd,hg,H⟩:=zfj hl H;refine⟨hn,_,fun b=>.p b 0,H,fun N φ a hc F=>?_⟩;obtain⟨z2,z3⟩:=zme _ _ hz;refine(YE.of_h (zlr (h':=hc.push (.cells i.z.toArray t)) B.ok ho (B.get ht) rfl rfl)).mono ?_;rintro _ _ ⟨rfl,rfl⟩
 exact⟨.cells i.z.toArray t,0,rfl,fun b=>qrd rfl,fun φ' hle=>by
  have:=RelB.row (φ:=φ') (hc:=hc) (el:=t) (es:=i.n) (k:=0) (u:=false) (z:=[]) (fr:=(0,0)) hl hd hg (z2 φ') z3 (.inr ⟨rfl,rfl⟩) (.inl rfl)
  rw [List.append_nil] at this;exact this⟩
def lBx (σ:Sg) (n t:Nat) (x:Operand):LO:=⟨fun st e h K=>(opd σ n x).x st e fun v=>dL.x v fun cs=>zb3 (zgs cs) fun m=>zrk t m m false cs h fun b h=>K (.p b 0) h⟩
theorem qle {t:Nat} {x:Operand} (ho:o.op = .box t x):LOk P σ n o (lBx σ n t x):=fun st e h K H=>by
 obtain⟨v,hv,H⟩:=zaf H;obtain⟨H,hcs⟩:=qis H;rw [natK_eq,zav] at H;obtain⟨d,c,hn,hd,hg,H⟩:=zfj rfl H;refine⟨hn,_,fun b=>.p b 0,H,fun N φ a hc F=>?_⟩;obtain⟨u1,e1,c1⟩:=F.ev hv;obtain⟨k1,k2⟩:=hcs c1;refine(YE.of_h (zwz (h':=hc.push (.cells u1.cells t)) ho e1 rfl rfl)).mono ?_;rintro _ _ ⟨rfl,rfl⟩
 exact⟨.cells u1.cells t,0,rfl,fun b=>qrd rfl,fun φ' hle=>by
  have:=RelB.row (φ:=φ') (hc:=hc) (el:=t) (es:=(cells v).length) (k:=0) (u:=false) (z:=[]) (fr:=(0,0)) rfl hd hg (ze0 hle _ _ k1) k2 (.inr ⟨rfl,rfl⟩) (.inl rfl)
  rw [List.append_nil,Array.toArray_toList] at this;exact this⟩
def lBs (σ:Sg) (n el es len:Nat) (z:List AV) (ps:List (Nat × Operand)):LO:=⟨fun st e h K=>(pbd σ n (plA es) ps).x st e (zr z len) fun l=>zb3 (Nat.mul len es) fun m=>Bool.rec (motive:=fun _=>Rs) false (zrk el es m false l h fun b h=>K (.sl b 0 len len) h) (and (Nat.beq (zgs l) m) (and (Nat.ble m 16777216) (Nat.blt len SM)))⟩
theorem qkw (B:TbOk P T tb) {t el len n1 b1:Nat} {parts:Array (Nat × Operand)} {z1:List Value} {i:TI} {z:List AV} (ho:o.op = .buildSlice t len parts) (ht:tif tb t=some ⟨.slice el,n1,b1,z1⟩) (hi:tif tb el=some i) (hz:zAs i.z=some z) (hzl:Nat.beq i.z.length i.n=true):LOk P σ n o (lBs σ n el i.n len z parts.toList):=fun st e h K H=>by
 obtain⟨l',H,hb⟩:=zs9 T _ _ _ H;rw [natK_eq] at H;obtain⟨hh,H⟩:=zbz H;obtain⟨hl,hh⟩:=zag.1 hh;obtain⟨hm,hsm⟩:=zag.1 hh;replace hl:=Nat.eq_of_beq_eq_true hl;rw [zav] at hl;rw [Nat.blt_eq] at hsm;obtain⟨d,c,hn,hd,hg,H⟩:=zfj hl H;refine⟨hn,_,fun b=>.sl b 0 len len,H,fun N φ a hc F=>?_⟩;obtain⟨z2,z3⟩:=zme _ _ hz;obtain⟨vs,out,i1,i2,i3,i4⟩:=hb N φ a _ F (qaw (z2 φ) len) (fun w hw=>z3 w (zpu hw));refine(YE.of_h (ze7 (h':=hc.push (.cells out.toArray el)) (parts:=parts.toList) B.ok (by rw [ho]) (B.get ht) (B.get hi) hm hzl i1 i2 rfl rfl)).mono ?_;rintro _ _ ⟨rfl,rfl⟩
 exact⟨.cells out.toArray el,0,rfl,fun b=>qqh rfl hsm (Nat.le_refl _),fun φ' hle=>by
  have:=RelB.row (φ:=φ') (hc:=hc) (el:=el) (es:=i.n) (k:=0) (u:=false) (z:=[]) (fr:=(0,0)) hl hd hg (ze0 hle _ _ i3) i4 (.inr ⟨rfl,rfl⟩) (.inl rfl)
  rw [List.append_nil] at this;exact this⟩
def lMk (σ:Sg) (n el es bts:Nat) (z:List AV) (x y:Operand):LO:=⟨fun st e h K=>(opd σ n x).x st e fun v=>dN.x v fun l=>(opd σ n y).x st e fun v=>dN.x v fun c=>zb3 (Nat.mul c es) fun m=>Bool.rec (motive:=fun _=>Rs) false (zrk el es m false (zr z c) h fun b h=>K (.sl b 0 l c) h) (and (Nat.beq (zgs z) es) (and (Nat.ble l c) (and (Nat.ble (Nat.mul c bts) 281474976710656) (Nat.blt c SM))))⟩
theorem zwk (z:List AV):∀ n,(zr z n).length=n*z.length
 | 0=>by rw [Nat.zero_mul];rfl
 | n+1=>by
  have:zr z (n+1)=z++zr z n:=rfl;rw [this,List.length_append,zwk z n,Nat.succ_mul];omega
theorem qll (B:TbOk P T tb) {t el n1 b1:Nat} {x y:Operand} {z1:List Value} {i:TI} {z:List AV} (ho:o.op = .makeSlice t x y) (ht:tif tb t=some ⟨.slice el,n1,b1,z1⟩) (hi:tif tb el=some i) (hz:zAs i.z=some z) (hzl:Nat.beq i.z.length i.n=true):LOk P σ n o (lMk σ n el i.n i.b z x y):=fun st e h K H=>by
 obtain⟨v,hv,H⟩:=zaf H;obtain⟨k1,L,hq,H2⟩:=zok H;clear H;subst hq;revert H2;intro H;obtain⟨w,hw,H⟩:=zaf H;obtain⟨k2,C,hq,H2⟩:=zok H;clear H;subst hq;revert H2;intro H;rw [natK_eq] at H;obtain⟨hh,H⟩:=zbz H;obtain⟨hl,hh⟩:=zag.1 hh;obtain⟨hLC,hh⟩:=zag.1 hh;obtain⟨hb,hsm⟩:=zag.1 hh;replace hl:=Nat.eq_of_beq_eq_true hl;rw [zav] at hl;replace hLC:=Nat.le_of_ble_eq_true hLC;replace hb:C*i.b<=281474976710656:=Nat.le_of_ble_eq_true hb;rw [Nat.blt_eq] at hsm;have hlen:(zr z C).length=C*i.n:=by rw [zwk,hl]
 obtain⟨d,c,hn,hd,hg,H⟩:=zfj hlen H;refine⟨hn,_,fun b=>.sl b 0 L C,H,fun N φ a hc F=>?_⟩;obtain⟨z2,z3⟩:=zme _ _ hz;obtain⟨u1,e1,c1⟩:=F.ev hv;obtain⟨u2,e2,c2⟩:=F.ev hw
 cases c1;cases c2
 have hsm':C<1099511627776:=hsm;have hb2:(C:Int)*(i.b:Int)<=281474976710656:=by rw [← Int.natCast_mul];omega
 refine(YE.of_h (qra (L:=(L:Int)) (C:=(C:Int)) (h':=hc.push (.cells (zkc i.z C).toArray el)) B.ok ho e1 e2 (B.get ht) (B.get hi) hzl (by simp) (by simpa using hLC) hb2 (by omega) rfl (by simp))).mono ?_;rintro _ _ ⟨rfl,rfl⟩;refine⟨.cells (zkc i.z C).toArray el,0,rfl,fun b=>?_,fun φ' hle=>?_⟩
 ·rw [qqh rfl hsm hLC];simp
 ·have:=RelB.row (φ:=φ') (hc:=hc) (el:=el) (es:=i.n) (k:=0) (u:=false) (z:=[]) (fr:=(0,0)) hlen hd hg (qaw (z2 φ') C) (fun w hw=>z3 w (zpu hw)) (.inr ⟨rfl,rfl⟩) (.inl rfl)
  rw [List.append_nil] at this;exact this
def qrl (σ:Sg) (n el:Nat) (x:Operand):LO:=⟨fun st e h K=>(opd σ n x).x st e fun v=>dZ.x v fun l=>zb3 (zgs l) fun m=>Bool.rec (motive:=fun _=>Rs) false (zrk el 1 m true (l.map fun n=>.i .u8 (.ofNat n)) h fun b h=>K (.sl b 0 m BIG) h) (Nat.blt m SM)⟩
theorem zt7 {l:List Nat} (hl:∀ n∈l,n<256):sB (bytes l)=l.map Int.ofNat:=by
 unfold sB bytes;simp only [List.map_map];apply List.map_congr_left;intro n hn;simp [Function.comp,Nat.mod_eq_of_lt (hl n hn)]
theorem zbx (k:Nat):za1 k BIG=k:=by
 have:¬ BIG<SM:=by decide
 unfold za1;rw [if_neg this];simp
theorem qfa (B:TbOk P T tb) {ts td el n1 b1 n2 b2 n3 b3:Nat} {z1 z2 z3:List Value} {x:Operand} (ho:o.op = .convert td ts x) (ht:tif tb ts=some ⟨.slice el,n1,b1,z1⟩) (hel:tif tb el=some ⟨.int .u8,n2,b2,z2⟩) (hd:tif tb td=some ⟨.string,n3,b3,z3⟩):LOk P σ n o (qrl σ n el x):=fun st e h K H=>by
 obtain⟨v,hv,H⟩:=zaf H;obtain⟨l,hq,H2⟩:=zm8 H;clear H;subst hq;revert H2;intro H;rw [natK_eq,zav] at H;obtain⟨hsm,H⟩:=zn3 H;obtain⟨d,c,hn,hd',hg,H⟩:=zfj (by simp) H;refine⟨hn,_,fun b=>.sl b 0 l.length BIG,H,fun N φ a hc F=>?_⟩;obtain⟨u1,e1,c1⟩:=F.ev hv;obtain⟨hl,rfl⟩:=zog.1 c1;have hsm':l.length<1099511627776:=hsm;refine(YE.of_a (qas (k:=fun s h'=>∃ cp,l.length<=cp/\s=⟨some ⟨hc.size,0,none⟩,l.length,cp⟩/\h'=hc.push (.cells (b8 (l.map Int.ofNat)++List.replicate (cp-l.length) (Value.int .u8 0)).toArray el (cp,cp+1))) B.ok ho e1 (B.get ht) (B.get hel) (B.get hd) (by rw [zbq];simp only [maxLen];omega) ?_)).mono ?_
 ·intro cp h1 h2
  rw [zbq] at h1;exact⟨cp,h1,by rw [zbq],by rw [zbq,zt7 hl]⟩
 ·rintro u hc' ⟨s,rfl,cp,h1,rfl,rfl⟩
  refine⟨_,cp,rfl,fun b=>zdj.2 ⟨_,Ph.up_eq,by rw [zbx];exact h1,by rw [zbx]⟩,fun φ' hle=>?_⟩;refine RelB.row (φ:=φ') (hc:=hc) (el:=el) (es:=1) (u:=true) (by simp) hd' hg (zlw l) (fun w hw=>?_) (.inl ⟨rfl,by simp;omega⟩) (.inr (by simp;omega));obtain⟨q,_,rfl⟩:=List.mem_map.1 hw;rfl
def d1:D1 AV:=⟨fun v K=>AV.rec (motive_1:=fun _=>Rs) (motive_2:=fun _=>Unit) (fun x=>K (.b x)) (fun k x=>K (.i k x)) (fun l=>K (.s l)) (fun b o=>K (.p b o)) (fun b o l c=>K (.sl b o l c)) (fun b o r c=>K (.es b o r c)) (fun k b=>K (.r k b)) (fun k=>K (.nl k)) (fun g fs cs _ _=>K (.f g fs cs)) (fun t v _=>K (.ic t v)) (fun l _=>false) (fun l _=>false) () (fun _ _ _ _=>()) v⟩
theorem qn8 {v:AV} {K:AV->Rs} (h:d1.x v K=true):qnb v=true/\K v=true:=by cases v <;> first | (cases h;done) | exact⟨rfl,h⟩
def eSt (σ:Sg) (n:Nat) (x y:Operand):EO:=⟨fun _ st e h K=>(opd σ n x).x st e fun v=>dP.x v fun b o=>(opd σ n y).x st e fun v=>d1.x v fun v=>zuz h b fun bn u w el es d c =>
 Bool.rec (motive:=fun _=>Rs) false ((up d o).x Rs c (some v) fun c=>zv0 h b (some (.c ⟨bn,u,w,el,es,d,c⟩)) fun h=>K und h) (and (Nat.blt o bn) w)⟩
theorem qmg (B:TbOk P T tb) {t:Nat} {i:TI} {x y:Operand} (ho:o.op = .store t x y) (ht:tif tb t=some i) (hi:Nat.beq i.n 1=true):EOk P σ n o (eSt σ n x y):=fun call CO st e h K H=>by
 obtain⟨v,hv,H⟩:=zaf H;obtain⟨b,o',hq,H2⟩:=znv H;clear H;subst hq;revert H2;intro H;obtain⟨w,hw,H⟩:=zaf H;obtain⟨h1,H⟩:=qn8 H;obtain⟨bl,hb,H⟩:=zd3 H;obtain⟨hh,H⟩:=zbz H;obtain⟨hlt,hwr⟩:=zag.1 hh;rw [Nat.blt_eq] at hlt;rw [up_eq,ziw] at H;refine⟨_,_,H,fun N base φ a hc F R=>?_⟩;obtain⟨u1,e1,c1⟩:=F.ev hv;obtain⟨u2,e2,c2⟩:=F.ev hw;obtain⟨p,hp,rfl⟩:=zv1 c1;have one:=zss c2;rw [h1] at one;obtain⟨W,R',X⟩:=R.write hp hb hwr hlt c2 one;refine(YE.of_h (qd9 (h':=zd7 hc (p.at o') u2) B.ok ho e1 e2 (B.get ht) hi one W rfl)).mono ?_;rintro _ _ ⟨rfl,rfl⟩;exact⟨φ,X,R',zq4 φ⟩
theorem zm0 {x:Pl} {o:Nat}:∀(vs:List Value) (q:Nat) (h:zaa) (p:Nat),(∀ j,j<vs.length->∃ u,zab h (x.at (o+q+j))=some u) ->
  zab (zak h (x.at o) q vs) (x.at p)=if o+q<=p/\p<o+q+vs.length then vs[p-(o+q)]? else zab h (x.at p)
 | [],q,h,p,_=>by rw [if_neg (by simp only [List.length_nil];omega)];rfl
 | v :: r,q,h,p,hh=>by
  unfold zak;rw [Pl.at_add];obtain⟨u0,hu0⟩:=hh 0 (by simp);rw [Nat.add_zero] at hu0;have hn:∀ p',p'≠o+q->zab (zd7 h (x.at (o+q)) v) (x.at p')=zab h (x.at p'):=fun p' hp=>zle (.inr (by simp [Pl.at];omega))
  rw [zm0 r (q+1) _ p (fun j hj=>by
   rw [hn _ (by omega)];have:=hh (j+1) (by simp;omega)
   rwa [show o+q+(j+1)=o+(q+1)+j from by omega] at this)]
  simp only [List.length_cons];by_cases h1:o+(q+1)<=p/\p<o+(q+1)+r.length
  ·rw [if_pos h1,if_pos (by omega),show p-(o+q)=(p-(o+(q+1)))+1 from by omega,List.getElem?_cons_succ]
  ·rw [if_neg h1]
   by_cases h2:p=o+q
   ·subst h2;rw [zkd hu0,if_pos (by omega)];simp
   ·rw [hn p h2,if_neg (by omega)]
theorem zti {x:Pl} {o:Nat} {el:TypeId} {fr:Nat × Nat}:∀(vs:List Value) (q:Nat) (h:zaa) (c:Array Value),h[x.b]? = some (.cells c el fr)->∃ c',(zak h (x.at o) q vs)[x.b]? = some (.cells c' el fr)/\c'.size=c.size
 | [],q,h,c,he=>⟨c,he,rfl⟩
 | v :: r,q,h,c,he=>by
  unfold zak;rw [Pl.at_add];obtain⟨c1,h1,h2⟩:=zy3 (a:=x.at (o+q)) (v:=v) he;obtain⟨c2,h3,h4⟩:=zti r (q+1) _ c1 h1;exact⟨c2,h3,h4.trans h2⟩
theorem RelB.wrs {φ:Ph} {bl:CB} {x:Pl} {hc:zaa} (r:RelB φ bl x hc) (hw:bl.w=true) {o' m:Nat} (hm:o'+m<=bl.room x):WrsAt hc (x.at o') m:=fun j hj=>by
 rw [Pl.at_add];exact r.wrh hw (by omega)
theorem RelB.sets {φ:Ph} {bl:CB} {x:Pl} {hc:zaa} (r:RelB φ bl x hc) (hw:bl.w=true) {o' n' d':Nat} {c':Go.V.T AV d'} {l:List AV} {us:List Value} (hv:cvs φ l=some us) (h1:∀ w∈us,w.oneCell'=true)
  (hl:o'+l.length<=n') (hn:n'<=bl.room x) (hu:bl.u=true∨n'=bl.n) (hd:n'<=4 ^ d') (hold:∀ j,j<n'->j<bl.n∨(o'<=j/\j<o'+l.length)) (hg:∀ j,j<n'->gt d' j c'=if o'<=j/\j<o'+l.length then l[j-o']? else gt bl.d j bl.c) :
  RelB φ ⟨n',bl.u,bl.w,bl.el,bl.es,d',c'⟩ x (zak hc (x.at o') 0 us):=by
 have hlen:=cvs_len _ _ hv
 have hroom:CB.room ⟨n',bl.u,bl.w,bl.el,bl.es,d',c'⟩ x=bl.room x:=by
  unfold CB.room;rcases hu with hu | hu
  ·simp only [hu,if_true]
  ·simp only [hu]
 refine⟨by rw [Go.Q.setsH_size];exact r.lt,hd,by rw [hroom];exact hn,fun j hj=>?_,fun _=>?_⟩
 ·have hj':j<n':=hj
  have hc2:=zm0 (x:=x) (o:=o') us 0 hc j (fun q hq=>(r.wrh hw (j:=o'+0+q) (by omega)).1);simp only [Nat.add_zero] at hc2;show ∃ v u,gt d' j c'=some v/\cv φ v=some u/\u.oneCell'=true/\zab (zak hc (x.at o') 0 us) (x.at j)=some u;rw [hg j hj',hc2];by_cases hin:o'<=j/\j<o'+l.length
  ·rw [if_pos hin,if_pos (by omega)]
   have hlt:j-o'<l.length:=by omega
   obtain⟨u,hu1,hu2⟩:=zdn _ _ hv (j-o') l[j-o'] (List.getElem?_eq_getElem hlt);exact⟨_,u,List.getElem?_eq_getElem hlt,hu2,h1 u (List.mem_of_getElem? hu1),hu1⟩
  ·rw [if_neg hin,if_neg (by omega)]
   exact r.cell j ((hold j hj').resolve_right hin)
 ·obtain⟨c,el,lo,hi,k1,k2,k3⟩:=r.wr hw
  obtain⟨c2,k4,k5⟩:=zti (x:=x) (o:=o') us 0 hc c k1;exact⟨c2,el,lo,hi,k4,by rw [k5];exact k2,by rw [k5,hroom];exact k3⟩
theorem Rel.writes {base:zaa} {φ:Ph} {h:HS} {hc:zaa} (R:Rel base φ h hc) {b o':Nat} {bl:CB} {x:Pl} {l:List AV} {us:List Value} (e:φ b=some x) (hb:gt DH b h.h=some (.c bl)) (hw:bl.w=true) (ho:o'+l.length<=bl.n) (hv:cvs φ l=some us) (h1:∀ w∈us,w.oneCell'=true) :
  WrsAt hc (x.at o') us.length/\Rel base φ ⟨h.nx,Go.V.st DH b (some (.c ⟨bl.n,bl.u,bl.w,bl.el,bl.es,bl.d,sts bl.d l o' bl.c⟩)) h.h⟩ (zak hc (x.at o') 0 us)/\Ex φ h φ ⟨h.nx,Go.V.st DH b (some (.c ⟨bl.n,bl.u,bl.w,bl.el,bl.es,bl.d,sts bl.d l o' bl.c⟩)) h.h⟩:=by
 have rb:RelB φ bl x hc:=(R.blk b _ x (R.idlt e) hb e).1;have hlen:=cvs_len _ _ hv;refine⟨rb.wrs hw (by have:=rb.rn;omega),R.set e hb hw (by exact hw) (Go.Q.setsH_size _ _) (fun i hi=>Go.Q.setsH_other _ _ hi) ?_⟩;exact rb.sets hw hv h1 ho rb.rn (.inr rfl) rb.dn (fun j hj=>.inl hj) fun j hj=>zl3 _ _ _ _ (by have:=rb.dn;omega) (by have:=rb.dn;omega)
def qqr (σ:Sg) (n m:Nat) (x y:Operand):EO:=⟨fun _ st e h K=>(opd σ n x).x st e fun v=>dP.x v fun b o=>(opd σ n y).x st e fun v=>dG.x v fun l=>zuz h b fun bn u w el es d c =>
 Bool.rec (motive:=fun _=>Rs) false (wt d l o c fun c=>zv0 h b (some (.c ⟨bn,u,w,el,es,d,c⟩)) fun h=>K und h) (and (Nat.beq m (zgs l)) (and (Nat.ble (Nat.add o m) bn) w))⟩
theorem qe4 (B:TbOk P T tb) {t:Nat} {i:TI} {x y:Operand} (ho:o.op = .store t x y) (ht:tif tb t=some i):EOk P σ n o (qqr σ n i.n x y):=fun call CO st e h K H=>by
 obtain⟨v,hv,H⟩:=zaf H;obtain⟨b,o',hq,H2⟩:=znv H;clear H;subst hq;revert H2;intro H;obtain⟨w,hw,H⟩:=zaf H;obtain⟨l,hq,H2⟩:=zsn H;clear H;subst hq;revert H2;intro H;obtain⟨bl,hb,H⟩:=zd3 H;obtain⟨hh,H⟩:=zbz H;obtain⟨hm,hh⟩:=zag.1 hh;obtain⟨hle,hwr⟩:=zag.1 hh;replace hm:=Nat.eq_of_beq_eq_true hm;rw [zav] at hm;replace hle:o'+i.n<=bl.n:=Nat.le_of_ble_eq_true hle;rw [zoc,ziw] at H;refine⟨_,_,H,fun N base φ a hc F R=>?_⟩;obtain⟨u1,e1,c1⟩:=F.ev hv;obtain⟨u2,e2,c2⟩:=F.ev hw;obtain⟨p,hp,rfl⟩:=zv1 c1;obtain⟨us,k1,k2,rfl⟩:=zfn.1 c2;obtain⟨W,R',X⟩:=R.writes (o':=o') hp hb hwr (by omega) k1 k2;have hlen:=cvs_len _ _ k1;refine(YE.of_h (zrx (h':=zak hc (p.at o') 0 us) B.ok ho e1 e2 (B.get ht) (by omega) k2 (by rw [hm,← hlen];exact W) rfl)).mono ?_;rintro _ _ ⟨rfl,rfl⟩;exact⟨φ,X,R',zq4 φ⟩
def qe6 (σ:Sg) (n:Nat) (x:Operand) (xs:List Operand):EO:=⟨fun call st e h K=>(opd σ n x).x st e fun v=>dF.x v fun f fs cs=>(gl σ n xs).x st e fun vs=>qdy vs cs fun l=>qdy fs l fun l=>call f l h K⟩
theorem zui {x:Operand} {xs:Array Operand} {ts:Array TypeId} (ho:o.op = .call { callee:=.value x,args:=xs,argTypes:=ts }):EOk P σ n o (qe6 σ n x xs.toList):=fun call CO st e h K H=>by
 obtain⟨v,hv,H⟩:=zaf H;obtain⟨f,fs,cs,hq,H2⟩:=zxi H;clear H;subst hq;revert H2;intro H;obtain⟨vs,H,_,hvs⟩:=qad _ _ H;rw [zlk,zlk] at H;obtain⟨hf,v,h1,H,hcall⟩:=CO _ _ _ _ H;refine⟨v,h1,H,fun N base φ a hc F R=>?_⟩;obtain⟨u1,e1,c1⟩:=F.ev hv;obtain⟨us,e2,c2⟩:=hvs N φ a F;simp only [cv] at c1;split at c1
 ·rename_i a1 a2 g1 g2
  cases c1
  have hcc:=hcall base φ hc (a1++(us++a2)) R (zg5 _ _ _ _ g1 (zg5 _ _ _ _ c2 g2));have hy:=zt1 (P:=P) (e:=eA a) (o:=o) (as':=xs.toList) hf (by rw [ho]) e1 e2;have ea:(a1.toArray++us.toArray++a2.toArray:Array Value)=(a1++(us++a2)).toArray:=by simp
  rw [ea] at hy;exact YE.of_c hcc hy
 ·cases c1
end
end
end Go.V
end

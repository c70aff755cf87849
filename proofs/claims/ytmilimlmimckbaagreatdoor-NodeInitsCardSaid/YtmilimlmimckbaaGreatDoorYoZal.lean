/- A part of the proof of statements of this seat: lemmas, no statement of their own. -/
import Derived.Test.YtmilimlmimckbaaGreatDoorYoZak
import Derived.Test.YtmilimlmimckbaaGreatDoorYoZad
import Derived.DeepKeys3
import Derived.Lib.Bytealg
set_option linter.unusedVariables false
set_option linter.unusedSimpArgs false
section
namespace Go.V
open Go.Q
noncomputable section
def zb3 {β:Type} (n:Nat) (K:Nat->β):β:=Nat.rec (K 0) (fun m _=>K (Nat.succ m)) n
def zvx {β:Type} (n:Int) (K:Int->β):β:=Int.rec (fun m=>zb3 m fun m=>K (.ofNat m)) (fun m=>zb3 m fun m=>K (.negSucc m)) n
def zru {β:Type} (b:Bool) (K:Bool->β):β:=Bool.rec (K false) (K true) b
def opt {α β:Type} (x:Option α) (n:β) (K:α->β):β:=Option.rec n K x
@[simp] theorem natK_eq {β:Type} (n:Nat) (K:Nat->β):zb3 n K=K n:=by cases n <;> rfl
@[simp] theorem intK_eq {β:Type} (n:Int) (K:Int->β):zvx n K=K n:=by cases n <;> simp [zvx]
@[simp] theorem boolK_eq {β:Type} (b:Bool) (K:Bool->β):zru b K=K b:=by cases b <;> rfl
theorem zjz {α:Type} {x:Option α} {K:α->Bool} (h:opt x false K=true):∃ v,x=some v/\K v=true:=by
 cases x with
 | none=>exact absurd h (by simp [opt])
 | some v=>exact⟨v,rfl,h⟩
def DE:Nat:=4
abbrev En:=T AV DE
abbrev St:=List AV
inductive X | nrm | ex (i:Nat) | ret
abbrev Rs:=Bool
abbrev zbk:=Nat->List AV->HS->(AV->HS->Rs)->Rs
inductive Src | st (n:Nat) | en (t:Nat) | co (v:AV) | no
structure G where
 f:St->En->(AV->Rs)->Rs
def G.x (g:G):St->En->(AV->Rs)->Rs:=G.rec (fun f=>f) g
def gs (k:Nat):G:=Nat.rec ⟨fun st _ K=>List.rec false (fun v _ _=>K v) st⟩ (fun _ ih=>⟨fun st e K=>List.rec false (fun _ r _=>ih.x r e K) st⟩) k
def qkm (n:Nat):Src->G
 | .st j=>gs (Nat.sub (Nat.sub n j) 1)
 | .en t=>⟨fun _ e K=>(ac DE t).x Rs e fun x=>opt x false K⟩
 | .co v=>⟨fun _ _ K=>K v⟩
 | .no=>⟨fun _ _ _=>false⟩
def den (n:Nat) (st:St) (e:En):Src->Option AV
 | .st j=>st[n-j-1]?
 | .en t=>gt DE t e
 | .co v=>some v
 | .no=>none
theorem qj1:∀(k:Nat) (st:St) (e:En) (K:AV->Rs),(gs k).x st e K=true->∃ v,st[k]? = some v/\K v=true
 | 0,[],e,K,h=>by cases h
 | 0,v :: r,e,K,h=>⟨v,rfl,h⟩
 | k+1,[],e,K,h=>by cases h
 | k+1,v :: r,e,K,h=>by
  obtain⟨u,h1,h2⟩:=qj1 k r e K h;exact⟨u,by simpa using h1,h2⟩
theorem zsz {n:Nat} {s:Src} {st:St} {e:En} {K:AV->Rs} (h:(qkm n s).x st e K=true):∃ v,den n st e s=some v/\K v=true:=by
 cases s with
 | st j=>exact qj1 _ _ _ _ h
 | en t =>
  have h':(ac DE t).x Rs e (fun x=>opt x false K)=true:=h;rw [zmm] at h'
  exact zjz h'
 | co v=>exact⟨v,rfl,h⟩
 | no=>cases h
abbrev Sg:=List (Nat × Src)
def slk (t:Nat):Sg->Src
 | []=>.en t
 | (s,v) :: r=>Bool.rec (slk t r) v (Nat.beq s t)
theorem zcf (t s:Nat) (v:Src) (r:Sg):slk t ((s,v) :: r)=if s=t then v else slk t r:=by
 show (Bool.rec (motive:=fun _=>Src) (slk t r) v (Nat.beq s t):Src)=_
 by_cases h:s=t
 ·subst h;simp
 ·rw [if_neg h,show Nat.beq s t=false from by rw [← Bool.not_eq_true];simpa using h]
structure FrV (N:Nat) (φ:Ph) (σ:Sg) (n:Nat) (st:St) (e:En) (a:Act):Prop where
 gl:∀ g,g<GN->φ g=some ⟨g,0,0⟩
 d:a.defers=[]
 sz:a.tmps.size=N
 v:∀ t v,t<4 ^ DE->den n st e (slk t σ)=some v->∃ u,a.tmps[t]? = some u/\cv φ v=some u
theorem FrV.mono {N:Nat} {φ ψ:Ph} {σ:Sg} {n:Nat} {st:St} {e:En} {a:Act} (h:φ.le ψ) (f:FrV N φ σ n st e a):FrV N ψ σ n st e a :=
 ⟨fun g hg=>h _ _ (f.gl g hg),f.d,f.sz,fun t v lt hv=>let ⟨u,h1,h2⟩:=f.v t v lt hv;⟨u,h1,zh9 h _ _ h2⟩⟩
def ofV:Value->Src
 | .bool b=>.co (.b b)
 | .int k n=>.co (.i k n)
 | .string s=>.co (.s (s.data.toList.map fun b=>b.toNat))
 | .pointer none=>.co (.nl 0)
 | .slice none 0 0=>.co (.nl 1)
 | .map none=>.co (.nl 2)
 | .nilFunc=>.co (.nl 3)
 | .nilIface=>.co (.nl 4)
 | .chan none=>.co (.nl 5)
 | _=>.no
def zsa (σ:Sg):Operand->Src
 | .tmp t=>Bool.rec .no (slk t σ) (Nat.blt t 256)
 | .const v=>ofV v
 | .global g=>Bool.rec .no (.co (.p g 0)) (Nat.blt g GN)
 | .func f=>.co (.f f [] [])
theorem qb5 (s:ByteArray):bytes (s.data.toList.map fun b=>b.toNat)=s:=by
 unfold bytes;rw [List.map_map];have:(UInt8.ofNat ∘ fun b:UInt8=>b.toNat)=id:=by funext b;simp
 rw [this];simp
theorem qcx {φ:Ph} {n:Nat} {st:St} {e:En} {c:Value} {v:AV} (h:den n st e (ofV c)=some v):cv φ v=some c:=by
 unfold ofV at h;split at h <;> simp only [den,Option.some.injEq,reduceCtorEq] at h <;> subst h
 case _=>rfl
 case _=>rfl
 case _ s=>exact zog.2 ⟨fun n hn=>by obtain⟨b,_,rfl⟩:=List.mem_map.1 hn;exact b.toNat_lt,by rw [qb5]⟩
 all_goals rfl
theorem osrc_ok {N:Nat} {φ:Ph} {σ:Sg} {n:Nat} {st:St} {e:En} {a:Act} (f:FrV N φ σ n st e a) {x:Operand} {v:AV} (h:den n st e (zsa σ x)=some v):cv φ v=some (a.eval x):=by
 cases x with
 | tmp t =>
  replace h:den n st e (Bool.rec (motive:=fun _=>Src) Src.no (slk t σ) (Nat.blt t 256))=some v:=h
  cases hb:Nat.blt t 256 with
  | false=>rw [hb] at h;cases h
  | true =>
   rw [hb] at h;have hlt:t<4 ^ DE:=by rw [Nat.blt_eq] at hb;exact hb
   obtain⟨u,h1,h2⟩:=f.v t v hlt h;rw [h2]
   simp [Act.eval,Array.getD_eq_getD_getElem?,h1]
 | const c=>exact qcx h
 | global g =>
  replace h:den n st e (Bool.rec (motive:=fun _=>Src) Src.no (Src.co (AV.p g 0)) (Nat.blt g GN))=some v:=h
  cases hb:Nat.blt g GN with
  | false=>rw [hb] at h;cases h
  | true =>
   rw [hb] at h;rw [Nat.blt_eq] at hb;simp only [den,Option.some.injEq] at h;subst h
   simp [cv,f.gl g hb,Act.eval]
 | func g =>
  simp only [zsa,den,Option.some.injEq] at h;subst h;simp [cv,cvs,Act.eval]
def eA (a:Act):Env:=zmi 0 a.tmps.toList
theorem zm6:∀(l:List Value) (i s:Nat) (v:Value),l[s]? = some v->lkO (zmi i l) (i+s)=some v
 | [],i,s,v,h=>by simp at h
 | u :: l,i,0,v,h=>by simp at h;subst h;simp [zmi,lkO]
 | u :: l,i,s+1,v,h=>by
  simp only [List.getElem?_cons_succ] at h;have:=zm6 l (i+1) s v h;simp only [zmi,ze3];rw [if_neg (by omega),show i+(s+1)=i+1+s from by omega];exact this
theorem qia {a:Act} {s:Nat} {v:Value}:lkO (eA a) s=some v ↔ a.tmps[s]? = some v:=by
 constructor
 ·intro h
  have:=(zms _ _ _ _ h).2;simpa using this
 ·intro h
  have:=zm6 a.tmps.toList 0 s v (by simpa using h);rw [Nat.zero_add] at this;exact this
theorem qhz {N:Nat} {φ:Ph} {σ:Sg} {n:Nat} {st:St} {e:En} {a:Act} (f:FrV N φ σ n st e a):Fr N (eA a) a:=⟨f.d,f.sz,fun s v h=>qia.1 h⟩
theorem zrm {a:Act}:Agr (eA a) a.eval:=by
 intro x v hx
 cases x with
 | tmp t =>
  have:=qia.1 hx
  simp [Act.eval,Array.getD_eq_getD_getElem?,this]
 | const c=>simpa [evO,Act.eval] using hx
 | global g=>simpa [evO,Act.eval] using hx
 | func f=>simpa [evO,Act.eval] using hx
theorem FrV.ev {N:Nat} {φ:Ph} {σ:Sg} {n:Nat} {st:St} {e:En} {a:Act} (f:FrV N φ σ n st e a) {x:Operand} {v:AV} (h:den n st e (zsa σ x)=some v):∃ u,evO (eA a) x=some u/\cv φ v=some u:=by
 refine⟨a.eval x,?_,osrc_ok f h⟩
 cases x with
 | tmp t =>
  have h0:=h;replace h:den n st e (Bool.rec (motive:=fun _=>Src) Src.no (slk t σ) (Nat.blt t 256))=some v:=h
  cases hb:Nat.blt t 256 with
  | false=>rw [hb] at h;cases h
  | true =>
   rw [hb] at h;have hlt:t<4 ^ DE:=by rw [Nat.blt_eq] at hb;exact hb
   obtain⟨u,h1,h2⟩:=f.v t v hlt h;show lkO (eA a) t=_;rw [qia.2 h1]
   simp [Act.eval,Array.getD_eq_getD_getElem?,h1]
 | const c=>rfl
 | global g=>rfl
 | func g=>rfl
def opd (σ:Sg) (n:Nat) (x:Operand):G:=qkm n (zsa σ x)
theorem zaf {σ:Sg} {n:Nat} {x:Operand} {st:St} {e:En} {K:AV->Rs} (h:(opd σ n x).x st e K=true):∃ v,den n st e (zsa σ x)=some v/\K v=true:=zsz h
end
end Go.V
end
section
namespace Go.V
open Go.Q
noncomputable section
def wU (m:Nat) (x:Int):Int:=Int.rec (fun n=>.ofNat (Nat.mod n m)) (fun n=>.ofNat (Nat.sub (Nat.sub m 1) (Nat.mod n m))) x
def wS (m hf:Nat) (x:Int):Int:=Int.rec (fun n=>Bool.rec (.ofNat n) (.negSucc (Nat.sub (Nat.sub m 1) n)) (Nat.ble hf n)) (fun n=>.negSucc n) (wU m x)
def wr:IntKind->Int->Int
 | .u8=>wU 256 | .u16=>wU 65536 | .u32=>wU 4294967296 | .u64=>wU 18446744073709551616
 | .i8=>wS 256 128 | .i16=>wS 65536 32768 | .i32=>wS 4294967296 2147483648 | .i64=>wS 18446744073709551616 9223372036854775808
theorem zxv {m:Nat} (hm:0<m) (x:Int):wU m x=x % (m:Int):=by
 cases x with
 | ofNat n=>rfl
 | negSucc n =>
  show ((m-1-n % m:Nat):Int)=_
  have h1:n % m<m:=Nat.mod_lt _ hm;have h2:=Nat.div_add_mod n m;rw [Int.negSucc_emod _ (by omega)];have:((n:Int) % (m:Int))=((n % m:Nat):Int):=by simp
  rw [this];omega
theorem zz9 {m hf:Nat} (hm:0<m) (x:Int):wS m hf x=if x % (m:Int)>=(hf:Int) then x % (m:Int)-m else x % (m:Int):=by
 unfold wS;rw [zxv hm];have h0:=Int.emod_nonneg x (b:=(m:Int)) (by omega);have h1:=Int.emod_lt_of_pos x (b:=(m:Int)) (by omega);obtain⟨k,hk⟩:=Int.eq_ofNat_of_zero_le h0;rw [hk] at h1 ⊢;show (Bool.rec (motive:=fun _=>Int) (.ofNat k) (.negSucc (Nat.sub (Nat.sub m 1) k)) (Nat.ble hf k):Int)=_;by_cases h:hf<=k
 ·rw [show Nat.ble hf k=true from by rw [Nat.ble_eq];exact h,if_pos (by omega)]
  show Int.negSucc (m-1-k)=_
  rw [Int.negSucc_eq];omega
 ·rw [show Nat.ble hf k=false from by rw [← Bool.not_eq_true,Nat.ble_eq];exact h,if_neg (by omega)]
  rfl
theorem zmh (k:IntKind) (x:Int):wr k x=k.wrap x:=by
 unfold IntKind.wrap
 cases k <;> simp only [wr,IntKind.signed,IntKind.bits,Bool.true_and,Bool.false_and]
 ·rw [zz9 (by decide)];simp
 ·rw [zz9 (by decide)];simp
 ·rw [zz9 (by decide)];simp
 ·rw [zz9 (by decide)];simp
 ·rw [zxv (by decide)];simp
 ·rw [zxv (by decide)];simp
 ·rw [zxv (by decide)];simp
 ·rw [zxv (by decide)];simp
def ilt (a b:Int):Bool:=Int.rec (fun a=>Int.rec (fun b=>Nat.blt a b) (fun _=>false) b) (fun a=>Int.rec (fun _=>true) (fun b=>Nat.blt b a) b) a
def ieq (a b:Int):Bool:=Int.rec (fun a=>Int.rec (fun b=>Nat.beq a b) (fun _=>false) b) (fun a=>Int.rec (fun _=>false) (fun b=>Nat.beq a b) b) a
theorem zos (a b:Int):ilt a b=decide (a<b):=by
 rw [Bool.eq_iff_iff,decide_eq_true_iff]
 cases a with
 | ofNat a=>cases b with
  | ofNat b=>show Nat.blt a b=true ↔ _;rw [Nat.blt_eq];simp
  | negSucc b=>show false=true ↔ _;simp;omega
 | negSucc a=>cases b with
  | ofNat b=>show true=true ↔ _;simp;omega
  | negSucc b=>show Nat.blt b a=true ↔ _;rw [Nat.blt_eq];omega
theorem znc (a b:Int):ieq a b=(a==b):=by
 rw [Bool.eq_iff_iff,beq_iff_eq]
 cases a with
 | ofNat a=>cases b with
  | ofNat b=>show Nat.beq a b=true ↔ _;rw [Nat.beq_eq];simp;omega
  | negSucc b=>show false=true ↔ _;simp
 | negSucc a=>cases b with
  | ofNat b=>show false=true ↔ _;simp
  | negSucc b=>show Nat.beq a b=true ↔ _;rw [Nat.beq_eq];simp
def un2 (x:Int):Nat:=Int.rec (fun n=>n) (fun n=>Nat.sub 18446744073709551615 (Nat.mod n 18446744073709551616)) x
theorem zhz (x:Int) (k:Nat) (hk:k<=64):un2 x % 2 ^ k=(BitVec.ofInt k x).toNat:=by
 rw [BitVec.toNat_ofInt];have hp:(0:Int)<((2 ^ k:Nat):Int):=by have:=Nat.two_pow_pos k;omega
 cases x with
 | ofNat n =>
  show n % 2 ^ k=((n:Int) % ((2 ^ k:Nat):Int)).toNat
  rw [← Int.natCast_emod,Int.toNat_natCast]
 | negSucc n =>
  show (18446744073709551615-n % 18446744073709551616) % 2 ^ k=_
  have hd:(2:Nat) ^ 64=2 ^ k*2 ^ (64-k):=by rw [← Nat.pow_add];congr 1;omega
  have h1:n % 18446744073709551616<18446744073709551616:=Nat.mod_lt _ (by decide)
  have e1:((18446744073709551615-n % 18446744073709551616:Nat):Int)=Int.negSucc n+(((n / 18446744073709551616+1)*18446744073709551616:Nat):Int):=by
   have:=Nat.div_add_mod n 18446744073709551616;rw [Int.negSucc_eq];omega
  have e2:((((n / 18446744073709551616+1)*18446744073709551616:Nat)):Int)=((2 ^ k:Nat):Int)*(((n / 18446744073709551616+1)*2 ^ (64-k):Nat):Int):=by
   rw [← Int.natCast_mul];congr 1;rw [show (18446744073709551616:Nat)=2 ^ 64 from rfl,hd,Nat.mul_left_comm]
  have:(((18446744073709551615-n % 18446744073709551616) % 2 ^ k:Nat):Int)=Int.negSucc n % ((2 ^ k:Nat):Int):=by
   rw [Int.natCast_emod,e1,e2,Int.add_mul_emod_self_left]
  rw [← this,Int.toNat_natCast]
theorem zpk (k:IntKind) (n:Nat):k.wrap (n:Int)=k.wrap ((n % 2 ^ k.bits:Nat):Int):=by
 unfold IntKind.wrap
 have:((n % 2 ^ k.bits:Nat):Int) % (2 ^ k.bits:Int)=(n:Int) % (2 ^ k.bits:Int):=by
  rw [Int.natCast_emod];have:((2 ^ k.bits:Nat):Int)=(2 ^ k.bits:Int):=by simp
  rw [this,Int.emod_emod_of_dvd _ (Int.dvd_refl _)]
 simp only [this]
theorem zll (k:IntKind):k.bits<=64:=by cases k <;> decide
theorem zsw (k:IntKind) (a b:Int):wr k (.ofNat (Nat.land (un2 a) (un2 b)))=k.wrap (BitVec.ofInt k.bits a &&& BitVec.ofInt k.bits b).toNat:=by
 rw [zmh];show k.wrap ((un2 a &&& un2 b:Nat):Int)=_;rw [zpk,Nat.and_mod_two_pow,zhz a _ (zll k),zhz b _ (zll k),BitVec.toNat_and]
theorem zzi (k:IntKind) (a b:Int):wr k (.ofNat (Nat.lor (un2 a) (un2 b)))=k.wrap (BitVec.ofInt k.bits a ||| BitVec.ofInt k.bits b).toNat:=by
 rw [zmh];show k.wrap ((un2 a ||| un2 b:Nat):Int)=_;rw [zpk,Nat.or_mod_two_pow,zhz a _ (zll k),zhz b _ (zll k),BitVec.toNat_or]
theorem zwq (k:IntKind) (a b:Int):wr k (.ofNat (Nat.xor (un2 a) (un2 b)))=k.wrap (BitVec.ofInt k.bits a ^^^ BitVec.ofInt k.bits b).toNat:=by
 rw [zmh];show k.wrap ((un2 a ^^^ un2 b:Nat):Int)=_;rw [zpk,Nat.xor_mod_two_pow,zhz a _ (zll k),zhz b _ (zll k),BitVec.toNat_xor]
def qpx (a:Int) (m:Nat):Int:=Int.rec (fun n=>.ofNat (Nat.shiftLeft n m)) (fun n=>.negSucc (Nat.sub (Nat.shiftLeft (Nat.succ n) m) 1)) a
def qqe (a:Int) (m:Nat):Int:=Int.rec (fun n=>.ofNat (Nat.shiftRight n m)) (fun n=>.negSucc (Nat.shiftRight n m)) a
theorem qhx (a:Int) (m:Nat):qpx a m=a*2 ^ m:=by
 have hp:=Nat.two_pow_pos m;have e:(2:Int) ^ m=((2 ^ m:Nat):Int):=by simp
 rw [e]
 cases a with
 | ofNat n =>
  show ((n <<< m:Nat):Int)=_
  rw [Nat.shiftLeft_eq];simp
 | negSucc n =>
  show Int.negSucc ((n+1) <<< m-1)=_
  have h1:0<(n+1)*2 ^ m:=Nat.mul_pos (Nat.succ_pos _) hp;have h2:((n:Int)+1)*((2 ^ m:Nat):Int)=(((n+1)*2 ^ m:Nat):Int):=by simp
  rw [Nat.shiftLeft_eq,Int.negSucc_eq,Int.negSucc_eq,Int.neg_mul,h2];omega
theorem qgm (a:Int) (m:Nat):qqe a m=a.fdiv (2 ^ m):=by
 have e:(2:Int) ^ m=((2 ^ m:Nat):Int):=by simp
 have hp:=Nat.two_pow_pos m;rw [e,Int.fdiv_eq_ediv_of_nonneg _ (by omega)]
 cases a with
 | ofNat n =>
  show ((n >>> m:Nat):Int)=_
  rw [Nat.shiftRight_eq_div_pow];simp
 | negSucc n =>
  show Int.negSucc (n >>> m)=_
  rw [Nat.shiftRight_eq_div_pow,Int.negSucc_ediv _ (by omega)];rw [Int.negSucc_eq];simp only [Int.natCast_ediv];rfl
def qil (k:IntKind) (a:Int) (n:Nat):Int:=wr k (qpx a (Nat.min n k.bits))
def qij (k:IntKind) (a:Int) (n:Nat):Int:=qqe a (Nat.min n k.bits)
theorem zsv (k:IntKind) (a:Int) (n:Nat):qil k a n=shl k a n:=by unfold qil shl;rw [zmh,qhx]
theorem zp8 (k:IntKind) (a:Int) (n:Nat):qij k a n=shr k a n:=by unfold qij shr;rw [qgm]
structure BI where
 f:IntKind->Int->Int->(AV->Rs)->Rs
def BI.x (g:BI):IntKind->Int->Int->(AV->Rs)->Rs:=BI.rec (fun f=>f) g
def qpa (a b:Int):Int:=Int.rec (fun x=>Int.rec (fun y=>.ofNat (Nat.add x y)) (fun _=>Int.add a b) b) (fun _=>Int.add a b) a
theorem qf2 (a b:Int):qpa a b=a+b:=by cases a <;> cases b <;> rfl
def zsr (g:Int->Int->Int):BI:=⟨fun k a b K=>zvx (wr k (g a b)) fun x=>K (.i k x)⟩
def qht (g:Int->Int->Bool):BI:=⟨fun _ a b K=>zru (g a b) fun x=>K (.b x)⟩
def qot (g:IntKind->Int->Int->Int):BI:=⟨fun k a b K=>Bool.rec (motive:=fun _=>Rs) (zvx (g k a b) fun x=>K (.i k x)) false (ieq b 0)⟩
def bi:BinOp->BI
 | .add=>zsr qpa
 | .sub=>zsr Int.sub
 | .mul=>zsr Int.mul
 | .quo=>qot fun k a b=>wr k (Int.tdiv a b)
 | .rem=>qot fun _ a b=>Int.tmod a b
 | .eql=>qht ieq
 | .neq=>qht fun a b=>not (ieq a b)
 | .lss=>qht ilt
 | .leq=>qht fun a b=>not (ilt b a)
 | .gtr=>qht fun a b=>ilt b a
 | .geq=>qht fun a b=>not (ilt a b)
 | .and=>zsr fun a b=>.ofNat (Nat.land (un2 a) (un2 b))
 | .or=>zsr fun a b=>.ofNat (Nat.lor (un2 a) (un2 b))
 | .xor=>zsr fun a b=>.ofNat (Nat.xor (un2 a) (un2 b))
 | _=>⟨fun _ _ _ _=>false⟩
def bI (op:BinOp) (k:IntKind) (a b:Int):Option Value:=match op with
 | .quo=>if b=0 then none else some (.int k (k.wrap (a.tdiv b)))
 | .rem=>if b=0 then none else some (.int k (a.tmod b))
 | op=>zzg op k a b
theorem qnl {op:BinOp} {k:IntKind} {a b:Int} {K:AV->Rs} (h:(bi op).x k a b K=true):∃ v u,K v=true/\bI op k a b=some u/\∀ φ,cv φ v=some u:=by
 have ar:∀(g:Int->Int->Int) (x:Int),wr k (g a b)=x->(zsr g).x k a b K=true->K (.i k x)=true:=fun g x hx h=>by
  subst hx;have h':zvx (wr k (g a b)) (fun x=>K (.i k x))=true:=h;simpa using h'
 have cm:∀(g:Int->Int->Bool) (x:Bool),g a b=x->(qht g).x k a b K=true->K (.b x)=true:=fun g x hx h=>by
  subst hx;have h':zru (g a b) (fun x=>K (.b x))=true:=h;simpa using h'
 have dv:∀(g:IntKind->Int->Int->Int),(qot g).x k a b K=true->b≠0/\K (.i k (g k a b))=true:=fun g h=>by
  have h':Bool.rec (motive:=fun _=>Rs) (zvx (g k a b) fun x=>K (.i k x)) false (ieq b 0)=true:=h;rw [znc] at h';by_cases hb:b=0
  ·rw [show (b==0)=true from by simpa using hb] at h';cases h'
  ·rw [show (b==0)=false from by simpa using hb] at h';exact⟨hb,by simpa using h'⟩
 cases op
 case add=>exact⟨_,_,ar qpa _ (by rw [zmh,qf2]) h,rfl,fun _=>rfl⟩
 case sub=>exact⟨_,_,ar Int.sub _ (by rw [zmh];rfl) h,rfl,fun _=>rfl⟩
 case mul=>exact⟨_,_,ar Int.mul _ (by rw [zmh];rfl) h,rfl,fun _=>rfl⟩
 case quo=>obtain⟨h1,h2⟩:=dv _ h;exact⟨_,_,h2,by simp only [bI,if_neg h1,zmh],fun _=>rfl⟩
 case rem=>obtain⟨h1,h2⟩:=dv _ h;exact⟨_,_,h2,by simp only [bI,if_neg h1],fun _=>rfl⟩
 case eql=>exact⟨_,_,cm ieq _ (znc _ _) h,rfl,fun _=>rfl⟩
 case neq=>exact⟨_,_,cm (fun a b=>not (ieq a b)) _ (by rw [znc];rfl) h,rfl,fun _=>rfl⟩
 case lss=>exact⟨_,_,cm ilt _ (zos _ _) h,rfl,fun _=>rfl⟩
 case leq=>exact⟨_,_,cm (fun a b=>not (ilt b a)) (decide (a<=b)) (by rw [zos,← decide_not];congr 1;simp) h,rfl,fun _=>rfl⟩
 case gtr=>exact⟨_,_,cm (fun a b=>ilt b a) (decide (a > b)) (by rw [zos]) h,rfl,fun _=>rfl⟩
 case geq=>exact⟨_,_,cm (fun a b=>not (ilt a b)) (decide (a>=b)) (by rw [zos,← decide_not];congr 1;simp) h,rfl,fun _=>rfl⟩
 case and=>exact⟨_,_,ar _ _ (zsw k a b) h,rfl,fun _=>rfl⟩
 case or=>exact⟨_,_,ar _ _ (zzi k a b) h,rfl,fun _=>rfl⟩
 case xor=>exact⟨_,_,ar _ _ (zwq k a b) h,rfl,fun _=>rfl⟩
 all_goals cases h
end
end Go.V
end
section
namespace Go.V
open Go.Q
noncomputable section
def DT:Nat:=5
inductive XK | ibs | add
def XOk (P:Program) (f:Nat):XK->Prop
 | .ibs=>∀(s:ByteArray) (c:Int) (w:World),(callFunc f [.string s,.int .u8 c].toArray).run P w = .ok (.value (.int .i64 (Lib.indexByte s.data.toList c.toNat.toUInt8))) w
 | .add=>∀(x y c:Int) (w:World),0<=x/\0<=y/\0<=c/\c<=1->(callFunc f [.int .u64 x,.int .u64 y,.int .u64 c].toArray).run P w = .ok (.value (.tuple #[.int .u64 ((x+y+c) % 18446744073709551616),.int .u64 ((x+y+c) / 18446744073709551616)])) w
structure TT where
 t:T TI DT
 k:Nat
 c:Nat
 x:List (Nat × XK)
structure KD (P:Program) (t:TypeId) (z:List Value):Prop where
 m:∃ m,m+1<=10000/\P.keyTypeAt m t=true/\P.tiled m t=true
 sm:(keyOf P t (.agg z.toArray)).isSome=true
 wide:(match P.underlying t with | some (.array _ _) | some (.struct _)=>true | _=>false)=true
 eg:P.eqGuardType P.depth t=false
structure TbOk (P:Program) (T:Tab) (tb:TT):Prop where
 ok:TOk P T
 tk:∀ t i,gt DT t tb.t=some i->tlk T t=some i
 kl:∀ t i,Nat.testBit tb.k t=true->gt DT t tb.t=some i->KD P t i.z
 xs:∀ p,p∈tb.x->XOk P p.1 p.2
 ch:∀ t,Nat.testBit tb.c t=true->∃ d el i,P.underlying t=some (.chan d el)/\tlk T el=some i/\i.b<=1048576
def tif (tb:TT) (t:Nat):Option TI:=TT.rec (motive:=fun _=>Option TI) (fun tt _ _ _=>(ac DT t).x (Option TI) tt fun x=>x) tb
theorem qdo (tb:TT) (t:Nat):tif tb t=gt DT t tb.t:=by cases tb;exact zmm DT t _ _ _
def tkb (tb:TT) (t:Nat):Bool:=TT.rec (motive:=fun _=>Bool) (fun _ k _ _=>Nat.testBit k t) tb
theorem qk4 (tb:TT) (t:Nat):tkb tb t=Nat.testBit tb.k t:=by cases tb;rfl
def xlk (f:Nat) (l:List (Nat × XK)):Option XK:=match l with
 | []=>none
 | p :: r=>Bool.rec (xlk f r) (some p.2) (Nat.beq p.1 f)
theorem qc3 {f:Nat} {k:XK}:∀ {l:List (Nat × XK)},xlk f l=some k->(f,k)∈l
 | [],h=>by cases h
 | p :: r,h=>by
  unfold xlk at h
  cases hb:Nat.beq p.1 f with
  | false=>rw [hb] at h;exact List.mem_cons_of_mem _ (qc3 h)
  | true =>
   rw [hb] at h;have hp:=Nat.eq_of_beq_eq_true hb
   cases h
   subst hp;exact List.mem_cons_self
def txk (tb:TT) (f:Nat):Option XK:=TT.rec (motive:=fun _=>Option XK) (fun _ _ _ x=>xlk f x) tb
theorem qlt (tb:TT) (f:Nat):txk tb f=xlk f tb.x:=by cases tb;rfl
theorem TbOk.xk {P:Program} {T:Tab} {tb:TT} (B:TbOk P T tb) {f:Nat} {k:XK} (h:txk tb f=some k):XOk P f k:=by
 rw [qlt] at h;exact B.xs _ (qc3 h)
theorem TbOk.kd {P:Program} {T:Tab} {tb:TT} (B:TbOk P T tb) {t:Nat} {i:TI} (h:tif tb t=some i) (k:tkb tb t=true):KD P t i.z:=B.kl t i (by rw [← qk4];exact k) (by rw [← qdo];exact h)
theorem TbOk.get {P:Program} {T:Tab} {tb:TT} (B:TbOk P T tb) {t:Nat} {i:TI} (h:tif tb t=some i):tlk T t=some i:=B.tk t i (by rw [← qdo];exact h)
structure D1 (α:Type) where
 f:AV->(α->Rs)->Rs
def D1.x {α:Type} (x:D1 α):AV->(α->Rs)->Rs:=D1.rec (fun f=>f) x
structure D2 (α β:Type) where
 f:AV->(α->β->Rs)->Rs
def D2.x {α β:Type} (x:D2 α β):AV->(α->β->Rs)->Rs:=D2.rec (fun f=>f) x
structure D3 where
 f:AV->(Nat->List AV->List AV->Rs)->Rs
def D3.x (x:D3):AV->(Nat->List AV->List AV->Rs)->Rs:=D3.rec (fun f=>f) x
structure DS where
 f:AV->Rs->(Nat->Nat->Nat->Nat->Rs)->Rs
def DS.x (x:DS):AV->Rs->(Nat->Nat->Nat->Nat->Rs)->Rs:=DS.rec (fun f=>f) x
structure DN where
 f:AV->Rs->(Nat->Rs)->Rs
def DN.x (x:DN):AV->Rs->(Nat->Rs)->Rs:=DN.rec (fun f=>f) x
def dP:D2 Nat Nat:=⟨fun v K=>AV.rec (motive_1:=fun _=>Rs) (motive_2:=fun _=>Unit) (fun x=>false) (fun k x=>false) (fun l=>false) (fun b o=>K b o) (fun b o l c=>false) (fun b o r c=>false) (fun k b=>false) (fun k=>false) (fun g fs cs _ _=>false) (fun t v _=>false) (fun l _=>false) (fun l _=>false) () (fun _ _ _ _=>()) v⟩
theorem znv {v:AV} {K:Nat->Nat->Rs} (h:dP.x v K=true):∃ b o,v = .p b o/\K b o=true:=by cases v <;> first | (cases h;done) | exact⟨_,_,rfl,h⟩
def dI:D2 IntKind Int:=⟨fun v K=>AV.rec (motive_1:=fun _=>Rs) (motive_2:=fun _=>Unit) (fun x=>false) (fun k x=>K k x) (fun l=>false) (fun b o=>false) (fun b o l c=>false) (fun b o r c=>false) (fun k b=>false) (fun k=>false) (fun g fs cs _ _=>false) (fun t v _=>false) (fun l _=>false) (fun l _=>false) () (fun _ _ _ _=>()) v⟩
theorem zha {v:AV} {K:IntKind->Int->Rs} (h:dI.x v K=true):∃ k x,v = .i k x/\K k x=true:=by cases v <;> first | (cases h;done) | exact⟨_,_,rfl,h⟩
def dB:D1 Bool:=⟨fun v K=>AV.rec (motive_1:=fun _=>Rs) (motive_2:=fun _=>Unit) (fun x=>K x) (fun k x=>false) (fun l=>false) (fun b o=>false) (fun b o l c=>false) (fun b o r c=>false) (fun k b=>false) (fun k=>false) (fun g fs cs _ _=>false) (fun t v _=>false) (fun l _=>false) (fun l _=>false) () (fun _ _ _ _=>()) v⟩
theorem zu7 {v:AV} {K:Bool->Rs} (h:dB.x v K=true):∃ x,v = .b x/\K x=true:=by cases v <;> first | (cases h;done) | exact⟨_,rfl,h⟩
def dN:D1 Nat:=⟨fun v K=>AV.rec (motive_1:=fun _=>Rs) (motive_2:=fun _=>Unit) (fun x=>false) (fun k x=>Int.rec (motive:=fun _=>Rs) (fun n=>K n) (fun _=>false) x) (fun l=>false) (fun b o=>false) (fun b o l c=>false) (fun b o r c=>false) (fun k b=>false) (fun k=>false) (fun g fs cs _ _=>false) (fun t v _=>false) (fun l _=>false) (fun l _=>false) () (fun _ _ _ _=>()) v⟩
theorem zok {v:AV} {K:Nat->Rs} (h:dN.x v K=true):∃ k n,v = .i k (.ofNat n)/\K n=true:=by
 cases v with
 | i k x=>cases x with
  | ofNat n=>exact⟨_,_,rfl,h⟩
  | negSucc n=>cases h
 | _=>cases h
def dS:DS:=⟨fun v Z K=>AV.rec (motive_1:=fun _=>Rs) (motive_2:=fun _=>Unit) (fun x=>false) (fun k x=>false) (fun l=>false) (fun b o=>false) (fun b o l c=>K b o l c) (fun b o r c=>false) (fun k b=>false) (fun k=>Bool.rec (motive:=fun _=>Rs) false Z (Nat.beq k 1)) (fun g fs cs _ _=>false) (fun t v _=>false) (fun l _=>false) (fun l _=>false) () (fun _ _ _ _=>()) v⟩
theorem qer {a b:Nat} {x y:Rs} (h:Bool.rec (motive:=fun _=>Rs) x y (Nat.beq a b)=true):(a=b/\y=true)∨(a≠b/\x=true):=by
 by_cases e:a=b
 ·subst e;rw [show Nat.beq a a=true from by simp] at h;exact .inl ⟨rfl,h⟩
 ·rw [show Nat.beq a b=false from by rw [← Bool.not_eq_true];simpa using e] at h;exact .inr ⟨e,h⟩
theorem zjf {a b:Nat} {y:Rs} (h:Bool.rec (motive:=fun _=>Rs) false y (Nat.beq a b)=true):a=b/\y=true:=by
 rcases qer h with h | ⟨_,h⟩
 ·exact h
 ·cases h
theorem zhu {a b:Nat} {y:Rs} (h:Bool.rec (motive:=fun _=>Rs) false y (Nat.ble a b)=true):a<=b/\y=true:=by
 cases e:Nat.ble a b with
 | false=>rw [e] at h;cases h
 | true=>rw [e] at h;exact⟨Nat.le_of_ble_eq_true e,h⟩
theorem zn3 {a b:Nat} {y:Rs} (h:Bool.rec (motive:=fun _=>Rs) false y (Nat.blt a b)=true):a<b/\y=true:=zhu (a:=a+1) h
theorem qnt {a b:Nat} {x y:Rs} (h:Bool.rec (motive:=fun _=>Rs) x y (Nat.blt a b)=true):(a<b/\y=true)∨(b<=a/\x=true):=by
 cases e:Nat.blt a b with
 | false =>
  rw [e] at h;refine .inr ⟨?_,h⟩;have:¬ a<b:=fun hh=>by rw [← Nat.blt_eq] at hh;rw [hh] at e;cases e
  omega
 | true=>rw [e] at h;exact .inl ⟨by rw [← Nat.blt_eq];exact e,h⟩
theorem zbz {b:Bool} {y:Rs} (h:Bool.rec (motive:=fun _=>Rs) false y b=true):b=true/\y=true:=by cases b <;> simp_all
theorem zvc {v:AV} {Z:Rs} {K:Nat->Nat->Nat->Nat->Rs} (h:dS.x v Z K=true):(v = .nl 1/\Z=true)∨∃ b o l c,v = .sl b o l c/\K b o l c=true:=by
 cases v with
 | sl b o l c=>exact .inr ⟨_,_,_,_,rfl,h⟩
 | nl k=>obtain⟨rfl,h⟩:=zjf (a:=k) h;exact .inl ⟨rfl,h⟩
 | _=>cases h
def dM:DN:=⟨fun v Z K=>AV.rec (motive_1:=fun _=>Rs) (motive_2:=fun _=>Unit) (fun x=>false) (fun k x=>false) (fun l=>false) (fun b o=>false) (fun b o l c=>false) (fun b o r c=>false) (fun k b=>Bool.rec (motive:=fun _=>Rs) false (K b) (Nat.beq k 2)) (fun k=>Bool.rec (motive:=fun _=>Rs) false Z (Nat.beq k 2)) (fun g fs cs _ _=>false) (fun t v _=>false) (fun l _=>false) (fun l _=>false) () (fun _ _ _ _=>()) v⟩
theorem zsi {v:AV} {Z:Rs} {K:Nat->Rs} (h:dM.x v Z K=true):(v = .nl 2/\Z=true)∨∃ b,v = .r 2 b/\K b=true:=by
 cases v with
 | r k b=>obtain⟨rfl,h⟩:=zjf (a:=k) h;exact .inr ⟨_,rfl,h⟩
 | nl k=>obtain⟨rfl,h⟩:=zjf (a:=k) h;exact .inl ⟨rfl,h⟩
 | _=>cases h
def dG:D1 (List AV):=⟨fun v K=>AV.rec (motive_1:=fun _=>Rs) (motive_2:=fun _=>Unit) (fun x=>false) (fun k x=>false) (fun l=>false) (fun b o=>false) (fun b o l c=>false) (fun b o r c=>false) (fun k b=>false) (fun k=>false) (fun g fs cs _ _=>false) (fun t v _=>false) (fun l _=>K l) (fun l _=>false) () (fun _ _ _ _=>()) v⟩
theorem zsn {v:AV} {K:List AV->Rs} (h:dG.x v K=true):∃ l,v = .ag l/\K l=true:=by cases v <;> first | (cases h;done) | exact⟨_,rfl,h⟩
def dT:D1 (List AV):=⟨fun v K=>AV.rec (motive_1:=fun _=>Rs) (motive_2:=fun _=>Unit) (fun x=>false) (fun k x=>false) (fun l=>false) (fun b o=>false) (fun b o l c=>false) (fun b o r c=>false) (fun k b=>false) (fun k=>false) (fun g fs cs _ _=>false) (fun t v _=>false) (fun l _=>false) (fun l _=>K l) () (fun _ _ _ _=>()) v⟩
theorem qpf {v:AV} {K:List AV->Rs} (h:dT.x v K=true):∃ l,v = .tu l/\K l=true:=by cases v <;> first | (cases h;done) | exact⟨_,rfl,h⟩
def dF:D3:=⟨fun v K=>AV.rec (motive_1:=fun _=>Rs) (motive_2:=fun _=>Unit) (fun x=>false) (fun k x=>false) (fun l=>false) (fun b o=>false) (fun b o l c=>false) (fun b o r c=>false) (fun k b=>false) (fun k=>false) (fun g fs cs _ _=>K g fs cs) (fun t v _=>false) (fun l _=>false) (fun l _=>false) () (fun _ _ _ _=>()) v⟩
theorem zxi {v:AV} {K:Nat->List AV->List AV->Rs} (h:dF.x v K=true):∃ g fs cs,v = .f g fs cs/\K g fs cs=true:=by cases v <;> first | (cases h;done) | exact⟨_,_,_,rfl,h⟩
def dZ:D1 (List Nat):=⟨fun v K=>AV.rec (motive_1:=fun _=>Rs) (motive_2:=fun _=>Unit) (fun x=>false) (fun k x=>false) (fun l=>K l) (fun b o=>false) (fun b o l c=>false) (fun b o r c=>false) (fun k b=>false) (fun k=>false) (fun g fs cs _ _=>false) (fun t v _=>false) (fun l _=>false) (fun l _=>false) () (fun _ _ _ _=>()) v⟩
theorem zm8 {v:AV} {K:List Nat->Rs} (h:dZ.x v K=true):∃ l,v = .s l/\K l=true:=by cases v <;> first | (cases h;done) | exact⟨_,rfl,h⟩
def dW (w:Bool):D1 Bool:=⟨fun v K=>AV.rec (motive_1:=fun _=>Rs) (motive_2:=fun _=>Unit) (fun x=>K x) (fun k x=>false) (fun l=>false) (fun b o=>false) (fun b o l c=>false) (fun b o r c=>false) (fun k b=>false) (fun k=>false) (fun g fs cs _ _=>false) (fun t v _=>false) (fun l _=>false) (fun l _=>List.rec (motive:=fun _=>Rs) (K (not w)) (fun _ _ _=>false) l) () (fun _ _ _ _=>()) v⟩
theorem qlk {w:Bool} {v:AV} {K:Bool->Rs} (h:(dW w).x v K=true):(∃ x,v = .b x/\K x=true)∨(v = .tu []/\K (not w)=true):=by
 cases v with
 | b x=>exact .inl ⟨_,rfl,h⟩
 | tu l=>cases l with
  | nil=>exact .inr ⟨rfl,h⟩
  | cons v l=>cases h
 | _=>cases h
def dL:D1 (List AV):=⟨fun v K=>AV.rec (motive_1:=fun _=>Rs) (motive_2:=fun _=>Unit) (fun x=>K [.b x]) (fun k x=>K [.i k x]) (fun l=>K [.s l]) (fun b o=>K [.p b o]) (fun b o l c=>K [.sl b o l c]) (fun b o r c=>K [.es b o r c]) (fun k b=>K [.r k b]) (fun k=>K [.nl k]) (fun g fs cs _ _=>K [.f g fs cs]) (fun t v _=>K [.ic t v]) (fun l _=>K l) (fun l _=>false) () (fun _ _ _ _=>()) v⟩
theorem qis {v:AV} {K:List AV->Rs} (h:dL.x v K=true):K (cells v)=true/\∀ {φ:Ph} {u:Value},cv φ v=some u->cvs φ (cells v)=some u.cells.toList/\∀ w∈u.cells.toList,w.oneCell'=true:=by
 have key:qnb v=true∨(∃ l,v = .ag l)->∀ {φ:Ph} {u:Value},cv φ v=some u->cvs φ (cells v)=some u.cells.toList/\∀ w∈u.cells.toList,w.oneCell'=true:=by
  intro hv φ u hu;refine cells_ok hu fun us e=>?_;subst e;rcases hv with hv | ⟨l,rfl⟩
  ·have:=zss hu
   rw [hv] at this;cases this
  ·obtain⟨us',_,_,e⟩:=zfn.1 hu;cases e
 cases v <;> first | (cases h;done) | exact⟨h,key (.inl rfl)⟩ | exact⟨h,key (.inr ⟨_,rfl⟩)⟩
def zgz {α:Type} (n:Nat) (l:List α):List α:=Nat.rec (motive:=fun _=>List α->List α) (fun l=>l) (fun _ ih l=>List.rec [] (fun _ r _=>ih r) l) n l
theorem dropL_eq {α:Type}:∀(n:Nat) (l:List α),zgz n l=l.drop n
 | 0,l=>rfl
 | n+1,[]=>rfl
 | n+1,v :: r=>by show zgz n r=_;rw [dropL_eq n r];rfl
def zve {α:Type} (n:Nat) (l:List α) (K:List α->Rs):Rs:=Nat.rec (motive:=fun _=>List α->(List α->Rs)->Rs) (fun _ K=>K []) (fun _ ih l K=>List.rec false (fun v r _=>ih r fun r=>K (v :: r)) l) n l K
theorem zjd {α:Type}:∀(n:Nat) (l:List α) (K:List α->Rs),zve n l K=true->n<=l.length/\K (l.take n)=true
 | 0,l,K,h=>⟨Nat.zero_le _,h⟩
 | n+1,[],K,h=>by cases h
 | n+1,v :: r,K,h=>by
  obtain⟨h1,h2⟩:=zjd n r (fun r=>K (v :: r)) h;exact⟨by simpa using h1,by simpa using h2⟩
def zlq {α:Type} (l:List α) (K:α->Rs):Rs:=List.rec false (fun v _ _=>K v) l
theorem zft {α:Type} {l:List α} {K:α->Rs} (h:zlq l K=true):∃ v,l[0]? = some v/\K v=true:=by
 cases l with
 | nil=>cases h
 | cons v r=>exact⟨v,rfl,h⟩
def qqd {α:Type} (ns:List α):List α->(List α->Rs)->Rs:=List.rec (motive:=fun _=>List α->(List α->Rs)->Rs) (fun l K=>K l) (fun v _ ih l K=>List.rec false (fun _ r _=>ih r fun r=>K (v :: r)) l) ns
def qcq {α:Type} (o:Nat) (ns:List α):List α->(List α->Rs)->Rs:=Nat.rec (motive:=fun _=>List α->(List α->Rs)->Rs) (qqd ns) (fun _ ih l K=>List.rec false (fun v r _=>ih r fun r=>K (v :: r)) l) o
theorem zxb {α:Type}:∀(ns l:List α) (K:List α->Rs),qqd ns l K=true->ns.length<=l.length/\K (ns++l.drop ns.length)=true
 | [],l,K,h=>⟨Nat.zero_le _,h⟩
 | v :: ns,[],K,h=>by cases h
 | v :: ns,u :: r,K,h=>by
  obtain⟨h1,h2⟩:=zxb ns r (fun r=>K (v :: r)) h;exact⟨by simpa using h1,by simpa using h2⟩
theorem zrf {α:Type}:∀(o:Nat) (ns l:List α) (K:List α->Rs),qcq o ns l K=true->o+ns.length<=l.length/\K (l.take o++ns++l.drop (o+ns.length))=true
 | 0,ns,l,K,h=>by
  obtain⟨h1,h2⟩:=zxb ns l K h
  exact⟨by omega,by simpa using h2⟩
 | o+1,ns,[],K,h=>by cases h
 | o+1,ns,v :: r,K,h=>by
  obtain⟨h1,h2⟩:=zrf o ns r (fun r=>K (v :: r)) h;refine⟨by simp;omega,?_⟩;rw [show o+1+ns.length=(o+ns.length)+1 from by omega];simpa using h2
theorem zwy {φ:Ph} {l ns:List AV} {us ws:List Value} {o:Nat} (h:cvs φ l=some us) (k:cvs φ ns=some ws):cvs φ (l.take o++ns++l.drop (o+ns.length))=some (us.take o++ws++us.drop (o+ws.length)):=by
 rw [cvs_len _ _ k];exact zg5 _ _ _ _ (zg5 _ _ _ _ (zmv h _) k) (ztu h _)
def zuz (h:HS) (b:Nat) (K:Nat->Bool->Bool->Nat->Nat->(d:Nat)->T AV d->Rs):Rs :=
 HS.rec (motive:=fun _=>Rs) (fun _ t=>(ac DH b).x Rs t fun x=>opt x false fun bl=>Blk.rec (motive:=fun _=>Rs) (fun cb=>CB.rec (motive:=fun _=>Rs) K cb) (fun _ _=>false) (fun _ _=>false) bl) h
theorem zd3 {h:HS} {b:Nat} {K:Nat->Bool->Bool->Nat->Nat->(d:Nat)->T AV d->Rs} (e:zuz h b K=true):∃ bl:CB,gt DH b h.h=some (.c bl)/\K bl.n bl.u bl.w bl.el bl.es bl.d bl.c=true:=by
 cases h with
 | mk nx t =>
  replace e:(ac DH b).x Rs t (fun x=>opt x false fun bl=>Blk.rec (motive:=fun _=>Rs) (fun cb=>CB.rec (motive:=fun _=>Rs) K cb) (fun _ _=>false) (fun _ _=>false) bl)=true:=e;rw [zmm] at e;obtain⟨bl,h1,h2⟩:=zjz e
  cases bl with
  | c cb=>cases cb;exact⟨_,h1,h2⟩
  | m k l=>cases h2
  | q c l=>cases h2
def qcz (h:HS) (b:Nat) (K:KK->List (AV × AV)->Rs):Rs :=
 HS.rec (motive:=fun _=>Rs) (fun _ t=>(ac DH b).x Rs t fun x=>opt x false fun bl=>Blk.rec (motive:=fun _=>Rs) (fun _=>false) K (fun _ _=>false) bl) h
theorem zj2 {h:HS} {b:Nat} {K:KK->List (AV × AV)->Rs} (e:qcz h b K=true):∃ k l,gt DH b h.h=some (.m k l)/\K k l=true:=by
 cases h with
 | mk nx t =>
  replace e:(ac DH b).x Rs t (fun x=>opt x false fun bl=>Blk.rec (motive:=fun _=>Rs) (fun _=>false) K (fun _ _=>false) bl)=true:=e;rw [zmm] at e;obtain⟨bl,h1,h2⟩:=zjz e
  cases bl with
  | c cb=>cases h2
  | m k l=>exact⟨_,_,h1,h2⟩
  | q c l=>cases h2
def zv0 (h:HS) (b:Nat) (bl:Option Blk) (K:HS->Rs):Rs:=HS.rec (motive:=fun _=>Rs) (fun nx t=>(up DH b).x Rs t bl fun t=>K ⟨nx,t⟩) h
theorem ziw (h:HS) (b:Nat) (bl:Option Blk) (K:HS->Rs):zv0 h b bl K=K ⟨h.nx,st DH b bl h.h⟩:=by
 cases h with
 | mk nx t=>exact up_eq _ _ _ _ _ _
def LIM:Nat:=65536
def qdb (h:HS) (bl:Blk) (K:Nat->HS->Rs):Rs:=HS.rec (motive:=fun _=>Rs) (fun nx t=>Bool.rec (motive:=fun _=>Rs) false (zb3 (Nat.succ nx) fun nx'=>(up DH nx).x Rs t (some bl) fun t=>K nx ⟨nx',t⟩) (Nat.blt nx LIM)) h
theorem znz {h:HS} {bl:Blk} {K:Nat->HS->Rs} (e:qdb h bl K=true):h.nx<4 ^ DH/\K h.nx ⟨h.nx+1,st DH h.nx (some bl) h.h⟩=true:=by
 cases h with
 | mk nx t =>
  obtain⟨h1,h2⟩:=zn3 (a:=nx) (b:=LIM) e;rw [natK_eq,up_eq] at h2;exact⟨h1,h2⟩
def rd (d:Nat) (c:T AV d) (n:Nat):Nat->(List AV->Rs)->Rs :=
 Nat.rec (motive:=fun _=>Nat->(List AV->Rs)->Rs) (fun _ K=>K []) (fun _ ih o K=>(ac d o).x Rs c fun x=>opt x false fun v=>zb3 (Nat.succ o) fun o=>ih o fun l=>K (v :: l)) n
theorem zsc {d:Nat} {c:T AV d}:∀(n o:Nat) (K:List AV->Rs),rd d c n o K=true->∃ l,K l=true/\l.length=n/\∀ j,j<n->gt d (o+j) c=l[j]?
 | 0,o,K,h=>⟨[],h,rfl,fun j hj=>absurd hj (Nat.not_lt_zero _)⟩
 | n+1,o,K,h=>by
  replace h:(ac d o).x Rs c (fun x=>opt x false fun v=>zb3 (Nat.succ o) fun o=>rd d c n o fun l=>K (v :: l))=true:=h;rw [zmm] at h;obtain⟨v,h1,h2⟩:=zjz h;rw [natK_eq] at h2;obtain⟨l,h3,h4,h5⟩:=zsc n (o+1) _ h2;refine⟨v :: l,h3,by simp [h4],fun j hj=>?_⟩
  cases j with
  | zero=>simpa using h1
  | succ j=>rw [List.getElem?_cons_succ,← h5 j (by omega),show o+(j+1)=o+1+j from by omega]
def wt (d:Nat) (l:List AV):Nat->T AV d->(T AV d->Rs)->Rs :=
 List.rec (motive:=fun _=>Nat->T AV d->(T AV d->Rs)->Rs) (fun _ c K=>K c) (fun v _ ih o c K=>(up d o).x Rs c (some v) fun c=>zb3 (Nat.succ o) fun o=>ih o c K) l
def sts (d:Nat):List AV->Nat->T AV d->T AV d
 | [],_,c=>c
 | v :: r,o,c=>sts d r (o+1) (st d o (some v) c)
theorem zoc {d:Nat}:∀(l:List AV) (o:Nat) (c:T AV d) (K:T AV d->Rs),wt d l o c K=K (sts d l o c)
 | [],o,c,K=>rfl
 | v :: r,o,c,K=>by
  show (up d o).x Rs c (some v) (fun c=>zb3 (Nat.succ o) fun o=>wt d r o c K)=_
  rw [up_eq,natK_eq,zoc r];rfl
theorem zl3 {d:Nat}:∀(l:List AV) (o:Nat) (c:T AV d) (j:Nat),o+l.length<=4 ^ d->j<4 ^ d->gt d j (sts d l o c)=if o<=j/\j<o+l.length then l[j-o]? else gt d j c
 | [],o,c,j,h,hj=>by rw [if_neg (by simp only [List.length_nil];omega)];rfl
 | v :: r,o,c,j,h,hj=>by
  simp only [List.length_cons] at h ⊢;unfold sts;rw [zl3 r (o+1) _ j (by omega) hj];by_cases h1:o+1<=j/\j<o+1+r.length
  ·rw [if_pos h1,if_pos (by omega),show j-o=(j-(o+1))+1 from by omega,List.getElem?_cons_succ]
  ·rw [if_neg h1]
   by_cases h2:j=o
   ·subst h2;rw [zht,if_pos (by omega)];simp
   ·rw [zar _ _ _ _ _ (by omega) hj (Ne.symm h2),if_neg (by omega)]
def dep (n:Nat):Nat:=Nat.rec 0 (fun m _=>Nat.rec 0 (fun k _=>Nat.succ (Nat.div (Nat.log2 (Nat.succ k)) 2)) m) n
def zrk (el es n:Nat) (u:Bool) (l:List AV) (h:HS) (K:Nat->HS->Rs):Rs :=
 zb3 (dep n) fun d=>Bool.rec (motive:=fun _=>Rs) false (wt d l 0 (mt AV d) fun c=>qdb h (.c ⟨n,u,true,el,es,d,c⟩) K) (Nat.ble n (Nat.pow 4 d))
theorem zfj {el es n:Nat} {u:Bool} {l:List AV} {h:HS} {K:Nat->HS->Rs} (hl:l.length=n) (e:zrk el es n u l h K=true) :
  ∃ d c,h.nx<4 ^ DH/\n<=4 ^ d/\(∀ j,j<n->gt d j c=l[j]?)/\K h.nx ⟨h.nx+1,st DH h.nx (some (.c ⟨n,u,true,el,es,d,c⟩)) h.h⟩=true:=by
 unfold zrk at e;rw [natK_eq] at e;obtain⟨h1,h2⟩:=zhu e;have h1':n<=4 ^ dep n:=h1;rw [zoc] at h2;obtain⟨h3,h4⟩:=znz h2;refine⟨dep n,_,h3,h1',fun j hj=>?_,h4⟩;rw [zl3 _ _ _ _ (by omega) (by omega),if_pos (by omega),Nat.sub_zero]
theorem RelB.row {φ:Ph} {hc:zaa} {el es n d k:Nat} {u:Bool} {c:T AV d} {l:List AV} {us z:List Value} {fr:Nat × Nat} (hl:l.length=n) (hd:n<=4 ^ d) (hg:∀ j,j<n->gt d j c=l[j]?) (hv:cvs φ l=some us) (h1:∀ w∈us,w.oneCell'=true)
  (hr:(u=true/\(us++z).length=k*es)∨(u=false/\z=[])) (hfr:fr=(0,0)∨(us++z).length<=fr.1):RelB φ ⟨n,u,true,el,es,d,c⟩ ⟨hc.size,0,k⟩ (hc.push (.cells (us++z).toArray el fr)):=by
 refine RelB.laid (bl:=⟨n,u,true,el,es,d,c⟩) us z (by rw [cvs_len _ _ hv,hl]) hd (fun j hj=>?_) hr hfr;have hj':j<n:=hj;have hj2:j<l.length:=by omega
 obtain⟨w,hw,hv'⟩:=zdn _ _ hv j l[j] (List.getElem?_eq_getElem hj2);refine⟨l[j],w,?_,hv',h1 _ (List.mem_of_getElem? hw),hw⟩;show gt d j c=_;rw [hg j hj',List.getElem?_eq_getElem hj2]
def zAs:List Value->Option (List AV)
 | []=>some []
 | v :: r=>match ofV v,v.oneCell',zAs r with | .co a,true,some l=>some (a :: l) | _,_,_=>none
theorem zme:∀(z:List Value) (l:List AV),zAs z=some l->(∀ φ,cvs φ l=some z)/\∀ w∈z,w.oneCell'=true
 | [],l,h=>by cases h;exact⟨fun _=>rfl,by simp⟩
 | v :: r,l,h=>by
  simp only [zAs] at h;split at h
  ·rename_i a l' h1 h2 h3
   cases h
   obtain⟨k1,k2⟩:=zme r l' h3;refine⟨fun φ=>zbh (qcx (n:=0) (st:=[]) (e:=mt AV DE) (by rw [h1];rfl)) (k1 φ),fun w hw=>?_⟩;rcases List.mem_cons.1 hw with rfl | hw
   ·exact h2
   ·exact k2 w hw
  ·cases h
def zr (z:List AV) (n:Nat):List AV:=Nat.rec [] (fun _ ih=>z++ih) n
theorem qaw {φ:Ph} {z:List AV} {us:List Value} (h:cvs φ z=some us):∀ n,cvs φ (zr z n)=some (zkc us n)
 | 0=>rfl
 | n+1=>by
  have:zkc us (n+1)=us++zkc us n:=by simp [zkc,List.replicate_succ]
  rw [this];exact zg5 _ _ _ _ h (qaw h n)
end
end Go.V
end

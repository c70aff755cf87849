/- A part of the proof of statements of this seat: lemmas, no statement of their own. -/
import Derived.Test.YtmilimlmimckbaaGreatDoorYoZbi
import Derived.Test.YtmilimlmimckbaaGreatDoorYoZad
import Derived.Test.YtmilimlmimckbaaGreatDoorYoZae
import Derived.Test.YtmilimlmimckbaaGreatDoorYoZaf
import Derived.Test.YtmilimlmimckbaaGreatDoorYoZag
import Derived.Test.YtmilimlmimckbaaGreatDoorYoZab
import Derived.RangeFuncCalls
import Derived.OrdersIn
import Derived.TacticsIn
import Derived.OwnWalkIn
import Derived.RangeFuncBox
import Derived.RangeFuncNested
import Derived.RangeFuncLeaves
import Derived.Shelf.Abstract
import Derived.WalkKit
import Derived.TacticsInMore
import Derived.LoopNIn
import Derived.LoopIn
import Derived.Maps.AppendAt
import Derived.Test.YtmilimlmimckbaaGreatDoorProg
import Derived.Test.YtmilimlmimckbaaGreatDoorYoZbf
set_option linter.unusedVariables false
set_option linter.unusedSimpArgs false
set_option maxRecDepth 100000
set_option maxHeartbeats 1000000
section
namespace Go.V
open Go.Q Go.Q.Yo
noncomputable section
def rcN:List Nat:=[1116352408,1899447441,3049323471,3921009573,961987163,1508970993,2453635748,2870763221,3624381080,310598401,607225278,1426881987,1925078388,2162078206,2614888103,3248222580,3835390401,4022224774,264347078,604807628,770255983,1249150122,1555081692,1996064986,2554220882,2821834349,2952996808,3210313671,3336571891,3584528711,113926993,338241895,666307205,773529912,1294757372,1396182291,1695183700,1986661051,2177026350,2456956037,2730485921,2820302411,3259730800,3345764771,3516065817,3600352804,4094571909,275423344,430227734,506948616,659060556,883997877,958139571,1322822218,1537002063,1747873779,1955562222,2024104815,2227730452,2361852424,2428436474,2756734187,3204031479,3329325298]
theorem qje:cI rcN=rcL:=rfl
theorem zuq (bl:List Int):∀ n i,n<=16->i<n->(zrp bl n)[i]? = some (zkn bl i)
 | 0,i,_,h=>by omega
 | n+1,i,hn,hi=>by
  have l:=zk5 bl n;rw [zrp];by_cases c:i<n
  ·rw [List.getElem?_append_left (by omega)];exact zuq bl n i (by omega) c
  ·have:i=n:=by omega
   subst this;rw [List.getElem?_append_right (by omega),l,Nat.sub_self];show some (zp2 bl (zrp bl i) i)=_;unfold zp2;rw [if_pos (by omega)]
def rvN (l:List Nat):List Nat:=List.rec (motive:=fun _=>List Nat->List Nat) (fun a=>a) (fun v _ ih a=>ih (v :: a)) l []
theorem qja (l:List Nat):rvN l=l.reverse:=by
 have h:∀(l a:List Nat),List.rec (motive:=fun _=>List Nat->List Nat) (fun a=>a) (fun v _ ih a=>ih (v :: a)) l a=l.reverse++a:=fun l=>by
  induction l with
  | nil=>intro a;rfl
  | cons v r ih=>intro a;rw [List.reverse_cons,List.append_assoc];exact ih (v :: a)
 have:=h l [];rw [List.append_nil] at this;exact this
abbrev K8:=Nat->Nat->Nat->Nat->Nat->Nat->Nat->Nat->Rs
def qo0 (bs:List Nat) (a b c d e f g h:Nat) (K:List Nat->K8):Rs:=wds 16 bs [] fun bs r=>sch 48 r fun r=>rds rcN (rvN r) a b c d e f g h fun a' b' c' d' e' f' g' h' =>
 zb3 (adN a a') fun a=>zb3 (adN b b') fun b=>zb3 (adN c c') fun c=>zb3 (adN d d') fun d=>zb3 (adN e e') fun e=>zb3 (adN f f') fun f=>zb3 (adN g g') fun g=>zb3 (adN h h') fun h=>K bs a b c d e f g h
theorem qap (a b c d e f g h a' b' c' d' e' f' g' h':Nat):zjj (cI [a,b,c,d,e,f,g,h]) (cI [a',b',c',d',e',f',g',h']) 8=cI [adN a a',adN b b',adN c c',adN d d',adN e e',adN f f',adN g g',adN h h']:=by
 show [zg2 ((a:Int)+(a':Int)),zg2 ((b:Int)+(b':Int)),zg2 ((c:Int)+(c':Int)),zg2 ((d:Int)+(d':Int)),zg2 ((e:Int)+(e':Int)),zg2 ((f:Int)+(f':Int)),zg2 ((g:Int)+(g':Int)),zg2 ((h:Int)+(h':Int))]=_
 rw [zqf,zqf,zqf,zqf,zqf,zqf,zqf,zqf];rfl
theorem qfw {bs:List Nat} {a b c d e f g h:Nat} {K:List Nat->K8} (hb:A8 bs) (hA:A32 [a,b,c,d,e,f,g,h]) (H:qo0 bs a b c d e f g h K=true) :
  ∃ a' b' c' d' e' f' g' h',K (bs.drop 64) a' b' c' d' e' f' g' h'=true/\A32 [a',b',c',d',e',f',g',h']/\cI [a',b',c',d',e',f',g',h']=zlh (cI [a,b,c,d,e,f,g,h]) ((cI bs).take 64):=by
 obtain⟨ws,H1,l1,l2,g1⟩:=qeb 16 bs [] _ hb H
 have bl:∀ j,j<64->((cI bs).take 64).getD j 0=(cI bs).getD j 0:=fun j hj=>by
  rw [List.getD_eq_getElem?_getD,List.getD_eq_getElem?_getD,List.getElem?_take,if_pos hj]
 generalize hB:(cI bs).take 64=B at *
 have wB:∀ i,i<16->zkn B i=zkn (cI bs) i:=fun i hi=>by
  unfold zkn;rw [bl _ (by omega),bl _ (by omega),bl _ (by omega),bl _ (by omega)]
 have e16:cI ws=zrp B 16:=by
  apply List.ext_getElem?;intro i;by_cases c:i<16
  ·obtain⟨x,hx,hw⟩:=g1 i c
   rw [zuq B 16 i (by omega) c,wB i c,hw.1,List.getElem?_map,hx];rfl
  ·rw [List.getElem?_eq_none (by rw [List.length_map];omega),List.getElem?_eq_none (by rw [zk5];omega)]
 have a16:A32 (ws.reverse++[]):=fun x hx=>by
  rw [List.append_nil,List.mem_reverse] at hx;obtain⟨i,hi,rfl⟩:=List.getElem_of_mem hx;obtain⟨y,hy,hw⟩:=g1 i (by omega);rw [List.getElem?_eq_getElem hi] at hy
  cases hy
  exact hw.2
 obtain⟨r,H2,e2,a2⟩:=qd7 (bl:=B) 48 16 (ws.reverse++[]) _ (by omega) (by rw [List.append_nil,← e16];exact List.map_reverse) a16 H1;obtain⟨a',b',c',d',e',f',g',h',H3,a3,e3⟩:=qeh rcN (rvN r) a b c d e f g h _ hA H2;simp only [natK_eq] at H3;refine⟨_,_,_,_,_,_,_,_,H3,fun x hx=>?_,?_⟩
 ·simp only [List.mem_cons,List.not_mem_nil,or_false] at hx
  rcases hx with rfl | rfl | rfl | rfl | rfl | rfl | rfl | rfl <;> exact zuo _ _
 ·have eW:cI (rvN r)=zb1 B 64:=by
   have:=zrz B 64 (Nat.le_refl _);rw [Nat.sub_self,List.replicate_zero,List.append_nil] at this;rw [qja,this];have h2:(cI r).reverse=zrp B 64:=by rw [e2,List.reverse_reverse]
   rw [← h2];exact List.map_reverse
  have h5:=zxm (V0:=cI [a,b,c,d,e,f,g,h]) (W:=zb1 B 64) (zgr B 64) 64 0 rfl;rw [List.drop_zero,List.drop_zero] at h5;unfold zlh;rw [← h5,← eW,← qje];rw [show zhw (cI [a,b,c,d,e,f,g,h]) (cI (rvN r)) 0=cI [a,b,c,d,e,f,g,h] from rfl,← e3,qap]
def qn6 (n:Nat):List Nat->Nat->Nat->Nat->Nat->Nat->Nat->Nat->Nat->K8->Rs:=Nat.rec (motive:=fun _=>List Nat->Nat->Nat->Nat->Nat->Nat->Nat->Nat->Nat->K8->Rs) (fun _ a b c d e f g h K=>K a b c d e f g h)
 (fun _ ih bs a b c d e f g h K=>qo0 bs a b c d e f g h fun bs a b c d e f g h=>ih bs a b c d e f g h K) n
def stL:Nat->List Int->List Int->List Int
 | 0,H,_=>H
 | n+1,H,M=>stL n (zlh H (M.take 64)) (M.drop 64)
theorem qdf (M:List Int):∀ m n,stL m (zgg M n) (M.drop (64*n))=zgg M (n+m)
 | 0,n=>rfl
 | m+1,n=>by
  show stL m (zlh (zgg M n) ((M.drop (64*n)).take 64)) ((M.drop (64*n)).drop 64)=_
  rw [List.drop_drop];have:=qdf M m (n+1);rw [show n+(m+1)=n+1+m from by omega,← this];rfl
theorem zy6:∀(n:Nat) (bs:List Nat) (a b c d e f g h:Nat) (K:K8),A8 bs->A32 [a,b,c,d,e,f,g,h]->qn6 n bs a b c d e f g h K=true ->
  ∃ a' b' c' d' e' f' g' h',K a' b' c' d' e' f' g' h'=true/\A32 [a',b',c',d',e',f',g',h']/\cI [a',b',c',d',e',f',g',h']=stL n (cI [a,b,c,d,e,f,g,h]) (cI bs)
 | 0,bs,a,b,c,d,e,f,g,h,K,hb,hA,H=>⟨a,b,c,d,e,f,g,h,H,hA,rfl⟩
 | n+1,bs,a,b,c,d,e,f,g,h,K,hb,hA,H=>by
  have H1:qo0 bs a b c d e f g h (fun bs a b c d e f g h=>qn6 n bs a b c d e f g h K)=true:=H;obtain⟨a1,b1,c1,d1,e1,f1,g1,h1,H2,A2,E2⟩:=qfw hb hA H1;obtain⟨a',b',c',d',e',f',g',h',H3,A3,E3⟩:=zy6 n _ _ _ _ _ _ _ _ _ K (fun x hx=>hb x (List.mem_of_mem_drop hx)) A2 H2;refine⟨a',b',c',d',e',f',g',h',H3,A3,?_⟩;rw [E3,E2];show _=stL n (zlh _ ((cI bs).take 64)) ((cI bs).drop 64);rw [show cI (bs.drop 64)=(cI bs).drop 64 from List.map_drop]
def apL (l m:List Nat):List Nat:=List.rec (motive:=fun _=>List Nat) m (fun v _ ih=>v :: ih) l
theorem ztd (m:List Nat):∀ l,apL l m=l++m
 | []=>rfl
 | v :: r=>congrArg (v :: ·) (ztd m r)
def qqp (k:Nat) (t:List Nat):List Nat:=Nat.rec (motive:=fun _=>List Nat) t (fun _ ih=>0 :: ih) k
theorem zsl (t:List Nat):∀ k,qqp k t=List.replicate k 0++t
 | 0=>rfl
 | k+1=>congrArg (0 :: ·) (zsl t k)
def lbN (n:Nat):List Nat:=[Nat.mod (Nat.shiftRight (Nat.mul n 8) 56) 256,Nat.mod (Nat.shiftRight (Nat.mul n 8) 48) 256,Nat.mod (Nat.shiftRight (Nat.mul n 8) 40) 256,Nat.mod (Nat.shiftRight (Nat.mul n 8) 32) 256,Nat.mod (Nat.shiftRight (Nat.mul n 8) 24) 256,Nat.mod (Nat.shiftRight (Nat.mul n 8) 16) 256,Nat.mod (Nat.shiftRight (Nat.mul n 8) 8) 256,Nat.mod (Nat.shiftRight (Nat.mul n 8) 0) 256]
def qjk (ns:List Nat) (n:Nat):List Nat:=apL ns (128 :: qqp (Nat.mod (Nat.sub 119 (Nat.mod n 64)) 64) (lbN n))
theorem qqx (n:Nat):IntKind.u8.wrap (n:Int)=((Nat.mod n 256:Nat):Int):=by
 have:IntKind.u8.wrap (n:Int)=(n:Int) % 256:=by unfold IntKind.wrap;simp [IntKind.signed,IntKind.bits]
 rw [this];exact(Int.natCast_emod n 256).symm
theorem ql4 {n:Nat} (h:n<=60000):qb4 (zfh n)=cI (lbN n):=by
 have es:zfh n=((Nat.mul n 8:Nat):Int):=by
  unfold zfh shl;rw [show (min (3:Int).toNat IntKind.u64.bits)=3 from rfl,zji,zji];show _=((n*8:Nat):Int);omega
 have s:∀ m:Nat,m<=64->IntKind.u8.wrap (shr .u64 (zfh n) m)=((Nat.mod (Nat.shiftRight (Nat.mul n 8) m) 256:Nat):Int):=fun m hm=>by
  rw [es,← zp8,← qqx];congr 1;show ((Nat.shiftRight (Nat.mul n 8) (Nat.min m 64):Nat):Int)=_;rw [show Nat.min m 64=m from Nat.min_eq_left hm]
 unfold qb4;show [IntKind.u8.wrap (shr .u64 (zfh n) 56),IntKind.u8.wrap (shr .u64 (zfh n) 48),IntKind.u8.wrap (shr .u64 (zfh n) 40),IntKind.u8.wrap (shr .u64 (zfh n) 32),IntKind.u8.wrap (shr .u64 (zfh n) 24),IntKind.u8.wrap (shr .u64 (zfh n) 16),IntKind.u8.wrap (shr .u64 (zfh n) 8),IntKind.u8.wrap (shr .u64 (zfh n) 0)]=_;rw [s 56 (by decide),s 48 (by decide),s 40 (by decide),s 32 (by decide),s 24 (by decide),s 16 (by decide),s 8 (by decide),s 0 (by decide)];rfl
theorem qhv {ns:List Nat} (h:ns.length<=60000):cI (qjk ns ns.length)=padD (cI ns):=by
 unfold qjk padD;rw [ztd,zsl,List.length_map,ql4 h];unfold cI zl8;rw [List.map_append,List.map_cons,List.map_append,List.map_replicate,List.append_assoc,List.append_assoc];rfl
theorem qi5 {ns:List Nat} (h:A8 ns) (n:Nat):A8 (qjk ns n):=fun x hx=>by
 unfold qjk at hx;rw [ztd,zsl] at hx;have m:∀ y,Nat.mod y 256<256:=fun y=>Nat.mod_lt _ (by decide);rcases List.mem_append.1 hx with h1 | h1
 ·exact h x h1
 rcases List.mem_cons.1 h1 with rfl | h1
 ·decide
 rcases List.mem_append.1 h1 with h1 | h1
 ·rw [(List.mem_replicate.1 h1).2];decide
 ·unfold lbN at h1
  simp only [List.mem_cons,List.not_mem_nil,or_false] at h1;rcases h1 with rfl | rfl | rfl | rfl | rfl | rfl | rfl | rfl <;> exact m _
def oB (w:Nat):List Nat:=[Nat.mod (Nat.shiftRight w 24) 256,Nat.mod (Nat.shiftRight w 16) 256,Nat.mod (Nat.shiftRight w 8) 256,Nat.mod (Nat.shiftRight w 0) 256]
abbrev aB (n:Nat):AV:=.i .u8 (.ofNat n)
def qph (l:List Nat) (K:List AV->Rs):Rs:=List.rec (motive:=fun _=>(List AV->Rs)->Rs) (fun K=>K []) (fun w _ ih K=>zb3 (Nat.mod (Nat.shiftRight w 24) 256) fun p=>zb3 (Nat.mod (Nat.shiftRight w 16) 256) fun q=>zb3 (Nat.mod (Nat.shiftRight w 8) 256) fun r=>zb3 (Nat.mod (Nat.shiftRight w 0) 256) fun s=>ih fun t=>K (aB p :: aB q :: aB r :: aB s :: t)) l K
theorem zym:∀(l:List Nat) (K:List AV->Rs),qph l K=K ((l.flatMap oB).map aB)
 | [],K=>rfl
 | w :: l,K=>by
  show zb3 _ (fun p=>zb3 _ fun q=>zb3 _ fun r=>zb3 _ fun s=>qph l fun t=>K (aB p :: aB q :: aB r :: aB s :: t))=_
  rw [natK_eq,natK_eq,natK_eq,natK_eq,zym l];rfl
theorem zn7 (H:List Int):∀ n,n<=32->outUp H n=((List.range n).map fun i:Nat=>zvr H (i:Int))++List.replicate (32-n) 0
 | 0,_=>rfl
 | n+1,hn=>by
  have l:((List.range n).map fun i:Nat=>zvr H (i:Int)).length=n:=by simp
  rw [outUp,zn7 H n (by omega),List.set_append_right _ _ (by omega),l,Nat.sub_self,show 32-n=(32-(n+1))+1 from by omega,List.replicate_succ,List.range_succ,List.map_append,List.append_assoc];rfl
theorem qmb {l:List Nat} (i:Nat) (hi:i<32):zvr (cI l) (i:Int)=((Nat.mod (Nat.shiftRight (l.getD (i / 4) 0) (24-8*(i % 4))) 256:Nat):Int):=by
 have e:∀ i:Nat,i<32->(shr .i64 (i:Int) (2:Int).toNat).toNat=i / 4/\(IntKind.u64.wrap (24-IntKind.u64.wrap (8*zbe .u64 (IntKind.u64.wrap (i:Int)) 3))).toNat=24-8*(i % 4):=by decide
 obtain⟨e1,e2⟩:=e i hi
 have g:(cI l).getD (i / 4) 0=((l.getD (i / 4) 0:Nat):Int):=by
  rw [List.getD_eq_getElem?_getD,List.getD_eq_getElem?_getD,List.getElem?_map]
  cases l[i / 4]? <;> rfl
 unfold zvr;rw [e1,e2,g,qew _ (by omega),qqx]
theorem qlo (a b c d e f g h:Nat):outUp (cI [a,b,c,d,e,f,g,h]) 32=cI ([a,b,c,d,e,f,g,h].flatMap oB):=by
 rw [zn7 _ 32 (Nat.le_refl _),Nat.sub_self,List.replicate_zero,List.append_nil]
 have:((List.range 32).map fun i:Nat=>zvr (cI [a,b,c,d,e,f,g,h]) (i:Int))=(List.range 32).map fun i:Nat=>((Nat.mod (Nat.shiftRight ([a,b,c,d,e,f,g,h].getD (i / 4) 0) (24-8*(i % 4))) 256:Nat):Int) :=
  List.map_congr_left fun i hi=>qmb i (List.mem_range.1 hi)
 rw [this];rfl
def qpr (ns:List Nat) (n:Nat) (K:List AV->Rs):Rs:=qn6 (Nat.div (Nat.add n 72) 64) (qjk ns n) 1779033703 3144134277 1013904242 2773480762 1359893119 2600822924 528734635 1541459225 fun a b c d e f g h=>qph [a,b,c,d,e,f,g,h] K
theorem qfn {ns:List Nat} {K:List AV->Rs} (hb:A8 ns) (hn:ns.length<=60000) (H:qpr ns ns.length K=true):∃ l:List Nat,K (l.map aB)=true/\cI l=shaD (cI ns):=by
 obtain⟨a,b,c,d,e,f,g,h,H1,A1,E1⟩:=zy6 _ _ _ _ _ _ _ _ _ _ _ (qi5 hb _) (by decide) H;rw [zym] at H1;refine⟨_,H1,?_⟩;rw [← qlo,E1,qhv hn];unfold shaD;congr 1;have:=qdf (padD (cI ns)) ((padD (cI ns)).length / 64) 0;rw [Nat.zero_add] at this;rw [← this]
 have el:(padD (cI ns)).length / 64=Nat.div (Nat.add ns.length 72) 64:=by
  unfold padD;rw [List.length_append,List.length_append,List.length_append,List.length_replicate,List.length_map];show (ns.length+1+zl8 ns.length+8) / 64=(ns.length+72) / 64;unfold zl8;omega
 rw [el];rfl
end
end Go.V
end
section
namespace Go.V
open Go.Q Go.Q.Yo
noncomputable section
theorem FnOk.grow {P:Program} {f:FuncId} {g:List AV->HS->(AV->HS->Rs)->Rs} (ok:zad P f)
  (H:∀ vs h K,g vs h K=true->∃ v,K v h=true/\∀ base φ hc us,Rel base φ h hc->cvs φ vs=some us->∃ u,cv φ v=some u/\CallsHD false P f us.toArray hc fun r hc'=>r=u/\Ext hc.size hc hc'):FnOk P f fun _=>g:=fun call CO vs h K h1=>by
 obtain⟨v,h2,h3⟩:=H vs h K h1;refine⟨ok,v,h,h2,fun base φ hc us R hv=>?_⟩;obtain⟨u,hu,hc'⟩:=h3 base φ hc us R hv;refine hc'.mono ?_;rintro _ h' ⟨rfl,X⟩;exact⟨φ,Ex.rfl,R.grow X.size X.block,hu⟩
def toB (l:List AV) (K:List Nat->Rs):Rs:=List.rec (motive:=fun _=>(List Nat->Rs)->Rs) (fun K=>K []) (fun v _ ih K=>dU.x v fun n=>Bool.rec (motive:=fun _=>Rs) false (ih fun r=>K (n :: r)) (Nat.blt n 256)) l K
theorem zy1:∀(l:List AV) (K:List Nat->Rs),toB l K=true->∃ ns:List Nat,l=ns.map aB/\A8 ns/\K ns=true
 | [],K,H=>⟨[],rfl,(fun x hx=>by cases hx),H⟩
 | v :: l,K,H=>by
  have H1:dU.x v (fun n=>Bool.rec (motive:=fun _=>Rs) false (toB l fun r=>K (n :: r)) (Nat.blt n 256))=true:=H;obtain⟨n,hq,H2⟩:=qbi H1;obtain⟨hn,H3⟩:=zn3 H2;obtain⟨ns,h1,h2,h3⟩:=zy1 l _ H3;refine⟨n :: ns,by rw [hq,h1];rfl,fun x hx=>?_,h3⟩;rcases List.mem_cons.1 hx with rfl | hx
  ·exact hn
  ·exact h2 x hx
def qnd (h:HS) (l:List AV) (K:List Nat->Rs):Rs:=List.rec (motive:=fun _=>(List Nat->Rs)->Rs) (fun K=>K []) (fun v _ ih K=>slc 1 v h fun _ vs=>toB vs fun ns=>ih fun r=>K (apL ns r)) l K
theorem zs0 {h:HS}:∀(l:List AV) (K:List Nat->Rs),qnd h l K=true->∃ nss:List (List Nat),K nss.flatten=true/\nss.length=l.length/\(∀ ns∈nss,A8 ns)/\∀ φ hc us,RelR φ h hc->cvs φ l=some us->∃ L:List (Slc × List Int),us=L.map (fun q=>Slc.v q.1)/\L.map (fun q=>q.2)=nss.map cI/\∀ q∈L,SlcAt hc q.1 (b8 q.2)/\q.1.len=q.2.length
 | [],K,H=>⟨[],H,rfl,(fun x hx=>by cases hx),fun φ hc us R e=>by cases e;exact⟨[],rfl,rfl,by simp⟩⟩
 | v :: l,K,H=>by
  have H1:slc 1 v h (fun _ vs=>toB vs fun ns=>qnd h l fun r=>K (apL ns r))=true:=H;obtain⟨m,vs,H2,hl,hs⟩:=zmd H1;obtain⟨ns,hq,hb,H3⟩:=zy1 _ _ H2;obtain⟨nss,H4,l4,b4,g4⟩:=zs0 l _ H3;refine⟨ns :: nss,by rw [List.flatten_cons,← ztd];exact H4,by simp [l4],fun x hx=>?_,fun φ hc us R e=>?_⟩
  ·rcases List.mem_cons.1 hx with rfl | hx
   ·exact hb
   ·exact b4 x hx
  ·obtain⟨u,w,rfl,e1,e2⟩:=zcp e
   obtain⟨s,rfl,hm,us',k1,k2,k3,k4⟩:=hs φ hc u R e1;obtain⟨L,rfl,eL,aL⟩:=g4 φ hc w R e2;rw [hq] at k1;have e5:us'=b8 (cI ns):=Option.some.inj (k1.symm.trans (zlw ns));rw [e5] at k4;refine⟨(s,cI ns) :: L,rfl,by rw [List.map_cons,List.map_cons,eL],fun q hq'=>?_⟩;rcases List.mem_cons.1 hq' with rfl | hq'
   ·refine⟨k4,?_⟩
    show s.len=(cI ns).length
    have:vs.length=ns.length:=by rw [hq,List.length_map]
    rw [List.length_map];omega
   ·exact aL q hq'
def qlp (l:List Nat) (K:List Nat->Rs):Rs:=List.rec (motive:=fun _=>(List Nat->Rs)->Rs) (fun K=>K []) (fun v _ ih K=>ih fun r=>K (v :: r)) l K
theorem zpn:∀(l:List Nat) (K:List Nat->Rs),qlp l K=K l
 | [],K=>rfl
 | v :: l,K=>zpn l fun r=>K (v :: r)
def rcA:List AV:=List.rec (motive:=fun _=>List AV) [] (fun n _ ih=>.i .u32 (.ofNat n) :: ih) rcN
theorem zr5 {φ:Ph}:∀ l:List Nat,cvs φ (List.rec (motive:=fun _=>List AV) [] (fun n _ ih=>.i .u32 (.ofNat n) :: ih) l)=some (u32s (cI l))
 | []=>rfl
 | n :: l=>by
  show cvs φ (AV.i .u32 (.ofNat n) :: List.rec (motive:=fun _=>List AV) [] (fun n _ ih=>.i .u32 (.ofNat n) :: ih) l)=_
  exact zbh rfl (zr5 l)
def qqm (vs:List AV) (h:HS) (K:AV->HS->Rs):Rs:=a1 vs fun v=>slc 1 v h fun m l=>Bool.rec (motive:=fun _=>Rs) false
 (zuz h 0 fun bn _ _ _ _ d c=>Bool.rec (motive:=fun _=>Rs) false (rd d c (Nat.mul 64 1) 0 fun cs=>Bool.rec (motive:=fun _=>Rs) false (qnd h l fun ns=>qlp ns fun ns=>zb3 (zgs ns) fun n=>Bool.rec (motive:=fun _=>Rs) false (qpr ns n fun r=>K (.ag r) h) (Nat.ble n 60000)) (veq (.ag cs) (.ag rcA))) (Nat.ble (Nat.add 0 (Nat.mul 64 1)) bn)) (Nat.ble m 10)
theorem qf6:FnOk Go.Proofs.Tryz.prog 71 fun _=>qqm:=FnOk.grow O71 fun vs h K H=>by
 obtain⟨v,hvs,H1⟩:=zq0 H;subst hvs;obtain⟨m,l,H2,hl,hs⟩:=zmd H1;obtain⟨hm,H3⟩:=zhu H2;obtain⟨bl,hb,H4⟩:=zd3 H3;obtain⟨hle,H5⟩:=zhu H4;obtain⟨cs,H6,hcl,hg⟩:=zsc _ _ _ H5;obtain⟨hq,H7⟩:=zbz H6;have ecs:=zmg hq;obtain⟨nss,H8,ln,bn,gp⟩:=zs0 _ _ H7;rw [zpn,natK_eq,zav] at H8;obtain⟨hn,H9⟩:=zhu H8;obtain⟨r,H10,er⟩:=qfn (fun x hx=>by obtain⟨ns,h1,h2⟩:=List.mem_flatten.1 hx;exact bn ns h1 x h2) hn H9;refine⟨_,H10,fun base φ hc us R hv=>?_⟩;obtain⟨u,rfl,c1⟩:=qmy hv;obtain⟨s,rfl,hsm,us',k1,k2,k3,k4⟩:=hs φ hc u R.toR c1;obtain⟨L,rfl,eL,aL⟩:=gp φ hc us' R.toR k1;obtain⟨us0,j1,j2,j3,j4⟩:=zi1 R.toR (R.gl 0 (by decide)) hb hle hcl hg
 have r0:R0 hc:=by
  cases ecs
  have:us0=u32s rcL:=Option.some.inj (j1.symm.trans (zr5 rcN));rw [this] at j4;exact j4
 have ef:zdf L=cI nss.flatten:=by
  unfold zdf;rw [eL];exact List.map_flatten.symm
 have lL:L.length=m:=by
  have:=congrArg List.length eL;rw [List.length_map,List.length_map] at this;omega
 refine⟨.agg (arr 32 .u8 (cI r)).toArray,?_,?_⟩
 ·have l32:(cI r).length=32:=by rw [er];exact zmz _
  rw [zcq l32];exact zfn.2 ⟨_,zlw r,fun w hw=>by obtain⟨x,_,rfl⟩:=List.mem_map.1 hw;rfl,rfl⟩
 ·refine(R71 s (fun q h'=>q=cI r/\Ext hc.size hc h') hc (qc5 r0 k4 (by omega) aL (by omega) (by rw [ef,List.length_map];exact hn) fun h' X=>⟨by rw [ef];exact er.symm,X⟩)).mono ?_
  rintro v h' ⟨q,rfl,rfl,X⟩;exact⟨rfl,X⟩
end
end Go.V
end
section
set_option maxRecDepth 20000
namespace Go.Q.Yo.Ch
def gw (w:List Int) (i:Nat):Int:=w.getD i 0
def qnx (w:List Int) (a b:Nat):List Int:=w.set a ((gw w a+gw w b) % 4294967296)
def qnh (w:List Int) (d a n:Nat):List Int:=w.set d (qsb (zaq .u32 (gw w d) (gw w a)) n)
def qm3 (w:List Int) (a b d n:Nat):List Int:=qnh (qnx w a b) d a n
def qrL (w:List Int) (a b c d:Nat):List Int:=qm3 (qm3 (qm3 (qm3 w a b d 16) c d b 12) a b d 8) c d b 7
def qn3:List Int:=[0,4,8,12,1,5,9,13,2,6,10,14,3,7,11,15,0,5,10,15,1,6,11,12,2,7,8,13,3,4,9,14]
def qa (i:Nat):Nat:=([0,1,2,3,0,1,2,3]:List Nat).getD i 0
def qb (i:Nat):Nat:=([4,5,6,7,5,6,7,4]:List Nat).getD i 0
def qc (i:Nat):Nat:=([8,9,10,11,10,11,8,9]:List Nat).getD i 0
def qd (i:Nat):Nat:=([12,13,14,15,15,12,13,14]:List Nat).getD i 0
def qs (w:List Int):Nat->List Int
 | 0=>w
 | i+1=>qrL (qs w i) (qa i) (qb i) (qc i) (qd i)
def qmd (w:List Int):Nat->List Int
 | 0=>w
 | r+1=>qs (qmd w r) 8
def ziv (l:List Int) (i:Nat):Int:=zmp ((l.drop (4*i)).take 4)
def startL (key:List Int) (n:Int) (nonce:List Int):List Int :=
 [1634760805,857760878,2036477234,1797285236,ziv key 0,ziv key 1,ziv key 2,ziv key 3,ziv key 4,ziv key 5,ziv key 6,ziv key 7,n,ziv nonce 0,ziv nonce 1,ziv nonce 2]
end Go.Q.Yo.Ch
end
section
namespace Go.V
open Go.Q Go.Q.Yo Go.Q.Yo.Ch
noncomputable section
end
end Go.V
end
section
namespace Go.Q
section
variable {P:Program} {T:Tab} {e:Env} {h:zaa} {o:Oper}
end
end Go.Q
end
section
namespace Go.Q.Yo
open Go.Proofs.Tryz
end Go.Q.Yo
end
section
set_option maxRecDepth 20000
namespace Go.Q.Yo.Ch
open Go.Q.Yo
theorem z16:arr 16 .u32 ([]:List Int)=b32 (List.replicate 16 0):=rfl
theorem z4:arr 4 .i64 ([]:List Int)=qoh (List.replicate 4 0):=rfl
def Q0 (h:zaa):Prop:=CellsAt h ⟨1,0,none⟩ (qoh qn3)
theorem Q0.lt {h:zaa} (q:Q0 h):1<h.size:=zdu (q 0 _ rfl)
theorem Q0.keep {h h':zaa} (q:Q0 h) (e:h'[1]? = h[1]?):Q0 h':=fun j v hj=>by rw [zi3 (h:=h) (by rw [add_block];exact e)];exact q j v hj
theorem Q0.ext {B:Nat} {h h':zaa} (q:Q0 h) (X:Ext B h h') (hB:1<B):Q0 h':=q.keep (X.block 1 hB)
theorem shr2 {i:Int} (i0:0<=i) (i1:i<64):shr .i64 i (2:Int).toNat=i / 4:=by
 unfold shr;simp only [IntKind.bits];rw [show min ((2:Int).toNat) 64=2 from rfl];exact Int.fdiv_eq_ediv_of_nonneg _ (by decide)
end Go.Q.Yo.Ch
end
section
namespace Go.V
open Go.Q Go.Q.Yo Go.Q.Yo.Ch
noncomputable section
def a3 (vs:List AV) (K:AV->AV->AV->Rs):Rs:=List.rec (motive:=fun _=>Rs) false (fun v r _=>a2 r (K v)) vs
def qfN:List Nat:=[0,4,8,12,1,5,9,13,2,6,10,14,3,7,11,15,0,5,10,15,1,6,11,12,2,7,8,13,3,4,9,14]
def qfA:List AV:=List.rec (motive:=fun _=>List AV) [] (fun n _ ih=>.i .i64 (.ofNat n) :: ih) qfN
theorem zzk {φ:Ph}:∀ l:List Nat,cvs φ (List.rec (motive:=fun _=>List AV) [] (fun n _ ih=>.i .i64 (.ofNat n) :: ih) l)=some (qoh (cI l))
 | []=>rfl
 | n :: l=>by
  show cvs φ (AV.i .i64 (.ofNat n) :: List.rec (motive:=fun _=>List AV) [] (fun n _ ih=>.i .i64 (.ofNat n) :: ih) l)=_
  exact zbh rfl (zzk l)
def agB (n:Nat) (v:AV) (K:List Nat->Rs):Rs:=dG.x v fun l=>toB l fun ns=>Bool.rec (motive:=fun _=>Rs) false (K ns) (Nat.beq (zgs ns) n)
theorem zyx {n:Nat} {v:AV} {K:List Nat->Rs} (h:agB n v K=true):∃ ns:List Nat,v = .ag (ns.map aB)/\A8 ns/\ns.length=n/\K ns=true:=by
 obtain⟨l,rfl,h1⟩:=zsn h;obtain⟨ns,rfl,h2,h3⟩:=zy1 _ _ h1;obtain⟨h4,h5⟩:=zjf h3;rw [zav] at h4;exact⟨ns,rfl,h2,h4,h5⟩
theorem znq {φ:Ph} {n:Nat} {ns:List Nat} (hl:ns.length=n):cv φ (.ag (ns.map aB))=some (.agg (arr n .u8 (cI ns)).toArray):=by
 rw [zcq (by rw [List.length_map];exact hl)];exact zfn.2 ⟨_,zlw ns,fun w hw=>by obtain⟨x,_,rfl⟩:=List.mem_map.1 hw;rfl,rfl⟩
end
end Go.V
end
section
namespace Go.Q
def up (X:List Deferred) (a:Act):Act:={ a with defers:=a.defers++X }
def U (X:List Deferred) (K:Act->World->Prop):Act->World->Prop:=fun a w=>∃ a0,a=up X a0/\K a0 w
def UQ (X:List Deferred) (Q:Exit->Act->World->Prop):Exit->Act->World->Prop:=fun e a w=>∃ a0,a=up X a0/\Q e a0 w
structure Bare (P:Program) (F:Fence):Prop where
 fn:∀ f,F.fn f
 dp:F.depth=none
 mc:Machine.fenced P F=Machine.fenced P Fence.wide
theorem zxp {P:Program}:Bare P Fence.wide:=⟨fun _=>trivial,rfl,rfl⟩
theorem zo1 {P:Program} (l:Nat):Bare P (Fence.wide.inRound l):=⟨fun _=>trivial,rfl,rfl⟩
section
variable {P:Program} {X:List Deferred} {F:Fence} {n:Nat} {Q:Exit->Act->World->Prop} {a:Act} {w:World}
theorem zo6 (d:Option Tmp) (v:Value):(up X a).put d v=up X (a.put d v):=by cases d <;> rfl
theorem Bare.calls (B:Bare P F) {f:FuncId} {args:Array Value} {R:Ending->World->Prop} (h:Calls P f args w R):CallsIn F n P f args w R:=by
 refine⟨B.fn f,fun cs _=>?_⟩;rw [B.mc];obtain⟨e,w',fr,r,s,x⟩:=h cs;exact⟨e,w',fr,r,comesIn_wide.2 s,x⟩
theorem Bare.rows (B:Bare P F) {row:String} {args:Array Value} {R:Value->World->Prop} (h:Rows P row args w R):RowsIn F n P row args w R:=by
 intro c cs _;rw [B.mc];obtain⟨v,w',r,s⟩:=h c cs;exact⟨v,w',r,stepsIn_wide.2 s⟩
theorem qhr (h:LetsOut Q):LetsOut (UQ X Q):=by
 obtain⟨a,w,q⟩:=h;exact⟨up X a,w,a,rfl,q⟩
theorem qm0 (B:Bare P F) {o:Oper} {K:Act->World->Prop} (hp:∀ c,o.op≠.defer c) (h:o.wp P a w K Q):o.wpIn F n P (up X a) w (U X K) (UQ X Q):=by
 unfold Oper.wpIn;refine⟨fun f _=>B.fn f,?_⟩;rw [Oper.semAt_plain F _ _ hp];unfold Oper.wp at h;have e:(up X a).eval=a.eval:=rfl;rw [e];generalize (execOp a.eval o).run P w=r at *
 cases r with
 | ok x w' =>
  cases x with
  | value v=>exact⟨_,zo6 _ _,h⟩
  | skip=>exact⟨_,zo6 _ _,h⟩
  | defer d=>exact⟨Act.put { a with defers:=d :: a.defers } o.dst undef,by cases o.dst <;> simp [up,Act.put],(show K (Act.put { a with defers:=d :: a.defers } o.dst undef) w' from h)⟩
  | enter f args =>
   refine⟨fun hd=>(by rw [B.dp] at hd;cases hd),(B.calls h).mono fun e w'' he=>?_⟩
   cases e with
   | returned v=>exact⟨_,zo6 _ _,he⟩
   | panicked chain=>exact⟨a,rfl,he⟩
   | outgrown=>exact qhr he
  | row row args=>exact⟨fun hd=>(by rw [B.dp] at hd;cases hd),(B.rows h).mono fun v w'' he=>⟨_,zo6 _ _,he⟩⟩
  | _=>exact h.elim
 | halt x w' =>
  cases x with
  | panic v=>exact⟨a,rfl,h⟩
  | _=>exact h.elim
theorem qez (B:Bare P F) (hQ:¬ LetsOut Q) {ops:Array Oper} {i:Nat} {K:Act->World->Prop} (hp:∀ o,ops[i]? = some o->∀ c,o.op≠.defer c) (h:wpOp P ops Q i K a w):wpOpIn F n P ops (UQ X Q) i (U X K) (up X a) w:=by
 unfold wpOpIn;unfold wpOp at h
 cases ho:ops[i]? with
 | none=>rw [ho] at h;exact⟨a,rfl,h⟩
 | some o =>
  rw [ho] at h;have e:yielded ops (up X a).tmps=yielded ops a.tmps:=rfl;simp only [e] at *;split
  ·rename_i hw;rw [if_pos hw] at h;exact qm0 B (hp o ho) (h.resolve_right fun q=>hQ q.2)
  ·rename_i hw;rw [if_neg hw] at h;exact⟨fun f _=>B.fn f,_,zo6 _ _,h⟩
theorem wpAny_in (B:Bare P F) (hQ:¬ LetsOut Q) {ops:Array Oper} {md:Region.Mode} (hp:∀(i:Nat) (o:Oper),ops[i]? = some o->∀ c:Call,o.op≠Op.defer c):∀(fuel:Nat) (listed:Array Bool) (a:Act) (w:World),wpAny P md ops Q fuel listed a w->wpAnyIn F n P md ops (UQ X Q) fuel listed (up X a) w
 | 0,listed,a,w,h=>⟨h.1,a,rfl,h.2⟩
 | fuel+1,listed,a,w,h=>by
  refine⟨fun hr=>⟨a,rfl,h.1 hr⟩,fun i hi=>?_⟩;refine wpOpIn_mono ?_ (qez (X:=X) B hQ (hp i) (h.2 i hi));rintro a' w' ⟨a0,rfl,h0⟩;exact wpAny_in B hQ hp fuel _ a0 w' h0
theorem wpList_in (B:Bare P F) {ops:Array Oper} (hQ:¬ LetsOut Q):∀(l:List Oper) (a:Act) (w:World),(∀ o∈l,∀ c,o.op≠.defer c)->wpList P ops Q l a w->wpListIn F n P ops (UQ X Q) l (up X a) w
 | [],a,w,hp,h=>⟨a,rfl,h⟩
 | o :: l,a,w,hp,h=>by
  unfold wpListIn;unfold wpList at h;have e:yielded ops (up X a).tmps=yielded ops a.tmps:=rfl;rw [e];split
  ·rename_i hw
   rw [if_pos hw] at h;rcases h with h | ⟨_,h⟩
   ·refine Oper.wpIn_mono ?_ (qm0 (X:=X) B (hp o (by simp)) h)
    rintro a' w' ⟨a0,rfl,h0⟩;exact wpList_in B hQ l a0 w' (fun o ho=>hp o (by simp [ho])) h0
   ·exact absurd h hQ
  ·rename_i hw
   rw [if_neg hw] at h;refine⟨fun f _=>B.fn f,?_⟩;rw [zo6];exact wpList_in B hQ l _ w (fun o ho=>hp o (by simp [ho])) h
end
variable {c:Cx} {e:Env} {h:zaa} {Q:Exit->Act->World->Prop}
def zry (F:Fence) (n:Nat) (X:List Deferred) (c:Cx) (x:Code) (Q:Exit->Act->World->Prop) (e:Env) (h:zaa):Prop :=
 ∀ a w,Fr c.N e a->WW c.D c.W0 h w->x.wpIn F n c.P Q (up X a) w
theorem noDef_of {l:List Oper} (h:l.all (fun o=>match o.op with | .defer _=>false | _=>true)=true):∀ o∈l,∀ c,o.op≠.defer c:=fun o ho c e=>by
 have:=List.all_eq_true.1 h o ho;rw [e] at this;cases this
theorem qab {F:Fence} {n:Nat} {X:List Deferred} (B:Bare c.P F) {id:Nat} {lops:List Oper} (hp:lops.all (fun o=>match o.op with | .defer _=>false | _=>true)=true) (hQ:¬ LetsOut Q) (H:gop c lops Q (Q .normal) lops e h):zry F n X c (.region id lops.toArray false) (UQ X Q) e h:=by
 intro a w fa fw;refine wpIn_region_lit ?_;refine wpList_in B hQ lops a w (noDef_of hp) ?_;rw [← wpK_list];exact H a w fa fw
theorem qoz {F:Fence} {n:Nat} {X:List Deferred} (B:Bare c.P F) {id:Nat} {lops:List Oper} (e':Env) (hm:c.P.follows .mixedOrders=true) (hQ:¬ LetsOut Q) (hp:lops.all (fun o=>match o.op with | .defer _=>false | _=>true)=true) (hwf:wfR lops=true) (hs:Sub e' e)
  (H:wfR lops=true->Sim c lops Q [] [] [] e' h):zry F n X c (Code.region id lops.toArray true) (UQ X Q) e h:=by
 intro a w fa fw;refine wpIn_region_any hm ?_;refine wpAny_in B hQ (fun i o ho=>noDef_of hp o (by simpa using List.mem_of_getElem? (l:=lops) (by simpa using ho))) _ _ a _ ?_;refine H hwf _ [] _ a _ ?_ ?_ ⟨fw.os,fw.tape,fw.output,fw.heap,fun k=>Nat.le_succ_of_le (fw.dr k)⟩
 ·rw [zsf];exact Nat.le_refl _
 ·have all:∀ j,j<lops.length->un (Array.replicate lops.toArray.size false) j:=fun j hj=>by
   simp [un,Array.getD_eq_getD_getElem?,hj]
  exact⟨by simp,fa.d,fa.n,by simp,by simp,by simp,fun j hj hl=>absurd (all j hj) hl,fun j hj hl=>absurd (all j hj) hl,by simp,by simp,by simp,
   fun s u hsu=>by
    have h1:=fa.l s u (sub_lk hs s u hsu)
    cases hd:zdo lops s with
    | false=>exact .inr (.inl ⟨rfl,h1⟩)
    | true=>obtain⟨q,hq⟩:=qdp hd;exact .inr (.inr ⟨q,hq,by simp,h1⟩),by simp⟩
end Go.Q
end
section
open Go.RowKit
namespace Go.Q
variable {P:Program} {F:Fence} {n:Nat}
def Yields (F:Fence) (n:Nat) (P:Program) (gf:Nat) (lb:Array Value) (encs:Nat->Array Value) (Kp:World->World->Prop) (N:Nat) (w:World):Prop :=
 ∀(l:Nat) (J:Nat->World->Prop) (W:World),Below w.heap.size w W->AbidesFrom W.heap.size J ->
  (∀ k W1,J k W1->k<N->YieldAt F (n-1) P l (encs k) W1 fun e W'=>e = .returned (.bool true)/\J (k+1) W'/\Kp W1 W')->J 0 W ->
  CallsIn F n P gf (#[.func (.yield l) #[] #[]]++lb) W fun e W'=>(∃ v,e = .returned v)/\J N W'
theorem zmo {g:Operand} {ps:Array Tmp} {assign body:Code} {Q:Exit->Act->World->Prop} {a:Act} {w:World}
  (hro:F.round=none) (h1:1<=n) {gf:Nat} {lb:Array Value} (hg:a.eval g = .func (.func gf) #[] lb) (hFg:F.fn gf) (eg:∀ args w,(callFunc gf args).run P w = .ok (.enter gf args) w)
  {encs:Nat->Array Value} {Kp:World->World->Prop} {N:Nat} (hseq:Yields F (n-1) P gf lb encs Kp N w)
  (hKt:∀ {A B C:World},Kp A B->Kp B C->Kp A C) (hKb:∀(W:World) (l:Nat) (o o':Obj),w.heap.size<=l->W.heap[l]? = some o->o.isCells=false->o.isWalk=false->Kp W (W.putObj l o')) (hps:∀ x,(encs x).size=ps.size)
  (I:Nat->World->Prop) (hI:OwnFrom w.heap.size I) (h0:I 0 w) (Ax:Nat->Act->Prop)
  (hKn:∀ W W':World,w.heap.size<=W.heap.size->W.grownBy W' none->Kp W W') (hassign:∀(l k:Nat) (W:World) (K:Act->World->Prop),(∀ a' W',W.grownBy W' none->Ax k a'->K a' W') ->
   assign.wpIn (F.inRound l) (n-1-1) P (Exit.then K (fun _ _ _=>False)) { tmps:=(ps.zip (encs k)).foldl (fun t (p,v)=>t.setIfInBounds p v) a.tmps,defers:=[] } W)
  (hbody:∀(l k:Nat) (a':Act) (W:World),I k W->Ax k a'->k<N->body.wpIn (F.inRound l) (n-1-1) P (fun e _ W'=>e = .normal/\KeepsFrom w.heap.size W W'/\Kp W W'/\I (k+1) W') a' W)
  (hdone:∀(D:Nat) (W:World),w.heap.size<=D->I N W->W.heap[D]? = some (.deferred (some []))->Q .normal { a with defers:={ target:=.collected D,args:=#[] } :: a.defers } W) :
  (Code.rangeFunc g ps assign body).wpIn F n P Q a w:=by
 refine wpIn_rangeFunc ?_;intro fn hfn;rw [hro];obtain⟨rec,hrec⟩:∃ rec:LoopState->Option Code->Loop,rec=fun st pe=>{ state:=st,pending:=pe,fn,tmps:=a.tmps,params:=ps,assign,body,defers:=w.heap.size }:=⟨_,rfl⟩
 obtain⟨W1,hW1⟩:∃ W1,(w.alloc (.deferred (some []))).alloc (.loop (rec .ready none))=W1:=⟨_,rfl⟩
 have hL1:W1.heap[w.heap.size+1]? = some (.loop (rec .ready none)):=by
  rw [← hW1];have:=World.alloc_heap_new (w.alloc (.deferred (some []))) (.loop (rec .ready none));rwa [World.size_alloc] at this
 have hK1:W1.heap[w.heap.size]? = some (.deferred (some [])):=by
  rw [← hW1];exact(Below.heap_alloc _ _ _ (by simp)).trans (World.alloc_heap_new w _)
 have hI1:I 0 W1:=by rw [← hW1];exact hI.alloc _ (hI.alloc _ h0)
 have hb1:Below w.heap.size w W1:=by
  rw [← hW1];exact((Below.refl _ w).alloc (Nat.le_refl _) _).alloc (by simp) _
 refine⟨w.heap.size+1,[{ target:=.collected w.heap.size,args:=#[] }],W1,{ target:=.fn (.func gf) lb,args:=#[.func (.yield (w.heap.size+1)) #[] #[]] },W1,gf,
  #[.func (.yield (w.heap.size+1)) #[] #[]]++lb,W1,?_,?_,?_,?_,fun _=>h1,?_⟩
 ·rw [← hW1,hrec];exact run_enterLoop_outer _ _ _ _ _
 ·simp only [resolve,hg]
  simp [go_sem]
 ·intro f' hf';simp [Target.leads] at hf';subst hf';exact hFg
 ·simp [invoke,go_sem,eg]
 ·have hnw:∀ {A B:World} {row:Option Nat},(∀ r,row=some r->W1.heap.size<=r/\∃ o:Obj,A.heap[r]? = some o/\o.isWalk=true)->(∀ r,row=some r->w.heap.size<=r/\∃ o:Obj,A.heap[r]? = some o/\o.isCells=false) :=
   fun hr r e=>by obtain⟨hB,o,ho,hw⟩:=hr r e;exact⟨by rw [← hW1] at hB;simp at hB;omega,o,ho,Obj.not_cells_of_walk hw⟩
  refine(hseq (w.heap.size+1)
   (fun k W=>I k W/\W.heap[w.heap.size+1]? = some (.loop (rec .ready none))/\W.heap[w.heap.size]? = some (.deferred (some [])))
   W1 hb1
   (fun s A B row hs hg' hr=>⟨hI s A B row hs.1 hg' (hnw (B:=B) hr),(grownBy_keeps hg' (fun r e=>(hr r e).2) hs.2.1 rfl).trans hs.2.1,(grownBy_keeps hg' (fun r e=>(hr r e).2) hs.2.2 rfl).trans hs.2.2⟩)
   ?_ ⟨hI1,hL1,hK1⟩).mono ?_
  ·rintro k W ⟨hi,hl,hk⟩ hlen
   have hlt:w.heap.size+1<W.heap.size:=(Array.getElem?_eq_some_iff.1 hl).1;have hy:=run_yield (P:=P) (args:=encs k) hl (by rw [hrec];exact hps k);rw [hrec] at hy;refine⟨fn,_,assign,body,hy,roundIn_of_wpIn hfn (hassign _ k W _ ?_)⟩;clear hy;intro a' Wa hga hax;have hkpa:=hKn W Wa (by omega) hga;replace hl:=(hga.block _ hlt (fun e=>by cases e)).trans hl;replace hk:=(hga.block _ (by omega) (fun e=>by cases e)).trans hk;replace hi:=hI k W Wa none hi hga (fun r e=>by cases e);replace hlt:w.heap.size+1<Wa.heap.size:=(Array.getElem?_eq_some_iff.1 hl).1;revert hkpa;generalize W=Wb;intro hkpa;obtain⟨W,rfl⟩:∃ W,W=Wa:=⟨_,rfl⟩
   refine⟨_,run_beginRound hl (by rw [hrec]),?_⟩;have hl2:(W.putObj (w.heap.size+1) (.loop { rec .ready none with state:=.busy })).heap[w.heap.size+1]? = some (.loop { rec .ready none with state:=.busy }):=World.putObj_heap_same hlt;have hk2:(W.putObj (w.heap.size+1) (.loop { rec .ready none with state:=.busy })).heap[w.heap.size]? = some (.deferred (some [])):=(World.putObj_heap_other (by omega)).trans hk;have hw2:Kp W (W.putObj (w.heap.size+1) (.loop { rec .ready none with state:=.busy })):=hKb _ _ _ _ (by omega) hl rfl rfl;refine wpIn_mono (hbody _ k a' _ (hI.putObj _ hi (by omega) hl rfl) hax hlen) ?_
   have fin:∀(W3:World),KeepsFrom w.heap.size (W.putObj (w.heap.size+1) (.loop { rec .ready none with state:=.busy })) W3 ->
     (Instr.endRound (w.heap.size+1) none).run P W3 = .ok (.bool true) (W3.putObj (w.heap.size+1) (.loop (rec .ready none))) /\
     W3.heap[w.heap.size+1]? = some (.loop { rec .ready none with state:=.busy }) /\
     (W3.putObj (w.heap.size+1) (.loop (rec .ready none))).heap[w.heap.size+1]? = some (.loop (rec .ready none)) /\
     (W3.putObj (w.heap.size+1) (.loop (rec .ready none))).heap[w.heap.size]? = some (.deferred (some [])):=fun W3 hk3=>by
    have hl3:=hk3.same _ _ (by omega) hl2 rfl;have:=run_endRound (P:=P) none hl3;rw [hrec] at this ⊢;exact⟨by simpa using this,by rw [hrec] at hl3;exact hl3,World.putObj_heap_same (Array.getElem?_eq_some_iff.1 hl3).1,(World.putObj_heap_other (by omega)).trans (hk3.same _ _ (Nat.le_refl _) hk2 rfl)⟩
   rintro e a3 W3 ⟨rfl,hk3,hkp3,hi3⟩;obtain⟨hr,hl3,hl4,hk4⟩:=fin W3 hk3;exact⟨_,_,hr,rfl,⟨hI.putObj _ hi3 (by omega) hl3 rfl,hl4,hk4⟩,hKt hkpa (hKt (hKt hw2 hkp3) (hKb _ _ _ _ (by omega) hl3 rfl rfl))⟩
  ·rintro e W2 ⟨⟨v,rfl⟩,hi,hl,hk⟩
   exact⟨none,_,by have:=run_endLoop (P:=P) hl (by rw [hrec];simp);rw [hrec] at this;exact this,hdone _ _ (Nat.le_refl _) (hI.putObj _ hi (by omega) hl rfl) ((World.putObj_heap_other (by omega)).trans hk)⟩
end Go.Q
end
section
namespace Go.Proofs
open Go.RowKit
namespace YhkYo
def pt (b off len:Nat) (k:Nat):Value:=.slice (some ⟨b,off+16*k,none⟩) (min 16 (len-16*k)) (min 16 (len-16*k))
structure Kc (b1 b2:Nat) (A B:World):Prop where
  c1:B.heap[b1]? = A.heap[b1]?
  c2:B.heap[b2]? = A.heap[b2]?
theorem Kc.refl (b1 b2:Nat) (A:World):Kc b1 b2 A A:=⟨rfl,rfl⟩
theorem Kc.trans {b1 b2:Nat} {A B C:World} (h:Kc b1 b2 A B) (k:Kc b1 b2 B C):Kc b1 b2 A C:=⟨k.c1.trans h.c1,k.c2.trans h.c2⟩
theorem zm3 {A B:World} {b o:Nat} (h:B.heap[b]? = A.heap[b]?):B.cell? ⟨b,o,none⟩=A.cell? ⟨b,o,none⟩:=by simp [World.cell?,h]
set_option maxRecDepth 100000 in
set_option maxHeartbeats 4000000 in
theorem qar (F:Fence) (n:Nat) (h7:F.fn 466) (hro:F.round=none) (hn:1<=n) (l B1 B2 b off len cap:Nat) (hcap:len<=cap) (hreach:len<=1000000000) (J:Nat->World->Prop) (hJd:∀ k W,J k W->J k W.drew)
    (hY:∀ k W,J k W->k<(len+15) / 16->YieldAt F (n-1) Tryz.prog l #[pt b off len k] W fun e W'=>e = .returned (.bool true)/\J (k+1) W'/\Kc B1 B2 W W')
    (W:World) (hc1:W.cell? ⟨B1,0,none⟩=some (.slice (some ⟨b,off,none⟩) len cap)) (hc2:W.cell? ⟨B2,0,none⟩=some (.int .i64 16)) (h0:J 0 W) :
    CallsIn F n Tryz.prog 466 #[.func (.yield l) #[] #[],.pointer (some ⟨B1,0,none⟩),.pointer (some ⟨B2,0,none⟩)] W fun e W'=>(∃ v,e = .returned v)/\J ((len+15) / 16) W':=by
  refine callsIn_of_wp Tryz.func466 rfl h7 ?_ hro;simp only [Tryz.ntmps466,List.size_toArray,List.length_cons,List.length_nil,Nat.reduceAdd,Nat.reduceSub,Array.replicate_succ,Array.replicate_zero,List.push_toArray,List.append_toArray,List.nil_append,List.cons_append]
  gi_wp2
  gi_loopw [4] (fun i wr=>∃ k:Nat,16*k<=len+15/\i = .int .i64 (16*k:Nat)/\J k wr/\Kc B1 B2 W wr)
    (fun i _=>len+16-(intOf i).toNat)
  case atStart=>exact⟨0,by omega,rfl,h0,Kc.refl _ _ _⟩
  case round =>
    obtain⟨k,hk,rfl,hJs,hnx⟩:=hrel;have c1:wr.cell? ⟨B1,0,none⟩=some (.slice (some ⟨b,off,none⟩) len cap):=(zm3 hnx.c1).trans hc1;have c2:wr.cell? ⟨B2,0,none⟩=some (.int .i64 16):=(zm3 hnx.c2).trans hc2;by_cases hlt:16*k<len
    · have hY':=hY k wr.drew (hJd _ _ hJs) (by omega)
      have he:(if ((len-16*k:Nat):Int)<16 then ((len-16*k:Nat):Int) else 16)=((min 16 (len-16*k):Nat):Int):=by split <;> omega
      obtain⟨e,hed⟩:∃ e,e=min 16 (len-16*k):=⟨_,rfl⟩
      have e0:1<=e:=by omega
      have e1:e<=16:=by omega
      have e2:16*k+e<=len:=by omega
      have d1:wr.drew.cell? ⟨B1,0,none⟩=some (.slice (some ⟨b,off,none⟩) len cap):=c1;have d2:wr.drew.cell? ⟨B2,0,none⟩=some (.int .i64 16):=c2;simp only [pt] at hY';rw [← hed] at hY' he;obtain⟨fn,tmps,assign,body,hy,hR⟩:=hY'
      gi_wp2
      gi_region
      all_goals rw [← hed]
      all_goals clear he hed
      all_goals gi_wp2
      all_goals refine hR.mono ?_
      all_goals rintro e' W3 ⟨rfl,hJ3,hk3⟩
      all_goals first
        | (have c3:W3.cell? ⟨B2,0,none⟩=some (.int .i64 16):=(zm3 hk3.c2).trans d2
           gi_wp2
           go_roundw
           case rel=>exact⟨k+1,by omega,by simp;omega,hJ3,hnx.trans ⟨hk3.c1,hk3.c2⟩⟩
           case measure=>simp [intOf];omega)
    · gi_wp2
      go_end0
      refine⟨⟨_,rfl⟩,?_⟩;rw [show (len+15) / 16=k from by omega];exact hJs
theorem chunk_yields (F:Fence) (n:Nat) (h7:F.fn 466) (hro:F.round=none) (hn:1<=n) (B1 B2 b off len cap:Nat) (hcap:len<=cap) (hreach:len<=1000000000) (w:World) (hB1:B1<w.heap.size) (hB2:B2<w.heap.size)
    (hc1:w.cell? ⟨B1,0,none⟩=some (.slice (some ⟨b,off,none⟩) len cap)) (hc2:w.cell? ⟨B2,0,none⟩=some (.int .i64 16)) :
    Go.Q.Yields F n Tryz.prog 466 #[.pointer (some ⟨B1,0,none⟩),.pointer (some ⟨B2,0,none⟩)] (fun k=>#[pt b off len k]) (Kc B1 B2) ((len+15) / 16) w:=fun l J W hW hJ hY h0 =>
  qar F n h7 hro hn l B1 B2 b off len cap hcap hreach J (fun k A hA=>hJ k A _ none hA ⟨rfl,rfl,rfl,Nat.le_refl _,fun k hk _=>rfl⟩ (fun r e=>by cases e)) hY W ((hW.cell (p:=⟨B1,0,none⟩) hB1).trans hc1) ((hW.cell (p:=⟨B2,0,none⟩) hB2).trans hc2) h0
end YhkYo
end Go.Proofs
end
section
namespace Go.V
open Go.Q
noncomputable section
def PureC (P:Program) (f:FuncId) (us:List Value) (r:Value):Prop:=∀ h:zaa,CallsH P f us.toArray h fun u h'=>u=r/\Ext h.size h h'
end
end Go.V
end

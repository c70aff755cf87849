/- A part of the proof of statements of this seat: lemmas, no statement of their own. -/
import Derived.Test.YtmilimlmimckbaaGreatDoorYoZaj
import Derived.Test.YtmilimlmimckbaaGreatDoorYoZau
import Derived.Test.YtmilimlmimckbaaGreatDoorYoZas
set_option linter.unusedVariables false
set_option linter.unusedSimpArgs false
set_option maxRecDepth 100000
section
namespace Go.Q.Yo
def W32 (x:Int):Prop:=0<=x/\x<4294967296
def AW (l:List Int):Prop:=∀ x∈l,W32 x
theorem AW.getD {l:List Int} (h:AW l) (i:Nat):W32 (l.getD i 0):=by
 rcases Nat.lt_or_ge i l.length with c | c
 ·rw [show l.getD i 0=l[i] from by simp [c]];exact h _ (List.getElem_mem c)
 ·rw [show l.getD i 0=0 from by simp [c]];exact⟨by omega,by omega⟩
theorem W32.wrap (x:Int):W32 (IntKind.u32.wrap x):=by rw [ztx];exact⟨by omega,by omega⟩
theorem W32.or (a b:Int):W32 (zlj .u32 a b):=by unfold zlj;exact W32.wrap _
theorem AW.set {l:List Int} (h:AW l) {i:Nat} {v:Int} (hv:W32 v):AW (l.set i v):=fun x hx=>by
 rcases List.mem_or_eq_of_mem_set hx with c | c
 ·exact h x c
 ·rw [c];exact hv
def trN (x n:Nat):Nat:=x / 2 ^ n+x % 2 ^ n*2 ^ (32-n)
theorem zxq {x:Nat}:trN x 0=x:=by unfold trN;simp [Nat.mod_one]
theorem zxe {x n:Nat} (hn:n<32):trN x n / 2+trN x n % 2*2147483648=trN x (n+1):=by
 unfold trN;obtain⟨P,hP⟩:∃ P,P=2 ^ (31-n):=⟨_,rfl⟩
 have e1:(2:Nat) ^ (32-n)=2*P:=by rw [hP,show 32-n=(31-n)+1 from by omega,Nat.pow_succ,Nat.mul_comm]
 have e2:(2:Nat) ^ (32-(n+1))=P:=by rw [hP,show 32-(n+1)=31-n from by omega]
 have e3:(2:Nat) ^ n*P=2147483648:=by rw [hP,← Nat.pow_add,show n+(31-n)=31 from by omega]
 rw [e1,e2,Nat.mod_pow_succ,Nat.pow_succ,← Nat.div_div_eq_div_mul];generalize x / 2 ^ n=q;generalize x % 2 ^ n=r;rw [Nat.mul_left_comm r 2 P,Nat.add_mul,show 2 ^ n*(q % 2)*P=2147483648*(q % 2) from by rw [Nat.mul_right_comm,e3]];generalize r*P=t;omega
theorem qfh {x:Nat} (hx:x<4294967296):∀ n,n<=32->trN x n<4294967296
 | 0,_=>by rw [zxq];exact hx
 | n+1,hn=>by
  have:=qfh hx n (by omega);rw [← zxe (by omega)];omega
theorem qkc {x:Nat} {n:Int} {a b:Nat} (hx:x<4294967296) (e1:(zbe .u64 (IntKind.u64.wrap n) 31).toNat=a) (e2:(IntKind.u64.wrap (32-zbe .u64 (IntKind.u64.wrap n) 31)).toNat=b) (h:a+b=32):zth x n=((trN x b:Nat):Int):=by
 have hp:2 ^ a*2 ^ b=4294967296:=by rw [← Nat.pow_add,h]
 have s1:shl .u32 (x:Int) a=((x:Int)*2 ^ a) % 4294967296:=by unfold shl;rw [ztx];simp [IntKind.bits,Nat.min_eq_left (show a<=32 by omega)]
 have s2:shr .u32 (x:Int) b=(x:Int) / 2 ^ b:=by
  unfold shr;simp only [IntKind.bits,Nat.min_eq_left (show b<=32 by omega)];exact Int.fdiv_eq_ediv_of_nonneg _ (Int.pow_nonneg (by decide))
 have e3:((x:Int)*2 ^ a) % 4294967296=((x % 2 ^ b*2 ^ a:Nat):Int):=by
  have:(x*2 ^ a) % 4294967296=x % 2 ^ b*2 ^ a:=by rw [← hp,Nat.mul_comm (2 ^ a),Nat.mul_mod_mul_right]
  rw [← this,Int.natCast_emod,Int.natCast_mul,Int.natCast_pow];rfl
 have e4:(x:Int) / 2 ^ b=((x / 2 ^ b:Nat):Int):=by rw [Int.natCast_ediv,Int.natCast_pow];rfl
 unfold zth;rw [e1,e2,s1,s2,qi7 hp (by omega) (by omega),e3,e4,← Int.natCast_add,trN,Nat.add_comm,show 32-b=a from by omega]
def trI (x:Int) (n:Nat):Int:=((trN x.toNat n:Nat):Int)
theorem zgh {x:Int} (h:W32 x) {n:Int} {a b:Nat} (e1:(zbe .u64 (IntKind.u64.wrap n) 31).toNat=a) (e2:(IntKind.u64.wrap (32-zbe .u64 (IntKind.u64.wrap n) 31)).toNat=b) (hab:a+b=32):zth x n=trI x b:=by
 have h0:=h.1;have h1:=h.2;have:=qkc (x:=x.toNat) (n:=n) (by omega) e1 e2 hab;rw [show ((x.toNat:Nat):Int)=x from by omega] at this;exact this
theorem qno {x:Int} (h:W32 x):zfo x 7 18 3 true=zaq .u32 (zaq .u32 (trI x 7) (trI x 18)) (x / 8):=by
 unfold zfo;rw [if_pos rfl,zgh h (a:=25) (b:=7) (by decide) (by decide) rfl,zgh h (a:=14) (b:=18) (by decide) (by decide) rfl];congr 1;unfold shr;exact Int.fdiv_eq_ediv_of_nonneg _ (by decide)
theorem qpg {x:Int} (h:W32 x):zfo x 17 19 10 true=zaq .u32 (zaq .u32 (trI x 17) (trI x 19)) (x / 1024):=by
 unfold zfo;rw [if_pos rfl,zgh h (a:=15) (b:=17) (by decide) (by decide) rfl,zgh h (a:=13) (b:=19) (by decide) (by decide) rfl];congr 1;unfold shr;exact Int.fdiv_eq_ediv_of_nonneg _ (by decide)
theorem qnr {x:Int} (h:W32 x):zfo x 6 11 25 false=zaq .u32 (zaq .u32 (trI x 6) (trI x 11)) (trI x 25):=by
 unfold zfo;rw [if_neg (by decide),zgh h (a:=26) (b:=6) (by decide) (by decide) rfl,zgh h (a:=21) (b:=11) (by decide) (by decide) rfl,zgh h (a:=7) (b:=25) (by decide) (by decide) rfl]
theorem qoc {x:Int} (h:W32 x):zfo x 2 13 22 false=zaq .u32 (zaq .u32 (trI x 2) (trI x 13)) (trI x 22):=by
 unfold zfo;rw [if_neg (by decide),zgh h (a:=30) (b:=2) (by decide) (by decide) rfl,zgh h (a:=19) (b:=13) (by decide) (by decide) rfl,zgh h (a:=10) (b:=22) (by decide) (by decide) rfl]
theorem qjl {x:Int} (h:W32 x):IntKind.u32.wrap (4294967295-x)=zaq .u32 4294967295 x:=by
 have h0:=h.1;have h1:=h.2;obtain⟨n,rfl⟩:=Int.eq_ofNat_of_zero_le h0
 have e:(BitVec.ofInt 32 (4294967295:Int) ^^^ BitVec.ofInt 32 (n:Int)) = ~~~ BitVec.ofInt 32 (n:Int):=by
  rw [show BitVec.ofInt 32 (4294967295:Int)=BitVec.allOnes 32 from by decide,BitVec.allOnes_xor]
 show _=IntKind.u32.wrap ((BitVec.ofInt 32 (4294967295:Int) ^^^ BitVec.ofInt 32 (n:Int)).toNat)
 rw [e,BitVec.toNat_not,zqz 32 n (by omega)];congr 1;omega
def qhd (a b c d:Int):Int:=((a*256+b)*256+c)*256+d
def zup (x:Int):Prop:=0<=x/\x<256
theorem qb9 {a b c d:Int} (ha:zup a) (hb:zup b) (hc:zup c) (hd:zup d):zlj .u32 (zlj .u32 (zlj .u32 (shl .u32 (IntKind.u32.wrap a) (24:Int).toNat) (shl .u32 (IntKind.u32.wrap b) (16:Int).toNat)) (shl .u32 (IntKind.u32.wrap c) (8:Int).toNat)) (IntKind.u32.wrap d)=qhd a b c d:=by
 obtain⟨a,rfl⟩:=Int.eq_ofNat_of_zero_le ha.1;obtain⟨b,rfl⟩:=Int.eq_ofNat_of_zero_le hb.1;obtain⟨c,rfl⟩:=Int.eq_ofNat_of_zero_le hc.1;obtain⟨d,rfl⟩:=Int.eq_ofNat_of_zero_le hd.1;have ha:=ha.2;have hb:=hb.2;have hc:=hc.2;have hd:=hd.2;have w:∀ x:Nat,x<256->IntKind.u32.wrap ((x:Nat):Int)=((x:Nat):Int):=fun x hx=>by rw [ztx];omega
 have s1:shl .u32 (a:Int) (24:Int).toNat=((a*2 ^ 24:Nat):Int):=by
  show IntKind.u32.wrap ((a:Int)*2 ^ 24)=_
  rw [ztx];omega
 have s2:shl .u32 (b:Int) (16:Int).toNat=((b*2 ^ 16:Nat):Int):=by
  show IntKind.u32.wrap ((b:Int)*2 ^ 16)=_
  rw [ztx];omega
 have s3:shl .u32 (c:Int) (8:Int).toNat=((c*2 ^ 8:Nat):Int):=by
  show IntKind.u32.wrap ((c:Int)*2 ^ 8)=_
  rw [ztx];omega
 rw [w a (by omega),w b (by omega),w c (by omega),w d (by omega),s1,s2,s3,zs8 (by omega) (by omega),zrj (by omega)];rw [show a*2 ^ 24+b*2 ^ 16=(a*2 ^ 8+b)*2 ^ 16 from by omega,zs8 (by omega) (by omega),zrj (by omega)];rw [show (a*2 ^ 8+b)*2 ^ 16+c*2 ^ 8=(a*2 ^ 16+b*2 ^ 8+c)*2 ^ 8 from by omega,zs8 (by omega) (by omega),zrj (by omega)];unfold qhd;omega
def hiL (n w:Nat):List Int:=(List.range w).map fun i=>((n / 256 ^ (w-1-i) % 256:Nat):Int)
theorem zga (n w:Nat):(hiL n w).length=w:=by unfold hiL;rw [List.length_map,List.length_range]
theorem zyo {n w i:Nat} (h:i<w):(hiL n w)[i]'(by rw [zga];exact h)=((n / 256 ^ (w-1-i) % 256:Nat):Int):=by unfold hiL;rw [List.getElem_map,List.getElem_range]
theorem qp4 {k:IntKind} {n m:Nat} (hm:m<=k.bits):shr k (n:Int) m=((n / 2 ^ m:Nat):Int):=by
 unfold shr;rw [Nat.min_eq_left hm,Int.fdiv_eq_ediv_of_nonneg _ (Int.pow_nonneg (by decide)),Int.natCast_ediv,Int.natCast_pow];rfl
theorem qf9 {n:Nat} (h:n<1152921504606846976):qb4 (zfh n)=hiL (n*8) 8:=by
 have e:zfh n=((n*8:Nat):Int):=by
  unfold zfh;show IntKind.u64.wrap (IntKind.u64.wrap (n:Int)*2 ^ 3)=_;rw [zji,zji];omega
 rw [e];refine List.ext_getElem (by rw [zga];rfl) fun i h1 h2=>?_;have hi:i<8:=by rw [zga] at h2;exact h2
 rw [zyo hi];have:=zw2 ((n*8:Nat):Int) hi;rw [List.getElem?_eq_getElem h1] at this;rw [Option.some.inj this];have:(IntKind.u64.wrap (56-8*(i:Int))).toNat=8*(7-i):=by rw [zji];omega
 rw [this,qp4 (show 8*(7-i)<=64 by omega),wU8,show 8-1-i=7-i from by omega,show (256:Nat) ^ (7-i)=2 ^ (8*(7-i)) from by rw [Nat.pow_mul]];omega
theorem qg0 {H:List Int} (hH:AW H) {i:Nat} (hi:i<32):zvr H i=((((H.getD (i / 4) 0).toNat) / 256 ^ (3-i % 4) % 256:Nat):Int):=by
 have e1:(shr .i64 (i:Int) (2:Int).toNat).toNat=i / 4:=by rw [shr2 (by omega)];omega
 have e2:(IntKind.u64.wrap (24-IntKind.u64.wrap (8*zbe .u64 (IntKind.u64.wrap (i:Int)) 3))).toNat=8*(3-i % 4):=by
  have:∀ j:Fin 32,(IntKind.u64.wrap (24-IntKind.u64.wrap (8*zbe .u64 (IntKind.u64.wrap ((j.val:Nat):Int)) 3))).toNat=8*(3-j.val % 4):=by decide
  exact this ⟨i,hi⟩
 unfold zvr;rw [e1,e2];have w:=hH.getD (i / 4);obtain⟨x,hx⟩:=Int.eq_ofNat_of_zero_le w.1;have w1:=w.2;rw [hx,qp4 (show 8*(3-i % 4)<=32 by omega),wU8,show (256:Nat) ^ (3-i % 4)=2 ^ (8*(3-i % 4)) from by rw [Nat.pow_mul]];simp only [Int.toNat_natCast];omega
theorem ql5 (bl:List Int) (i:Nat):W32 (zkn bl i):=W32.or _ _
theorem qmz (bl W:List Int) (n:Nat):W32 (zp2 bl W n):=by
 unfold zp2;split
 ·exact ql5 _ _
 ·exact W32.wrap _
theorem zyl (bl:List Int):∀ n,AW (zb1 bl n)
 | 0=>fun x hx=>by rw [zb1,List.mem_replicate] at hx;rw [hx.2];exact⟨by omega,by omega⟩
 | n+1=>(zyl bl n).set (qmz _ _ _)
theorem qnq {V:List Int} (h:AW V):AW (zuy V):=fun x hx=>by
 unfold zuy at hx;rcases List.mem_append.1 hx with c | c <;> exact h x (List.mem_of_mem_take c)
theorem qpc {V:List Int} (h:AW V) (w c:Int):AW (rnd V w c):=((qnq h).set (W32.wrap _)).set (W32.wrap _)
theorem zx2 {V W:List Int} (h:AW V):∀ n,AW (zhw V W n)
 | 0=>h
 | n+1=>qpc (zx2 h n) _ _
theorem zzt {H V:List Int} (h:AW H):∀ n,AW (zjj H V n)
 | 0=>h
 | n+1=>(zzt h n).set (W32.wrap _)
theorem zxj (M:List Int):∀ n,AW (zgg M n)
 | 0=>fun x hx=>by
  have:∀ y∈startL,W32 y:=by unfold W32;decide
  exact this x hx
 | n+1=>zzt (zxj M n) 8
theorem qpo {l:List Int} (h:l.length=8):∃ a b c d e f g p,l=[a,b,c,d,e,f,g,p]:=by
 match l,h with
 | [a,b,c,d,e,f,g,p],_=>exact⟨a,b,c,d,e,f,g,p,rfl⟩
theorem qen (a b c d e f g p a' b' c' d' e' f' g' p':Int):zjj [a,b,c,d,e,f,g,p] [a',b',c',d',e',f',g',p'] 8=[zg2 (a+a'),zg2 (b+b'),zg2 (c+c'),zg2 (d+d'),zg2 (e+e'),zg2 (f+f'),zg2 (g+g'),zg2 (p+p')]:=rfl
theorem qn1 (a b c d e f g p w r:Int):rnd [a,b,c,d,e,f,g,p] w r=[zg2 (zz1 [a,b,c,d,e,f,g,p] w r+qey [a,b,c,d,e,f,g,p]),a,b,c,zg2 (d+zz1 [a,b,c,d,e,f,g,p] w r),e,f,g]:=rfl
theorem zt8 (bl:List Int) {n:Nat} (hn:n<64):(zb1 bl (n+1)).take (n+1)=(zb1 bl n).take n++[zp2 bl (zb1 bl n) n]:=by
 have l:=zgr bl n;rw [zb1,List.take_add_one,List.take_set_of_le (Nat.le_refl _),List.getElem?_set_self (by omega)];rfl
end Go.Q.Yo
end
section
namespace Go.Q.Yo
theorem qcf {x:Int} (hx:W32 x) {n:Nat} (hn:n<32):IntKind.u32.wrap (IntKind.u32.wrap (Int.tdiv (trI x n) 2)+IntKind.u32.wrap (Int.tmod (trI x n) 2*2147483648))=trI x (n+1):=by
 have h0:=hx.1;have h1:=hx.2;have s:=zxe (x:=x.toNat) hn;have l:=qfh (x:=x.toNat) (by omega) n (by omega);have l1:=qfh (x:=x.toNat) (by omega) (n+1) (by omega);unfold trI;generalize trN x.toNat (n+1)=z at *;generalize trN x.toNat n=y at *;rw [Int.tdiv_eq_ediv_of_nonneg (by omega),Int.tmod_eq_emod_of_nonneg (by omega),ztx,ztx,ztx];omega
theorem zgb {x:Int} {n:Nat} {k:Int->zaa->Prop} {h:zaa} (hx:W32 x) (hn:n<=32) (H:k (trI x n) h):zbf x (n:Int) k h:=by
 unfold zbf zkm;have e0:trI x 0=x:=by unfold trI;rw [zxq];exact Int.toNat_of_nonneg hx.1
 refine⟨fun s h'=>h'=h/\∃ i:Nat,i<=n/\s.2=(i:Int)/\s.1=trI x i,fun s _=>((n:Int)-s.2).toNat,⟨rfl,0,Nat.zero_le _,rfl,e0.symm⟩,?_⟩;rintro y i h' ⟨rfl,i,hi,e,ey⟩;dsimp only at e ey;subst e ey;unfold zjv;by_cases c:i<n
 ·rw [if_pos (by rw [decide_eq_true_eq];omega)]
  refine⟨_,rfl,_,rfl,_,rfl,⟨rfl,i+1,by omega,?_,qcf hx (by omega)⟩,?_⟩
  ·dsimp only;rw [zac (by omega) (by omega)];omega
  ·dsimp only;rw [zac (by omega) (by omega)];omega
 ·rw [if_neg (by rw [decide_eq_true_eq];omega),show i=n from by omega]
  exact H
theorem qdv {x:Int} {n:Nat} {k:Int->zaa->Prop} {h:zaa} (hx:W32 x) (hn:n<=32) (H:k (x / 2 ^ n) h):zh7 x (n:Int) k h:=by
 have h0:=hx.1;have h1:=hx.2;unfold zh7 zly;refine⟨fun s h'=>h'=h/\∃ i:Nat,i<=n/\s.2=(i:Int)/\s.1=x / 2 ^ i,fun s _=>((n:Int)-s.2).toNat,⟨rfl,0,Nat.zero_le _,rfl,by simp⟩,?_⟩;rintro y i h' ⟨rfl,i,hi,e,ey⟩;dsimp only at e ey;unfold zk7;have y0:0<=y:=by rw [ey];exact Int.ediv_nonneg h0 (Int.pow_nonneg (by decide))
 have y1:y<4294967296:=by rw [ey];exact Int.lt_of_le_of_lt (Int.ediv_le_self _ h0) h1
 by_cases c:i<n
 ·rw [if_pos (by rw [decide_eq_true_eq];omega)]
  refine⟨_,rfl,_,rfl,⟨rfl,i+1,by omega,?_,?_⟩,?_⟩
  ·dsimp only;rw [e,zac (by omega) (by omega)];omega
  ·dsimp only
   rw [Int.tdiv_eq_ediv_of_nonneg y0,ztx,Int.emod_eq_of_lt (by omega) (by omega),ey,Int.pow_succ,Int.ediv_ediv_of_nonneg (Int.pow_nonneg (by decide))]
  ·dsimp only;rw [e,zac (by omega) (by omega)];omega
 ·rw [if_neg (by rw [decide_eq_true_eq];omega),ey,show i=n from by omega]
  exact H
theorem qms {s:Slc} {a:Addr} {x0 x1 x2 x3:Int} {k:Int->zaa->Prop} {h:zaa} (ha:s.a=some a) (hl:s.len=4)
  (c0:zab h (a.add 0)=some (.int .u8 x0)) (c1:zab h (a.add 1)=some (.int .u8 x1)) (c2:zab h (a.add 2)=some (.int .u8 x2)) (c3:zab h (a.add 3)=some (.int .u8 x3))
  (b0:zup x0) (b1:zup x1) (b2:zup x2) (b3:zup x3) (H:k (qhd x0 x1 x2 x3) h):zfs s k h:=by
 unfold zfs zig;refine⟨fun q h'=>h'=h/\(q=(0,0)∨q=(x0,1)∨q=(x0*256+x1,2)∨q=((x0*256+x1)*256+x2,3)∨q=(qhd x0 x1 x2 x3,4)),fun q _=>(4-q.2).toNat,⟨rfl,.inl rfl⟩,?_⟩;have g0:=b0.1;have g0':=b0.2;have g1:=b1.1;have g1':=b1.2;have g2:=b2.1;have g2':=b2.2;have g3:=b3.1;have g3':=b3.2;rintro y i h' ⟨rfl,e⟩;unfold zhh;rw [hl];rcases e with e | e | e | e | e <;> (obtain⟨rfl,rfl⟩:=Prod.mk.injEq _ _ _ _ ▸ e)
 ·rw [if_pos (by decide)]
  refine⟨a,ha,by decide,by decide,x0,c0,_,rfl,_,rfl,⟨rfl,.inr (.inl ?_)⟩,by dsimp only;decide⟩;rw [zji,zji,zji];refine Prod.ext ?_ rfl;dsimp only;omega
 ·rw [if_pos (by decide)]
  refine⟨a,ha,by decide,by decide,x1,c1,_,rfl,_,rfl,⟨rfl,.inr (.inr (.inl ?_))⟩,by dsimp only;decide⟩;rw [zji,zji,zji];refine Prod.ext ?_ rfl;dsimp only;omega
 ·rw [if_pos (by decide)]
  refine⟨a,ha,by decide,by decide,x2,c2,_,rfl,_,rfl,⟨rfl,.inr (.inr (.inr (.inl ?_)))⟩,by dsimp only;decide⟩;rw [zji,zji,zji];refine Prod.ext ?_ rfl;dsimp only;omega
 ·rw [if_pos (by decide)]
  refine⟨a,ha,by decide,by decide,x3,c3,_,rfl,_,rfl,⟨rfl,.inr (.inr (.inr (.inr ?_)))⟩,by dsimp only;decide⟩;unfold qhd;rw [zji,zji,zji];refine Prod.ext ?_ rfl;dsimp only;omega
 ·rw [if_neg (by decide)]
  exact H
theorem qh5 (n:Nat):zkc [.int .u8 0] n=b8 (List.replicate n 0):=by
 rw [← zcm];exact zte n
theorem qfl {N w j:Nat} (hj:j<w):(List.replicate (w-j) (0:Int)++(hiL N w).drop (w-j)).set (w-1-j) ((N / 256 ^ j % 256:Nat):Int)=List.replicate (w-(j+1)) (0:Int)++(hiL N w).drop (w-(j+1)):=by
 have l:=zga N w;have e:w-j=(w-(j+1))+1:=by omega
 rw [show w-1-j=w-(j+1) from by omega];rw [List.drop_eq_getElem_cons (i:=w-(j+1)) (by omega),zyo (by omega),← e,show w-1-(w-(j+1))=j from by omega];generalize (hiL N w).drop (w-j)=D;rw [e,List.replicate_succ',List.append_assoc,List.set_append_right _ _ (by rw [List.length_replicate];exact Nat.le_refl _),List.length_replicate,Nat.sub_self];rfl
theorem zxy {N w:Nat} {k:Slc->zaa->Prop} {h:zaa} (hN:N<18446744073709551616) (hw:w<=64) (H:∀ h',Blk h' h.size (b8 (hiL N w)) 5->Ext h.size h h'->k ⟨some ⟨h.size,0,none⟩,w,w⟩ h'):zg1 (N:Int) (w:Int) k h:=by
 unfold zg1;refine⟨_,_,by omega,by omega,by omega,by omega,rfl,rfl,_,rfl,?_⟩;rw [Int.toNat_natCast,zac (by omega) (by omega),qh5];have P:=Blk.push h (b8 (List.replicate w 0)) 5;have X:=Ext.push h (.cells (b8 (List.replicate w 0)).toArray 5) (Nat.le_refl _);generalize h.push (.cells (b8 (List.replicate w 0)).toArray 5)=h1 at *;unfold zlc;refine⟨fun q h'=>∃ j:Nat,j<=w/\q.2=(w:Int)-1-(j:Int)/\q.1=((N / 256 ^ j:Nat):Int)/\Blk h' h.size (b8 (List.replicate (w-j) 0++(hiL N w).drop (w-j))) 5/\Ext h.size h h',fun q _=>(q.2+1).toNat,⟨0,Nat.zero_le _,by dsimp only;omega,by simp,?_,X⟩,?_⟩
 ·rw [Nat.sub_zero,List.drop_of_length_le (by rw [zga];exact Nat.le_refl _),List.append_nil];exact P
 rintro y i h2 ⟨j,hj,e2,e1,P2,X2⟩;dsimp only at e1 e2 P2;subst e2;unfold zjt
 have ln:(List.replicate (w-j) (0:Int)++(hiL N w).drop (w-j)).length=w:=by
  rw [List.length_append,List.length_replicate,List.length_drop,zga];omega
 by_cases c:j<w
 ·rw [if_pos (by rw [decide_eq_true_eq];omega)]
  have ea:((⟨h.size,0,none⟩:Addr).add (((w:Int)-1-(j:Int)).toNat*1))=⟨h.size,w-1-j,none⟩:=by
   rw [add_mk,Nat.zero_add,Nat.mul_one];congr 1;omega
  have hd:N / 256 ^ j<=N:=Nat.div_le_self _ _;have h3:=P2.set (i:=w-1-j) (v:=.int .u8 ((N / 256 ^ j % 256:Nat):Int));rw [show (b8 (List.replicate (w-j) 0++(hiL N w).drop (w-j))).set (w-1-j) (.int .u8 ((N / 256 ^ j % 256:Nat):Int))=b8 ((List.replicate (w-j) 0++(hiL N w).drop (w-j)).set (w-1-j) ((N / 256 ^ j % 256:Nat):Int)) from List.map_set.symm,qfl c] at h3
  have ev:IntKind.u8.wrap (Int.tmod y 256)=((N / 256 ^ j % 256:Nat):Int):=by
   rw [e1];generalize N / 256 ^ j=z at *;rw [Int.tmod_eq_emod_of_nonneg (by omega),wU8];omega
  refine⟨⟨h.size,0,none⟩,rfl,by omega,by dsimp only;omega,_,?_,rfl,_,rfl,_,rfl,?_⟩
  ·rw [ea];exact P2.wr (by rw [List.length_map,ln];omega)
  ·rw [ea,ev]
   rw [zac (by omega) (by omega)];refine⟨⟨j+1,by omega,by dsimp only;omega,?_,h3,X2.trans (Ext.set _ _ (Nat.le_refl _))⟩,by dsimp only;omega⟩;dsimp only;rw [e1,Nat.pow_succ,← Nat.div_div_eq_div_mul];generalize N / 256 ^ j=z at *;rw [Int.tdiv_eq_ediv_of_nonneg (by omega),zji];omega
 ·rw [if_neg (by rw [decide_eq_true_eq];omega)]
  have ej:j=w:=by omega
  rw [ej,Nat.sub_self] at P2;exact H _ (by simpa using P2) X2
theorem zws {k:Slc->zaa->Prop} {h:zaa} (H:∀ h',Blk h' h.size (u32s rcL) 51->Ext h.size h h'->k ⟨some ⟨h.size,0,none⟩,64,64⟩ h'):zcu k h:=by
 unfold zcu;refine⟨_,_,rfl,rfl,?_⟩;exact H _ (Blk.push h (u32s rcL) 51) (Ext.push h (.cells (u32s rcL).toArray 51) (Nat.le_refl _))
end Go.Q.Yo
end
section
namespace Go.Q.Yo
theorem qqw {B:Nat} {t:Slc} {h1:zaa} {l1:List Int} {v:Int} {K:Slc->zaa->Prop} (R:Row B h1 51 1 t (u32s l1)) (hB:B<=h1.size) (hl:l1.length<=1000)
  (F:∀ t' h2,Row B h2 51 1 t' (u32s (l1++[v]))->Ext B h1 h2->K t' h2):∃(b28:Nat) (h29:zaa),b28=h1.size/\h29=h1.push (.cells ([.int .u32 v]).toArray 51)/\App 51 1 4 [.int .u32 0] h29 t 1 ([.int .u32 v]) K:=by
 refine⟨_,_,rfl,rfl,?_⟩;have R2:=R.pushed (.cells ([.int .u32 v]:List Value).toArray 51);have W2:=Ext.push h1 (.cells ([.int .u32 v]:List Value).toArray 51) (Nat.le_refl _);generalize h1.push (.cells ([.int .u32 v]:List Value).toArray 51)=h2 at *;have z2:=W2.size;have lt:t.len=l1.length:=by have:=R.len;rw [this,List.length_map]
 refine App.row2 R2 (by omega) rfl (by simp) (fun x hx=>by rw [List.mem_singleton] at hx;rw [hx];rfl) (by omega) (by simp only [maxLen];omega) fun t' h3 R3 l3 z3 kp _ _=>?_;refine F t' h3 (by rw [u32s,List.map_append];exact R3) ?_;have ne:∀ i,i<B->t.blk≠some i:=fun i hi e=>by have:=(R.bd e).1;omega
 exact⟨by omega,fun i hi=>(kp i (by omega) (ne i hi)).trans (W2.block i (by omega))⟩
theorem zoa {h:zaa} {B:Nat} {t:Slc} {l:List Int} (R:Row B h 51 1 t (u32s l)) {i:Int} {j:Nat} (hi:i=(j:Int)) (hj:j<l.length):∃ a:Addr,t.a=some a/\(0:Int)<=i/\i<(t.len:Int)/\zab h (a.add (i.toNat*1))=some (.int .u32 (l.getD j 0)):=by
 have lt:t.len=l.length:=by have:=R.len;rw [this,List.length_map]
 obtain⟨a,ha,hc⟩:=R.at (j:=j) (by omega);refine⟨a,ha,by omega,by omega,?_⟩;rw [hi,Int.toNat_natCast,Nat.mul_one,hc];simp [hj]
theorem zxa {t2:Addr} {t3 t4 t5 t7:Slc} {t6:Int} {Hs W:List Int} {g kb B:Nat} {h:zaa} {k:List Int->zaa->Prop} {nx1:Slc->zaa->Prop} {nx2 nx3 nx4:Slc × Int->zaa->Prop}
  (lH:Hs.length=8) (aH:AW Hs) (e4:t4=⟨some ⟨g,0,none⟩,8,8⟩) (Q:Blk h g (u32s Hs) 51) (e5:t5=⟨some ⟨kb,0,none⟩,64,64⟩) (C:Blk h kb (u32s rcL) 51) (R:Row B h 51 1 t7 (u32s W)) (lW:W.length=64)
  (F:∀ h',Blk h' h.size (u32s (zjj Hs (zhw Hs W 64) 8)) 51->Ext h.size h h'->nx2 (⟨some ⟨h.size,0,none⟩,8,8⟩,IntKind.i64.wrap (t6+64)) h') :
  zik t2 t3 t4 t5 t6 t7 (Hs.getD 0 0) (Hs.getD 1 0) (Hs.getD 2 0) (Hs.getD 3 0) (Hs.getD 4 0) (Hs.getD 5 0) (Hs.getD 6 0) (Hs.getD 7 0) 0 k nx1 nx2 nx3 nx4 h:=by
 unfold zik;refine⟨fun q h'=>h'=h/\∃ i:Nat,i<=64/\q.2.2.2.2.2.2.2.2=(i:Int)/\zhw Hs W i=[q.1,q.2.1,q.2.2.1,q.2.2.2.1,q.2.2.2.2.1,q.2.2.2.2.2.1,q.2.2.2.2.2.2.1,q.2.2.2.2.2.2.2.1],fun q _=>(64-q.2.2.2.2.2.2.2.2).toNat,⟨rfl,0,by omega,rfl,?_⟩,?_⟩
 ·obtain⟨a,b,c,d,e,f,g',p,rfl⟩:=qpo lH;rfl
 rintro a b c d e f g' p i' h1 ⟨rfl,i,hi,ei,V⟩;dsimp only at ei V;subst ei;have wV:AW [a,b,c,d,e,f,g',p]:=by rw [← V];exact zx2 aH i
 have wa:W32 a:=wV a (by simp);have we:W32 e:=wV e (by simp);unfold zks;by_cases ci:i<64
 ·rw [if_pos (by rw [decide_eq_true_eq];omega)]
  refine zgb (n:=6) we (by omega) (zgb (n:=11) we (by omega) (zgb (n:=25) we (by omega) ⟨_,rfl,?_⟩));obtain⟨aw,haw,i0,i1,cw⟩:=zoa R (i:=(i:Int)) rfl (by omega);refine⟨⟨kb,0,none⟩,by rw [e5],by omega,by rw [e5];dsimp only;omega,rcL.getD i 0,?_,aw,haw,i0,i1,_,cw,?_⟩
  ·rw [Int.toNat_natCast,add_mk,Nat.zero_add,Nat.mul_one];exact zjy C (by show i<64;exact ci)
  refine zgb (n:=2) wa (by omega) (zgb (n:=13) wa (by omega) (zgb (n:=22) wa (by omega) ⟨_,rfl,_,rfl,_,rfl,_,rfl,?_⟩));rw [zac (by omega) (by omega)];refine⟨⟨rfl,i+1,by omega,by dsimp only;omega,?_⟩,by dsimp only;omega⟩;dsimp only;rw [zhw,V,qn1]
  have e1:zz1 [a,b,c,d,e,f,g',p] (W.getD i 0) (rcL.getD i 0)=zg2 (zg2 (zg2 (zg2 (p+zaq .u32 (zaq .u32 (trI e 6) (trI e 11)) (trI e 25))+zaq .u32 (zbe .u32 e f) (zbe .u32 (IntKind.u32.wrap (4294967295-e)) g'))+rcL.getD i 0)+W.getD i 0):=by
   rw [qjl we,← qnr we];rfl
  have e2:qey [a,b,c,d,e,f,g',p]=zg2 (zaq .u32 (zaq .u32 (trI a 2) (trI a 13)) (trI a 22)+zaq .u32 (zaq .u32 (zbe .u32 a b) (zbe .u32 a c)) (zbe .u32 b c)):=by
   rw [← qoc wa];rfl
  rw [e1,e2]
 ·rw [if_neg (by rw [decide_eq_true_eq];omega)]
  have e64:i=64:=by omega
  rw [e64] at V;rw [e4]
  have cl:∀ j:Nat,j<8->zab h1 ((⟨g,0,none⟩:Addr).add (((j:Nat):Int).toNat*1))=some (.int .u32 (Hs.getD j 0)):=fun j hj=>by
   rw [Int.toNat_natCast,add_mk,Nat.zero_add,Nat.mul_one];exact zjy Q (by omega)
  refine⟨⟨g,0,none⟩,rfl,by decide,by dsimp only;decide,_,cl 0 (by omega),⟨g,0,none⟩,rfl,by decide,by dsimp only;decide,_,cl 1 (by omega),⟨g,0,none⟩,rfl,by decide,by dsimp only;decide,_,cl 2 (by omega),⟨g,0,none⟩,rfl,by decide,by dsimp only;decide,_,cl 3 (by omega),⟨g,0,none⟩,rfl,by decide,by dsimp only;decide,_,cl 4 (by omega),⟨g,0,none⟩,rfl,by decide,by dsimp only;decide,_,cl 5 (by omega),⟨g,0,none⟩,rfl,by decide,by dsimp only;decide,_,cl 6 (by omega),⟨g,0,none⟩,rfl,by decide,by dsimp only;decide,_,cl 7 (by omega),_,_,rfl,rfl,_,rfl,?_⟩;rw [V] at F;obtain⟨a1,b1,c1,d1,f1,g1,p1,q1,rfl⟩:=qpo lH;rw [qen] at F;exact F _ (Blk.push h1 _ 51) (Ext.push h1 _ (Nat.le_refl _))
theorem zwc {l:List Int} {i j:Nat} (h:j<i):(l.take i).getD j 0=l.getD j 0:=by
 simp [List.getD_eq_getElem?_getD,List.getElem?_take_of_lt h]
theorem qbg {t2:Addr} {t3 t4 t5 t7:Slc} {t6:Int} {Hs bl:List Int} {g kb B:Nat} {h:zaa} {k:List Int->zaa->Prop} {nx1:Slc->zaa->Prop} {nx2 nx3:Slc × Int->zaa->Prop}
  (lH:Hs.length=8) (aH:AW Hs) (e4:t4=⟨some ⟨g,0,none⟩,8,8⟩) (Q:Blk h g (u32s Hs) 51) (e5:t5=⟨some ⟨kb,0,none⟩,64,64⟩) (C:Blk h kb (u32s rcL) 51) (Bg:g<B/\kb<B) (BB:B<=h.size) (R:Row B h 51 1 t7 (u32s ((zb1 bl 16).take 16)))
  (F:∀ g' h',Blk h' g' (u32s (zlh Hs bl)) 51->Ext B h h'->nx2 (⟨some ⟨g',0,none⟩,8,8⟩,IntKind.i64.wrap (t6+64)) h') :
  zir t2 t3 t4 t5 t6 t7 16 k nx1 nx2 nx3 h:=by
 unfold zir;refine⟨fun q h'=>∃ i:Nat,16<=i/\i<=64/\q.2=(i:Int)/\Row B h' 51 1 q.1 (u32s ((zb1 bl i).take i))/\Ext B h h',fun q _=>(64-q.2).toNat,⟨16,by omega,by omega,rfl,R,Ext.refl _ _⟩,?_⟩;rintro t i' h1 ⟨i,hi0,hi,ei,R1,X1⟩;dsimp only at ei R1;subst ei;have Q1:=Q.ext X1 Bg.1;have C1:=C.ext X1 Bg.2;have z1:=X1.size;have lS:=zgr bl i;have lT:((zb1 bl i).take i).length=i:=by rw [List.length_take];omega
 unfold zk9;by_cases ci:i<64
 ·rw [if_pos (by rw [decide_eq_true_eq];omega)]
  rw [zac (x:=(i:Int)-15) (by omega) (by omega),zac (x:=(i:Int)-2) (by omega) (by omega),zac (x:=(i:Int)-16) (by omega) (by omega),zac (x:=(i:Int)-7) (by omega) (by omega)];obtain⟨a15,ha15,p15,q15,c15⟩:=zoa R1 (i:=(i:Int)-15) (j:=i-15) (by omega) (by omega);obtain⟨a2,ha2,p2,q2,c2⟩:=zoa R1 (i:=(i:Int)-2) (j:=i-2) (by omega) (by omega);obtain⟨a16,ha16,p16,q16,c16⟩:=zoa R1 (i:=(i:Int)-16) (j:=i-16) (by omega) (by omega);obtain⟨a7,ha7,p7,q7,c7⟩:=zoa R1 (i:=(i:Int)-7) (j:=i-7) (by omega) (by omega);rw [zwc (by omega)] at c15 c2 c16 c7;have aS:=zyl bl i;have w15:=aS.getD (i-15);have w2:=aS.getD (i-2);refine⟨a15,ha15,p15,q15,_,c15,a15,ha15,p15,q15,_,c15,a15,ha15,p15,q15,_,c15,zgb (n:=7) w15 (by omega) ⟨c15,c15,zgb (n:=18) w15 (by omega) ⟨c15,qdv (n:=3) w15 (by omega) ?_⟩⟩⟩;refine⟨a2,ha2,p2,q2,_,c2,a2,ha2,p2,q2,_,c2,a2,ha2,p2,q2,_,c2,zgb (n:=17) w2 (by omega) ⟨c2,c2,zgb (n:=19) w2 (by omega) ⟨c2,qdv (n:=10) w2 (by omega) ?_⟩⟩⟩;refine⟨a16,ha16,p16,q16,_,c16,a7,ha7,p7,q7,_,c7,?_⟩;refine qqw R1 (by omega) (by rw [lT];omega) fun t' h2 R2 X2=>?_;rw [zac (x:=(i:Int)+1) (by omega) (by omega)];refine⟨_,rfl,⟨i+1,by omega,by omega,by dsimp only;omega,?_,X1.trans X2⟩,by dsimp only;omega⟩;dsimp only;rw [zt8 bl ci]
  have es:zp2 bl (zb1 bl i) i=IntKind.u32.wrap (IntKind.u32.wrap (IntKind.u32.wrap ((zb1 bl i).getD (i-16) 0+zaq .u32 (zaq .u32 (trI ((zb1 bl i).getD (i-15) 0) 7) (trI ((zb1 bl i).getD (i-15) 0) 18)) ((zb1 bl i).getD (i-15) 0 / 2 ^ 3))+(zb1 bl i).getD (i-7) 0)+zaq .u32 (zaq .u32 (trI ((zb1 bl i).getD (i-2) 0) 17) (trI ((zb1 bl i).getD (i-2) 0) 19)) ((zb1 bl i).getD (i-2) 0 / 2 ^ 10)):=by
   unfold zp2;rw [if_neg (by omega),qno w15,qpg w2];rfl
  rw [es];exact R2
 ·rw [if_neg (by rw [decide_eq_true_eq];omega)]
  have e64:i=64:=by omega
  rw [e64] at R1 lS;rw [List.take_of_length_le (by omega)] at R1
  have cl:∀ j:Nat,j<8->zab h1 ((⟨g,0,none⟩:Addr).add (((j:Nat):Int).toNat*1))=some (.int .u32 (Hs.getD j 0)):=fun j hj=>by
   rw [Int.toNat_natCast,add_mk,Nat.zero_add,Nat.mul_one];exact zjy Q1 (by omega)
  have e4':t4.a=some ⟨g,0,none⟩:=by rw [e4]
  have l4':t4.len=8:=by rw [e4]
  rw [l4'];refine⟨⟨g,0,none⟩,e4',by decide,by decide,_,cl 0 (by omega),⟨g,0,none⟩,e4',by decide,by decide,_,cl 1 (by omega),⟨g,0,none⟩,e4',by decide,by decide,_,cl 2 (by omega),⟨g,0,none⟩,e4',by decide,by decide,_,cl 3 (by omega),⟨g,0,none⟩,e4',by decide,by decide,_,cl 4 (by omega),⟨g,0,none⟩,e4',by decide,by decide,_,cl 5 (by omega),⟨g,0,none⟩,e4',by decide,by decide,_,cl 6 (by omega),⟨g,0,none⟩,e4',by decide,by decide,_,cl 7 (by omega),?_⟩;refine zxa lH aH e4 Q1 e5 C1 R1 lS fun h2 Q2 X2=>?_;exact F _ _ Q2 (X1.trans (X2.mono (by omega)))
theorem qbq {t2:Addr} {t3 t4 t5:Slc} {n:Nat} {M Hs:List Int} {g kb:Nat} {h:zaa} {k:List Int->zaa->Prop} {nx1:Slc->zaa->Prop} {nx2:Slc × Int->zaa->Prop}
  (S:SlcAt h t3 (b8 M)) (lM:64*(n+1)<=M.length) (l3:t3.len=M.length) (lc:t3.len<=t3.cap) (hm:M.length<=200000) (hM:∀ b∈M,zup b)
  (lH:Hs.length=8) (aH:AW Hs) (e4:t4=⟨some ⟨g,0,none⟩,8,8⟩) (Q:Blk h g (u32s Hs) 51) (e5:t5=⟨some ⟨kb,0,none⟩,64,64⟩) (C:Blk h kb (u32s rcL) 51)
  (F:∀ g' h',Blk h' g' (u32s (zlh Hs ((M.drop (64*n)).take 64))) 51->Ext h.size h h'->nx2 (⟨some ⟨g',0,none⟩,8,8⟩,IntKind.i64.wrap (((64*n:Nat):Int)+64)) h') :
  zix t2 t3 t4 t5 ((64*n:Nat):Int) (⟨none,0,0⟩:Slc) 0 k nx1 nx2 h:=by
 generalize ebl:(M.drop (64*n)).take 64=bl at F;unfold zix;refine⟨fun q h'=>∃ i:Nat,i<=16/\q.2=(i:Int)/\Row h.size h' 51 1 q.1 (u32s ((zb1 bl i).take i))/\Ext h.size h h',fun q _=>(16-q.2).toNat,⟨0,by omega,rfl,Row.nil _ _ _ _,Ext.refl _ _⟩,?_⟩;rintro t i' h1 ⟨i,hi,ei,R1,X1⟩;dsimp only at ei R1;subst ei;have z1:=X1.size;have lS:=zgr bl i;have lT:((zb1 bl i).take i).length=i:=by rw [List.length_take];omega
 unfold zkr;by_cases ci:i<16
 ·rw [if_pos (by rw [decide_eq_true_eq];omega)]
  rw [zac (x:=4*(i:Int)) (by omega) (by omega),zac (x:=((64*n:Nat):Int)+4*(i:Int)) (by omega) (by omega),zac (x:=((64*n:Nat):Int)+4*(i:Int)+4) (by omega) (by omega)];have S1:=S.ext X1;have lb:(b8 M).length=M.length:=by rw [List.length_map]
  have lo:(((64*n:Nat):Int)+4*(i:Int)).toNat=64*n+4*i:=by omega
  have hi':(((64*n:Nat):Int)+4*(i:Int)+4).toNat=64*n+4*i+4:=by omega
  obtain⟨a,ha,hl,hc⟩:=qc7 (lo:=64*n+4*i) (hi:=64*n+4*i+4) (m:=t3.cap) S1 (by omega) (by omega) (by omega) (by omega);refine⟨_,by omega,by omega,by omega,by omega,rfl,?_⟩;rw [lo,hi',Int.toNat_natCast];generalize zcb t3 1 (64*n+4*i) (64*n+4*i+4) t3.cap=s5 at *
  have cj:∀ j:Nat,j<4->zab h1 (a.add j)=some (.int .u8 (bl.getD (4*i+j) 0)):=fun j hj=>by
   rw [hc j (by omega),← ebl];have:64*n+4*i+j<M.length:=by omega
   rw [List.getElem?_map,List.getElem?_eq_getElem this];simp only [Option.map_some,List.getD_eq_getElem?_getD];rw [List.getElem?_take_of_lt (by omega),List.getElem?_drop,show 64*n+(4*i+j)=64*n+4*i+j from by omega,List.getElem?_eq_getElem this];rfl
  have bj:∀ j:Nat,zup (bl.getD j 0):=fun j=>by
   rcases Nat.lt_or_ge j bl.length with c | c
   ·rw [show bl.getD j 0=bl[j] from by simp [c]]
    refine hM _ ?_;have sub:∀ x∈bl,x∈M:=fun x hx=>by rw [← ebl] at hx;exact List.mem_of_mem_drop (List.mem_of_mem_take hx)
    exact sub _ (List.getElem_mem c)
   ·rw [show bl.getD j 0=0 from by simp [c]];exact⟨by omega,by omega⟩
  refine qms ha (by omega) (cj 0 (by omega)) (cj 1 (by omega)) (cj 2 (by omega)) (cj 3 (by omega)) (bj _) (bj _) (bj _) (bj _) ?_;refine qqw R1 (by omega) (by rw [lT];omega) fun t' h2 R2 X2=>?_;rw [zac (x:=(i:Int)+1) (by omega) (by omega)];refine⟨_,rfl,⟨i+1,by omega,by dsimp only;omega,?_,X1.trans X2⟩,by dsimp only;omega⟩;dsimp only;rw [zt8 bl (by omega)]
  have es:zp2 bl (zb1 bl i) i=IntKind.u32.wrap (qhd (bl.getD (4*i+0) 0) (bl.getD (4*i+1) 0) (bl.getD (4*i+2) 0) (bl.getD (4*i+3) 0)):=by
   unfold zp2;rw [if_pos ci];unfold zkn;rw [qb9 (bj _) (bj _) (bj _) (bj _)];have g0:=bj (4*i+0);have g1:=bj (4*i+1);have g2:=bj (4*i+2);have g3:=bj (4*i+3);unfold zup at g0 g1 g2 g3;rw [ztx];unfold qhd;simp only [Nat.add_zero] at *;omega
  rw [es];exact R2
 ·rw [if_neg (by rw [decide_eq_true_eq];omega)]
  have e16:i=16:=by omega
  rw [e16] at R1;exact qbg lH aH e4 (Q.ext X1 Q.lt) e5 (C.ext X1 C.lt) ⟨Q.lt,C.lt⟩ z1 R1 fun g' h2 Q2 X2=>F g' h2 Q2 (X1.trans X2)
end Go.Q.Yo
end
section
namespace Go.Q.Yo
theorem zyv {l:List Int} {i:Nat} (h:i<l.length):l.getD i 0=l[i]:=by simp [h]
theorem qa9 {H:List Int} (hH:AW H) {i j:Nat} (hi:i<32):zvr H i=(hiL (H.getD (i / 4) 0).toNat 4).getD (i % 4) 0:=by
 rw [qg0 hH hi];have l:=zga (H.getD (i / 4) 0).toNat 4;have:i % 4<4:=Nat.mod_lt _ (by omega);rw [zyv (l:=hiL _ _) (by omega),zyo this]
theorem qfu {b1 b2 g:Nat} {t4:Slc} {Hs:List Int} {B:Nat} {h0 h:zaa} {k:List Int->zaa->Prop} {nx1:Slc->zaa->Prop} {nx2:Slc × Int->zaa->Prop}
  (e4:t4=⟨some ⟨g,0,none⟩,8,8⟩) (Q:Blk h g (u32s Hs) 51) (lH:Hs.length=8) (aH:AW Hs) (P1:Blk h b1 (arr 32 .u8 ([]:List Int)) 29) (P2:Blk h b2 (arr 32 .u8 ([]:List Int)) 29)
  (d:b1≠b2) (Bb:B<=b1/\B<=b2) (X:Ext B h0 h) (F:∀ h',Ext B h0 h'->k (outUp Hs 32) h'):zib ⟨b1,0,none⟩ t4 ⟨b2,0,none⟩ 0 k nx1 nx2 h:=by
 unfold zib;have P2':Blk h b2 (b8 (outUp Hs 0)) 29:=P2;have dg:b2≠g:=Blk.unlike P2 Q (by decide);refine⟨fun i h'=>0<=i/\i<=32/\Blk h' g (u32s Hs) 51/\Blk h' b1 (arr 32 .u8 ([]:List Int)) 29/\Blk h' b2 (b8 (outUp Hs i.toNat)) 29/\Ext B h0 h',fun i _=>(32-i).toNat,⟨by omega,by omega,Q,P1,P2',X⟩,?_⟩;rintro i h1 ⟨i0,i1,Q1,R1,R2,X1⟩;have lo:=zkx Hs i.toNat;unfold zk6;by_cases c:i<32
 ·rw [if_pos (by rw [decide_eq_true_eq];exact c)]
  have ed:Int.tdiv i 4=((i.toNat / 4:Nat):Int):=by rw [Int.tdiv_eq_ediv_of_nonneg i0];omega
  have em:Int.tmod i 4=((i.toNat % 4:Nat):Int):=by rw [Int.tmod_eq_emod_of_nonneg i0];omega
  rw [ed,em,zac (by omega) (by omega)];have w:=aH.getD (i.toNat / 4);have w0:=w.1;have w1:=w.2;refine⟨⟨g,0,none⟩,by rw [e4],by omega,by rw [e4];dsimp only;omega,Hs.getD (i.toNat / 4) 0,?_,?_⟩
  ·rw [Int.toNat_natCast,add_mk,Nat.zero_add,Nat.mul_one];exact zjy Q1 (by omega)
  have ew:IntKind.u64.wrap (Hs.getD (i.toNat / 4) 0)=(((Hs.getD (i.toNat / 4) 0).toNat:Nat):Int):=by rw [zji];omega
  rw [ew];refine zxy (w:=4) (by omega) (by omega) fun h2 B2 X2=>?_;have l4:=zga (Hs.getD (i.toNat / 4) 0).toNat 4;have m4:i.toNat % 4<4:=Nat.mod_lt _ (by omega);refine⟨_,rfl,by omega,by dsimp only;omega,zvr Hs i.toNat,?_,i0,c,?_⟩
  ·rw [Int.toNat_natCast,add_mk,Nat.zero_add,Nat.mul_one,B2.cell,qa9 (j:=0) aH (by omega),List.getElem?_map,List.getElem?_eq_getElem (by omega),zyv (l:=hiL _ _) (by omega)]
   rfl
  rw [add_mk,Nat.zero_add,Nat.mul_one];have Q2:=Q1.ext X2 Q1.lt;have S1:=R1.ext X2 R1.lt;have S2:=R2.ext X2 R2.lt;refine⟨_,S2.wr (by rw [List.length_map];omega),rfl,_,rfl,?_⟩;rw [zac (by omega) (by omega)];have z:=X1.size;refine⟨⟨by omega,by omega,Q2.old (setH_other dg.symm),S1.old (setH_other d),?_,?_⟩,by dsimp only;omega⟩
  ·rw [show (i+1).toNat=i.toNat+1 from by omega,outUp,b8,List.map_set]
   exact S2.set (i:=i.toNat) (v:=.int .u8 (zvr Hs i.toNat))
  ·refine X1.trans ((X2.mono ?_).trans (Ext.set _ _ Bb.2))
   have:=R2.lt;omega
 ·rw [if_neg (by rw [decide_eq_true_eq];exact c)]
  rw [show i.toNat=32 from by omega] at R2 lo;have ea:arr 32 .u8 (outUp Hs 32)=b8 (outUp Hs 32):=zcq lo;refine⟨outUp Hs 32,by rw [ea];exact CellsAt.of_blk R2,_,WrsAt.of_blk R1 (by show 32<=32;omega),rfl,outUp Hs 32,CellsAt.of_blk (R1.sets_all (by rw [ea,List.length_map,lo];rfl)),?_⟩;exact F _ (X1.trans (Ext.sets _ _ _ Bb.1))
theorem qg3 {bs:List Int} (hb:∀ b∈bs,zup b):∀ b∈padD bs,zup b:=fun b hx=>by
 unfold padD at hx;rcases List.mem_append.1 hx with hx | hx
 ·rcases List.mem_append.1 hx with hx | hx
  ·rcases List.mem_append.1 hx with hx | hx
   ·exact hb b hx
   ·rw [List.mem_singleton] at hx;rw [hx];exact⟨by omega,by omega⟩
  ·rw [List.mem_replicate] at hx;rw [hx.2];exact⟨by omega,by omega⟩
 ·unfold qb4 at hx
  obtain⟨i,_,rfl⟩:=List.mem_map.1 hx;rw [wU8];exact⟨by omega,by omega⟩
theorem qcu {s:Slc} {bs:List Int} {k:List Int->zaa->Prop} {h:zaa} (A:SlcAt h s (b8 bs)) (ls:s.len=bs.length) (m:bs.length<=60000) (hb:∀ b∈bs,zup b)
  (H:∀ h',Ext h.size h h'->k (shaD bs) h'):zgv s k h:=by
 unfold zgv;refine⟨_,_,rfl,rfl,_,_,rfl,rfl,b8 bs,?_⟩;have P:=Blk.push h (arr 32 .u8 ([]:List Int)) 29;have W:=Ext.push h (.cells (arr 32 .u8 ([]:List Int)).toArray 29) (Nat.le_refl _);have pl:=P.lt;generalize h.push (.cells (arr 32 .u8 ([]:List Int)).toArray 29)=h2 at *;have z2:=W.size;have Q:=Blk.push h2 ([]:List Value) 5;have W2:=Ext.push h2 (.cells ([]:List Value).toArray 5) (Nat.le_refl _);generalize h2.push (.cells ([]:List Value).toArray 5)=h4 at *;have z4:=W2.size;obtain⟨b1,eb1⟩:∃ y,y=h.size:=⟨_,rfl⟩
 have X04:Ext b1 h h4:=by rw [eb1];exact W.trans (W2.mono z2)
 have P4:=P.ext W2 pl;have A4:SlcAt h4 s (b8 bs):=(A.ext W).ext W2;rw [← eb1] at P4 H pl z2 ⊢;have R0:Row (b1+1) h4 5 1 ⟨some ⟨h2.size,0,none⟩,0,0⟩ (b8 ([]:List Int)):=Row.of_blk (xs:=[]) (zs:=[]) Q (by omega) rfl rfl (by omega);have zb4:b1+1<=h4.size:=by omega
 clear P W W2 A;refine⟨A4,?_⟩
 have app:∀ {t:Slc} {h1:zaa} {l1 l2:List Int} {m2:Nat} {K:Slc->zaa->Prop},Row (b1+1) h1 5 1 t (b8 l1)->Blk h1 b1 (arr 32 .u8 ([]:List Int)) 29->Ext b1 h h1->l1.length<=61000->l2.length=m2->m2<=61000->b1+1<=h1.size ->
   (∀ t' h2,Row (b1+1) h2 5 1 t' (b8 (l1++l2))->Blk h2 b1 (arr 32 .u8 ([]:List Int)) 29->Ext b1 h h2->t'.len=l1.length+m2->b1+1<=h2.size->K t' h2)->App 5 1 1 [.int .u8 0] h1 t m2 (b8 l2) K:=fun {t h1 l1 l2 m2 K} R B X hl hl2 hm hz F=>by
  have lt:t.len=l1.length:=by have:=R.len;rw [this,List.length_map]
  refine App.row2 R hz rfl (by simp [hl2]) (fun x hx=>by obtain⟨_,_,rfl⟩:=List.mem_map.1 hx;rfl) (by omega) (by simp only [maxLen];omega) fun t' h2 R2 l2' z2 kp _ _=>?_;have ne:∀ i,i<=b1->t.blk≠some i:=fun i hi e=>by have:=(R.bd e).1;omega
  refine F t' h2 (by rw [b8,List.map_append];exact R2) (B.old (kp b1 B.lt (ne b1 (Nat.le_refl _)))) (X.trans ⟨z2,fun i hi=>kp i (by omega) (ne i (by omega))⟩) (by omega) (by omega)
 refine app R0 P4 X04 (by simp) ls.symm (by omega) zb4 fun s6 h6 R6 P6 X6 l6 z6=>?_;rw [List.nil_append] at R6;refine⟨_,_,rfl,rfl,?_⟩;have W7:=Ext.push h6 (.cells ([.int .u8 128]:List Value).toArray 5) (Nat.le_refl _);have R7:=R6.pushed (.cells ([.int .u8 128]:List Value).toArray 5);generalize h6.push (.cells ([.int .u8 128]:List Value).toArray 5)=h7 at *;have z7:=W7.size;have P7:=P6.ext W7 P6.lt;have X07:Ext b1 h h7:=X6.trans (W7.mono (by omega));refine app (l2:=[128]) R7 P7 X07 (by omega) rfl (by omega) (by omega) fun s8 h9 R9 P9 X9 l9 z9=>?_;unfold zl9;refine⟨fun t h'=>∃ j,j<=zl8 bs.length/\Row (b1+1) h' 5 1 t (b8 (bs++[128]++List.replicate j 0))/\Blk h' b1 (arr 32 .u8 ([]:List Int)) 29/\Ext b1 h h'/\t.len=bs.length+1+j/\b1+1<=h'.size,fun t _=>bs.length+1+zl8 bs.length-t.len,⟨0,Nat.zero_le _,by simpa using R9,P9,X9,by omega,z9⟩,?_⟩;rintro t h1 ⟨j,hj,R1,P1,X1,lt,z1⟩;have pn:zl8 bs.length<64:=by unfold zl8;omega
 have pm:(bs.length+1+zl8 bs.length) % 64=56:=by unfold zl8;omega
 have et:Int.tmod (t.len:Int) 64=(((bs.length+1+j) % 64:Nat):Int):=by
  rw [Int.tmod_eq_emod_of_nonneg (by omega),lt];omega
 unfold zky;rw [et];by_cases c:(bs.length+1+j) % 64=56
 ·have ej:j=zl8 bs.length:=by omega
  rw [if_neg (by rw [c];decide)];rw [ej] at R1;clear lt c hj et;rw [ls,show IntKind.u64.wrap (IntKind.u64.wrap ((bs.length:Nat):Int)*8)=((bs.length*8:Nat):Int) from by rw [zji,zji];omega];refine zxy (w:=8) (by omega) (by omega) fun h2' B2 X2=>?_;refine⟨b8 (hiL (bs.length*8) 8),Blk.slc (o:=0) (n:=8) B2 (by rw [List.drop_zero,List.take_of_length_le (by rw [List.length_map,zga];exact Nat.le_refl _)]),?_⟩;have z2':=X2.size;have R2:=R1.ext X2 fun g hg=>(R1.bd hg).2;have lh:=zga (bs.length*8) 8;refine app R2 (P1.ext X2 P1.lt) (X1.trans (X2.mono (by omega))) (by simp only [List.length_append,List.length_replicate,List.length_singleton];omega) lh (by dsimp only;omega) (by omega) fun t3 h3 R3 P3 X3 l3 z3=>?_;rw [← qf9 (by omega)] at R3
  change Row (b1+1) h3 5 1 t3 (b8 (padD bs)) at R3
  have hM:=qg3 hb;obtain⟨c',lM⟩:=zun bs
  have esh:shaD bs=outUp (zgg (padD bs) (c'+1)) 32:=by
   unfold shaD;rw [lM,Nat.mul_div_cancel_left _ (by omega)]
  have l3':t3.len=64*(c'+1):=by have:=R3.len;rw [this,List.length_map,lM]
  simp only [List.length_append,List.length_replicate,List.length_singleton] at l3;rw [esh] at H;generalize padD bs=M at *;refine⟨_,_,rfl,rfl,?_⟩;have Q4:=Blk.push h3 (u32s startL) 51;have W4:=Ext.push h3 (.cells (u32s startL).toArray 51) (Nat.le_refl _)
  change zcu _ (h3.push (.cells (u32s startL).toArray 51))
  generalize h3.push (.cells (u32s startL).toArray 51)=h5 at *;have z5:=W4.size;refine zws fun h8 C8 X8=>?_;have z8:=X8.size;have Q8:=Q4.ext X8 Q4.lt;have R8:=(R3.ext W4 fun g hg=>(R3.bd hg).2).ext X8 fun g hg=>by have:=(R3.bd hg).2;omega
  have P8:=(P3.ext W4 P3.lt).ext X8 (by have:=P3.lt;omega);have X08:Ext b1 h h8:=X3.trans ((W4.mono (by omega)).trans (X8.mono (by omega)));have S8:=R8.slc;have lc:t3.len<=t3.cap:=R8.cap;generalize h5.size=kb at *;generalize h3.size=gg at *;unfold zl2;refine⟨fun q h'=>∃ n g:Nat,n<=c'+1/\q.2=((64*n:Nat):Int)/\q.1=⟨some ⟨g,0,none⟩,8,8⟩/\Blk h' g (u32s (zgg M n)) 51/\Ext h8.size h8 h',fun q _=>(64*((c':Int)+1)-q.2).toNat,⟨0,gg,by omega,rfl,rfl,Q8,Ext.refl _ _⟩,?_⟩;rintro t4 q6 h9 ⟨n,g,hn,e6,e4,Q9,X9⟩;dsimp only at e6 e4;subst e6;have z9:=X9.size;have C9:=C8.ext X9 C8.lt;have lB:=zkv M n;have wB:=zxj M n;unfold zkh;by_cases c2:n<c'+1
  ·rw [if_pos (by rw [decide_eq_true_eq];omega)]
   refine qbq (S8.ext X9) (by omega) (by omega) lc (by omega) hM lB wB e4 Q9 rfl C9 fun g' h10 Q10 X10=>?_;rw [zac (by omega) (by omega)];exact⟨⟨n+1,g',by omega,by dsimp only;omega,rfl,Q10,X9.trans (X10.mono z9)⟩,by dsimp only;omega⟩
  ·rw [if_neg (by rw [decide_eq_true_eq];omega)]
   have en:n=c'+1:=by omega
   rw [en] at Q9 lB wB;refine⟨_,_,rfl,rfl,?_⟩;have P10:=Blk.push h9 (arr 32 .u8 ([]:List Int)) 29;have W10:=Ext.push h9 (.cells (arr 32 .u8 ([]:List Int)).toArray 29) (Nat.le_refl _);generalize h9.push (.cells (arr 32 .u8 ([]:List Int)).toArray 29)=h10 at *;have P8l:=P8.lt;refine qfu (B:=b1) (h0:=h) e4 (Q9.ext W10 Q9.lt) lB wB ((P8.ext X9 P8.lt).ext W10 (by omega)) P10 (by omega) ⟨by omega,by omega⟩ (X08.trans ((X9.mono (by omega)).trans (W10.mono (by omega)))) fun h11 X11=>?_;exact H h11 X11
 ·have cj:j<zl8 bs.length:=by
   rcases Nat.lt_or_ge j (zl8 bs.length) with q | q
   ·exact q
   ·exact absurd (by rw [show j=zl8 bs.length from by omega];exact pm) c
  rw [if_pos (by simp only [bne_iff_ne,ne_eq];omega)];refine⟨_,_,rfl,rfl,?_⟩;have W3:=Ext.push h1 (.cells ([.int .u8 0]:List Value).toArray 5) (Nat.le_refl _);have R3:=R1.pushed (.cells ([.int .u8 0]:List Value).toArray 5);generalize h1.push (.cells ([.int .u8 0]:List Value).toArray 5)=h3 at *;have z3:=W3.size;refine app (l2:=[0]) R3 (P1.ext W3 P1.lt) (X1.trans (W3.mono (by omega))) (by simp only [List.length_append,List.length_replicate,List.length_singleton];omega) rfl (by omega) (by omega) fun t' h4' R4 P4' X4' l4 z4'=>?_;simp only [List.length_append,List.length_replicate,List.length_singleton] at l4;refine⟨⟨j+1,by omega,?_,P4',X4',by omega,z4'⟩,by dsimp only;omega⟩;rw [List.replicate_succ',← List.append_assoc];exact R4
end Go.Q.Yo
end

/- A part of the proof of statements of this seat: lemmas, no statement of their own. -/
import Derived.Test.YtmilimlmimckbaaGreatDoorYoZaz
import Derived.Test.YtmilimlmimckbaaGreatDoorYoZas
import Derived.Test.YtmilimlmimckbaaGreatDoorYoZat
import Derived.Test.YtmilimlmimckbaaGreatDoorYoZav
import Derived.Test.YtmilimlmimckbaaGreatDoorYoZaw
set_option linter.unusedVariables false
set_option linter.unusedSimpArgs false
set_option maxRecDepth 100000
section
namespace Go.Q.Yo
open Go.Q.Sg
theorem qeg {n w:Int} {k:Slc->zaa->Prop} {h:zaa} (w0:0<=w) (w1:w<=8) (n0:0<=n) (n1:n<18446744073709551616) (H:∀ s' h',Row h.size h' 5 1 s' (b8 (formL n w.toNat))->Ext h.size h h'->k s' h'):ze9 n w k h:=by
 unfold ze9;refine⟨fun q h'=>∃ l,Row h.size h' 5 1 q.2.1 (b8 l)/\l++formL q.1 (w-q.2.2).toNat=formL n w.toNat/\0<=q.1/\q.1<18446744073709551616/\0<=q.2.2/\q.2.2<=w/\Ext h.size h h',fun q _=>(w-q.2.2).toNat,⟨[],Row.nil _ _ _ _,by simp,n0,n1,by simp,by simpa using w0,Ext.refl _ _⟩,?_⟩;rintro n s i h1 ⟨l,R,hL,n0,n1,i0,i1,X⟩;simp only at R hL n0 n1 i0 i1;unfold zjm;have ht:Int.tmod n 256=n % 256:=Int.tmod_eq_emod_of_nonneg n0;have hd:Int.tdiv n 256=n / 256:=Int.tdiv_eq_ediv_of_nonneg n0;rw [ht,hd,wU8,show n % 256 % 256=n % 256 from by omega];by_cases hi:i<w
 ·rw [if_pos (by simpa using hi)]
  refine⟨_,_,rfl,rfl,?_⟩;have hll:l.length<=8:=by have:=congrArg List.length hL;simp [zbc] at this;omega
  have hlen:=R.len;simp at hlen;have hX:=X.size;refine App.row (R.pushed _) (by simp;omega) rfl rfl (by simp [Value.oneCell']) (by omega) (by simp only [maxLen];omega) fun s' h2 R' _ hs ho _=>?_;rw [zac (by omega) (by omega),zdp (by omega) (by omega)];refine⟨_,rfl,_,rfl,⟨l++[n % 256],by simpa using R',?_,by simp only;omega,by simp only;omega,by simp only;omega,by simp only;omega,X.trans ⟨by simp at hs;omega,fun j hj=>?_⟩⟩,?_⟩
  ·simp only
   rw [show (w-i).toNat=(w-(i+1)).toNat+1 from by omega] at hL;simpa [formL] using hL
  ·rw [ho j (by simp;omega) (fun e=>by have:=(R.bd e).1;omega),Array.getElem?_push,if_neg (by omega)]
  ·show (w-(i+1)).toNat<(w-i).toNat
   omega
 ·rw [if_neg (by simpa using hi)]
  have:(w-i).toNat=0:=by omega
  rw [this] at hL;simp [formL] at hL;subst hL;exact H _ _ R X
theorem zi0 {n:Int} {k:Slc->zaa->Prop} {h:zaa} (n0:0<=n) (n1:n<18446744073709551616) (H:∀ s' h',Row h.size h' 5 1 s' (b8 (zam n))->Ext h.size h h'->k s' h'):za2 n k h:=by
 unfold za2;refine⟨fun q h'=>∃(cur:List Int) (f:Nat),Row h.size h' 5 1 q.2 (b8 cur)/\cur++zet f q.1=zam n/\0<=q.1/\q.1<128 ^ f/\1<=f/\f<=10/\cur.length+f<=10/\Ext h.size h h',fun q _=>q.1.toNat,⟨[],10,Row.nil _ _ _ _,rfl,n0,by simp only;omega,by omega,by omega,by simp,Ext.refl _ _⟩,?_⟩;rintro m s h2 ⟨cur,f,R,hc,m0,m1,f1,f10,lc,X⟩;dsimp only at R hc m0 m1;have z:=X.size;obtain⟨f,rfl⟩:∃ g,f=g+1:=⟨f-1,by omega⟩
 unfold zh1;have e1:m.tmod 128=m % 128:=by rw [Int.tmod_eq_emod_of_nonneg m0]
 have e2:m.tdiv 128=m / 128:=by rw [Int.tdiv_eq_ediv_of_nonneg m0]
 have m64:m<1180591620717411303424:=by
  have:(128:Int) ^ (f+1)<=128 ^ 10:=by
   have h1:(128:Nat) ^ (f+1)<=128 ^ 10:=Nat.pow_le_pow_right (by omega) f10
   exact_mod_cast h1
  have h2:(128:Int) ^ 10=1180591620717411303424:=by decide
  omega
 by_cases hm:m>=128
 ·rw [if_pos (by simpa using hm),e1,e2,zqu (x:=m % 128) (by omega) (by omega),zqu (by omega) (by omega)]
  refine⟨_,_,rfl,rfl,?_⟩
  have hf:1<=f:=by
   rcases Nat.eq_zero_or_pos f with h0 | h0
   ·subst h0;simp at m1;omega
   ·exact h0
  refine zkb (m:=[m % 128+128]) (R.pushed _) (by simp;omega) rfl (by simp;omega) fun s' h3 R3 X3=>?_;have hlt:m / 128<128 ^ f:=Int.ediv_lt_of_lt_mul (by omega) (by rw [Int.pow_succ] at m1;exact m1)
  have hw:IntKind.u64.wrap (m / 128)=m / 128:=zdp (by omega) (by
   have:m / 128<18446744073709551616:=by omega
   exact this)
  rw [hw];refine⟨_,rfl,⟨_,f,R3,?_,by dsimp only;omega,hlt,hf,by omega,by simp;omega,X.trans ((Ext.push h2 _ z).trans X3)⟩,by dsimp only;omega⟩;dsimp only;rw [← hc,zet,if_neg (by omega)];simp
 ·rw [if_neg (by simpa using hm),wU8,show m % 256=m from by omega]
  refine⟨_,_,rfl,rfl,?_⟩;refine zkb (m:=[m]) (R.pushed _) (by simp;omega) rfl (by simp;omega) fun s' h3 R3 X3=>?_;refine H s' h3 ?_ (X.trans ((Ext.push h2 _ z).trans X3));rw [← hc,zet,if_pos (by omega)];exact R3
structure Ac (g h:zaa) (s:Slc) (l:List Int):Prop where
 X:Ext g.size g h
 R:Row g.size h 5 1 s (b8 l)
abbrev Nxt (g:zaa) (l out:List Int) (c:Nat) (k:Slc->zaa->Prop):Prop:=∀ s' h' l',l'=l++out->l'.length<=l.length+c->Ac g h' s' l'->k s' h'
section
variable {g h:zaa} {s:Slc} {l:List Int} {k:Slc->zaa->Prop}
theorem Ac.app (M:Ac g h s l) {v:List Int} {n c:Nat} (hn:n=v.length) (hc:v.length<=c) (hl:l.length+v.length<=70368744177664) (H:Nxt g l v c k):App 5 1 1 [.int .u8 0] h s n (b8 v) k :=
 zkb M.R M.X.size hn hl fun s' h' R' X'=>H s' h' _ rfl (by rw [List.length_append];omega) ⟨M.X.trans X',R'⟩
theorem Ac.ext {h':zaa} (M:Ac g h s l) (X:Ext h.size h h'):Ac g h' s l:=⟨M.X.trans (X.mono M.X.size),M.R.ext X fun g hg=>(M.R.bd hg).2⟩
theorem Ac.bytes (M:Ac g h s l) {t:Slc} {v:List Int} {c:Nat} (ht:SlcAt h t (b8 v)) (hn:t.len=v.length) (hc:v.length<=c) (hl:l.length+v.length<=70368744177664) (H:Nxt g l v c k):∃ w,SlcAt h t w/\App 5 1 1 [.int .u8 0] h s t.len w k :=
 ⟨_,ht,M.app hn hc hl H⟩
theorem Ac.row (M:Ac g h s l) {t:Slc} {v:List Int} {h1:zaa} {c:Nat} (hR:Row h.size h1 5 1 t (b8 v)) (hX:Ext h.size h h1) (hc:v.length<=c) (hl:l.length+v.length<=70368744177664) (H:Nxt g l v c k):∃ w,SlcAt h1 t w/\App 5 1 1 [.int .u8 0] h1 s t.len w k :=
 (M.ext hX).bytes hR.slc (Row.pb hR) hc hl H
theorem Ac.short (M:Ac g h s l) {n:Int} (n0:0<=n) (n1:n<18446744073709551616) (hl:l.length<=4398046511104) (H:Nxt g l (zam n) 10 k):za2 n (fun r h'=>∃ w,SlcAt h' r w/\App 5 1 1 [.int .u8 0] h' s r.len w k) h :=
 zi0 n0 n1 fun r h1 R1 X1=>M.row R1 X1 (zae n) (by have:=zae n;omega) H
theorem Ac.form (M:Ac g h s l) {n w:Int} (w0:0<=w) (w1:w<=8) (n0:0<=n) (n1:n<18446744073709551616) (hl:l.length<=4398046511104) (H:Nxt g l (formL n w.toNat) 8 k):ze9 n w (fun r h'=>∃ w,SlcAt h' r w/\App 5 1 1 [.int .u8 0] h' s r.len w k) h :=
 qeg w0 w1 n0 n1 fun r h1 R1 X1=>M.row R1 X1 (by rw [zbc];omega) (by rw [zbc];omega) H
theorem Ac.one (M:Ac g h s l) {v:Int} (hl:l.length<=4398046511104) (H:Nxt g l [v] 1 k):∃(b:Nat) (h':zaa),b=h.size/\h'=h.push (.cells ([.int .u8 v]:List Value).toArray 5)/\App 5 1 1 [.int .u8 0] h' s 1 ([.int .u8 v]) k :=
 ⟨_,_,rfl,rfl,(M.ext (Ext.push _ _ (Nat.le_refl _))).app (v:=[v]) rfl (by simp) (by simp;omega) H⟩
end
section
variable {g h:zaa}
theorem qir {n:Nat} (h:n<=1000000):(IntKind.u64.wrap (n:Int))=n:=zdp (by omega) (by omega)
theorem qa0 {s:Slc} {t:List Int} {k:Slc->zaa->Prop} (S:SlcAt h s (b8 t)) (l:s.len=t.length) (b:t.length<=1000000) (H:zk2 h (tx t) k):ze8 s k h:=by
 unfold ze8;rw [qir (by omega)];refine zi0 (by omega) (by omega) fun r h1 R1 X1=>?_;have sl:=zae (s.len:Int)
 exact(⟨X1,R1⟩:Ac h h1 r _).bytes (v:=t) (c:=t.length) (S.ext X1) l (Nat.le_refl _) (by omega) fun s' h' l' e _ M=>by
  subst e;exact H s' h' (by unfold tx;rw [← l];exact M.R) M.X
theorem Ac.text {s t:Slc} {l v:List Int} {k:Slc->zaa->Prop} (M:Ac g h s l) (S:SlcAt h t (b8 v)) (tl:t.len=v.length) (b:v.length<=1000000) (hl:l.length<=4398046511104) (H:Nxt g l (tx v) (v.length+10) k):ze8 t (fun r h'=>∃ w,SlcAt h' r w/\App 5 1 1 [.int .u8 0] h' s r.len w k) h :=
 qa0 S tl b fun r h1 R1 X1=>by
  have e:(tx v).length<=v.length+10:=by unfold tx;rw [List.length_append];have:=zae (v.length:Int);omega
  exact M.row R1 X1 e (by omega) H
theorem qac {s:Slc} {vs:List S_api_Entry} {es:List Ent} {k:Slc->zaa->Prop} (L:LsAt S_api_Entry.cs 2 h s vs) (M:Many (EntAt h) vs es) (wl:es.length<=1000000) (we:∀ e∈es,u64 e.1/\isB e.2/\e.2.length<=1000000) (H:zk2 h ((zhy entC).put es) k):ze6 s k h:=by
 have sl:=L.l;have ml:=M.l;unfold ze6;rw [qir (by omega)];refine zi0 (by omega) (by omega) fun r h1 R1 X1=>?_;have s10:=zae (s.len:Int);refine⟨fun q h'=>0<=q.2/\q.2<=es.length/\Ac h h' q.1 (zam s.len++(es.take q.2.toNat).flatMap entC.put),fun q _=>(es.length-q.2).toNat,⟨by dsimp only;omega,by dsimp only;omega,⟨X1,by simpa using R1⟩⟩,?_⟩;rintro out i h2 ⟨i0,i1,A⟩;dsimp only at i0 i1 A
 have la:(zam s.len++(es.take i.toNat).flatMap entC.put).length<=1000021000000:=by
  rw [List.length_append];have:=zdi (fun e he=>zqa (we e he).2.2) i.toNat (xs:=es) (f:=entC.put);have:=Nat.mul_le_mul_right 1000020 wl;omega
 unfold zgj;by_cases c:i<es.length
 ·rw [if_pos (by rw [decide_eq_true_eq];omega)]
  obtain⟨a,u,ha,_,hlt,hu,hc⟩:=(L.ext A.X).it i0 (by omega);obtain⟨e,he⟩:∃ e,es[i.toNat]? = some e:=⟨_,List.getElem?_eq_getElem (by omega)⟩
  have E:=(M.r _ _ _ hu he).ext A.X;have w:=we e (List.mem_of_getElem? he);refine⟨a,ha,i0,hlt,u.f_Term,qpp hc rfl,A.short (by rw [E.t];exact w.1.1) (by rw [E.t];exact w.1.2) (by omega) fun s3 h3 l3 e3 n3 A3=>?_⟩;obtain⟨a',u',ha',_,_,hu',hc'⟩:=(L.ext A3.X).it i0 (by omega);rw [hu] at hu';cases hu';have E3:=(M.r _ _ _ hu he).ext A3.X;refine⟨a',ha',i0,hlt,u.f_Cmd,qrw hc' rfl,A3.text E3.s E3.l w.2.2 (by omega) fun s4 h4 l4 e4 n4 A4=>?_⟩;rw [zac (x:=i+1) (by omega) (by omega)];refine⟨_,rfl,⟨by dsimp only;omega,by dsimp only;omega,?_⟩,by dsimp only;omega⟩;dsimp only;rw [show (i+1).toNat=i.toNat+1 from by omega,List.take_add_one,he,List.flatMap_append];subst e4;subst e3;rw [E.t] at A4;simpa [entC,PC.bind,shortC,txC] using A4
 ·rw [if_neg (by rw [decide_eq_true_eq];omega)]
  rw [show i.toNat=es.length from by omega,List.take_length] at A;exact H out h2 (by show Row _ _ _ _ _ (b8 (zam _++_));rw [← ml,← sl];exact A.R) A.X
theorem qbn {s:ByteArray} {k:Bool->zaa->Prop} (b:s.size<=1000000) (H:k (zj3 (sB s)) h):zi2 s k h:=by
 have e:∀ j:Nat,∀ hj:j<s.size,(sB s)[j]? = some (((s[j]'hj).toNat:Nat):Int):=fun j hj=>by
  have:(sB s)[j]? = (s.data[j]?).map fun x:UInt8=>((x.toNat:Nat):Int):=by unfold sB;simp
  rw [this];have:s.data[j]? = some (s[j]'hj):=by rw [Array.getElem?_eq_getElem (show j<s.data.size from hj)];rfl
  rw [this];rfl
 have sl:=zev s;unfold zi2;refine⟨fun i h'=>0<=i/\i<=s.size/\h'=h/\∀ j:Nat,(j:Int)<i->∀ x,(sB s)[j]? = some x->((decide (97<=x)&&decide (x<=122))||(decide (48<=x)&&decide (x<=57))||x==45)=true,fun i _=>(s.size-i).toNat,⟨by omega,by omega,rfl,fun j hj=>by omega⟩,?_⟩;rintro i h' ⟨i0,i1,rfl,hd⟩;unfold zj1;by_cases c:i<s.size
 ·rw [if_pos (by rw [decide_eq_true_eq];exact c)]
  have hx:=e i.toNat (by omega);refine⟨((s[i.toNat]'(by omega)).toNat:Int),i0,⟨by omega,rfl⟩,?_⟩;generalize ((s[i.toNat]'(by omega)).toNat:Int)=x at hx ⊢;by_cases q:((decide (97<=x)&&decide (x<=122))||(decide (48<=x)&&decide (x<=57))||x==45)=true
  ·rw [if_neg (by simp at q ⊢;omega),zac (x:=i+1) (by omega) (by omega)]
   refine⟨_,rfl,⟨by omega,by omega,rfl,fun j hj y hy=>?_⟩,by dsimp only;omega⟩;by_cases f:j=i.toNat
   ·subst f;rw [hx] at hy;cases hy;exact q
   ·exact hd j (by omega) y hy
  ·rw [if_pos (by simp at q ⊢;omega)]
   have:zj3 (sB s)=false:=by
    unfold zj3;rw [Bool.and_eq_false_iff]
    left
    rw [List.all_eq_false];exact⟨x,List.mem_of_getElem? hx,by simpa using q⟩
   rw [this] at H;exact H
 ·rw [if_neg (by rw [decide_eq_true_eq];exact c)]
  have al:((sB s).all fun c=>(decide (97<=c)&&decide (c<=122))||(decide (48<=c)&&decide (c<=57))||c==45)=true:=by
   rw [List.all_eq_true];intro x hx;obtain⟨j,hj⟩:=List.getElem?_of_mem hx;have:=(List.getElem?_eq_some_iff.1 hj).1;exact hd j (by omega) x hj
  have:zj3 (sB s)=(decide ((s.size:Int)>=1)&&decide ((s.size:Int)<=24)):=by
   unfold zj3;rw [al,Bool.true_and,sl];congr 1 <;> · apply decide_eq_decide.2;omega
  rw [this] at H;exact H
theorem qid {v:S_api_Box} {b:zpo} {k:Bool->zaa->Prop} (Bx:BoxAt h v b) (w:WfB b) (H:∀ h',Ext h.size h h'->k (zjg b) h'):zhf v k h:=by
 have tl:v.f_Tenant.size<=1000000:=by have:=congrArg List.length Bx.t;rw [zev] at this;have:=w.tl;omega
 have bl:=Bx.l;unfold zhf;refine bx0 fun h2 P2 X2=>⟨v.f_Tenant,P2.cl0 rfl,qbn tl ?_⟩
 have H:=H h2 X2;have eb:zjg b=(zj3 (sB v.f_Tenant)&&(decide (16<=b.2.2.2.length)&&decide (b.2.2.2.length<=4112))):=by unfold zjg;rw [Bx.t]
 cases hn:zj3 (sB v.f_Tenant) with
 | false =>
  rw [if_neg (by simp)];unfold zc7 zc9;rw [if_neg (by simp)];rw [hn,Bool.false_and] at eb
  rw [eb] at H;exact H
 | true =>
  rw [if_pos rfl];rw [hn,Bool.true_and] at eb;refine⟨v.f_Body,P2.cl rfl,?_⟩;unfold zc7 zc9;by_cases q:(v.f_Body.len:Int)>=16
  ·rw [if_pos (by rw [decide_eq_true_eq];exact q)]
   refine⟨v.f_Body,P2.cl rfl,?_⟩
   have:zjg b=decide ((v.f_Body.len:Int)<=4112):=by
    rw [eb,show decide (16<=b.2.2.2.length)=true from by rw [decide_eq_true_eq];omega,Bool.true_and];apply decide_eq_decide.2;omega
   rw [this] at H;exact H
  ·rw [if_neg (by rw [decide_eq_true_eq];exact q)]
   have:zjg b=false:=by
    rw [eb,show decide (16<=b.2.2.2.length)=false from by rw [decide_eq_false_iff_not];omega,Bool.false_and]
   rw [this] at H;exact H
theorem qgh {v:S_api_Box} {b:zpo} {k:Slc->zaa->Prop} (Bx:BoxAt h v b) (w:WfB b) (H:zk2 h (rawC.put b) k):zi4 v k h:=by
 have tl:v.f_Tenant.size=b.1.length:=by have:=congrArg List.length Bx.t;rwa [zev] at this
 have wl:=w.tl;have wb:=w.bl;have bl:=Bx.l;unfold zi4;refine bx0 fun h2 P2 X2=>⟨v.f_Tenant,P2.cl0 rfl,v.f_Tenant,P2.cl0 rfl,?_⟩
 rw [qir (by omega)];refine zi0 (by omega) (by omega) fun r1 h3 R3 X3=>⟨(P2.ext X3 P2.lt).cl0 rfl,?_⟩
 have z2:=X2.size;have s1:=zae (v.f_Tenant.size:Int);have M3:Ac h2 h3 r1 (zam v.f_Tenant.size):=⟨X3,R3⟩
 rw [show b8 (sB v.f_Tenant)=b8 b.1 from by rw [Bx.t]];refine M3.app (v:=b.1) (c:=1000000) tl (by omega) (by omega) fun s4 h4 l4 e4 n4 M4=>?_;have e0:=w.e;refine⟨v.f_Epoch,(P2.ext M4.X P2.lt).cl rfl,?_⟩;rw [Bx.e,zdp (x:=b.2.1) (by omega) (by omega)];refine M4.form (by omega) (by omega) e0.1 (by omega) (by omega) fun s5 h5 l5 e5 n5 M5=>?_;have S16:=Blk.arrS (P2.ext M5.X P2.lt) (i:=2) (n:=12) (y:=v.f_Nonce) rfl (by rw [Bx.n];exact w.nl);rw [Bx.n] at S16;refine⟨_,by omega,by omega,by omega,rfl,?_⟩;rw [show zcb ⟨some ((⟨h.size,0,none⟩:Addr).add 2),12,12⟩ 1 (0:Int).toNat (12:Int).toNat 12=⟨some ((⟨h.size,0,none⟩:Addr).add 2),12,12⟩ from qgz];refine M5.bytes (v:=b.2.2.1) (c:=12) S16 (by show 12=_;rw [w.nl]) (by rw [w.nl];exact Nat.le_refl _) (by rw [w.nl];omega) fun s6 h6 l6 e6 n6 M6=>?_;refine⟨v.f_Body,(P2.ext M6.X P2.lt).cl rfl,?_⟩;rw [qir (by omega)];refine M6.short (by omega) (by omega) (by omega) fun s7 h7 l7 e7 n7 M7=>?_;refine⟨v.f_Body,(P2.ext M7.X P2.lt).cl rfl,M7.bytes (v:=b.2.2.2) (c:=1000000) (Bx.s.ext (X2.trans (M7.X.mono z2))) bl (by omega) (by omega) fun s8 h8 l8 e8 n8 M8=>?_⟩;refine H s8 h8 ?_ (X2.trans (M8.X.mono z2))
 have e:rawC.put b=l8:=by
  subst e8;subst e7;subst e6;subst e5;subst e4;rw [tl,bl];simp [rawC,PC.bind,txC,tx,qqt,zl1]
 rw [e];exact M8.R.mono z2
theorem zx0 {s:Slc} {vs:List S_api_Box} {bs:List zpo} {k:Slc->zaa->Prop} (L:LsAt S_api_Box.cs 15 h s vs) (M:Many (BoxAt h) vs bs) (wl:bs.length<=1000000) (we:∀ b∈bs,WfB b) (H:zk2 h ((zhy boxC).put bs) k):zg3 s k h:=by
 have sl:=L.l;have ml:=M.l;unfold zg3;rw [qir (by omega)];refine zi0 (by omega) (by omega) fun r h1 R1 X1=>?_;have s10:=zae (s.len:Int);refine⟨fun q h'=>0<=q.2/\q.2<=bs.length/\Ac h h' q.1 (zam s.len++(bs.take q.2.toNat).flatMap boxC.put),fun q _=>(bs.length-q.2).toNat,⟨by dsimp only;omega,by dsimp only;omega,⟨X1,by simpa using R1⟩⟩,?_⟩;rintro out i h2 ⟨i0,i1,A⟩;dsimp only at i0 i1 A
 have la:(zam s.len++(bs.take i.toNat).flatMap boxC.put).length<=2000037000000:=by
  rw [List.length_append];have:=zdi (fun b hb=>zni (we b hb)) i.toNat (xs:=bs) (f:=boxC.put);have:=Nat.mul_le_mul_right 2000036 wl;omega
 unfold zil;by_cases c:i<bs.length
 ·rw [if_pos (by rw [decide_eq_true_eq];omega)]
  obtain⟨a,u,ha,_,hlt,hu,hc⟩:=(L.ext A.X).it i0 (by omega);obtain⟨e,he⟩:∃ e,bs[i.toNat]? = some e:=⟨_,List.getElem?_eq_getElem (by omega)⟩
  have E:=(M.r _ _ _ hu he).ext A.X;have w:=we e (List.mem_of_getElem? he);have bl:=zni w
  have nx:∀ {s':Slc} {h':zaa},Ac h h' s' ((zam s.len++(bs.take i.toNat).flatMap boxC.put)++boxC.put e)->zc6 s i s' k (fun s h'=>(0<=s.2/\s.2<=bs.length/\Ac h h' s.1 (zam _++(bs.take s.2.toNat).flatMap boxC.put))/\(bs.length-s.2).toNat<((bs.length:Int)-i).toNat) h':=fun {s' h'} Q=>by
   unfold zc6;rw [zac (x:=i+1) (by omega) (by omega)];refine⟨_,rfl,⟨by dsimp only;omega,by dsimp only;omega,?_⟩,by dsimp only;omega⟩;dsimp only;rw [show (i+1).toNat=i.toNat+1 from by omega,List.take_add_one,he,List.flatMap_append];simpa using Q
  refine⟨a,ha,i0,hlt,u,hc,qid E w fun h3 X3=>?_⟩;have A3:=A.ext X3;by_cases ok:zjg e=true
  ·rw [if_pos ok]
   obtain⟨a',u',ha',_,_,hu',hc'⟩:=(L.ext A3.X).it i0 (by omega);rw [hu] at hu';cases hu';have pe:boxC.put e=rawC.put e:=by show (if zjg e then rawC.put e else [])=_;rw [if_pos ok]
   rw [pe] at bl nx;refine⟨a',ha',i0,hlt,u,hc',qgh ((M.r _ _ _ hu he).ext A3.X) w fun r4 h4 R4 X4=>A3.row R4 X4 bl (by omega) fun s5 h5 l5 e5 n5 A5=>?_⟩;subst e5;exact nx A5
  ·rw [if_neg ok]
   have pe:boxC.put e=[]:=by show (if zjg e then rawC.put e else [])=_;rw [if_neg ok]
   rw [pe] at nx;exact nx (by simpa using A3)
 ·rw [if_neg (by rw [decide_eq_true_eq];omega)]
  rw [show i.toNat=bs.length from by omega,List.take_length] at A;exact H out h2 (by show Row _ _ _ _ _ (b8 (zam _++_));rw [← ml,← sl];exact A.R) A.X
theorem zo2 {b:Nat} {ns:List Int} {n:Nat} {k:Slc->zaa->Prop} (P:Blk h b (ns.map (Value.int .u64)) 26) (nl:ns.length=n) (n1:n<=100) (hn:∀ x∈ns,u64 x) (H:zk2 h (ns.flatMap zam) k):zek ⟨some ⟨b,0,none⟩,n,n⟩ k h:=by
 unfold zek;refine⟨fun q h'=>0<=q.2/\q.2<=ns.length/\Ac h h' q.1 ((ns.take q.2.toNat).flatMap zam),fun q _=>(ns.length-q.2).toNat,⟨by dsimp only;omega,by dsimp only;omega,⟨Ext.refl _ _,by simpa using Row.nil _ _ _ _⟩⟩,?_⟩;rintro out i h2 ⟨i0,i1,A⟩;dsimp only at i0 i1 A
 have la:((ns.take i.toNat).flatMap zam).length<=1000:=by
  have:=zdi (fun x _=>zae x) i.toNat (xs:=ns) (f:=zam);have:=Nat.mul_le_mul_right 10 (show ns.length<=100 by omega);omega
 unfold zhr;by_cases c:i<ns.length
 ·rw [if_pos (by rw [decide_eq_true_eq];show i<(n:Int);omega)]
  obtain⟨x,hx⟩:∃ x,ns[i.toNat]? = some x:=⟨_,List.getElem?_eq_getElem (by omega)⟩
  have w:=hn x (List.mem_of_getElem? hx);refine⟨_,rfl,i0,by show i<(n:Int);omega,x,?_,A.short w.1 w.2 (by omega) fun s3 h3 l3 e3 n3 A3=>?_⟩
  ·exact(P.ext A.X P.lt).cl (by rw [Nat.mul_one,List.getElem?_map,hx];rfl)
  ·rw [zac (x:=i+1) (by omega) (by omega)]
   refine⟨_,rfl,⟨by dsimp only;omega,by dsimp only;omega,?_⟩,by dsimp only;omega⟩;dsimp only;rw [show (i+1).toNat=i.toNat+1 from by omega,List.take_add_one,hx,List.flatMap_append];subst e3;simpa using A3
 ·rw [if_neg (by rw [decide_eq_true_eq];show ¬ i<(n:Int);omega)]
  rw [show i.toNat=ns.length from by omega,List.take_length] at A;exact H out h2 A.R A.X
end
end Go.Q.Yo
end
section
namespace Go.Q.Yo
def qao (s t:Slc):Prop:=∀ g,s.blk=some g->t.blk≠some g
theorem qm4 {B:Nat} {h:zaa} {s t:Slc} {l l2 m:List Int} {n:Nat} {k:Slc->zaa->Prop} (R:Row B h 5 1 s (b8 l)) (T:Row B h 5 1 t (b8 l2)) (D:qao s t) (hB:B<=h.size) (hn:n=m.length) (hl:l.length+m.length<=70368744177664)
  (H:∀ s' h',Row B h' 5 1 s' (b8 (l++m))->Row B h' 5 1 t (b8 l2)->qao s' t->Ext B h h'->k s' h'):App 5 1 1 [.int .u8 0] h s n (b8 m) k:=by
 subst hn;have:=R.len;simp at this;refine App.row R hB rfl (by simp) (znk m) (by omega) (by simp only [maxLen];omega) fun s' h' R' _ hz ho hb=>H s' h' ?_ (T.keep fun g hg=>ho g (T.bd hg).2 fun e=>D g e hg) (fun g hg ht=>?_) ⟨hz,fun i hi=>ho i (by omega) fun e=>by have:=(R.bd e).1;omega⟩
 ·simpa using R'
 ·rcases hb with hb | hb
  ·exact D g (by rw [← hb];exact hg) ht
  ·rw [hb] at hg
   have:=(T.bd ht).2
   cases hg;omega
theorem zwr {key:List Int} {x:Int} {j:Nat} (hj:j<64):(zp5 key x)[j]? = some (zaq .u8 (key.getD j 0) x):=by
 have:=zki (key:=key) (x:=x) (n:=64) hj;rw [if_pos hj] at this;exact this
theorem qdm (key:List Int) (x:Int):isB (zp5 key x):=by
 intro b hb;obtain⟨j,hj,rfl⟩:=List.getElem_of_mem hb;have:=zwr (key:=key) (x:=x) (j:=j) (by rw [zdd] at hj;exact hj);rw [List.getElem?_eq_getElem hj] at this;rw [Option.some.inj this];exact zyz _ _
theorem zx4 {key:List Int} {x:Int} {j:Nat} (hj:j<64):(zp5 key x).take j++[zaq .u8 (key.getD j 0) x]=(zp5 key x).take (j+1):=by
 rw [List.take_add_one,zwr hj];rfl
theorem qne {b:Nat}:zcb ⟨some (⟨b,0,none⟩:Addr),32,32⟩ 1 (0:Int).toNat (32:Int).toNat 32=⟨some ⟨b,0,none⟩,32,32⟩:=rfl
theorem qge (g c:Nat):zcb ⟨some ⟨g,0,none⟩,32,c⟩ 1 0 32 c=⟨some ⟨g,0,none⟩,32,c⟩:=by simp [zcb,Addr.add]
theorem zf8 (a:Addr) (n:Nat):(a.add n).block=a.block:=by unfold Addr.add;split <;> rfl
theorem zpd {h:zaa} {b E:Nat} {D:List Int} (lD:D.length=32) (P:Blk h b (arr 32 .u8 D) E):SlcAt h ⟨some ⟨b,0,none⟩,32,32⟩ (b8 D):=by
 rw [arr_id lD] at P;exact P.slc (n:=32) (by rw [List.drop_zero,List.take_of_length_le (by rw [List.length_map,lD];exact Nat.le_refl _)])
theorem zwf {p0 p1:Slc} {key msg:List Int} {k:Slc->zaa->Prop} {h:zaa} (A:SlcAt h p0 (b8 key)) (l0:p0.len=key.length) (hk:key.length<=64) (M:SlcAt h p1 (b8 msg)) (l1:p1.len=msg.length) (hm:msg.length<=50000) (mB:isB msg)
  (H:∀ s' h',Row h.size h' 5 1 s' (b8 (zlf key msg))->Ext h.size h h'->k s' h'):zh0 p0 p1 k h:=by
 unfold zh0;rw [if_neg (by rw [decide_eq_true_eq];omega)];unfold zf6 zl5;refine⟨fun q h'=>0<=q.2.2/\q.2.2<=64/\Row h.size h' 5 1 q.1 (b8 ((zp5 key 92).take q.2.2.toNat))/\Row h.size h' 5 1 q.2.1 (b8 ((zp5 key 54).take q.2.2.toNat))/\qao q.1 q.2.1/\Ext h.size h h',fun q _=>(64-q.2.2).toNat,⟨by decide,by decide,Row.nil _ _ _ _,Row.nil _ _ _ _,fun g hg=>by simp [Slc.blk] at hg,Ext.refl _ _⟩,?_⟩;rintro t6 t7 i h1 ⟨i0,i1,R6,R7,D,X⟩;dsimp only at i0 i1 R6 R7 D;have z1:=X.size;unfold zk0;by_cases c:i<64
 ·rw [if_pos (by rw [decide_eq_true_eq];exact c)]
  have hi:i.toNat<64:=by omega
  have jj:zeh p0 p1 t6 t7 i (key.getD i.toNat 0) k (fun s h'=>(0<=s.2.2/\s.2.2<=64/\Row h.size h' 5 1 s.1 (b8 ((zp5 key 92).take s.2.2.toNat))/\Row h.size h' 5 1 s.2.1 (b8 ((zp5 key 54).take s.2.2.toNat))/\qao s.1 s.2.1/\Ext h.size h h')/\(64-s.2.2).toNat<(64-i).toNat) h1:=by
   unfold zeh;refine bx0 fun h2 P2 X2=>?_;have z2:=X2.size;have T6:=R6.ext X2 fun g hg=>(R6.bd hg).2;have T7:=R7.ext X2 fun g hg=>(R7.bd hg).2;refine qm4 (m:=[zaq .u8 (key.getD i.toNat 0) 92]) T6 T7 D (by omega) rfl (by have:=zdd key 92;simp;omega) fun s3 h4 T3 T7' D3 X4=>?_;have z4:=X4.size;refine bx0 fun h6 P6 X6=>?_;have z6:=X6.size;have U3:=T3.ext X6 fun g hg=>(T3.bd hg).2;have U7:=T7'.ext X6 fun g hg=>(T7'.bd hg).2;refine qm4 (m:=[zaq .u8 (key.getD i.toNat 0) 54]) U7 U3 (fun g hg e=>D3 g e hg) (by omega) rfl (by have:=zdd key 54;simp;omega) fun s7 h8 V7 V3 D7 X8=>?_;rw [zx4 hi] at V3 V7;rw [zac (by omega) (by omega)];refine⟨_,rfl,⟨by dsimp only;omega,by dsimp only;omega,?_,?_,fun g hg e=>D7 g e hg,X.trans ((X2.mono z1).trans (X4.trans ((X6.mono (by omega)).trans X8)))⟩,by dsimp only;omega⟩
   ·dsimp only;rw [show (i+1).toNat=i.toNat+1 from by omega];exact V3
   ·dsimp only;rw [show (i+1).toNat=i.toNat+1 from by omega];exact V7
  by_cases c2:i<(p0.len:Int)
  ·rw [if_pos (by rw [decide_eq_true_eq];exact c2)]
   cases ha:p0.a with
   | none =>
    have:key.length=0:=by simpa using congrArg List.length (A.1 ha)
    omega
   | some a =>
    refine⟨a,rfl,i0,c2,_,?_,jj⟩;refine A.ext X |>.2 a ha _ _ ?_
    rw [Nat.mul_one,List.getElem?_map,List.getD_eq_getElem?_getD,List.getElem?_eq_getElem (by omega)];rfl
  ·rw [if_neg (by rw [decide_eq_true_eq];exact c2)]
   rw [show key.getD i.toNat 0=0 from by rw [List.getD_eq_getElem?_getD,List.getElem?_eq_none (by omega)];rfl] at jj;exact jj
 ·rw [if_neg (by rw [decide_eq_true_eq];exact c)]
  have e64:i.toNat=64:=by omega
  rw [e64,List.take_of_length_le (by rw [zdd];exact Nat.le_refl _)] at R6 R7;refine⟨b8 msg,M.ext X,?_⟩;refine qm4 (m:=msg) R7 R6 (fun g hg e=>D g e hg) z1 l1 (by rw [zdd];omega) fun s12 h13 R12 T6 D12 X13=>?_;have z13:=X13.size;have Y13:=X.trans X13;refine qcu R12.slc (rpb R12) (by rw [List.length_append,zdd];omega) (Sg.isB_app (qdm _ _) mB) fun h16 X16=>?_;have z16:=X16.size;have T6a:=T6.ext X16 fun g hg=>(T6.bd hg).2;have ls:=zmz (zp5 key 54++msg);refine bx (cs:=arr 32 .u8 (shaD (zp5 key 54++msg))) (by rw [zaj,zaj]) (by rw [zaj];omega) fun h19 P19 X19=>?_;have z19:=X19.size;have T6b:=T6a.ext X19 fun g hg=>(T6a.bd hg).2;refine⟨_,by decide,by decide,by decide,rfl,?_⟩;rw [qne];refine⟨_,zpd ls P19,?_⟩;have Y19:Ext h.size h h19:=Y13.trans ((X16.mono (by omega)).trans (X19.mono (by omega)));refine zkb (m:=shaD (zp5 key 54++msg)) T6b (by omega) (by rw [ls]) (by rw [zdd,ls];omega) fun s21 h22 R21 X22=>?_;have z22:=X22.size;refine qcu R21.slc (rpb R21) (by rw [List.length_append,zdd,ls];omega) (Sg.isB_app (qdm _ _) (zze _)) fun h25 X25=>?_;have z25:=X25.size;have lm:=ze5 key msg;refine bx (cs:=arr 32 .u8 (zlf key msg)) (by rw [zaj,zaj]) (by rw [zaj];omega) fun h28 P28 X28=>?_;have z28:=X28.size;have E29:=zwa h28;have X29:=Ext.push h28 (.cells ([]:List Value).toArray 5) (Nat.le_refl _);refine⟨_,_,rfl,rfl,_,by decide,by decide,by decide,rfl,?_⟩;rw [qne];obtain⟨h30,e30⟩:∃ x,x=h28.push (.cells ([]:List Value).toArray 5):=⟨_,rfl⟩
  rw [← e30] at E29 X29 ⊢;refine⟨_,zpd lm (P28.ext X29 P28.lt),?_⟩;have Y30:Ext h.size h h30:=Y19.trans (X22.trans ((X25.mono (by omega)).trans ((X28.mono (by omega)).trans (X29.mono (by omega)))));refine zkb (l:=[]) (m:=zlf key msg) (E29.mono (by omega)) Y30.size (by rw [lm]) (by rw [lm];simp) fun s32 h33 R32 X33=>?_;rw [List.nil_append] at R32;exact H _ _ R32 (Y30.trans X33)
theorem zvp {p0 p1:Slc} {key info:List Int} {k:Slc->zaa->Prop} {h:zaa} (A:SlcAt h p0 (b8 key)) (l0:p0.len=key.length) (hk:key.length<=64) (M:SlcAt h p1 (b8 info)) (l1:p1.len=info.length) (hm:info.length<=40000) (iB:isB info)
  (H:∀ s' h',SlcAt h' s' (b8 (zlf key (info++[1])))->s'.len=32->Ext h.size h h'->k s' h'):zfz p0 p1 32 k h:=by
 unfold zfz zif;have lD:=ze5 key (info++[1]);refine⟨fun q h'=>(q=(⟨none,0,0⟩,⟨none,0,0⟩,1)/\h'=h)∨(∃ t,Row h.size h' 5 1 q.1 (b8 (zlf key (info++[1])))/\q=(q.1,t,2)/\Ext h.size h h'),fun q _=>32-q.1.len,.inl ⟨rfl,rfl⟩,?_⟩;rintro t8 t9 t10 h1 (⟨e,rfl⟩ | ⟨t,R,e,X⟩)
 ·cases e
  unfold zeq;rw [if_pos (by decide)];have E2:=zwa h1;have X2:=Ext.push h1 (.cells ([]:List Value).toArray 5) (Nat.le_refl _);refine⟨_,_,rfl,rfl,[],⟨fun _=>rfl,fun a ha=>by cases ha⟩,?_⟩;obtain⟨h2,e2⟩:∃ x,x=h1.push (.cells ([]:List Value).toArray 5):=⟨_,rfl⟩
  rw [← e2] at E2 X2 ⊢;have z2:=X2.size;refine zkb (l:=[]) (m:=[]) E2 z2 rfl (by simp) fun s3 h4 R4 X4=>?_;have z4:=X4.size;have Y4:Ext h1.size h1 h4:=X2.trans X4;refine⟨b8 info,M.ext Y4,?_⟩;refine zkb (l:=[]++[]) (m:=info) R4 (by omega) l1 (by simp;omega) fun s6 h7 R7 X7=>?_;have z7:=X7.size;have Y7:=Y4.trans X7;refine bx0 fun h10 P10 X10=>?_;have z10:=X10.size;have R10:=R7.ext X10 fun g hg=>(R7.bd hg).2;refine zkb (l:=[]++[]++info) (m:=[1]) R10 (by omega) rfl (by simp;omega) fun s11 h12 R12 X12=>?_;rw [show ([]:List Int)++[]++info++[1]=info++[1] from rfl] at R12;have z12:=X12.size;have Y12:Ext h1.size h1 h12:=Y7.trans ((X10.mono (by omega)).trans X12);refine zwf (A.ext Y12) l0 hk R12.slc (rpb R12) (by simp;omega) (Sg.isB_app iB (by intro b hb;simp at hb;subst hb;omega)) fun s13 h14 R14 X14=>?_;have z14:=X14.size;refine⟨_,R14.slc,?_⟩;have Y14:Ext h1.size h1 h14:=Y12.trans (X14.mono (by omega));refine zkb (l:=[]) (m:=zlf key (info++[1])) (Row.nil h1.size h14 5 1) (by omega) (rpb R14) (by rw [lD];simp) fun s19 h20 R20 X20=>?_;rw [List.nil_append] at R20;refine⟨_,rfl,?_⟩;refine⟨.inr ⟨_,R20,rfl,Y14.trans X20⟩,?_⟩;have:=rpb R20;dsimp only;rw [this,lD];decide
 ·dsimp only at R
  have lt:t8.len=32:=by have:=rpb R;rw [this,lD]
  unfold zeq;rw [if_neg (by rw [decide_eq_true_eq,lt];decide)];obtain⟨g,zs,et8,gB,Bg,lc,gb⟩:=R.opened (by omega);refine⟨_,by decide,by decide,by omega,Int.le_refl _,rfl,?_⟩;have es:zcb t8 1 (0:Int).toNat (32:Int).toNat ((t8.cap:Int)).toNat=⟨some ⟨g,0,none⟩,32,t8.cap⟩:=by rw [et8];exact qge g t8.cap
  rw [es];exact H _ _ (Bg.slc (n:=32) (by rw [List.drop_zero,List.take_append_of_le_length (by rw [List.length_map,lD];exact Nat.le_refl _),List.take_of_length_le (by rw [List.length_map,lD];exact Nat.le_refl _)])) rfl X
theorem zpj {D:List Int} (lD:D.length=32) {i:Nat} (hi:i<32):(arr 32 .u8 (D.take i)).set i (.int .u8 (D.getD i 0))=arr 32 .u8 (D.take (i+1)):=by
 rw [zde,zde,← List.map_set];congr 1;apply List.ext_getElem?;intro j;by_cases hj:j<32
 ·rw [zgf _ _ hj,List.getElem?_set,zhb]
  by_cases e:i=j
  ·subst e
   rw [if_pos rfl,if_pos hi];simp only [List.getD_eq_getElem?_getD,List.getElem?_take];rw [if_pos (Nat.lt_succ_self _)]
  ·rw [if_neg e,zgf _ _ hj]
   simp only [List.getD_eq_getElem?_getD,List.getElem?_take];by_cases c:j<i
   ·rw [if_pos c,if_pos (by omega)]
   ·rw [if_neg c,if_neg (by omega)]
 ·rw [List.getElem?_eq_none (by rw [List.length_set,zhb];omega),List.getElem?_eq_none (by rw [zhb];omega)]
theorem zvh {key:List Int} {lab:ByteArray} {n:Int} {k:List Int->zaa->Prop} {h:zaa} (lk:key.length=32) (ll:lab.size<=1000) (n0:0<=n) (n1:n<18446744073709551616) (H:∀ h',Ext h.size h h'->k (zro key (sB lab) n) h'):zfy key lab n k h:=by
 unfold zfy;refine bx0 fun h2 P2 X2=>bx0 fun h4 P4 X4=>?_;have p2:=P2.lt;have p4:=P4.lt;have z2:=X2.size;have z4:=X4.size;have K4:=P2.ext X4 p2;obtain⟨bO,eO⟩:∃ b,b=h2.size:=⟨_,rfl⟩
 rw [← eO] at P4 ⊢;have X04:Ext h.size h h4:=X2.trans (X4.mono z2);have lD:=zp4 key (sB lab) n;have lS:(sB lab).length=lab.size:=zev lab;refine⟨by simp only [maxLen];omega,zxc fun s6 h7 R7 X7=>?_⟩;have z7:=X7.size;refine bx0 fun h9 P9 X9=>?_;have z9:=X9.size;have R9:=R7.ext X9 fun g hg=>(R7.bd hg).2;refine zkb (m:=[0]) R9 (by omega) rfl (by simp [lS];omega) fun s9 h11 R11 X11=>?_;have z11:=X11.size;have Y11:Ext h4.size h4 h11:=X7.trans ((X9.mono (by omega)).trans X11);have E12:=zwa h11;have X12:=Ext.push h11 (.cells ([]:List Value).toArray 5) (Nat.le_refl _);refine⟨_,_,rfl,rfl,_,by decide,by decide,by decide,rfl,?_⟩;rw [qne];obtain⟨h12,e12⟩:∃ x,x=h11.push (.cells ([]:List Value).toArray 5):=⟨_,rfl⟩
 rw [← e12] at E12 X12 ⊢;have z12:=X12.size;have Y12:Ext h4.size h4 h12:=Y11.trans (X12.mono (by omega));refine⟨_,zpd lk (K4.ext Y12 (by omega)),?_⟩;refine zkb (l:=[]) (m:=key) E12 (by omega) (by rw [lk]) (by rw [lk];simp) fun s14 h15 R14 X15=>?_;rw [List.nil_append] at R14;have z15:=X15.size;have R15:=(R11.ext X12 fun g hg=>(R11.bd hg).2).ext X15 fun g hg=>(R11.bd hg).2;refine qeg (by decide) (by decide) n0 n1 fun s17 h18 R17 X18=>?_;have z18:=X18.size;have R18:=R15.ext X18 fun g hg=>(R15.bd hg).2;have T18:=R14.ext X18 fun g hg=>(R14.bd hg).2;have l8:(formL n (8:Int).toNat).length=8:=zbc _ _;refine⟨_,R17.slc,?_⟩;refine qm4 (m:=formL n (8:Int).toNat) R18 (T18.mono (by omega)) (fun g hg e=>by have a:=(R11.bd hg).2;have b:=(T18.bd e).1;omega) (by omega) (rpb R17) (by rw [l8,List.length_append,lS];simp;omega) fun s19 h20 R19 T20 D20 X20=>?_;have z20:=X20.size;have Y20:Ext h4.size h4 h20:=Y12.trans ((X15.mono (by omega)).trans ((X18.mono (by omega)).trans X20));refine zvp T20.slc (rpb T20) (by omega) R19.slc (rpb R19) (by rw [List.length_append,List.length_append,l8,lS];simp;omega) (Sg.isB_app (Sg.isB_app (qkj _) (by intro b hb;simp at hb;subst hb;omega)) (formL_B _ _)) fun s22 h23 S22 l22 X23=>?_;have z23:=X23.size;refine bx0 fun h25 P25 X25=>?_;have z25:=X25.size;have Y25:Ext h4.size h4 h25:=Y20.trans ((X23.mono (by omega)).trans (X25.mono (by omega)));have S25:=S22.ext X25;have S25':SlcAt h25 s22 (b8 (zro key (sB lab) n)):=S25;obtain⟨bQ,eQ⟩:∃ b,b=h23.size:=⟨_,rfl⟩
 rw [← eQ] at P25 ⊢
 cases ha:s22.a with
 | none =>
  have:=congrArg List.length (S25'.1 ha);rw [List.length_map,lD] at this
  cases this
 | some a =>
 have aL:∀ j,j<32->a.block<h23.size:=fun j hj=>by
  have:=S22.2 a ha j (.int .u8 ((zlf key (sB lab++[0]++formL n (8:Int).toNat++[1])).getD j 0)) (by rw [List.getElem?_map,List.getD_eq_getElem?_getD,List.getElem?_eq_getElem (by rw [ze5];exact hj)];rfl);have:=zdu this
  rwa [zf8] at this
 unfold zhx;refine⟨fun i h'=>0<=i/\i<=32/\Blk h' bQ (arr 32 .u8 ((zro key (sB lab) n).take i.toNat)) 22/\Upd bQ h25 h',fun i _=>(32-i).toNat,⟨by decide,by decide,P25,Upd.refl _ _⟩,?_⟩;rintro i h1 ⟨i0,i1,Q,U⟩;unfold zhq;by_cases c:i<32
 ·rw [if_pos (by rw [decide_eq_true_eq];exact c)]
  have hi:i.toNat<32:=by omega
  refine⟨a,ha,i0,by omega,(zro key (sB lab) n).getD i.toNat 0,?_,i0,c,?_⟩
  ·rw [Nat.mul_one]
   have g:=S25'.2 a ha i.toNat (.int .u8 ((zro key (sB lab) n).getD i.toNat 0)) (by rw [List.getElem?_map,List.getD_eq_getElem?_getD,List.getElem?_eq_getElem (by rw [lD];exact hi)];rfl);rw [← g];exact zi3 (a:=a.add i.toNat) (U.block _ (by have:=aL 0 (by decide);rw [zf8];omega) (by have:=aL 0 (by decide);rw [zf8];omega))
  ·rw [Nat.mul_one]
   refine zn9 Q (by rw [zaj];exact hi) fun h3 Q3 U3=>?_;rw [zpj lD hi] at Q3;rw [zac (by omega) (by omega)];exact⟨_,rfl,⟨by omega,by omega,by rw [show (i+1).toNat=i.toNat+1 from by omega];exact Q3,U.trans U3⟩,by dsimp only;omega⟩
 ·rw [if_neg (by rw [decide_eq_true_eq];exact c)]
  rw [List.take_of_length_le (by rw [lD];omega)] at Q;have us:=U.size;refine⟨_,CellsAt.of_blk Q,?_⟩;have O1:=U.blk (P4.ext Y25 (by omega)) (by omega);refine zz2 (cs:=arr 32 .u8 (zro key (sB lab) n)) O1 (by rw [zaj,zaj]) (by rw [zaj];omega) fun h32 O32 U32=>?_;exact⟨_,CellsAt.of_blk O32,H _ (X04.trans ((Y25.mono (by omega)).trans ((U.ext (by omega) (by omega)).trans (U32.ext (by omega) (by omega)))))⟩
theorem zv5 {key:List Int} {k:Slc->zaa->Prop} {h:zaa} (lk:key.length=32) (H:∀ s' h',Row h.size h' 5 1 s' (b8 (zlf key proofB))->Ext h.size h h'->k s' h'):zhg key k h:=by
 unfold zhg;refine bx0 fun h2 P2 X2=>?_;have p2:=P2.lt;have z2:=X2.size;have E4:=zwa h2;have X4:=Ext.push h2 (.cells ([]:List Value).toArray 5) (Nat.le_refl _);refine⟨_,_,rfl,rfl,_,by decide,by decide,by decide,rfl,?_⟩;rw [qne];obtain⟨h4,e4⟩:∃ x,x=h2.push (.cells ([]:List Value).toArray 5):=⟨_,rfl⟩
 rw [← e4] at E4 X4 ⊢;have z4:=X4.size;refine⟨_,zpd lk (P2.ext X4 p2),?_⟩;refine zkb (l:=[]) (m:=key) E4 (by omega) (by rw [lk]) (by rw [lk];simp) fun s6 h7 R6 X7=>?_;rw [List.nil_append] at R6;have z7:=X7.size;refine⟨_,_,rfl,rfl,_,rfl,?_⟩;have P8:Blk (h7.push (.cells ([.int .u8 112,.int .u8 114,.int .u8 111,.int .u8 111,.int .u8 102]:List Value).toArray 5 (5,6))) h7.size (b8 proofB) 5:=Blk.pushM h7 (b8 proofB) 5 (Nat.le_refl _);have X8:=Ext.push h7 (.cells ([.int .u8 112,.int .u8 114,.int .u8 111,.int .u8 111,.int .u8 102]:List Value).toArray 5 (5,6)) (Nat.le_refl _);obtain⟨h8,e8⟩:∃ x,x=h7.push (.cells ([.int .u8 112,.int .u8 114,.int .u8 111,.int .u8 111,.int .u8 102]:List Value).toArray 5 (5,6)):=⟨_,rfl⟩
 rw [← e8] at P8 X8 ⊢;have z8:=X8.size;have R8:=R6.ext X8 fun g hg=>(R6.bd hg).2;refine zwf (msg:=proofB) R8.slc (rpb R8) (by omega) (P8.slc (n:=5) rfl) rfl (by decide) (by intro b hb;simp [proofB] at hb;omega) fun s10 h10 R10 X10=>?_;exact H _ _ (R10.mono (by omega)) (X2.trans ((X4.mono (by omega)).trans ((X7.mono (by omega)).trans ((X8.mono (by omega)).trans (X10.mono (by omega))))))
end Go.Q.Yo
end
section
namespace Go.Q
def fAcc (a b:Nat):Nat->Nat
 | 0=>0
 | i+1=>fAcc a b i ^^^ (if b.testBit i then a <<< i else 0)
def zz7:Nat->Nat->Nat
 | 0,p=>p
 | k+1,p=>zz7 k (p ^^^ (if p.testBit (k+8) then 283 <<< k else 0))
def fMul (a b:Nat):Nat:=zz7 7 (fAcc a b 8) % 256
theorem zlt (a b:Nat):fMul a b<256:=Nat.mod_lt _ (by decide)
theorem x4 (a b c d:Nat):(a ^^^ b) ^^^ (c ^^^ d)=(a ^^^ c) ^^^ (b ^^^ d):=by
 rw [Nat.xor_assoc,Nat.xor_assoc];congr 1;rw [← Nat.xor_assoc,Nat.xor_comm b c,Nat.xor_assoc]
theorem qfj (a b i:Nat):(a ^^^ b) <<< i=(a <<< i) ^^^ (b <<< i):=by
 apply Nat.eq_of_testBit_eq;intro j;simp only [Nat.testBit_shiftLeft,Nat.testBit_xor];by_cases h:j>=i <;> simp [h]
theorem qct (a a' b:Nat):∀ n,fAcc (a ^^^ a') b n=fAcc a b n ^^^ fAcc a' b n
 | 0=>by simp [fAcc]
 | n+1=>by
  unfold fAcc;rw [qct a a' b n,x4];congr 1;by_cases h:b.testBit n
  ·rw [if_pos h,if_pos h,if_pos h,qfj]
  ·rw [if_neg h,if_neg h,if_neg h];rfl
theorem qc0 (a b b':Nat):∀ n,fAcc a (b ^^^ b') n=fAcc a b n ^^^ fAcc a b' n
 | 0=>by simp [fAcc]
 | n+1=>by
  unfold fAcc;rw [qc0 a b b' n,x4];congr 1;rw [Nat.testBit_xor]
  cases b.testBit n <;> cases b'.testBit n <;> simp
theorem zy0:∀ k p q,zz7 k (p ^^^ q)=zz7 k p ^^^ zz7 k q
 | 0,p,q=>rfl
 | k+1,p,q=>by
  unfold zz7;rw [← zy0 k,Nat.testBit_xor];congr 1;rw [x4];congr 1
  cases p.testBit (k+8) <;> cases q.testBit (k+8) <;> simp
theorem qrf (p q:Nat):(p ^^^ q) % 256=(p % 256) ^^^ (q % 256):=Nat.xor_mod_two_pow (n:=8)
theorem zmf (a a' b:Nat):fMul (a ^^^ a') b=fMul a b ^^^ fMul a' b:=by unfold fMul;rw [qct,zy0,qrf]
theorem zov (a b b':Nat):fMul a (b ^^^ b')=fMul a b ^^^ fMul a b':=by unfold fMul;rw [qc0,zy0,qrf]
theorem qc8 (b:Nat):fMul 0 b=0:=by have:=zmf 0 0 b;rw [Nat.xor_self] at this;simpa using this
theorem qg9 (b:Nat):fMul b 0=0:=by have:=zov b 0 0;rw [Nat.xor_self] at this;simpa using this
theorem zrd {f g:Nat->Nat} (hf:∀ a b,f (a ^^^ b)=f a ^^^ f b) (hg:∀ a b,g (a ^^^ b)=g a ^^^ g b):∀ n,(∀ i,i<n->f (2 ^ i)=g (2 ^ i))->∀ a,a<2 ^ n->f a=g a
 | 0,h,a,ha=>by
  have:a=0:=by simpa using ha
  subst this;have h1:=hf 0 0;have h2:=hg 0 0;rw [Nat.xor_self] at h1 h2;rw [Nat.xor_self] at h1 h2
  rw [h1,h2]
 | n+1,h,a,ha=>by
  have ih:=zrd hf hg n fun i hi=>h i (Nat.lt_succ_of_lt hi);by_cases c:a<2 ^ n
  ·exact ih a c
  ·have e:a=2 ^ n ^^^ (a-2 ^ n):=by
    have hl:a-2 ^ n<2 ^ n:=by rw [Nat.pow_succ] at ha;omega
    apply Nat.eq_of_testBit_eq;intro j;have ea:a=2 ^ n+(a-2 ^ n):=by omega
    rw [Nat.testBit_xor,Nat.testBit_two_pow];by_cases hj:n=j
    ·subst hj
     rw [Nat.testBit_lt_two_pow hl];rw [ea,Nat.testBit_two_pow_add_eq,Nat.testBit_lt_two_pow hl];simp
    ·rw [decide_eq_false hj,Bool.false_xor]
     rcases Nat.lt_or_ge j n with hn | hn
     ·conv=>lhs;rw [ea]
      exact Nat.testBit_two_pow_add_gt hn _
     ·have hlt:n+1<=j:=by omega
      rw [Nat.testBit_lt_two_pow (Nat.lt_of_lt_of_le ha (Nat.pow_le_pow_right (by decide) hlt)),Nat.testBit_lt_two_pow (Nat.lt_of_lt_of_le hl (Nat.pow_le_pow_right (by decide) hn))]
   have hl:a-2 ^ n<2 ^ n:=by rw [Nat.pow_succ] at ha;omega
   rw [e,hf,hg,h n (Nat.lt_succ_self n),ih _ hl]
theorem zt6 {a:Nat} (ha:a<256):fMul a 1=a:=zrd (f:=fun a=>fMul a 1) (g:=fun a=>a) (fun a b=>zmf a b 1) (fun a b=>rfl) 8 (by decide) a ha
theorem qj9:∀ i,i<8->∀ j,j<8->∀ k,k<8->fMul (fMul (2 ^ i) (2 ^ j)) (2 ^ k)=fMul (2 ^ i) (fMul (2 ^ j) (2 ^ k)):=by decide
theorem zow {a b c:Nat} (ha:a<256) (hb:b<256) (hc:c<256):fMul (fMul a b) c=fMul a (fMul b c) :=
 zrd (f:=fun a=>fMul (fMul a b) c) (g:=fun a=>fMul a (fMul b c)) (fun x y=>by rw [zmf,zmf]) (fun x y=>by rw [zmf]) 8 (fun i hi =>
  zrd (f:=fun b=>fMul (fMul (2 ^ i) b) c) (g:=fun b=>fMul (2 ^ i) (fMul b c)) (fun x y=>by rw [zov,zmf]) (fun x y=>by rw [zmf,zov]) 8 (fun j hj =>
   zrd (f:=fun c=>fMul (fMul (2 ^ i) (2 ^ j)) c) (g:=fun c=>fMul (2 ^ i) (fMul (2 ^ j) c)) (fun x y=>by rw [zov]) (fun x y=>by rw [zov,zov]) 8 (fun k hk=>qj9 i hi j hj k hk) c hc) b hb) a ha
def fPw:Nat->Nat
 | 0=>1
 | k+1=>fMul (fPw k) 3
theorem znn:∀ k,fPw k<256
 | 0=>by decide
 | k+1=>zlt _ _
theorem zr7 (i:Nat):∀ j,fPw (i+j)=fMul (fPw i) (fPw j)
 | 0=>(zt6 (znn i)).symm
 | j+1=>by
  show fMul (fPw (i+j)) 3=fMul (fPw i) (fMul (fPw j) 3)
  rw [zr7 i j,zow (znn _) (znn _) (by decide)]
def fPow (x:Nat):Nat->Nat
 | 0=>1
 | n+1=>fMul (fPow x n) x
theorem zrr (x:Nat):∀ n,fPow x n<256
 | 0=>by show 1<256;decide
 | n+1=>zlt _ _
def fEv (x:Nat):List Nat->Nat
 | []=>0
 | a :: l=>fMul (fEv x l) x ^^^ a
theorem qp8 {a b:Nat} (ha:a<256) (hb:b<256):a ^^^ b<256:=Nat.xor_lt_two_pow (n:=8) ha hb
theorem qef (x:Nat):∀ l:List Nat,(∀ a∈l,a<256)->fEv x l<256
 | [],_=>by show 0<256;decide
 | a :: l,h=>qp8 (zlt _ _) (h a (by simp))
def zu4 (x:Nat):Nat->List Nat->Nat
 | _,[]=>0
 | j,a :: l=>fMul a (fPow x j) ^^^ zu4 x (j+1) l
theorem zxn {x:Nat} (hx:x<256):∀(l:List Nat) (j:Nat),(∀ a∈l,a<256)->fMul (zu4 x j l) x=zu4 x (j+1) l
 | [],j,_=>qc8 x
 | a :: l,j,h=>by
  show fMul (fMul a (fPow x j) ^^^ zu4 x (j+1) l) x=fMul a (fMul (fPow x j) x) ^^^ zu4 x (j+1+1) l
  rw [zmf,zow (h a (by simp)) (zrr x j) hx,zxn hx l (j+1) fun b hb=>h b (by simp [hb])]
theorem zwb {x:Nat} (hx:x<256):∀ l:List Nat,(∀ a∈l,a<256)->fEv x l=zu4 x 0 l
 | [],_=>rfl
 | a :: l,h=>by
  show fMul (fEv x l) x ^^^ a=fMul a 1 ^^^ zu4 x (0+1) l
  rw [zwb hx l fun b hb=>h b (by simp [hb]),zxn hx l 0 fun b hb=>h b (by simp [hb]),zt6 (h a (by simp)),Nat.xor_comm]
end Go.Q
end

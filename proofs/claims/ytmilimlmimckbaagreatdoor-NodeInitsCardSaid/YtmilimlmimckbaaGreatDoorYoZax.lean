/- A part of the proof of statements of this seat: lemmas, no statement of their own. -/
import Derived.Test.YtmilimlmimckbaaGreatDoorYoZad
import Derived.Test.YtmilimlmimckbaaGreatDoorYoZaw
import Derived.Test.YtmilimlmimckbaaGreatDoorYoZas
import Derived.Test.YtmilimlmimckbaaGreatDoorYoZak
import Derived.Test.YtmilimlmimckbaaGreatDoorYoZab
import Derived.Test.YtmilimlmimckbaaGreatDoorYoZae
set_option linter.unusedVariables false
set_option linter.unusedSimpArgs false
set_option maxRecDepth 100000
section
namespace Go.Q.Sg
def zet:Nat->Int->List Int
 | 0,_=>[]
 | f+1,n=>if n<128 then [n] else (n % 128+128) :: zet f (n / 128)
def zam (n:Int):List Int:=zet 10 n
theorem zo4:∀(f:Nat) (n:Int),(zet f n).length<=f
 | 0,_=>by simp [zet]
 | f+1,n=>by
  have:=zo4 f (n / 128);unfold zet;split <;> simp <;> omega
theorem zae (n:Int):(zam n).length<=10:=zo4 10 n
theorem isB_app {l m:List Int} (h:isB l) (k:isB m):isB (l++m):=fun b hb=>(List.mem_append.1 hb).elim (h b) (k b)
theorem znr {l m:List Int} (h:isB (l++m)):isB m:=fun b hb=>h b (List.mem_append_right _ hb)
def gs:Nat->List Int->Option (Int × List Int)
 | _,[]=>none
 | i,c :: r=>if i=9/\1<c then none else if 128<=c then (gs (i+1) r).map fun q=>(c-128+128*q.1,q.2) else if c=0/\0<i then none else some (c,r)
def qjp (l:List Int):Option (Int × List Int):=gs 0 l
theorem qku (l:List Int):∀(f i:Nat) (v:Int),f+i=10->1<=f->0<=v->v<2*128 ^ (f-1)->(0<i->v≠0)->gs i (zet f v++l)=some (v,l)
 | 0,_,_,_,h,_,_,_=>by omega
 | f+1,i,v,hf,_,v0,v1,hv=>by
  rw [Nat.add_sub_cancel] at v1;unfold zet;by_cases c:v<128
  ·rw [if_pos c,List.singleton_append,gs,if_neg (fun q=>by
    have:f=0:=by omega
    subst this
    simp at v1;omega),if_neg (by omega),if_neg (fun q=>hv q.2 q.1)]
  ·obtain⟨g,rfl⟩:∃ g,f=g+1:=⟨f-1,by
    rcases Nat.eq_zero_or_pos f with q | q
    ·subst q;simp at v1;omega
    ·omega⟩
   rw [if_neg c,List.cons_append,gs,if_neg (by omega),if_pos (by omega),qku l (g+1) (i+1) (v / 128) (by omega) (by omega) (by omega) (by
    rw [Nat.add_sub_cancel];rw [Int.pow_succ] at v1
    exact Int.ediv_lt_of_lt_mul (by omega) (by rw [Int.mul_assoc];exact v1)) (fun _=>by omega)]
   show some (v % 128+128-128+128*(v / 128),l)=some (v,l)
   rw [show v % 128+128-128+128*(v / 128)=v from by omega]
theorem qkn (l':List Int):∀(l:List Int) (i:Nat) (v:Int),isB l->i<=9->gs i l=some (v,l')->l=zet (10-i) v++l'/\0<=v/\v<2*128 ^ (9-i)/\(0<i->v≠0)
 | [],_,_,_,_,e=>by simp [gs] at e
 | c :: r,i,v,hB,hi,e=>by
  have cb:=hB c (by simp);have hp:(1:Int)<=128 ^ (9-i):=by have:(0:Int)<128 ^ (9-i):=Int.pow_pos (by omega);omega
  rw [gs] at e;split at e
  ·cases e
  ·rename_i n9
   split at e
   ·rename_i c8
    obtain⟨q,eq,ev⟩:=Option.map_eq_some_iff.1 e;obtain⟨w,l2⟩:=q;have ew:c-128+128*w=v:=congrArg Prod.fst ev;have el:l2=l':=congrArg Prod.snd ev;subst el;have i8:i<=8:=by omega
    obtain⟨a,b,b',d⟩:=qkn l2 r (i+1) w (fun x hx=>hB x (List.mem_cons_of_mem _ hx)) (by omega) eq;have d:=d (by omega);refine⟨?_,by omega,?_,fun _=>by omega⟩
    ·rw [show 10-i=(10-(i+1))+1 from by omega,zet,if_neg (by omega),show v / 128=w from by omega,show v % 128+128=c from by omega,List.cons_append,← a]
    ·rw [show 9-i=(9-(i+1))+1 from by omega,Int.pow_succ]
     generalize (128:Int) ^ (9-(i+1))=P at *;omega
   ·split at e
    ·cases e
    ·rename_i c7 cz
     have e:=Option.some.inj e;have ev:c=v:=congrArg Prod.fst e;have el:r=l':=congrArg Prod.snd e;subst ev;subst el;refine⟨?_,cb.1,?_,fun q h0=>cz ⟨h0,q⟩⟩
     ·rw [show 10-i=(9-i)+1 from by omega,zet,if_pos (by omega)];rfl
     ·rcases Nat.lt_or_ge i 9 with q | q
      ·rw [show 9-i=(8-i)+1 from by omega,Int.pow_succ]
       have:(0:Int)<128 ^ (8-i):=Int.pow_pos (by omega);generalize (128:Int) ^ (8-i)=P at *;omega
      ·have:i=9:=by omega
       subst this;simp;omega
theorem qlc (l':List Int):∀(l:List Int) (i:Nat) (v:Int),gs i l=some (v,l')->l'.length<l.length/\l'=l.drop (l.length-l'.length)
 | [],_,_,e=>by simp [gs] at e
 | c :: r,i,v,e=>by
  rw [gs] at e;split at e
  ·cases e
  ·split at e
   ·obtain⟨q,eq,ev⟩:=Option.map_eq_some_iff.1 e
    obtain⟨w,l2⟩:=q;have el:l2=l':=congrArg Prod.snd ev;subst el;obtain⟨a,b⟩:=qlc l2 r (i+1) w eq;refine⟨by rw [List.length_cons];omega,?_⟩;rw [List.length_cons,show r.length+1-l2.length=(r.length-l2.length)+1 from by omega,List.drop_succ_cons];exact b
   ·split at e
    ·cases e
    ·have el:r=l':=congrArg Prod.snd (Option.some.inj e)
     subst el;exact⟨by simp,by rw [List.length_cons,show r.length+1-r.length=1 from by omega];rfl⟩
structure PC (α:Type) where
 get:List Int->Option (α × List Int)
 put:α->List Int
 ok:α->Prop
 rt:∀ a l,ok a->get (put a++l)=some (a,l)
 sd:∀ l a l',isB l->get l=some (a,l')->l=put a++l'/\ok a
 le:∀ l a l',get l=some (a,l')->l'.length<=l.length
def shortC:PC Int where
 get:=qjp
 put:=zam
 ok v:=0<=v/\v<18446744073709551616
 rt v l h:=qku l 10 0 v rfl (by omega) h.1 (by simpa using h.2) (by omega)
 sd l v l' hB e:=by
  obtain⟨a,b,c,_⟩:=qkn l' l 0 v hB (by omega) e;exact⟨a,b,by simpa using c⟩
 le l v l' e:=by have:=(qlc l' l 0 v e).1;omega
theorem zyp {v:Int} (l:List Int) (h0:0<=v) (h1:v<18446744073709551616):qjp (zam v++l)=some (v,l):=shortC.rt v l ⟨h0,h1⟩
def PC.bind {α β:Type} (A:PC α) (B:α->PC β):PC (α × β) where
 get l:=(A.get l).bind fun q=>((B q.1).get q.2).map fun r=>((q.1,r.1),r.2)
 put a:=A.put a.1++(B a.1).put a.2
 ok a:=A.ok a.1/\(B a.1).ok a.2
 rt a l h:=by
  rw [List.append_assoc,A.rt _ _ h.1];show Option.map _ ((B a.1).get ((B a.1).put a.2++l))=_;rw [(B a.1).rt _ _ h.2];rfl
 sd l a l' hB e:=by
  obtain⟨q,e1,e2⟩:=Option.bind_eq_some_iff.1 e;obtain⟨r,e3,e4⟩:=Option.map_eq_some_iff.1 e2;obtain⟨q1,q2⟩:=q;obtain⟨r1,r2⟩:=r;dsimp only at e3 e4
  cases e4
  obtain⟨p1,p2⟩:=A.sd _ _ _ hB e1;obtain⟨p3,p4⟩:=(B q1).sd _ _ _ (znr (by rw [← p1];exact hB)) e3;exact⟨by rw [List.append_assoc,← p3];exact p1,p2,p4⟩
 le l a l' e:=by
  obtain⟨q,e1,e2⟩:=Option.bind_eq_some_iff.1 e;obtain⟨r,e3,e4⟩:=Option.map_eq_some_iff.1 e2;have a:=A.le _ _ _ e1;have b:=(B q.1).le _ _ _ e3;have:r.2=l':=congrArg Prod.snd e4;rw [← this];omega
def cntC:PC Int where
 get l:=(qjp l).bind fun q=>if 1048576<q.1 then none else some q
 put v:=zam (v % 18446744073709551616)
 ok v:=0<=v/\v<=1048576
 rt v l h:=by
  have:=shortC.rt v l ⟨h.1,by omega⟩;rw [Int.emod_eq_of_lt h.1 (by omega)];show Option.bind (shortC.get (shortC.put v++l)) _=_;rw [this];exact if_neg (by dsimp only;omega)
 sd l v l' hB e:=by
  obtain⟨q,e1,e2⟩:=Option.bind_eq_some_iff.1 e;split at e2
  ·cases e2
  ·cases e2
   obtain⟨a,b⟩:=shortC.sd l v l' hB e1;obtain⟨b0,b1⟩:=b;rw [Int.emod_eq_of_lt b0 b1];exact⟨a,b0,by omega⟩
 le l v l' e:=by
  obtain⟨q,e1,e2⟩:=Option.bind_eq_some_iff.1 e;split at e2
  ·cases e2
  ·cases e2
   exact shortC.le _ _ _ e1
def zl1 (n:Nat):PC (List Int) where
 get l:=if n<=l.length then some (l.take n,l.drop n) else none
 put a:=a
 ok a:=a.length=n
 rt a l h:=by rw [if_pos (by rw [List.length_append];omega),← h,List.take_left,List.drop_left]
 sd l a l' _ e:=by
  split at e
  ·cases e;exact⟨(List.take_append_drop _ _).symm,by rw [List.length_take];omega⟩
  ·cases e
 le l a l' e:=by
  split at e
  ·cases e;rw [List.length_drop];omega
  ·cases e
def tx (l:List Int):List Int:=zam l.length++l
def txC:PC (List Int) where
 get l:=(qjp l).bind fun q=>if q.1<=(q.2.length:Int) then some (q.2.take q.1.toNat,q.2.drop q.1.toNat) else none
 put:=tx
 ok a:=(a.length:Int)<18446744073709551616
 rt a l h:=by
  unfold tx;rw [List.append_assoc,zyp _ (by omega) h,Option.bind_some];dsimp only;rw [if_pos (by rw [List.length_append];omega),Int.toNat_natCast,List.take_left,List.drop_left]
 sd l a l' hB e:=by
  obtain⟨q,e1,e2⟩:=Option.bind_eq_some_iff.1 e;obtain⟨n,l1⟩:=q;dsimp only at e2;obtain⟨p1,p2,p3⟩:=shortC.sd _ _ _ hB e1;split at e2
  ·cases e2
   have ll:(List.take n.toNat l1).length=n.toNat:=by rw [List.length_take];omega
   refine⟨?_,by rw [ll];omega⟩;unfold tx;rw [ll,show ((n.toNat:Nat):Int)=n from by omega,List.append_assoc,List.take_append_drop];exact p1
  ·cases e2
 le l a l' e:=by
  obtain⟨q,e1,e2⟩:=Option.bind_eq_some_iff.1 e;have:=shortC.le _ _ _ e1;split at e2
  ·cases e2;rw [List.length_drop];omega
  ·cases e2
def zzz {α:Type} (A:PC α):Nat->List Int->Option (List α × List Int)
 | 0,l=>some ([],l)
 | n+1,l=>(A.get l).bind fun q=>(zzz A n q.2).map fun r=>(q.1 :: r.1,r.2)
theorem zr4 {α:Type} (A:PC α) (l:List Int):∀ xs:List α,(∀ a∈xs,A.ok a)->zzz A xs.length (xs.flatMap A.put++l)=some (xs,l)
 | [],_=>rfl
 | x :: xs,h=>by
  rw [List.flatMap_cons,List.append_assoc,List.length_cons,zzz,A.rt _ _ (h x (by simp))];show Option.map _ (zzz A xs.length _)=_;rw [zr4 A l xs fun a ha=>h a (List.mem_cons_of_mem _ ha)];rfl
theorem zrs {α:Type} (A:PC α):∀(n:Nat) (l:List Int) (xs:List α) (l':List Int),isB l->zzz A n l=some (xs,l')->l=xs.flatMap A.put++l'/\xs.length=n/\∀ a∈xs,A.ok a
 | 0,l,xs,l',_,e=>by cases e;exact⟨rfl,rfl,fun a ha=>by cases ha⟩
 | n+1,l,xs,l',hB,e=>by
  rw [zzz] at e;obtain⟨q,e1,e2⟩:=Option.bind_eq_some_iff.1 e;obtain⟨r,e3,e4⟩:=Option.map_eq_some_iff.1 e2;obtain⟨x,l1⟩:=q;obtain⟨ys,l2⟩:=r
  cases e4
  obtain⟨p1,p2⟩:=A.sd _ _ _ hB e1;obtain⟨p3,p4,p5⟩:=zrs A n l1 ys l2 (znr (by rw [← p1];exact hB)) e3;refine⟨by rw [List.flatMap_cons,List.append_assoc,← p3];exact p1,by rw [List.length_cons,p4],fun a ha=>?_⟩;rcases List.mem_cons.1 ha with q | q
  ·subst q;exact p2
  ·exact p5 a q
theorem zrt {α:Type} (A:PC α):∀(n:Nat) (l:List Int) (xs:List α) (l':List Int),zzz A n l=some (xs,l')->l'.length<=l.length
 | 0,l,xs,l',e=>by cases e;exact Nat.le_refl _
 | n+1,l,xs,l',e=>by
  rw [zzz] at e;obtain⟨q,e1,e2⟩:=Option.bind_eq_some_iff.1 e;obtain⟨r,e3,e4⟩:=Option.map_eq_some_iff.1 e2;have a:=A.le _ _ _ e1;have b:=zrt A n q.2 r.1 r.2 e3;have:r.2=l':=congrArg Prod.snd e4;rw [← this];omega
def qjv {α:Type} (n:Nat) (A:PC α):PC (List α) where
 get:=zzz A n
 put xs:=xs.flatMap A.put
 ok xs:=xs.length=n/\∀ a∈xs,A.ok a
 rt xs l h:=by rw [← h.1];exact zr4 A l xs h.2
 sd l xs l' hB e:=zrs A n l xs l' hB e
 le l xs l' e:=zrt A n l xs l' e
def zhy {α:Type} (A:PC α):PC (List α) where
 get l:=(qjp l).bind fun q=>zzz A q.1.toNat q.2
 put xs:=zam xs.length++xs.flatMap A.put
 ok xs:=(xs.length:Int)<18446744073709551616/\∀ a∈xs,A.ok a
 rt xs l h:=by
  rw [List.append_assoc,zyp _ (by omega) h.1,Option.bind_some];dsimp only;rw [Int.toNat_natCast];exact zr4 A l xs h.2
 sd l xs l' hB e:=by
  obtain⟨q,e1,e2⟩:=Option.bind_eq_some_iff.1 e;obtain⟨n,l1⟩:=q;dsimp only at e2;obtain⟨p1,p2,p3⟩:=shortC.sd _ _ _ hB e1;obtain⟨a,b,c⟩:=zrs A n.toNat l1 xs l' (znr (by rw [← p1];exact hB)) e2;refine⟨?_,by omega,c⟩;rw [List.append_assoc,← a,show (xs.length:Int)=n from by omega];exact p1
 le l xs l' e:=by
  obtain⟨q,e1,e2⟩:=Option.bind_eq_some_iff.1 e;have a:=shortC.le _ _ _ e1;have b:=zrt A _ _ _ _ e2;omega
theorem zrb:∀ {l:List Int},isB l->formL (zmp l) l.length=l
 | [],_=>rfl
 | b :: r,h=>by
  have h1:=h b (by simp);have h2:=zrb (l:=r) fun x hx=>h x (List.mem_cons_of_mem _ hx);simp only [zmp,List.length_cons,formL];rw [show (b+256*zmp r) % 256=b from by omega,show (b+256*zmp r) / 256=zmp r from by omega,h2]
theorem numL_bd:∀ {l:List Int},isB l->0<=zmp l/\zmp l<256 ^ l.length
 | [],_=>by simp [zmp]
 | b :: r,h=>by
  have h1:=h b (by simp);have h2:=numL_bd (l:=r) fun x hx=>h x (List.mem_cons_of_mem _ hx);simp only [zmp,List.length_cons,Int.pow_succ];omega
theorem zq3:∀(w:Nat) (v:Int),0<=v->v<256 ^ w->zmp (formL v w)=v
 | 0,v,h,h'=>by simp at h';simp [formL,zmp];omega
 | w+1,v,h,h'=>by
  rw [Int.pow_succ] at h';rw [formL,zmp,zq3 w (v / 256) (by omega) (Int.ediv_lt_of_lt_mul (by omega) h')];omega
theorem zom:∀(w:Nat) (v:Int),(formL v w).length=w
 | 0,v=>rfl
 | w+1,v=>by rw [formL,List.length_cons,zom w]
def qqt (w:Nat):PC Int where
 get l:=if w<=l.length then some (zmp (l.take w),l.drop w) else none
 put v:=formL v w
 ok v:=0<=v/\v<256 ^ w
 rt v l h:=by
  have e:=zom w v;rw [if_pos (by rw [List.length_append,e];omega)];have a:List.take w (formL v w++l)=formL v w:=by rw [List.take_append_of_le_length (by omega),List.take_of_length_le (by omega)]
  have b:List.drop w (formL v w++l)=l:=by have:=List.drop_left (l₁:=formL v w) (l₂:=l);rwa [e] at this
  rw [a,b,zq3 w v h.1 h.2]
 sd l v l' hB e:=by
  split at e
  ·cases e
   have tb:isB (l.take w):=fun x hx=>hB x (List.mem_of_mem_take hx);have tl:(l.take w).length=w:=by rw [List.length_take];omega
   have a:=zrb tb;have b:=numL_bd tb;rw [tl] at a b;exact⟨by rw [a,List.take_append_drop],b⟩
  ·cases e
 le l v l' e:=by
  split at e
  ·cases e;rw [List.length_drop];omega
  ·cases e
def qjx {α:Type} (A:PC α) (p:α->Bool):PC α where
 get l:=(A.get l).bind fun q=>if p q.1 then some q else none
 put a:=if p a then A.put a else []
 ok a:=A.ok a/\p a=true
 rt a l h:=by
  rw [if_pos h.2,A.rt _ _ h.1];show (if p a then _ else _)=_;rw [if_pos h.2]
 sd l a l' hB e:=by
  obtain⟨q,e1,e2⟩:=Option.bind_eq_some_iff.1 e;split at e2
  ·cases e2
   rename_i hp;obtain⟨a,b⟩:=A.sd _ _ _ hB e1;dsimp only at hp;rw [if_pos hp];exact⟨a,b,hp⟩
  ·cases e2
 le l a l' e:=by
  obtain⟨q,e1,e2⟩:=Option.bind_eq_some_iff.1 e;split at e2
  ·cases e2;exact A.le _ _ _ e1
  ·cases e2
end Go.Q.Sg
end
section
namespace Go.Q.Yo
open Go.Q.Sg
theorem zzf {n:Int} (h:0<=n):zlj .u8 (IntKind.u8.wrap n) 128=n % 128+128:=by
 rw [wU8];have key:(List.range 256).all (fun m=>zlj .u8 (m:Int) 128==(m:Int) % 128+128)=true:=by decide +kernel
 have:=List.all_eq_true.1 key (n % 256).toNat (by simp;omega);rw [beq_iff_eq,show ((n % 256).toNat:Int)=n % 256 from by omega] at this;rw [this];omega
theorem qnu (n:Int):shr .u64 n (7:Int).toNat=n / 128:=by
 unfold shr;rw [show (2:Int) ^ (min (7:Int).toNat IntKind.u64.bits)=128 from rfl,Int.fdiv_eq_ediv_of_nonneg _ (by omega)]
theorem zcj {p0:Slc} {l:List Int} {n:Int} {k:Slc->zaa->Prop} {h:zaa} (hl:p0.len=l.length) (hs:SlcAt h p0 (b8 l)) (hsz:l.length<=35184372088832) (n0:0<=n) (n1:n<18446744073709551616)
  (H:zk2 h (l++zam n) k):zaz p0 n k h:=by
 unfold zaz;refine zpe hl hs (by omega) fun s1 h1 R1 X1=>?_;refine⟨fun q h'=>∃(cur:List Int) (f:Nat),Row h.size h' 5 1 q.2 (b8 cur)/\cur++zet f q.1=l++zam n/\0<=q.1/\q.1<128 ^ f/\1<=f/\f<=10/\cur.length+f<=l.length+10/\Ext h.size h h',fun q _=>q.1.toNat,⟨l,10,R1,rfl,n0,by omega,by omega,by omega,by omega,X1⟩,?_⟩;rintro m s h2 ⟨cur,f,R,hc,m0,m1,f1,f10,lc,X⟩;dsimp only at R hc m0 m1;have z:=X.size;obtain⟨f,rfl⟩:∃ g,f=g+1:=⟨f-1,by omega⟩
 unfold zhj;by_cases hm:m>=128
 ·rw [if_pos (by simpa using hm),zzf m0,qnu]
  refine⟨_,_,rfl,rfl,?_⟩
  have hf:1<=f:=by
   rcases Nat.eq_zero_or_pos f with h0 | h0
   ·subst h0;simp at m1;omega
   ·exact h0
  refine zkb (m:=[m % 128+128]) (R.pushed _) (by simp;omega) rfl (by simp;omega) fun s' h3 R3 X3=>?_;have hlt:m / 128<128 ^ f:=Int.ediv_lt_of_lt_mul (by omega) (by rw [Int.pow_succ] at m1;exact m1);refine⟨_,rfl,⟨_,f,R3,?_,by dsimp only;omega,hlt,hf,by omega,by simp;omega,X.trans ((Ext.push h2 _ z).trans X3)⟩,by dsimp only;omega⟩;dsimp only;rw [← hc,zet,if_neg (by omega)];simp
 ·rw [if_neg (by simpa using hm),wU8,show m % 256=m from by omega]
  refine⟨_,_,rfl,rfl,?_⟩;refine zkb (m:=[m]) (R.pushed _) (by simp;omega) rfl (by simp;omega) fun s' h3 R3 X3=>?_;refine H s' h3 ?_ (X.trans ((Ext.push h2 _ z).trans X3));rw [← hc,zet,if_pos (by omega)];exact R3
end Go.Q.Yo
end
section
namespace Go.Q.Sg
def zj3 (l:List Int):Bool:=l.all (fun c=>(decide (97<=c)&&decide (c<=122))||(decide (48<=c)&&decide (c<=57))||c==45)&&(decide (0<l.length)&&decide (l.length<=24))
abbrev zpo:=List Int × Int × List Int × List Int
def zjg (b:zpo):Bool:=zj3 b.1&&(decide (16<=b.2.2.2.length)&&decide (b.2.2.2.length<=4112))
def rawC:PC zpo:=txC.bind fun _=>(qqt 4).bind fun _=>(zl1 12).bind fun _=>txC
def boxC:PC zpo:=qjx rawC zjg
abbrev Ent:=Int × List Int
def entC:PC Ent:=shortC.bind fun _=>txC
def chC:PC (Int × List Int):=shortC.bind fun _=>zl1 32
structure MemV where
 node:Int
 n:Int
 t:Int
 boot:Int
 lease:Int
 x:List Int
 y:List Int
 p:List Int
 term:Int
 vote:Int
 base:Int
 bterm:Int
 snap:List Int
 ents:List Ent
 chains:List (Int × List Int)
 boxes:List zpo
 clean:Int
abbrev qpy:=Int × Int × Int × Int × Int × List Int × List Int × List Int × Int × Int × Int × Int × List Int × List Ent × List (Int × List Int) × List zpo × Int
def MemV.tup (m:MemV):qpy:=(m.node,m.n,m.t,m.boot,m.lease,m.x,m.y,m.p,m.term,m.vote,m.base,m.bterm,m.snap,m.ents,m.chains,m.boxes,m.clean)
def memC:PC qpy:=cntC.bind fun _=>cntC.bind fun n=>cntC.bind fun _=>shortC.bind fun _=>shortC.bind fun _=>(zl1 1).bind fun _=>(zl1 32).bind fun _=>(zl1 32).bind fun _=>shortC.bind fun _=>cntC.bind fun _=>shortC.bind fun _=>shortC.bind fun _=>txC.bind fun _=>(zhy entC).bind fun _=>(qjv n.toNat chC).bind fun _=>(zhy boxC).bind fun _=>shortC
def zol (m:MemV):Prop:=1<=m.n/\m.n<=32/\0<=m.node/\m.node<m.n/\1<=m.t/\m.t<=m.n/\0<=m.vote/\m.vote<=m.n/\(m.chains.length:Int)=m.n
instance (m:MemV):Decidable (zol m):=by unfold zol;infer_instance
def zz3:List (List Int)->List zpo->Int
 | _,[]=>0
 | met,b :: l=>if zjg b then (if b.2.2.1∈met then 7 else zz3 (met++[b.2.2.1]) l) else 1
def qbw (m:MemV):Int:=if zol m then (if 64<m.ents.length∨64<m.boxes.length then 3 else if zz3 [] m.boxes≠0 then zz3 [] m.boxes else if 26624<(memC.put m.tup).length then 3 else 0) else 1
def qiq (m:MemV):Int:=if qbw m=7 then 1 else qbw m
def u64 (v:Int):Prop:=0<=v/\v<18446744073709551616
structure WfB (b:zpo):Prop where
 t:isB b.1
 tl:b.1.length<=1000000
 e:0<=b.2.1/\b.2.1<4294967296
 n:isB b.2.2.1
 nl:b.2.2.1.length=12
 bo:isB b.2.2.2
 bl:b.2.2.2.length<=1000000
structure WfM (m:MemV):Prop where
 node:-9223372036854775808<=m.node/\m.node<9223372036854775808
 n:-9223372036854775808<=m.n/\m.n<9223372036854775808
 t:-9223372036854775808<=m.t/\m.t<9223372036854775808
 vote:-9223372036854775808<=m.vote/\m.vote<9223372036854775808
 boot:u64 m.boot
 lease:u64 m.lease
 x:isB m.x
 xl:m.x.length=1
 y:isB m.y
 yl:m.y.length=32
 p:isB m.p
 pl:m.p.length=32
 term:u64 m.term
 base:u64 m.base
 bterm:u64 m.bterm
 snap:isB m.snap
 snapl:m.snap.length<=1000000
 ents:∀ e∈m.ents,u64 e.1/\isB e.2/\e.2.length<=1000000
 entsl:m.ents.length<=1000000
 chains:∀ c∈m.chains,u64 c.1/\isB c.2/\c.2.length=32
 chainsl:m.chains.length<=1000000
 boxes:∀ b∈m.boxes,WfB b
 boxesl:m.boxes.length<=1000000
 clean:u64 m.clean
theorem qq9 (b:zpo):rawC.put b=(zam b.1.length++b.1)++(formL b.2.1 4++(b.2.2.1++(zam b.2.2.2.length++b.2.2.2))):=rfl
theorem fm_le {α:Type} {f:α->List Int} {c:Nat}:∀ {xs:List α},(∀ x∈xs,(f x).length<=c)->(xs.flatMap f).length<=xs.length*c
 | [],_=>by simp
 | x :: xs,h=>by
  have h1:=h x (by simp);have h2:=fm_le (xs:=xs) fun y hy=>h y (List.mem_cons_of_mem _ hy);rw [List.flatMap_cons,List.length_append,List.length_cons,Nat.add_mul];omega
theorem fm_take {α:Type} (f:α->List Int) {xs:List α} {i:Nat} {x:α} (h:xs[i]? = some x):(xs.take (i+1)).flatMap f=(xs.take i).flatMap f++f x:=by
 rw [List.take_add_one,h,List.flatMap_append];simp
theorem zdi {α:Type} {f:α->List Int} {c:Nat} {xs:List α} (h:∀ x∈xs,(f x).length<=c) (i:Nat):((xs.take i).flatMap f).length<=xs.length*c :=
 Nat.le_trans (fm_le fun x hx=>h x (List.mem_of_mem_take hx)) (Nat.mul_le_mul_right _ (by rw [List.length_take];omega))
theorem zqa {e:Ent} (h:e.2.length<=1000000):(entC.put e).length<=1000020:=by
 have:=zae e.1;have:=zae e.2.length;show (zam e.1++(zam e.2.length++e.2)).length<=_;simp only [List.length_append];omega
theorem ch_len {c:Int × List Int} (h:c.2.length=32):(chC.put c).length<=42:=by
 have:=zae c.1;show (zam c.1++c.2).length<=_;rw [List.length_append];omega
theorem zni {b:zpo} (w:WfB b):(boxC.put b).length<=2000036:=by
 show (if zjg b then rawC.put b else []).length<=_
 split
 ·rw [qq9]
  have:=zae b.1.length;have:=zae b.2.2.2.length;have:=w.tl;have:=w.bl;have:=w.nl;simp only [List.length_append,zbc];omega
 ·simp
structure Many {V α:Type} (R:V->α->Prop) (vs:List V) (xs:List α):Prop where
 l:vs.length=xs.length
 r:∀(i:Nat) v x,vs[i]? = some v->xs[i]? = some x->R v x
theorem Many.imp {V α:Type} {R S:V->α->Prop} {vs:List V} {xs:List α} (M:Many R vs xs) (h:∀ v x,R v x->S v x):Many S vs xs:=⟨M.l,fun i v x a b=>h v x (M.r i v x a b)⟩
theorem Many.nil {V α:Type} {R:V->α->Prop}:Many R [] ([]:List α):=⟨rfl,fun i v x h=>by simp at h⟩
end Go.Q.Sg
end
section
namespace Go.Q.Yo
open Go.Q.Sg
theorem qbd {s:ByteArray} {i c:Int} (h:(sB s)[i.toNat]? = some c):qae s i c:=by
 rw [sB,List.getElem?_map] at h;obtain⟨u,hu,rfl⟩:=Option.map_eq_some_iff.1 h;obtain⟨hl,he⟩:=List.getElem?_eq_some_iff.1 hu;refine⟨by simpa using hl,?_⟩;rw [← he];rfl
def qim (c:Int):Bool:=(decide (97<=c)&&decide (c<=122))||(decide (48<=c)&&decide (c<=57))||c==45
theorem qel {s:ByteArray} {k:Bool->zaa->Prop} {h:zaa} (hz:s.size<=1000000) (H:k (zj3 (sB s)) h):zmw s k h:=by
 unfold zmw;have hl:=zev s;refine⟨fun i h'=>0<=i/\i<=s.size/\((sB s).take i.toNat).all qim=true/\h'=h,fun i _=>(s.size-i).toNat,⟨by omega,by omega,by simp,rfl⟩,?_⟩;rintro i h' ⟨i0,i1,ia,rfl⟩;unfold zl6;by_cases hi:i<s.size
 ·rw [if_pos (by rw [decide_eq_true_eq];exact hi)]
  have hc:(sB s)[i.toNat]? = some ((sB s)[i.toNat]'(by omega)):=List.getElem?_eq_getElem (by omega);generalize (sB s)[i.toNat]'(by omega)=c at hc;refine⟨c,i0,qbd hc,?_⟩
  have tk:(sB s).take (i+1).toNat=(sB s).take i.toNat++[c]:=by
   rw [show (i+1).toNat=i.toNat+1 from by omega,List.take_add_one,hc];rfl
  have j:∀ b,b=qim c->zd4 s s.size i b k (fun s_1 h'_1=>(0<=s_1/\s_1<=s.size/\((sB s).take s_1.toNat).all qim=true/\h'_1=h')/\((s.size:Int)-s_1).toNat<((s.size:Int)-i).toNat) h':=fun b hb=>by
   unfold zd4
   cases b with
   | true =>
    rw [if_pos rfl,zac (x:=i+1) (by omega) (by omega)]
    exact⟨⟨by omega,by omega,by rw [tk,List.all_append,ia];simp [← hb],rfl⟩,by omega⟩
   | false =>
    rw [if_neg (by simp)]
    have:zj3 (sB s)=false:=by
     unfold zj3;rw [Bool.and_eq_false_iff]
     left
     rw [Bool.eq_false_iff];intro hall;have:=List.all_eq_true.1 hall c (List.mem_of_getElem? hc);have hb:false=((decide (97<=c)&&decide (c<=122))||(decide (48<=c)&&decide (c<=57))||c==45):=hb;rw [← hb] at this
     cases this
    rw [this] at H;exact H
  by_cases a1:(decide (c>=97)&&decide (c<=122))=true
  ·rw [if_pos a1]
   exact j _ (by rw [a1];unfold qim;rw [show (decide (97<=c)&&decide (c<=122))=true from a1];rfl)
  ·rw [if_neg a1]
   have a1':(decide (97<=c)&&decide (c<=122))=false:=by simpa using a1
   by_cases a2:(decide (c>=48)&&decide (c<=57))=true
   ·rw [if_pos a2]
    exact j _ (by rw [a2];unfold qim;rw [a1',show (decide (48<=c)&&decide (c<=57))=true from a2];rfl)
   ·rw [if_neg a2]
    have a2':(decide (48<=c)&&decide (c<=57))=false:=by simpa using a2
    exact j _ (by unfold qim;rw [a1',a2'];rfl)
 ·rw [if_neg (by rw [decide_eq_true_eq];exact hi)]
  have ei:i=s.size:=by omega
  have:zj3 (sB s)=((decide ((s.size:Int) > 0))&&(decide ((s.size:Int)<=24))):=by
   unfold zj3;rw [ei,Int.toNat_natCast,List.take_of_length_le (by omega)] at ia;rw [show ((sB s).all fun c=>(decide (97<=c)&&decide (c<=122))||(decide (48<=c)&&decide (c<=57))||c==45)=true from ia,hl,Bool.true_and];rw [Bool.eq_iff_iff];simp only [Bool.and_eq_true,decide_eq_true_eq];omega
  rw [← this];exact H
structure BoxAt (h:zaa) (v:S_api_Box) (b:zpo):Prop where
 t:sB v.f_Tenant=b.1
 e:v.f_Epoch=b.2.1
 n:v.f_Nonce=b.2.2.1
 s:SlcAt h v.f_Body (b8 b.2.2.2)
 l:v.f_Body.len=b.2.2.2.length
theorem BoxAt.ext {h h':zaa} {v:S_api_Box} {b:zpo} (B:BoxAt h v b) (X:Ext h.size h h'):BoxAt h' v b:=⟨B.t,B.e,B.n,B.s.ext X,B.l⟩
theorem zue {v:S_api_Box} {b:zpo} {k:Int->zaa->Prop} {h:zaa} (B:BoxAt h v b) (w:WfB b) (H:∀ h',Ext h.size h h'->k (if zjg b then 0 else 1) h'):zh3 v k h:=by
 unfold zh3;refine bx0 fun h2 P X=>?_;have sz:v.f_Tenant.size<=1000000:=by have:=w.tl;rw [← B.t,zev] at this;exact this
 refine⟨v.f_Tenant,P.cl0 rfl,qel sz ?_⟩;rw [B.t];have H:=H h2 X;unfold zjg at H;have l:=B.l
 have g2:∀ c:Bool,(zj3 b.1&&(decide (16<=b.2.2.2.length)&&decide (b.2.2.2.length<=4112))) = !c->zei c k h2:=fun c hc=>by
  unfold zei;rw [hc] at H
  cases c <;> simpa using H
 cases hn:zj3 b.1 with
 | false =>
  rw [if_pos (by simp)];unfold zed;rw [if_pos rfl]
  exact g2 true (by rw [hn];rfl)
 | true =>
  rw [if_neg (by simp)];refine⟨v.f_Body,P.cl rfl,?_⟩;unfold zed;by_cases h16:b.2.2.2.length<16
  ·rw [show decide ((v.f_Body.len:Int)<16)=true from by rw [decide_eq_true_eq];omega,if_pos rfl]
   exact g2 true (by rw [hn,show decide (16<=b.2.2.2.length)=false from by rw [decide_eq_false_iff_not];omega];rfl)
  ·rw [show decide ((v.f_Body.len:Int)<16)=false from by rw [decide_eq_false_iff_not];omega,if_neg (by simp)]
   refine⟨v.f_Body,P.cl rfl,g2 _ ?_⟩;rw [hn,show decide (16<=b.2.2.2.length)=true from by rw [decide_eq_true_eq];omega,Bool.true_and,Bool.true_and];rw [Bool.eq_iff_iff];simp only [Bool.not_eq_true',decide_eq_true_eq,decide_eq_false_iff_not];omega
theorem qes {p0:Slc} {l:List Int} {v:S_api_Box} {b:zpo} {k:Slc->zaa->Prop} {h:zaa} (hl:p0.len=l.length) (hs:SlcAt h p0 (b8 l)) (hsz:l.length<=17592186044416) (B:BoxAt h v b) (w:WfB b)
  (H:zk2 h (l++boxC.put b) k):zps p0 v k h:=by
 unfold zps;refine bx0 fun h2 P X=>?_;refine⟨v,CellsAt.of_blk P,zue (B.ext X) w fun h3 X3=>?_⟩;have X03:=X.trans (X3.mono X.size);have P3:=P.ext X3 P.lt;have e:boxC.put b=if zjg b then rawC.put b else []:=rfl
 rw [e] at H;have s3:=X03.size;have s2:=X.size;have s23:=X3.size;by_cases ok:zjg b=true
 rotate_left
 ·rw [if_neg ok,List.append_nil] at H
  rw [if_neg ok,if_pos (by simp)];exact zpe hl (hs.ext X03) (by omega) fun s' h' R X'=>H s' h' (R.mono (by omega)) (X03.trans (X'.mono s3))
 rw [if_pos ok] at H;rw [if_pos ok,if_neg (by simp)];have tl:=w.tl;have bl:=w.bl;have nl:=w.nl;have ts:v.f_Tenant.size=b.1.length:=by rw [← B.t,zev]
 refine⟨v.f_Tenant,P3.cl0 rfl,v.f_Tenant,P3.cl0 rfl,?_⟩;rw [zdp (x:=(v.f_Tenant.size:Int)) (by omega) (by omega)];have q0:=zae v.f_Tenant.size;refine zcj hl (hs.ext X03) (by omega) (by omega) (by omega) fun s4 h4 R4 X4=>?_;have s34:=X4.size;have P4:=P3.ext X4 P3.lt;refine⟨P4.cl0 rfl,?_⟩;refine zkb R4 s34 (by rw [zev]) (by rw [List.length_append,zev];omega) fun s5 h5 R5 X5=>?_;have s45:=X5.size;have P5:=P4.ext X5 P3.lt;have bl3:b.2.2.1.length=12:=nl;refine⟨v.f_Epoch,P5.cl rfl,_,by omega,by omega,by omega,rfl,?_⟩;have e0:=w.e;rw [B.e,zdp (x:=b.2.1) (by omega) (by omega)];refine Put_ok (Row.pb R5) R5.slc (by rw [List.length_append,List.length_append,zev];omega) (by omega) (by omega) e0.1 fun s6 h6 R6 X6=>?_;have s56:=X6.size;have P6:=P5.ext X6 P5.lt;have ea:arr 12 .u8 v.f_Nonce=b8 b.2.2.1:=by rw [B.n];exact zcq nl
 have S16:SlcAt h6 (zcb ⟨some ((⟨h.size,0,none⟩:Addr).add 2),12,12⟩ 1 (0:Int).toNat (12:Int).toNat 12) (b8 b.2.2.1):=by
  have hc:=P6.cls (i:=2) (ys:=arr 12 .u8 v.f_Nonce) rfl;rw [ea] at hc;rw [show zcb ⟨some ((⟨h.size,0,none⟩:Addr).add 2),12,12⟩ 1 (0:Int).toNat (12:Int).toNat 12=⟨some ((⟨h.size,0,none⟩:Addr).add 2),12,12⟩ from by simp [zcb,Addr.add]];exact⟨(fun q=>by cases q),fun a ha j x hj=>by cases ha;exact hc j x hj⟩
 refine⟨_,S16,?_⟩;have l6:(l++zam v.f_Tenant.size++sB v.f_Tenant++formL b.2.1 (4:Int).toNat).length<=l.length+1000014:=by simp only [List.length_append,zev,zbc];show _+4<=_;omega
 refine zkb R6 s56 (by rw [bl3];rfl) (by omega) fun s7 h7 R7 X7=>?_;have s67:=X7.size;have P7:=P6.ext X7 (Nat.lt_of_lt_of_le P5.lt (Nat.le_refl _));refine⟨v.f_Body,P7.cl rfl,v.f_Body,P7.cl rfl,?_⟩;rw [B.l,zdp (x:=(b.2.2.2.length:Int)) (by omega) (by omega)];refine zcj (Row.pb R7) R7.slc (by rw [List.length_append];omega) (by omega) (by omega) fun s8 h8 R8 X8=>?_;have s78:=X8.size;have P8:=P7.ext X8 P7.lt;have q8:=zae b.2.2.2.length;refine⟨P8.cl rfl,b8 b.2.2.2,?_,?_⟩
 ·exact B.s.ext ⟨by omega,fun g hg=>by rw [X8.block g (by omega),X7.block g (by omega),X6.block g (by omega),X5.block g (by omega),X4.block g (by omega),X3.block g (by omega),X.block g (by omega)]⟩
 refine zkb R8 s78 rfl (by rw [List.length_append,List.length_append];omega) fun s9 h9 R9 X9=>?_;refine H s9 h9 ?_ ⟨by have:=X9.size;omega,fun g hg=>by rw [X9.block g (by omega),X8.block g (by omega),X7.block g (by omega),X6.block g (by omega),X5.block g (by omega),X4.block g (by omega),X3.block g (by omega),X.block g (by omega)]⟩;rw [qq9,← ts,← B.t];simp only [List.append_assoc] at R9 ⊢;exact R9.mono (by omega)
end Go.Q.Yo
end
section
namespace Go.Q
abbrev zrq (n:Nat):={l:List Int // l.length=n}
def arK (n:Nat) (l:List Int):zrq n:=⟨nrm n l,by unfold nrm;simp⟩
theorem zzd {n:Nat} {l:List Int} (h:l.length=n):arK n l=⟨l,h⟩:=by
 refine Subtype.ext (List.ext_getElem (by unfold arK nrm;simp [h]) fun i h1 h2=>?_);unfold arK nrm;simp [List.getElem?_eq_getElem h2]
theorem zm1 (k:IntKind):∀ {a b:List Int},a.length=b.length->zku (a.map (Value.int k)) (b.map (Value.int k))=decide (a=b)
 | [],[],_=>rfl
 | [],_ :: _,h=>by simp at h
 | _ :: _,[],h=>by simp at h
 | x :: a,y :: b,h=>by
  rw [List.map_cons,List.map_cons,zku,zm1 k (by simpa using h)];show (decide (k=k)&&decide (x=y)&&decide (a=b))=_;rw [Bool.eq_iff_iff];simp
theorem zqi (k:IntKind) (n:Nat):∀ a:List Int,((a.map (Value.int k)).zip (a.map (Value.int k))).all (fun p=>Instr.sameBits (n+1) p.1 p.2)=true
 | []=>rfl
 | x :: a=>by
  rw [List.map_cons,List.zip_cons_cons,List.all_cons,zqi k n a];simp [Instr.sameBits]
theorem qrz {P:Program} {T:Tab} (hT:TOk P T) {t el n:Nat} {k:IntKind} {n1 b1 n2 b2:Nat} {z1 z2:List Value} (ht:tlk T t=some ⟨.array n el,n1,b1,z1⟩) (hi:tlk T el=some ⟨.int k,n2,b2,z2⟩) (hn2:Nat.beq n2 1=true) :
  KeyS P t (fun v:zrq n=>Value.agg (v.1.map (Value.int k)).toArray):=by
 obtain⟨td,k1,k3⟩:=zai hT ht;rw [zf4 k3] at k1;obtain⟨td2,k4,k5⟩:=zai hT hi;rw [zjx k5] at k4;obtain⟨d',ti,_,i2,_,i4,_⟩:=zee (hT _ _ hi)
 have hc1:P.cellsOf el=1:=by
  simp only [Program.cellsOf,i2,Option.map_some,Option.getD_some,i4];exact Nat.eq_of_beq_eq_true hn2
 refine⟨by rw [k1],fun a b=>?_,fun b a w=>?_,fun a b w=>?_,fun a w=>?_⟩
 ·show zku (a.1.map (Value.int k)) (b.1.map (Value.int k))=_
  rw [zm1 k (a.2.trans b.2.symm)];exact decide_eq_decide.2 ⟨fun h=>Subtype.ext h,fun h=>by rw [h]⟩
 ·have c2:∀ x w,(Instr.checkKey b (9998+1) el (.int k x)).run P w = .ok () w:=fun x w=>by
   rw [Instr.checkKey];simp only [Sem.run_bind,run_underlying k4,Result.andThen_ok,Sem.run_pure]
  rw [show (10000:Nat)=(9998+1)+1 from rfl,Instr.checkKey];generalize 9998+1=N at c2 ⊢;simp only [Sem.run_bind,run_underlying k1,Result.andThen_ok];simp only [Std.Legacy.Range.forIn_eq_forIn_range',Std.Legacy.Range.size,Nat.sub_zero,Nat.add_one_sub_one,Nat.div_one];have each:∀ j∈List.range' 0 n,j<a.1.length:=fun j hj=>by have:=List.mem_range'_1.1 hj;have:=a.2;omega
  generalize List.range' 0 n=is at each
  induction is with
  | nil=>simp
  | cons j is ih =>
   have p1:=zie (P:=P) (k:=k) hT hi rfl a.1 (each j (by simp)) w;simp only [List.forIn_cons,Sem.run_bind,run_sizeOf w i2,hc1,Nat.mul_one,Result.andThen_ok,p1,c2,Sem.run_pure];exact ih fun y hy=>each y (by simp [hy])
 ·unfold Op.equal Op.maxDepth
  rw [run_equalIn_array w 9999 _ _ k1 i2,hc1,znb hT hi 9998 a.1 b.1 w _ (fun j hj=>by have:=a.2;have:=b.2;simp at hj;omega),qbv n a.1 b.1 a.2 b.2];congr 1;rw [Bool.eq_iff_iff,beq_iff_eq,decide_eq_true_eq];exact⟨fun h=>Subtype.ext h,fun h=>by rw [h]⟩
 ·unfold Instr.keyThatStays
  have e:Instr.sameBits 10000 (Value.agg (a.1.map (Value.int k)).toArray) (Value.agg (a.1.map (Value.int k)).toArray)=true:=by
   show (_==_&&_)=true
   rw [Bool.and_eq_true];exact⟨by simp,zqi k 9998 a.1⟩
  rw [if_pos e];rfl
end Go.Q
end
section
namespace Go.Q.Yo
theorem zrw:KeyS Go.Proofs.Tryz.prog 53 (fun v:zrq 12=>Value.agg (v.1.map (Value.int .u8)).toArray):=qrz tok (T:=tab) rfl rfl rfl
end Go.Q.Yo
end

/- A part of the proof of statements of this seat: lemmas, no statement of their own. -/
import Derived.Test.YthjafnfadiijgaaYiZbc
set_option linter.unusedVariables false
set_option linter.unusedSimpArgs false
section
/- The members and the letters on their way, as they go on: plainly. -/
namespace Go.Q.Rf
def Mb (n i:Int):Prop:=0<=i/\i < n
/-- what a member is to keep is stored -/
def cl (r:RS):RS:={ r with keeps:=[] }
structure PW where
 R:Int->RS
 q:List Let
def bK (i:Int) (out:List gQ):List Let:=out.map fun y=>(i,y.1,y.2)
/-- letters go as long as there is room -/
def cap (q l:List Let):List Let:=q ++ l.take (3000 - q.length)
def PW.act (w:PW) (i:Int) (p:RS × List gQ):PW:=⟨upd w.R i (cl p.1),cap w.q (bK i p.2)⟩
def PW.tick (w:PW) (i:Int):PW:=w.act i (w.R i).tick
def PW.pF (w:PW) (i:Int) (cmd:List Int):PW:=w.act i (((w.R i).aI cmd).1,[])
def PW.sJ (w:PW) (x:Let):PW:=w.act x.2.1 ((w.R x.2.1).take x.1 x.2.2)
def PW.take (w:PW):PW:=match w.q with
 | []=>w
 | x :: l=>PW.sJ ⟨w.R,l⟩ x
/-- so many letters come -/
def dl:Nat->PW->PW
 | 0,w=>w
 | k + 1,w=>dl k w.take
theorem nG:∀ (a b:Nat) (w:PW),dl (a + b) w=dl b (dl a w)
 | 0,b,w=>by rw [Nat.zero_add]; rfl
 | a + 1,b,w=>by rw [Nat.succ_add]; exact nG a b w.take
theorem JN (w:PW):dl 0 w=w:=rfl
theorem IB (k:Nat) (w:PW):dl (k + 1) w=(dl k w).take:=nG k 1 w
theorem BF:∀ (k:Nat) (w:PW),w.q=[]->dl k w=w
 | 0,_,_=>rfl
 | k + 1,w,h=>by
  have e:w.take=w:=by unfold PW.take; rw [h]
  show dl k w.take=w
  rw [e]; exact BF k w h
theorem Gs {q l:List Let} (h:q.length + l.length<=3000):cap q l=q ++ l:=by
 unfold cap; rw [List.take_of_length_le (by omega)]
structure SfG (n:Int) (B:Nat) (G:Gh) (w:PW):Prop where
 core:Core n B G w.R
 ls:LsI n B G w.q
/-- what is safe, and so many steps may follow -/
structure Good (n:Int) (N:Nat) (w:PW):Prop where
 n1:1<=n/\n<=5
 k0:∀ i,Mb n i->(w.R i).keeps=[]
 tk:∀ i,Mb n i->0<=(w.R i).ticks
 s:∃ B G,SfG n B G w/\B + N<=9000000
section
variable {n:Int} {N:Nat} {w:PW}
theorem Good.mono (g:Good n N w) {M:Nat} (h:M<=N):Good n M w:=by
 obtain ⟨B,G,s,b⟩:=g.s
 exact ⟨g.n1,g.k0,g.tk,B,G,s,by omega⟩
theorem Good.rn (g:Good n N w) {i:Int} (hi:Mb n i):(w.R i).n=n/\(w.R i).me=i:=by
 obtain ⟨B,G,s,b⟩:=g.s
 have m:=s.core.mi i hi.1 hi.2
 exact ⟨m.rn,m.me⟩
theorem Good.rl (g:Good n N w) {i:Int} (hi:Mb n i):(w.R i).role=0∨(w.R i).role=1∨(w.R i).role=2:=by
 obtain ⟨B,G,s,b⟩:=g.s
 exact (s.core.mi i hi.1 hi.2).rl
theorem Good.lt (g:Good n N w) {x:Let} (hx:x∈w.q):Mb n x.1/\Mb n x.2.1:=by
 obtain ⟨B,G,s,b⟩:=g.s
 obtain ⟨a,b,_⟩:=s.ls x hx
 exact ⟨a.fr,b⟩
/-- two lead in one term: they are one -/
theorem Good.one (g:Good n N w) {i j:Int} (hi:Mb n i) (hj:Mb n j) (h1:(w.R i).role=2) (h2:(w.R j).role=2) (e:(w.R i).term=(w.R j).term):i=j:=by
 obtain ⟨B,G,s,b⟩:=g.s
 have a:=((s.core.mi i hi.1 hi.2).l1 h1).ld
 have c:=((s.core.mi j hj.1 hj.2).l1 h2).ld
 rw [e,c] at a
 exact (Option.some.inj a).symm
theorem Good.act (g:Good n N w) {i:Int} (hi:Mb n i) {M d:Nat} {r:RS} {out:List gQ} {q0:List Let} (sub:∀ x∈q0,x∈w.q) (h:∀ B G,SfG n B G w->B + N<=9000000->∃ G',Core n (B + d) G' (upd w.R i r)/\Pst n G G'/\Lts n (B + d) G' i out) (to:∀ x∈out,Mb n x.1) (hM:M + d<=N) (t0:0<=r.ticks):Good n M (PW.act ⟨w.R,q0⟩ i (r,out)):=by
 obtain ⟨B,G,s,b⟩:=g.s
 obtain ⟨G',C,P,L⟩:=h B G s b
 have C':=C.eqv hi.1 hi.2 (r:=cl r) (by rw [upd_same]; exact ⟨rfl,rfl,rfl,rfl,rfl,rfl,rfl,rfl,rfl,rfl⟩)
 rw [nY] at C'
 refine ⟨g.n1,fun k hk=>?_,fun k hk=>?_,B + d,G',⟨C',fun x hx=>?_⟩,by omega⟩
 ·show (upd w.R i (cl r) k).keeps=[]
  by_cases c:k=i
  ·subst c; rw [upd_same]; rfl
  ·rw [aL c]; exact g.k0 k hk
 ·show 0<=(upd w.R i (cl r) k).ticks
  by_cases c:k=i
  ·subst c; rw [upd_same]; exact t0
  ·rw [aL c]; exact g.tk k hk
 ·have hx':x∈q0 ++ (bK i out).take (3000 - q0.length):=hx
  rcases List.mem_append.1 hx' with q | q
  ·exact s.ls.pst P (by omega) x (sub x q)
  ·exact Ey C.el (by omega) L to x (List.mem_of_mem_take q)
theorem Dw (r:RS) (f:Int) (m:Msg) (h:0<=r.ticks):0<=(r.take f m).1.ticks:=by
 by_cases o:RS.Ok r f m
 ·by_cases c:r.term<=m.term
  ·rw [RS.take_at o c]
   obtain ⟨_,_,_,e,_⟩:=RS.DJ (r:=r) (m:=m)
   rcases (RS.vV (f:=f) (RS.Aa c) ⟨o.2.2.2.1,o.2.2.2.2⟩).tk with q | q
   ·rw [q,e]; exact h
   ·rw [q]; exact Int.le_refl _
  ·rcases RS.Fp (f:=f) (show m.term < r.term from by omega) with q | q <;> rw [q] <;> exact h
 ·rw [RS.BC o]; exact h
theorem IR {r:RS} {f:Int} {m:Msg}:∀ y∈(r.take f m).2,Mb r.n y.1:=fun y hy=>by
 have:=((RS.yj (r:=r) (f:=f) (m:=m)).2.1 y hy).1
 exact ⟨this.1,this.2.1⟩
theorem Good.take (g:Good n (N + 1) w):Good n N w.take:=by
 unfold PW.take
 cases e:w.q with
 | nil=>exact g.mono (by omega)
 | cons x l =>
  have hx:x∈w.q:=by rw [e]; exact List.mem_cons_self
  obtain ⟨hf,hi⟩:=g.lt hx
  have rn:=(g.rn hi).1
  exact g.act (d:=1) hi (fun y hy=>by rw [e]; exact List.mem_cons_of_mem _ hy) (fun B G s b=>CP s.core hi.1 hi.2 (by omega) (s.ls x hx).1 (s.ls x hx).2.2.2.1) (fun y hy=>by rw [← rn]; exact IR y hy) (Nat.le_refl _) (Dw _ _ _ (g.tk _ hi))
theorem Good.dl:∀ (k:Nat) {w:PW},Good n (N + k) w->Good n N (dl k w)
 | 0,_,g=>g
 | k + 1,_,g=>Good.dl k (Good.take (N:=N + k) g)
theorem Iw {r:RS}:∀ x∈r.tick.2,Mb r.n x.1:=by
 unfold RS.tick
 split
 ·exact fun x hx=>by
   have:=(RS.sD (r:={ r with ticks:=r.ticks + 1 }) (RS.due { r with ticks:=r.ticks + 1 }) (fun i=>RS.lU i) x hx).1
   exact ⟨this.1,this.2.1⟩
 ·split
  ·unfold RS.dJ
   split
   ·exact fun x hx=>by cases hx
   ·intro x hx
    rcases List.mem_append.1 hx with hx | hx
    ·have:=(RS.sD (r:=RS.asks { r with ticks:=r.ticks + 1 }) _ (fun i=>rfl) x hx).1
     exact ⟨this.1,this.2.1⟩
    ·have:=(RS.BV (r:=RS.asks { r with ticks:=r.ticks + 1 }) x hx).1
     exact ⟨this.1,this.2.1⟩
  ·exact fun x hx=>by cases hx
theorem Fs (r:RS) (h:0<=r.ticks):0<=r.win.1.ticks:=by
 by_cases c:r.role=1/\r.won=true
 ·rw [(RS.AO c.1 c.2).2.1]; exact Int.le_refl _
 ·rw [RS.si (by rw [Decidable.not_and_iff_not_or_not] at c; exact c.imp id fun h=>by simpa using h)]; exact h
theorem yQ (r:RS) (h:0<=r.ticks):0<=r.tick.1.ticks:=by
 unfold RS.tick
 split
 ·show 0<=r.ticks + 1; omega
 ·split
  ·unfold RS.dJ
   split
   ·show 0<=r.ticks + 1; omega
   ·exact Fs _ (Int.le_refl _)
  ·show 0<=r.ticks + 1; omega
theorem Good.tick (g:Good n (N + 2) w) {i:Int} (hi:Mb n i):Good n N (w.tick i):=by
 have rn:=(g.rn hi).1
 exact g.act (d:=2) (q0:=w.q) hi (fun y hy=>hy) (fun B G s b=>yz s.core hi.1 hi.2 (by omega)) (fun y hy=>by rw [← rn]; exact Iw y hy) (Nat.le_refl _) (yQ _ (g.tk _ hi))
theorem Ai (r:RS) (cmd:List Int):(r.aI cmd).1.ticks=r.ticks:=by
 unfold RS.aI
 split
 ·rfl
 ·exact (RS.xL cmd).2.2.1
theorem Good.pF (g:Good n (N + 1) w) {i:Int} (hi:Mb n i) (cmd:List Int):Good n N (w.pF i cmd):=by
 refine g.act (d:=1) (q0:=w.q) hi (fun y hy=>hy) (fun B G s b=>?_) (fun y hy=>by cases hy) (Nat.le_refl _) (by rw [Ai]; exact g.tk i hi)
 obtain ⟨G',g1,g2⟩:=vM s.core hi.1 hi.2 (by omega) cmd
 exact ⟨G',g1,g2,Lts.nil⟩
/-- a letter comes: nothing turns, or the member is in the letter's term and does what it says -/
theorem dD (g:Good n N w) {x:Let} {l:List Let} (e:w.q=x :: l) (fit:w.q.length<=2900) :
  (∃ out,w.take=⟨w.R,l ++ bK x.2.1 out⟩/\(∀ y∈out,y.1=x.1/\y.2.term=(w.R x.2.1).term/\y.2.yes=false/\(y.2.kind=2/\x.2.2.kind=1∨y.2.kind=4/\(x.2.2.kind=3∨x.2.2.kind=5)))/\out.length<=1/\(RS.Ok (w.R x.2.1) x.1 x.2.2->x.2.2.term < (w.R x.2.1).term)/\(x.2.2.kind=1∨x.2.2.kind=3∨x.2.2.kind=5->RS.Ok (w.R x.2.1) x.1 x.2.2->out≠[])) ∨
  (RS.Ok (w.R x.2.1) x.1 x.2.2/\(w.R x.2.1).term<=x.2.2.term/\∃ r' out,(((w.R x.2.1).at' x.2.2).take2 x.1 x.2.2)=(r',out)/\w.take=⟨upd w.R x.2.1 (cl r'),l ++ bK x.2.1 out⟩/\RS.T2 ((w.R x.2.1).at' x.2.2) x.1 x.2.2 r' out/\∀ y∈out,y.2.term=x.2.2.term):=by
 have hx:x∈w.q:=by rw [e]; exact List.mem_cons_self
 obtain ⟨hf,hi⟩:=g.lt hx
 have rn:=(g.rn hi).1
 have n1:=g.n1
 have et:w.take=PW.sJ ⟨w.R,l⟩ x:=by unfold PW.take; rw [e]
 have ll:l.length<=2900:=by rw [e] at fit; simp at fit; omega
 have ol:=RS.take_len (r:=w.R x.2.1) (f:=x.1) (m:=x.2.2)
 have cp:∀ out:List gQ,out=((w.R x.2.1).take x.1 x.2.2).2->cap l (bK x.2.1 out)=l ++ bK x.2.1 out:=fun out h=>Gs (by unfold bK; rw [List.length_map,h]; omega)
 have clr:cl (w.R x.2.1)=w.R x.2.1:=by
  have:=g.k0 _ hi
  unfold cl
  rw [← this]
 have same:∀ out:List gQ,(w.R x.2.1).take x.1 x.2.2=(w.R x.2.1,out)->w.take=⟨w.R,l ++ bK x.2.1 out⟩:=fun out h=>by
  rw [et]
  unfold PW.sJ PW.act
  dsimp only
  rw [h,clr,mD,cp out (by rw [h])]
 by_cases o:RS.Ok (w.R x.2.1) x.1 x.2.2
 ·by_cases c:(w.R x.2.1).term<=x.2.2.term
  ·right
   refine ⟨o,c,_,_,rfl,?_,RS.vV (RS.Aa c) ⟨o.2.2.2.1,o.2.2.2.2⟩,fun y hy=>?_⟩
   ·rw [et]
    unfold PW.sJ PW.act
    dsimp only
    have c2:=cp _ rfl
    rw [RS.take_at o c] at c2
    rw [RS.take_at o c,c2]
    congr 1
   ·have h:=(RS.yj (r:=w.R x.2.1) (f:=x.1) (m:=x.2.2)).2.1 y (by rw [RS.take_at o c]; exact hy)
    rw [h.2,RS.take_at o c,(RS.vV (f:=x.1) (RS.Aa c) ⟨o.2.2.2.1,o.2.2.2.2⟩).term,RS.Aa c]
  ·left
   have h:(w.R x.2.1).take x.1 x.2.2=(w.R x.2.1,(w.R x.2.1).late x.1 x.2.2):=by
    unfold RS.take; rw [if_neg (by unfold RS.Ok at o; omega),if_pos (by omega)]
   refine ⟨_,same _ h,fun y hy=>RS.Ij hy,?_,fun _=>by omega,fun k _ hn=>?_⟩
   ·unfold RS.late RS.answer; split
    ·simp
    ·split <;> simp
   ·unfold RS.late RS.answer at hn
    split at hn
    ·cases hn
    ·split at hn
     ·cases hn
     ·omega
 ·left
  exact ⟨[],same _ (RS.BC o),fun y hy=>(by cases hy),by simp,fun q=>absurd q o,fun _ q=>absurd q o⟩
/-- all letters that are there come: what holds of the world, of what they set off, of each of them -/
theorem gen {I:PW->Prop} {P0:Let->Prop} {P:PW->Let->Prop} {D:Let->PW->Prop}
  (step:∀ w x l,Good n 1 w->I w->w.q=x :: l->P0 x->I w.take/\(∃ new,w.take.q=l ++ new/\∀ y∈new,P w.take y)/\(∀ y,P w y->P w.take y)/\D x w.take/\∀ y,D y w->D y w.take) :
  ∀ (A B:List Let) (w:PW),w.q=A ++ B->Good n (N + A.length) w->I w->(∀ x∈A,P0 x)->(∀ y∈B,P w y)->Good n N (dl A.length w)/\I (dl A.length w)/\(∀ y∈(dl A.length w).q,P (dl A.length w) y)/\(∀ x∈A,D x (dl A.length w))/\∀ y,D y w->D y (dl A.length w)
 | [],B,w,e,g,i,_,hB=>⟨g,i,fun y hy=>hB y (by rw [← show w.q=B from e]; exact hy),fun x hx=>(by cases hx),fun y h=>h⟩
 | x :: A,B,w,e,g,i,hA,hB=>by
  obtain ⟨i',⟨new,en,hn⟩,hp,hd,hk⟩:=step w x (A ++ B) (g.mono (by simp only [List.length_cons]; omega)) i e (hA x List.mem_cons_self)
  obtain ⟨h1,h2,h3,h4,h5⟩:=gen step A (B ++ new) w.take (by rw [en,List.append_assoc]) (g.take (N:=N + A.length)) i' (fun y hy=>hA y (List.mem_cons_of_mem _ hy)) fun y hy=>(List.mem_append.1 hy).elim (fun q=>hp y (hB y q)) (hn y)
  refine ⟨h1,h2,h3,fun y hy=>?_,fun y h=>h5 y (hk y h)⟩
  rcases List.mem_cons.1 hy with rfl | hy
  ·exact h5 _ hd
  ·exact h4 y hy
theorem rC {I:PW->Prop} {P0:Let->Prop} {P:PW->Let->Prop} {D:Let->PW->Prop}
  (step:∀ w x l,Good n 1 w->I w->w.q=x :: l->P0 x->I w.take/\(∃ new,w.take.q=l ++ new/\∀ y∈new,P w.take y)/\(∀ y,P w y->P w.take y)/\D x w.take/\∀ y,D y w->D y w.take)
  (g:Good n (N + w.q.length) w) (i:I w) (hA:∀ x∈w.q,P0 x):Good n N (dl w.q.length w)/\I (dl w.q.length w)/\(∀ y∈(dl w.q.length w).q,P (dl w.q.length w) y)/\(∀ x∈w.q,D x (dl w.q.length w))/\∀ y,D y w->D y (dl w.q.length w) :=
 gen step w.q [] w (by simp) g i hA fun y hy=>by cases hy
theorem dlI {I:PW->Prop} (step:∀ w x l,Good n 1 w->I w->w.q=x :: l->I w.take):∀ (k:Nat) (w:PW),Good n (N + k) w->I w->Good n N (dl k w)/\I (dl k w)
 | 0,w,g,i=>⟨g,i⟩
 | k + 1,w,g,i=>by
  refine dlI step k w.take (g.take (N:=N + k)) ?_
  cases e:w.q with
  | nil=>unfold PW.take; rw [e]; exact i
  | cons x l=>exact step w x l (g.mono (by omega)) i e
end
attribute [irreducible] dl
end Go.Q.Rf
end
section
/- How many letters, how long the logs, which terms: what a letter that comes leaves. -/
namespace Go.Q.Rf
/-- the sum over the members -/
def sm (f:Int->Int):Nat->Int
 | 0=>0
 | k + 1=>sm f k + f k
theorem xx {f g:Int->Int} {i:Int} (h:∀ j,j≠i->g j=f j):∀ k:Nat,sm g k=sm f k + (if 0<=i/\i < k then g i - f i else 0)
 | 0=>by rw [if_neg (by omega)]; rfl
 | k + 1=>by
  show sm g k + g k=sm f k + f k + _
  rw [xx h k]
  by_cases c:(k:Int)=i
  ·subst c
   rw [if_neg (by omega),if_pos (by omega)]; omega
  ·rw [h k c]
   by_cases c2:0<=i/\i < k
   ·rw [if_pos c2,if_pos (by omega)]; omega
   ·rw [if_neg c2,if_neg (by omega)]; omega
theorem uf {f g:Int->Int}:∀ k:Nat,(∀ j:Int,0<=j->j < k->f j<=g j)->sm f k<=sm g k
 | 0,_=>Int.le_refl _
 | k + 1,h=>by
  have a:=uf k fun j h0 h1=>h j h0 (by omega)
  have b:=h k (by omega) (by omega)
  show sm f k + f k<=sm g k + g k
  omega
theorem mI (c:Int):∀ k:Nat,sm (fun _=>c) k=c * k
 | 0=>by simp [sm]
 | k + 1=>by
  show sm _ k + c=_
  rw [mI c k,Int.natCast_add,Int.mul_add]; simp
theorem GR (f g:Int->Int):∀ k:Nat,sm (fun j=>f j + g j) k=sm f k + sm g k
 | 0=>rfl
 | k + 1=>by
  show sm _ k + (f k + g k)=sm f k + f k + (sm g k + g k)
  rw [GR f g k]; omega
theorem He {f g:Int->Int} (k:Nat) (h:∀ j:Int,0<=j->j < k->f j=g j):sm f k=sm g k :=
 Int.le_antisymm (uf k fun j a b=>Int.le_of_eq (h j a b)) (uf k fun j a b=>Int.le_of_eq (h j a b).symm)
/-- letters that it may still post -/
def fo (t:Int):Int:=2 * min 3 (max 0 (t - 6))
def go (t:Int):Int:=if t < 9 then 2 * t - 4 * (t / 3) else 6 + 2 * (t % 3)
def pot (r:RS):Int:=if r.role=2 then go r.ticks else if r.role=1 then fo r.ticks + 4 else fo r.ticks
theorem Ec {r:RS} (h:0<=r.ticks):0<=pot r:=by
 unfold pot fo go; split
 ·split <;> omega
 ·split <;> omega
theorem Em {r:RS} (h:0<=r.ticks):pot r<=10:=by
 unfold pot fo go; split
 ·split <;> omega
 ·split <;> omega
theorem DC {r:RS} (h:0<=r.ticks):fo r.ticks<=pot r:=by
 unfold pot fo go; split
 ·split <;> omega
 ·split <;> omega
theorem vO {r:RS} (h:0<=r.me/\r.me < r.n):(r.nodes.length:Int)<=r.n - 1:=by
 have h1:(r.me :: r.nodes).Nodup:=by
  refine List.nodup_cons.2 ⟨fun q=>(RS.uH q).2.2 rfl,?_⟩
  unfold RS.nodes
  refine List.Pairwise.filter _ (List.Pairwise.map _ (fun a b h=>?_) List.nodup_range)
  omega
 have:=sQ (l:=(List.range r.n.toNat).map fun (i:Nat)=>(i:Int)) h1 fun z hz=>by
  have hb:0<=z/\z < r.n:=by
   rcases List.mem_cons.1 hz with rfl | hz
   ·exact h
   ·have:=RS.uH hz; omega
  exact List.mem_map.2 ⟨z.toNat,List.mem_range.2 (by omega),by omega⟩
 rw [List.length_map,List.length_range,List.length_cons] at this
 omega
theorem LC {r:RS} {m:Msg} (h:0<=r.ticks):pot (r.at' m)<=pot r:=by
 have et:=(RS.DJ (r:=r) (m:=m)).2.2.2.1
 rcases RS.wO (r:=r) (m:=m) with q | q
 ·have:pot (r.at' m)=fo r.ticks:=by unfold pot; rw [if_neg (by omega),if_neg (by omega),et]
  rw [this]; exact DC h
 ·unfold pot; rw [q.1,et]; exact Int.le_refl _
theorem T2.pot {r r':RS} {f:Int} {m:Msg} {out:List gQ} (t:RS.T2 r f m r' out) (h:0<=r.ticks) (n5:r.n<=5) (me:0<=r.me/\r.me < r.n):(out.length:Int) + pot r'<=pot r + 1:=by
 have nl:=vO me
 have p0:=DC h
 have w4:r.role=1->4<=Rf.pot r:=fun h1=>by unfold Rf.pot fo; rw [if_neg (by omega),if_pos h1]; omega
 have le:out.length<=1->(out.length:Int) + Rf.pot r'<=Rf.pot r + 1∨r'.role=2/\r'.ticks=0:=fun _=>by
  by_cases c2:r'.role=2
  ·rcases t.r2 c2 with q | q
   ·left
    have e:Rf.pot r'<=Rf.pot r:=by
     unfold Rf.pot; rw [if_pos c2,if_pos q]
     have g0:go 0=0:=rfl
     have g1:0<=go r.ticks:=by unfold go; split <;> omega
     rcases t.tk with e | e <;> rw [e] <;> omega
    omega
   ·exact .inr ⟨c2,q.2.2.2.1⟩
  ·left
   by_cases c1:r'.role=1
   ·have e:Rf.pot r'<=Rf.pot r:=by
     unfold Rf.pot fo; rw [if_neg c2,if_pos c1,if_neg (by rw [t.r1 c1]; omega),if_pos (t.r1 c1)]
     rcases t.tk with e | e <;> rw [e] <;> omega
    omega
   ·have e:Rf.pot r'<=fo r.ticks:=by
     unfold Rf.pot fo; rw [if_neg c2,if_neg c1]
     rcases t.tk with e | e <;> rw [e] <;> omega
    omega
 have z:r'.role=2->r'.ticks=0->Rf.pot r'=0:=fun h1 h2=>by unfold Rf.pot; rw [if_pos h1,h2]; rfl
 have pz:=Ec h
 rcases t.ln with q | ⟨q1,q2,q3,q4⟩
 ·rcases le q with q' | ⟨q1,q2⟩
  ·exact q'
  ·rw [z q1 q2]; omega
 ·rw [z q2 q3]; have:=w4 q1; omega
theorem ym (r:RS) (g:Int->Msg):(r.others g).length=r.nodes.length:=by unfold RS.others; rw [List.length_map]
theorem JK (r:RS):r.win.2.length<=r.nodes.length/\(r.win.1.role=2∨r.win=(r,[])):=by
 by_cases c:r.role=1/\r.won=true
 ·refine ⟨?_,.inl (RS.AO c.1 c.2).1⟩
  rw [RS.vz c.1 c.2]
  obtain ⟨pn,pm,_⟩:=RS.xL (r:=r.lead) []
  have pn':(r.lead.put []).1.n=r.n:=pn
  have pm':(r.lead.put []).1.me=r.me:=pm
  show (RS.others _ _).length<=_
  unfold RS.others RS.nodes
  rw [List.length_map,pn',pm']
  exact Nat.le_refl _
 ·have:=RS.si (r:=r) (by rw [Decidable.not_and_iff_not_or_not] at c; exact c.imp id fun h=>by simpa using h)
  rw [this]; exact ⟨Nat.zero_le _,.inr rfl⟩
theorem Cs {r:RS} (h:0<=r.ticks) (n5:r.n<=5) (me:0<=r.me/\r.me < r.n):(r.tick.2.length:Int) + pot r.tick.1<=pot r + 2:=by
 have nl:=vO me
 unfold RS.tick
 by_cases c1:r.role=2/\(r.ticks + 1) % 3=0
 ·rw [if_pos c1]
  show ((RS.others _ _).length:Int) + _<=_
  rw [ym]
  show (r.nodes.length:Int) + _<=_
  have e:pot { r with ticks:=r.ticks + 1 } = go (r.ticks + 1):=if_pos c1.1
  have e2:pot r=go r.ticks:=if_pos c1.1
  show (r.nodes.length:Int) + pot { r with ticks:=r.ticks + 1 }<=_
  rw [e,e2]
  have:=c1.2
  unfold go
  split <;> split <;> omega
 rw [if_neg c1]
 by_cases c2:r.role≠2/\r.ticks + 1>=10 + 7 * r.me
 ·rw [if_pos c2]
  have f6:6<=pot r:=by
   have:=DC h
   have:fo r.ticks=6:=by unfold fo; omega
   omega
  unfold RS.dJ
  split
  ·show (0:Int) + pot { r with ticks:=r.ticks + 1 }<=_
   have e:pot { r with ticks:=r.ticks + 1 } = if r.role=1 then fo (r.ticks + 1) + 4 else fo (r.ticks + 1):=if_neg c2.1
   have e2:pot r=if r.role=1 then fo r.ticks + 4 else fo r.ticks:=if_neg c2.1
   rw [e,e2]
   unfold fo
   split <;> omega
  ·show ((_ ++ _:List gQ).length:Int) + _<=_
   rw [List.length_append,ym]
   obtain ⟨a,b⟩:=JK (RS.asks { r with ticks:=r.ticks + 1 })
   have e:(RS.asks { r with ticks:=r.ticks + 1 }).nodes=r.nodes:=rfl
   rw [e] at a
   show ((r.nodes.length + _:Nat):Int) + _<=_
   rcases b with b | b
   ·have t0:(RS.asks { r with ticks:=r.ticks + 1 }).win.1.ticks=0:=by
     by_cases c:(RS.asks { r with ticks:=r.ticks + 1 }).role=1/\(RS.asks { r with ticks:=r.ticks + 1 }).won=true
     ·exact (RS.AO c.1 c.2).2.1
     ·rw [RS.si (by rw [Decidable.not_and_iff_not_or_not] at c; exact c.imp id fun h=>by simpa using h)]; rfl
    have:pot (RS.asks { r with ticks:=r.ticks + 1 }).win.1=0:=by unfold pot; rw [if_pos b,t0]; rfl
    rw [this]; omega
   ·rw [b]
    have:pot (RS.asks { r with ticks:=r.ticks + 1 })=4:=rfl
    rw [this]
    show ((r.nodes.length + 0:Nat):Int) + _<=_
    omega
 ·rw [if_neg c2]
  show (0:Int) + pot { r with ticks:=r.ticks + 1 }<=_
  have e:pot { r with ticks:=r.ticks + 1 } = if r.role=2 then go (r.ticks + 1) else if r.role=1 then fo (r.ticks + 1) + 4 else fo (r.ticks + 1):=rfl
  rw [e]
  unfold pot fo go
  split
  ·rename_i q
   split <;> split <;> omega
  ·split <;> omega
/-! ### how long the logs are -/
theorem xe {ix p:Int} {es more:List Ent} (x0:0<=ix) (p0:0<=p) (bd:p + more.length<=100000000):∀ i,i<=more.length->ix + (Lg.fD ix p es more i).length<=max (ix + es.length) (p + i)
 | 0,_=>by show ix + (es.length:Int)<=_; omega
 | i + 1,hi=>by
  have ih:=xe (es:=es) x0 p0 bd i (by omega)
  show ix + ((match more[i]? with | some x=>Lg.dG ix p (Lg.fD ix p es more i) i x | none=>Lg.fD ix p es more i).length:Int)<=_
  rw [List.getElem?_eq_getElem (by omega)]
  dsimp only
  unfold Lg.dG
  have w:W (p + i + 1)=p + i + 1:=tN (by omega) (by omega)
  rw [w]
  split
  ·omega
  ·split
   ·split
    ·omega
    ·rw [List.length_append,List.length_take]; simp only [List.length_singleton]; omega
   ·rw [List.length_append]; simp only [List.length_singleton]; omega
theorem xN {l:Lg} {p t:Int} {more:List Ent} (x0:0<=l.ix) (p0:0<=p) (bd:p + more.length<=100000000):(l.append p t more).1.last<=max l.last (p + more.length):=by
 unfold Lg.append
 split
 ·show l.last<=_; omega
 ·split
  ·show l.last<=_; omega
  ·exact xe x0 p0 bd more.length (Nat.le_refl _)
theorem wK (r:RS) (cmd:List Int) (x0:0<=r.log.ix) (bd:r.log.last<=10000000):(r.put cmd).1.log.last<=r.log.last + 1:=by
 unfold RS.put
 split
 ·show r.log.last<=_; omega
 ·obtain ⟨_,_,e,_⟩:=RS.sI (r:={ r with log:=(r.log.append r.log.last r.log.lastT [(r.term,cmd)]).1,keeps:=r.keeps ++ [⟨2,r.log.lastT,0,r.log.last,[(r.term,cmd)],[]⟩],has:=r.has.set r.me.toNat (r.log.append r.log.last r.log.lastT [(r.term,cmd)]).2.1 })
  show Lg.last (RS.log (RS.settle _))<=_
  rw [e]
  have l0:0<=r.log.last:=by unfold Lg.last; omega
  have:=xN (l:=r.log) (t:=r.log.lastT) (more:=[(r.term,cmd)]) x0 l0 (by simp; omega)
  simp only [List.length_singleton] at this
  show (r.log.append r.log.last r.log.lastT [(r.term,cmd)]).1.last<=_
  omega
theorem AA (r:RS) {x t:Int} (s:List Int) (x0:0<=x):(r.base x t s).log.last<=max r.log.last x:=by
 unfold RS.base
 dsimp only
 split
 ·rename_i c
  unfold Lg.mat at c
  simp only [Bool.and_eq_true,beq_iff_eq] at c
  unfold Lg.cut
  rw [if_neg (by rw [c.1]; simp)]
  have h:=c.1
  unfold Lg.aF at h
  split at h
  ·exact absurd h (by simp)
  split at h
  ·exact absurd h (by simp)
  ·unfold Lg.last at *
   dsimp only
   rw [List.length_drop]; omega
 ·unfold Lg.last
  simp only [List.length_nil]; omega
/-- a letter's step and how long the log is -/
theorem T2.last {r:RS} {f:Int} {m:Msg} (hm:r.term=m.term) (k:1<=m.kind/\m.kind<=5) (x0:0<=r.log.ix) (bd:r.log.last<=10000000) {E:Int} (hE:r.log.last<=E) (k3:m.kind=3->0<=m.index/\m.index + m.aM.length<=100000000/\m.index + m.aM.length<=E) (k5:m.kind=5->0<=m.index/\m.index<=E) :
  (r.take2 f m).1.log.last<=E∨r.role=1/\(r.take2 f m).1.role=2/\(r.take2 f m).1.log.last<=E + 1:=by
 have t:=RS.vV (r:=r) (f:=f) hm k
 by_cases c3:m.kind=3
 ·left
  obtain ⟨a,b,c⟩:=k3 c3
  rw [RS.BM c3]
  unfold RS.appends RS.mQ
  obtain ⟨_,_,_,_,_,el,_⟩:=RS.y9 (f:=f) hm
  split
  ·rw [el]; exact hE
  ·show ((r.dZ f m).log.append m.index m.logTerm m.aM).1.last<=E
   rw [el]
   have:=xN (l:=r.log) (t:=m.logTerm) (more:=m.aM) x0 a b
   omega
 by_cases c5:m.kind=5
 ·left
  obtain ⟨a,b⟩:=k5 c5
  rw [RS.Bp c5]
  obtain ⟨_,_,_,_,_,el,_⟩:=RS.y9 (f:=f) hm
  show ((r.dZ f m).lV m).log.last<=E
  unfold RS.lV
  split
  ·have:=AA (r.dZ f m) (t:=m.logTerm) m.aQ a
   rw [el] at this
   show ((r.dZ f m).base m.index m.logTerm m.aQ).log.last<=E
   omega
  ·rw [el]; exact hE
 by_cases c2:(r.take2 f m).1.role=2
 ·rcases t.r2 c2 with q | q
  ·left
   by_cases c1:m.kind=1
   ·rw [RS.tC c1]
    unfold RS.lv
    split
    ·dsimp only
     split <;> exact hE
    ·exact hE
   by_cases c2:m.kind=2
   ·rw [RS.wy c2]
    obtain ⟨_,_,cl,_,cr,_⟩:=RS.xu (r:=r) (f:=f) (m:=m)
    rw [RS.si (.inl (by rw [cr]; omega))]
    rw [cl]; exact hE
   ·rw [RS.yf (by omega)]
    unfold RS.appended
    split
    ·exact hE
    split
    ·exact hE
    split
    ·exact hE
    obtain ⟨_,_,e,_⟩:=RS.sI (r:={ r with has:=r.has.set f.toNat (max (r.has.getD f.toNat 0) m.index),next:=r.next.set f.toNat (max (r.next.getD f.toNat 0) (W (m.index + 1))) })
    have e':(r.gD f m).log=r.log:=e
    split
    ·rw [e']; exact hE
    ·rw [e']; exact hE
  ·right
   refine ⟨q.1,c2,?_⟩
   obtain ⟨_,_,cl,_,cr,_⟩:=RS.xu (r:=r) (f:=f) (m:=m)
   rw [RS.wy q.2.1,RS.vz (by rw [cr]; exact q.1) q.2.2.1]
   have:=wK (r.counted f m).lead [] (by show 0<=(r.counted f m).log.ix; rw [cl]; exact x0) (by show (r.counted f m).log.last<=_; rw [cl]; exact bd)
   have e:(r.counted f m).lead.log=r.log:=cl
   rw [e] at this
   show ((r.counted f m).lead.put []).1.log.last<=_
   omega
 ·left
  rw [t.lg c3 c5 c2]; exact hE
end Go.Q.Rf
end
section
/- What holds of terms, ballots, letters and lengths, while letters come and all tick. -/
namespace Go.Q.Rf
def tL (n:Int) (R:Int->RS):Int:=sm (fun i=>pot (R i)) n.toNat
structure Bs (n T Λ:Int) (w:PW):Prop where
 tr:∀ i,Mb n i->(w.R i).term<=T
 tq:∀ x∈w.q,x.2.2.term<=T
 nw:∀ i,Mb n i->(w.R i).role=1->(w.R i).won=false
 vl:∀ i,Mb n i->(w.R i).role≠0->(w.R i).aN=i + 1
 pt:(w.q.length:Int) + tL n w.R<=Λ
/-- how long the logs are, and what letters say of them -/
structure Len (n E:Int) (w:PW):Prop where
 l:∀ i,Mb n i->(w.R i).log.last<=E
 k3:∀ x∈w.q,x.2.2.kind=3->x.2.2.index + x.2.2.aM.length<=E
 k5:∀ x∈w.q,x.2.2.kind=5->x.2.2.index<=E
theorem Len.mono {n E E':Int} {w:PW} (h:Len n E w) (e:E<=E'):Len n E' w:=⟨fun i hi=>by have:=h.l i hi; omega,fun x hx k=>by have:=h.k3 x hx k; omega,fun x hx k=>by have:=h.k5 x hx k; omega⟩
section
variable {n T Λ:Int} {N:Nat} {w:PW} {x:Let} {l:List Let}
theorem uy (g:Good n N w):0<=tL n w.R:=by
 have:=uf (f:=fun _=>0) (g:=fun i=>pot (w.R i)) n.toNat fun j h0 h1=>Ec (g.tk j ⟨h0,by omega⟩)
 rw [mI] at this
 unfold tL; omega
theorem yZ {R:Int->RS} {i:Int} (hi:Mb n i) (r:RS):tL n (upd R i r)=tL n R + (pot r - pot (R i)):=by
 have:=xx (f:=fun j=>pot (R j)) (g:=fun j=>pot (upd R i r j)) (i:=i) (fun j hj=>by rw [aL hj]) n.toNat
 have hi':=hi
 unfold Mb at hi'
 rw [if_pos (by omega),upd_same] at this
 exact this
theorem Bs.fit (b:Bs n T Λ w) (g:Good n N w) (h:Λ<=2900):w.q.length<=2900:=by
 have:=b.pt; have:=uy g; omega
theorem DV (r:RS):pot (cl r)=pot r:=rfl
theorem Bs.take (b:Bs n T Λ w) (g:Good n 1 w) (h:Λ<=2900) (e:w.q=x :: l):Bs n T Λ w.take:=by
 have hx:x∈w.q:=by rw [e]; exact List.mem_cons_self
 obtain ⟨hf,hi⟩:=g.lt hx
 have rn:=g.rn hi
 have n1:=g.n1
 have tk:=g.tk _ hi
 have ti:=b.tr _ hi
 have hi':=hi
 unfold Mb at hi'
 have ql:w.q.length=l.length + 1:=by rw [e]; rfl
 have lq:∀ y∈l,y∈w.q:=fun y hy=>by rw [e]; exact List.mem_cons_of_mem _ hy
 rcases dD g e (b.fit g h) with ⟨out,e2,o1,o2,_⟩ | ⟨o,ht,r',out,e1,e2,t,ot⟩
 ·rw [e2]
  refine ⟨b.tr,fun y hy=>?_,b.nw,b.vl,?_⟩
  ·rcases List.mem_append.1 hy with hy | hy
   ·exact b.tq y (lq y hy)
   ·obtain ⟨z,hz,rfl⟩:=List.mem_map.1 hy
    show z.2.term<=T
    rw [(o1 z hz).2.1]; exact ti
  ·have:=b.pt
   show ((l ++ bK _ out).length:Int) + _<=_
   rw [List.length_append,bK,List.length_map]
   show _ + tL n w.R<=_
   omega
 ·rw [e2]
  have xt:=b.tq x hx
  obtain ⟨an,am,al,at0,_⟩:=RS.DJ (r:=w.R x.2.1) (m:=x.2.2)
  have rt:r'.term=x.2.2.term:=t.term.trans (RS.Aa ht)
  refine ⟨fun j hj=>?_,fun y hy=>?_,fun j hj hr=>?_,fun j hj hr=>?_,?_⟩
  ·show (upd w.R x.2.1 (cl r') j).term<=T
   by_cases c:j=x.2.1
   ·subst c; rw [upd_same]; show r'.term<=T; omega
   ·rw [aL c]; exact b.tr j hj
  ·rcases List.mem_append.1 hy with hy | hy
   ·exact b.tq y (lq y hy)
   ·obtain ⟨z,hz,rfl⟩:=List.mem_map.1 hy
    show z.2.term<=T
    rw [ot z hz]; exact xt
  ·change (upd w.R x.2.1 (cl r') j).role=1 at hr
   show (upd w.R x.2.1 (cl r') j).won=false
   by_cases c:j=x.2.1
   ·subst c
    rw [upd_same] at hr ⊢
    refine (RS.DZ rfl rfl:(cl r').won=r'.won).trans (t.nw (fun h1=>?_) hr)
    rcases RS.wO (r:=w.R x.2.1) (m:=x.2.2) with q | q
    ·omega
    ·rw [RS.DZ q.2.1 an]; exact b.nw _ hj (by rw [← q.1]; exact h1)
   ·rw [aL c] at hr ⊢; exact b.nw j hj hr
  ·change (upd w.R x.2.1 (cl r') j).role≠0 at hr
   show (upd w.R x.2.1 (cl r') j).aN=j + 1
   by_cases c:j=x.2.1
   ·have g2:=(g.take (N:=0)).rl hj
    rw [e2] at g2
    change (upd w.R x.2.1 (cl r') j).role=0∨(upd w.R x.2.1 (cl r') j).role=1∨(upd w.R x.2.1 (cl r') j).role=2 at g2
    subst c
    rw [upd_same] at hr g2 ⊢
    have r0:((w.R x.2.1).at' x.2.2).role≠0:=by
     rcases g2 with q | q | q
     ·exact absurd q hr
     ·rw [t.r1 q]; omega
     ·rcases t.r2 q with p | p
      ·rw [p]; omega
      ·rw [p.1]; omega
    rcases RS.wO (r:=w.R x.2.1) (m:=x.2.2) with q | q
    ·exact absurd q r0
    ·have hs:(w.R x.2.1).at' x.2.2=w.R x.2.1:=RS.l9 (by omega)
     rw [hs] at t r0
     have v:=b.vl _ hj r0
     show r'.aN=_
     by_cases k1:x.2.2.kind=1
     ·rw [t.v1 k1 (by have:=hj.1; omega)]; exact v
     ·rw [t.vt k1]; exact v
   ·rw [aL c] at hr ⊢; exact b.vl j hj hr
  ·have:=b.pt
   have p1:=T2.pot t (by rw [at0]; exact tk) (by rw [an]; omega) (by rw [an,am]; omega)
   have p2:=LC (m:=x.2.2) tk
   show ((l ++ bK _ out).length:Int) + tL n (upd w.R x.2.1 (cl r'))<=_
   rw [yZ hi,List.length_append,bK,List.length_map,DV]
   omega
/-- a letter of one that leads: what it says of the log is there -/
theorem Good.due (g:Good n N w) {y:Let} (hy:y∈w.q) (hr:(w.R y.1).role=2) (ht:(w.R y.1).term=y.2.2.term):(y.2.2.kind=3->y.2.2.index + y.2.2.aM.length<=(w.R y.1).log.last)/\(y.2.2.kind=5->y.2.2.index<=(w.R y.1).log.last):=by
 obtain ⟨B,G,s,b⟩:=g.s
 obtain ⟨hf,_⟩:=g.lt hy
 have m:=s.core.mi _ hf.1 hf.2
 have F:=(m.l1 hr).F
 have ll:=m.rep.last
 have L:=(s.ls y hy).1
 refine ⟨fun k=>?_,fun k=>?_⟩
 ·obtain ⟨_,p0,k1,_⟩:=L.k3 k
  rw [← ht,← F] at k1
  omega
 ·obtain ⟨_,p0,k1,_⟩:=L.k5 k
  rw [← ht,← F] at k1
  omega
theorem Good.log (g:Good n N w) {i:Int} (hi:Mb n i):0<=(w.R i).log.ix/\(w.R i).log.last<=10000000/\(w.R i).log.ix<=(w.R i).log.last:=by
 obtain ⟨B,G,s,b⟩:=g.s
 have m:=s.core.mi _ hi.1 hi.2
 have:=m.rep.i0; have:=m.rep.i1; have:=m.rep.last; have:=m.bf
 omega
theorem Len.take {E:Int} (L:Len n E w) (b:Bs n T Λ w) (g:Good n 1 w) (h:Λ<=2900) (e:w.q=x :: l) :
  Len n E w.take∨((w.R x.2.1).role=1/\(w.take.R x.2.1).role=2/\x.2.2.kind=2/\x.2.2.yes=true/\(w.R x.2.1).term=x.2.2.term/\(w.take.R x.2.1).term=x.2.2.term/\Len n (E + 1) w.take):=by
 have hx:x∈w.q:=by rw [e]; exact List.mem_cons_self
 obtain ⟨hf,hi⟩:=g.lt hx
 have g0:=g.take (N:=0)
 have lq:∀ y∈l,y∈w.q:=fun y hy=>by rw [e]; exact List.mem_cons_of_mem _ hy
 rcases dD g e (b.fit g h) with ⟨out,e2,o1,o2,_⟩ | ⟨o,ht,r',out,e1,e2,t,ot⟩
 ·left
  rw [e2]
  refine ⟨L.l,fun y hy k=>?_,fun y hy k=>?_⟩
  ·rcases List.mem_append.1 hy with hy | hy
   ·exact L.k3 y (lq y hy) k
   ·obtain ⟨z,hz,rfl⟩:=List.mem_map.1 hy
    have k':z.2.kind=3:=k
    have:=(o1 z hz).2.2.2; omega
  ·rcases List.mem_append.1 hy with hy | hy
   ·exact L.k5 y (lq y hy) k
   ·obtain ⟨z,hz,rfl⟩:=List.mem_map.1 hy
    have k':z.2.kind=5:=k
    have:=(o1 z hz).2.2.2; omega
 ·obtain ⟨x0,xb,_⟩:=g.log hi
  have ll:=L.l _ hi
  obtain ⟨an,am,al,at0,_⟩:=RS.DJ (r:=w.R x.2.1) (m:=x.2.2)
  have rt:r'.term=x.2.2.term:=t.term.trans (RS.Aa ht)
  have tl:=T2.last (f:=x.1) (RS.Aa ht) ⟨o.2.2.2.1,o.2.2.2.2⟩ (E:=E) (by rw [al]; exact x0) (by rw [al]; exact xb) (by rw [al]; exact ll) (fun k=>?_) (fun k=>?_)
  rotate_left
  ·obtain ⟨B,G,s,bb⟩:=g.s
   obtain ⟨_,_,_,_,q⟩:=s.ls x hx
   exact ⟨(q k).1,(q k).2,L.k3 x hx k⟩
  ·obtain ⟨B,G,s,bb⟩:=g.s
   obtain ⟨_,p0,_⟩:=(s.ls x hx).1.k5 k
   exact ⟨p0,L.k5 x hx k⟩
  rw [e1] at tl
  dsimp only at tl
  have eR:w.take.R x.2.1=cl r':=by rw [e2]; exact upd_same _ _ _
  have key:∀ E':Int,E<=E'->r'.log.last<=E'->Len n E' w.take:=fun E' hE hl=>by
   have lR:∀ j,Mb n j->(w.take.R j).log.last<=E':=fun j hj=>by
    by_cases c:j=x.2.1
    ·subst c; rw [eR]; exact hl
    ·have:w.take.R j=w.R j:=by rw [e2]; exact aL c
     rw [this]; have:=L.l j hj; omega
   have nk:∀ z∈out,(z.2.kind=3∨z.2.kind=5)->r'.role=2:=fun z hz k=>by
    rcases t.kd z hz with q | q | q
    ·omega
    ·omega
    ·exact q.2
   refine ⟨lR,fun y hy k=>?_,fun y hy k=>?_⟩
   ·have hy':=hy
    rw [e2] at hy'
    rcases List.mem_append.1 hy' with q | q
    ·have:=L.k3 y (lq y q) k; omega
    ·obtain ⟨z,hz,rfl⟩:=List.mem_map.1 q
     have:=(g0.due hy (by show (w.take.R x.2.1).role=2; rw [eR]; exact nk z hz (.inl k)) (by show (w.take.R x.2.1).term=z.2.term; rw [eR,ot z hz]; exact rt)).1 k
     have l2:=lR x.2.1 hi
     dsimp only at this ⊢
     omega
   ·have hy':=hy
    rw [e2] at hy'
    rcases List.mem_append.1 hy' with q | q
    ·have:=L.k5 y (lq y q) k; omega
    ·obtain ⟨z,hz,rfl⟩:=List.mem_map.1 q
     have:=(g0.due hy (by show (w.take.R x.2.1).role=2; rw [eR]; exact nk z hz (.inr k)) (by show (w.take.R x.2.1).term=z.2.term; rw [eR,ot z hz]; exact rt)).2 k
     have l2:=lR x.2.1 hi
     dsimp only at this ⊢
     omega
  rcases tl with q | ⟨q1,q2,q3⟩
  ·exact .inl (key E (Int.le_refl _) q)
  ·right
   have am':(w.R x.2.1).role=1/\¬ x.2.2.term > (w.R x.2.1).term:=by
    rcases RS.wO (r:=w.R x.2.1) (m:=x.2.2) with p | p
    ·omega
    ·exact ⟨by rw [← p.1]; exact q1,p.2.2⟩
   have et:(w.R x.2.1).term=x.2.2.term:=by omega
   rcases t.r2 q2 with p | p
   ·omega
   ·refine ⟨am'.1,by rw [eR]; exact q2,p.2.1,?_,et,by rw [eR]; exact rt,key (E + 1) (by omega) q3⟩
    cases hy:x.2.2.yes with
    | true=>rfl
    | false =>
     have:=p.2.2.1
     rw [RS.vH hy,RS.l9 et,b.nw _ hi am'.1] at this
     cases this
end
end Go.Q.Rf
end
section
/- All tick: at least two members. -/
namespace Go.Q.Rf
def bX (r:RS):Prop:=r.role≠2/\r.ticks + 1>=10 + 7 * r.me
def pM (r:RS):Prop:=r.role=2/\(r.ticks + 1) % 3=0
def ask (r:RS):Msg:=⟨1,r.term + 1,r.log.last,r.log.lastT,0,false,[],[]⟩
/-- one that campaigns -/
structure Cmp (r r':RS):Prop where
 term:r'.term=r.term + 1
 role:r'.role=1
 ticks:r'.ticks=0
 aN:r'.aN=r.me + 1
 ballot:r'.ballot=some [r.me]
 log:r'.log=r.log
 me:r'.me=r.me
 n:r'.n=r.n
 commit:r'.commit=r.commit
theorem jR {r:RS} (n2:2<=r.n) (t0:0<=r.term/\r.term<=10000000) (c:bX r):Cmp r r.tick.1/\r.tick.2=r.others fun _=>ask r:=by
 unfold RS.tick
 rw [if_neg (fun q=>c.1 q.1),if_pos (show r.role≠2/\r.ticks + 1>=10 + 7 * r.me from c)]
 unfold RS.dJ
 rw [if_neg (by show ¬ r.term>=_; omega)]
 have w:W (r.term + 1)=r.term + 1:=tN (by omega) (by omega)
 have nw:(RS.asks { r with ticks:=r.ticks + 1 }).won=false:=by
  unfold RS.won RS.asks
  show decide (((1:Nat):Int)>=r.n / 2 + 1)=false
  simp; omega
 have e:=RS.si (r:=RS.asks { r with ticks:=r.ticks + 1 }) (.inr nw)
 rw [e]
 dsimp only
 have et:(RS.asks { r with ticks:=r.ticks + 1 }).term=r.term + 1:=w
 refine ⟨⟨et,rfl,rfl,rfl,rfl,rfl,rfl,rfl,rfl⟩,?_⟩
 rw [List.append_nil,et]
 rfl
theorem pV {r:RS} (c:pM r):r.tick=({ r with ticks:=r.ticks + 1 },RS.others { r with ticks:=r.ticks + 1 } (RS.due { r with ticks:=r.ticks + 1 })):=by
 unfold RS.tick; rw [if_pos (show r.role=2/\(r.ticks + 1) % 3=0 from c)]
theorem mX {r:RS} (c:¬ bX r) (d:¬ pM r):r.tick=({ r with ticks:=r.ticks + 1 },[]):=by
 unfold RS.tick
 rw [if_neg (show ¬ (r.role=2/\(r.ticks + 1) % 3=0) from d),if_neg (show ¬ (r.role≠2/\r.ticks + 1>=10 + 7 * r.me) from c)]
theorem nA {r:RS} (c:¬ bX r):r.tick.1 = { r with ticks:=r.ticks + 1 }:=by
 by_cases d:pM r
 ·rw [pV d]
 ·rw [mX c d]
/-- the ticks of the first k -/
def tks:Nat->PW->PW
 | 0,w=>w
 | k + 1,w=>(tks k w).tick k
/-- what came of them -/
structure TkS (k:Nat) (w w':PW):Prop where
 a:∀ j:Int,0<=j/\j < k->w'.R j=cl (w.R j).tick.1
 b:∀ j:Int,¬ (0<=j/\j < k)->w'.R j=w.R j
 q:∃ new,w'.q=w.q ++ new/\(∀ y∈new,(0<=y.1/\y.1 < k)/\y.2∈(w.R y.1).tick.2)/\∀ (j:Int) z,0<=j/\j < k->z∈(w.R j).tick.2->(j,z)∈new
 ql:(w'.q.length:Int)=w.q.length + sm (fun j=>((w.R j).tick.2.length:Int)) k
section
variable {n T Λ:Int} {N:Nat} {w:PW}
theorem mJ:∀ {N:Nat} (k:Nat),(k:Int)<=n->Good n (N + 2 * k) w->(w.q.length:Int) + tL n w.R + 2 * k<=2900->TkS k w (tks k w)/\Good n N (tks k w)/\((tks k w).q.length:Int) + tL n (tks k w).R<=w.q.length + tL n w.R + 2 * k
 | _,0,_,g,_=>⟨⟨fun j h=>by omega,fun j _=>rfl,⟨[],by simp [tks],by simp,fun j z h=>by omega⟩,by simp [tks,sm]⟩,g,by simp [tks]⟩
 | N,k + 1,hk,g,p=>by
  obtain ⟨t,g',p'⟩:=mJ (N:=N + 2) k (by omega) (by rw [show N + 2 + 2 * k=N + 2 * (k + 1) from by omega]; exact g) (by omega)
  have hi:Mb n k:=⟨by omega,by omega⟩
  have n1:=g.n1
  have eR:(tks k w).R k=w.R k:=t.b _ (by omega)
  have rn:=g'.rn hi
  have tk0:=g'.tk _ hi
  have tp:=Cs tk0 (by omega) (by omega)
  have ps0:=uy g'
  have pz:=Ec tk0
  have psk:pot ((tks k w).R k)<=tL n (tks k w).R:=by
   have:=xx (f:=fun j=>pot ((tks k w).R j)) (g:=fun j=>if j=k then 0 else pot ((tks k w).R j)) (i:=k) (fun j hj=>if_neg hj) n.toNat
   rw [if_pos (by unfold Mb at hi; omega),if_pos rfl] at this
   have h0:=uf (f:=fun _=>0) (g:=fun j=>if j=k then 0 else pot ((tks k w).R j)) n.toNat fun j h0 h1=>by
    split
    ·omega
    ·exact Ec (g'.tk j ⟨h0,by omega⟩)
   rw [mI] at h0
   unfold tL; omega
  have cp:cap (tks k w).q (bK k ((tks k w).R k).tick.2)=(tks k w).q ++ bK k ((tks k w).R k).tick.2:=Gs (by
   unfold bK; rw [List.length_map]
   have:0<=pot ((tks k w).R k).tick.1:=Ec (yQ _ tk0)
   omega)
  have e:tks (k + 1) w=⟨upd (tks k w).R k (cl (w.R k).tick.1),(tks k w).q ++ bK k (w.R k).tick.2⟩:=by
   show (tks k w).tick k=_
   unfold PW.tick PW.act
   rw [cp,eR]
  have g2:Good n N (tks (k + 1) w):=g'.tick hi
  refine ⟨?_,g2,?_⟩
  ·rw [e]
   obtain ⟨new,q1,q2,q3⟩:=t.q
   refine ⟨fun j hj=>?_,fun j hj=>?_,⟨new ++ bK k (w.R k).tick.2,by show _ ++ _=_; rw [q1,List.append_assoc],fun y hy=>?_,fun j z hj hz=>?_⟩,?_⟩
   ·show upd _ _ _ j=_
    by_cases c:j=k
    ·subst c; rw [upd_same]
    ·rw [aL c]; exact t.a j (by omega)
   ·show upd _ _ _ j=_
    rw [aL (by omega)]; exact t.b j (by omega)
   ·rcases List.mem_append.1 hy with hy | hy
    ·have:=q2 y hy; exact ⟨by omega,this.2⟩
    ·obtain ⟨z,hz,rfl⟩:=List.mem_map.1 hy
     exact ⟨by show 0<=(k:Int)/\(k:Int) < _; omega,hz⟩
   ·by_cases c:j=k
    ·subst c; exact List.mem_append.2 (.inr (List.mem_map.2 ⟨z,hz,rfl⟩))
    ·exact List.mem_append.2 (.inl (q3 j z (by omega) hz))
   ·have es:sm (fun j=>((w.R j).tick.2.length:Int)) (k + 1)=sm (fun j=>((w.R j).tick.2.length:Int)) k + ((w.R k).tick.2.length:Int):=rfl
    rw [es]
    show ((_ ++ _:List Let).length:Int)=_
    rw [List.length_append,bK,List.length_map]
    have:=t.ql
    omega
  ·rw [e]
   show ((_ ++ _:List Let).length:Int) + tL n (upd _ _ _)<=_
   rw [yZ hi,List.length_append,bK,List.length_map,DV,← eR]
   omega
theorem Good.tm (g:Good n N w) {i:Int} (hi:Mb n i):0<=(w.R i).term/\(w.R i).term<=10000000:=by
 obtain ⟨B,G,s,b⟩:=g.s
 have m:=s.core.mi _ hi.1 hi.2
 have:=m.t0; have:=m.bt
 omega
theorem zi (n2:2<=n) (g:Good n (N + 2 * n.toNat) w) {T':Int} (b:Bs n T Λ w) (hΛ:Λ + 2 * n<=2900) (hT:T<=T') (c:∀ j,Mb n j->bX (w.R j)->(w.R j).term + 1<=T'):Bs n T' (Λ + 2 * n) (tks n.toNat w):=by
 have pt:=b.pt
 obtain ⟨t,g',p'⟩:=mJ (N:=N) n.toNat (by omega) g (by omega)
 have nn:((n.toNat:Nat):Int)=n:=by omega
 rw [nn] at p'
 have ta:∀ j,Mb n j->(tks n.toNat w).R j=cl (w.R j).tick.1:=fun j hj=>t.a j (by unfold Mb at hj; omega)
 have tr:∀ j,Mb n j->(w.R j).tick.1.term<=T':=fun j hj=>by
  by_cases h:bX (w.R j)
  ·rw [(jR (by rw [(g.rn hj).1]; exact n2) (g.tm hj) h).1.term]; exact c j hj h
  ·rw [nA h]; have:=b.tr j hj; show (w.R j).term<=_; omega
 refine ⟨fun j hj=>by rw [ta j hj]; exact tr j hj,fun y hy=>?_,fun j hj hr=>?_,fun j hj hr=>?_,by omega⟩
 ·obtain ⟨new,q1,q2,q3⟩:=t.q
  rw [q1] at hy
  rcases List.mem_append.1 hy with hy | hy
  ·have:=b.tq y hy; omega
  ·obtain ⟨m1,m2⟩:=q2 y hy
   have hj:Mb n y.1:=⟨m1.1,by omega⟩
   have h:=tr y.1 hj
   by_cases h2:bX (w.R y.1)
   ·obtain ⟨k1,k2⟩:=jR (by rw [(g.rn hj).1]; exact n2) (g.tm hj) h2
    rw [k2] at m2
    rw [(RS.jC m2).1]
    rw [k1.term] at h; exact h
   ·by_cases h3:pM (w.R y.1)
    ·rw [pV h3] at m2 h
     rw [(RS.jC m2).1,RS.lU]; exact h
    ·rw [mX h2 h3] at m2; cases m2
 ·rw [ta j hj] at hr ⊢
  change (w.R j).tick.1.role=1 at hr
  show (w.R j).tick.1.won=false
  by_cases h:bX (w.R j)
  ·have k1:=(jR (by rw [(g.rn hj).1]; exact n2) (g.tm hj) h).1
   unfold RS.won
   rw [k1.ballot,k1.n,(g.rn hj).1]
   simp; omega
  ·rw [nA h] at hr ⊢
   exact b.nw j hj hr
 ·rw [ta j hj] at hr ⊢
  change (w.R j).tick.1.role≠0 at hr
  show (w.R j).tick.1.aN=_
  by_cases h:bX (w.R j)
  ·have k1:=(jR (by rw [(g.rn hj).1]; exact n2) (g.tm hj) h).1
   rw [k1.aN,(g.rn hj).2]
  ·rw [nA h] at hr ⊢
   exact b.vl j hj hr
theorem wG (n2:2<=n) (g:Good n (N + 2 * n.toNat) w) {E:Int} (L:Len n E w) (hΛ:(w.q.length:Int) + tL n w.R + 2 * n<=2900):Len n E (tks n.toNat w):=by
 obtain ⟨t,g',p'⟩:=mJ (N:=N) n.toNat (by omega) g (by omega)
 have ta:∀ j,Mb n j->(tks n.toNat w).R j=cl (w.R j).tick.1:=fun j hj=>t.a j (by unfold Mb at hj; omega)
 have lR:∀ j,Mb n j->((tks n.toNat w).R j).log.last<=E:=fun j hj=>by
  rw [ta j hj]
  show (w.R j).tick.1.log.last<=E
  by_cases h:bX (w.R j)
  ·rw [(jR (by rw [(g.rn hj).1]; exact n2) (g.tm hj) h).1.log]; exact L.l j hj
  ·rw [nA h]; exact L.l j hj
 obtain ⟨new,q1,q2,q3⟩:=t.q
 have key:∀ y∈new,(y.2.2.kind=3∨y.2.2.kind=5)->Mb n y.1/\((tks n.toNat w).R y.1).role=2/\((tks n.toNat w).R y.1).term=y.2.2.term:=fun y hy k=>by
  obtain ⟨m1,m2⟩:=q2 y hy
  have hj:Mb n y.1:=⟨m1.1,by omega⟩
  refine ⟨hj,?_⟩
  rw [ta _ hj]
  show (w.R y.1).tick.1.role=2/\(w.R y.1).tick.1.term=_
  by_cases h2:bX (w.R y.1)
  ·obtain ⟨k1,k2⟩:=jR (by rw [(g.rn hj).1]; exact n2) (g.tm hj) h2
   rw [k2] at m2
   rw [(RS.jC m2).1] at k
   rcases k with k | k <;> cases k
  ·by_cases h3:pM (w.R y.1)
   ·rw [pV h3] at m2 ⊢
    rw [(RS.jC m2).1,RS.lU]; exact ⟨h3.1,rfl⟩
   ·rw [mX h2 h3] at m2; cases m2
 refine ⟨lR,fun y hy k=>?_,fun y hy k=>?_⟩
 ·have hy':=hy
  rw [q1] at hy'
  rcases List.mem_append.1 hy' with h | h
  ·exact L.k3 y h k
  ·obtain ⟨a,b,c⟩:=key y h (.inl k)
   have:=(g'.due hy b c).1 k
   have:=lR _ a; omega
 ·have hy':=hy
  rw [q1] at hy'
  rcases List.mem_append.1 hy' with h | h
  ·exact L.k5 y h k
  ·obtain ⟨a,b,c⟩:=key y h (.inr k)
   have:=(g'.due hy b c).2 k
   have:=lR _ a; omega
end
end Go.Q.Rf
end

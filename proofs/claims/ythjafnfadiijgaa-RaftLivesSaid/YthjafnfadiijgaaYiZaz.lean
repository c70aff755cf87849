/- A part of the proof of statements of this seat: lemmas, no statement of their own. -/
import Derived.Test.YthjafnfadiijgaaYiZay
set_option linter.unusedVariables false
set_option linter.unusedSimpArgs false
section
/- What a member does: ticks, letters that come, proposals, cuts. -/
namespace Go.Q.Rf
/-- what is said of letters, of what is committed, of who led, goes on -/
structure Pst (n:Int) (G G':Gh):Prop where
 li:∀ f t m,LI n G f t m->LI n G' f t m
 com:∀ A P,Com n G A P->Com n G' A P
 ld:∀ T j,G.ld T=some j->G'.ld T=some j
theorem Gx.pst {n:Int} {G G':Gh} {i t:Int} (X:Gx G G' i t):Pst n G G':=⟨fun _ _ _ h=>X.li h,fun _ _ h=>X.com h,X.ld⟩
theorem Pst.refl (n:Int) (G:Gh):Pst n G G:=⟨fun _ _ _ h=>h,fun _ _ h=>h,fun _ _ h=>h⟩
theorem Pst.trans {n:Int} {G G' G2:Gh} (p:Pst n G G') (q:Pst n G' G2):Pst n G G2:=⟨fun f t m h=>q.li f t m (p.li f t m h),fun A P h=>q.com A P (p.com A P h),fun T j h=>q.ld T j (p.ld T j h)⟩
theorem nY (R:Int->RS) (i:Int) (a b:RS):upd (upd R i a) i b=upd R i b:=by
 funext k
 by_cases c:k=i
 ·subst c; rw [upd_same,upd_same]
 ·rw [aL c,aL c,aL c]
theorem mD (R:Int->RS) (i:Int):upd R i (R i)=R:=by
 funext k
 by_cases c:k=i
 ·subst c; rw [upd_same]
 ·rw [aL c]
theorem Core.mono {n:Int} {B B':Nat} {G:Gh} {R:Int->RS} (C:Core n B G R) (h:B<=B'):Core n B' G R :=
 ⟨fun i i0 i1=>(C.mi i i0 i1).mono h,fun T j hj=>(C.el T j hj).mono h⟩
section
variable {n:Int} {B:Nat} {G:Gh} {R:Int->RS} {i:Int} {r r':RS}
theorem Core.eqv (C:Core n B G R) (i0:0<=i) (i1:i < n) (h:Eqv (R i) r):Core n B G (upd R i r):=(C.same i0 i1 (Nat.le_refl _) ((C.mi i i0 i1).eqv h)).1
/-- letters of member i -/
def Lts (n:Int) (B:Nat) (G:Gh) (i:Int) (l:List gQ):Prop:=∀ x∈l,LI n G i x.1 x.2/\0<=x.2.term/\x.2.term<=B
theorem Lts.nil:Lts n B G i []:=fun x h=>by cases h
theorem Lts.pst {G':Gh} {B':Nat} {l:List gQ} (L:Lts n B G i l) (P:Pst n G G') (hB:B<=B'):Lts n B' G' i l:=fun x h=>⟨P.li _ _ _ (L x h).1,(L x h).2.1,by have:=(L x h).2.2; omega⟩
theorem Lts.app {l l':List gQ} (L:Lts n B G i l) (L':Lts n B G i l'):Lts n B G i (l ++ l'):=fun x h=>(List.mem_append.1 h).elim (L x) (L' x)
theorem ut (M:MI n B G i r) (i0:0<=i) (i1:i < n) {f k:Int} {y:Bool} {x:Int} (h2:k=2->y=true->G.vt r.term i=some f) (h4:k=4->y=true->0<=x/\x.toNat<=G.ak r.term i) (hk:k=2∨k=4):Lts n B G i (r.answer f k y x):=fun z hz=>by
 unfold RS.answer at hz
 rw [List.mem_singleton] at hz
 subst hz
 exact ⟨⟨⟨i0,i1⟩,fun q=>(by have:k=1:=q; omega),h2,fun q=>(by have:k=3:=q; omega),h4,fun q=>(by have:k=5:=q; omega)⟩,M.t0,M.bt⟩
theorem GG (C:Core n B G R) (i0:0<=i) (i1:i < n) (hB:B<=50000000) (h2:(R i).role=2) {k:Int} (k0:0<=k) (k1:k < n):LI n G i k ((R i).due k)/\0<=((R i).due k).term/\((R i).due k).term<=B:=by
 have M:=C.mi i i0 i1
 have A:=M.l1 h2
 have hl:G.ld (R i).term≠none:=by rw [A.ld]; simp
 have x0:=M.rep.i0
 have x1:=M.rep.i1
 have c0:=M.c0
 have c2:=M.c2
 have bf:=M.bf
 have hk:k.toNat < (R i).next.length:=by rw [A.nl]; omega
 have nx:=A.nx _ (List.getElem_mem hk)
 have e:(R i).next.getD k.toNat 0=(R i).next[k.toNat]:=by rw [List.getD_eq_getElem?_getD,List.getElem?_eq_getElem hk]; rfl
 unfold RS.due
 rw [e]
 obtain ⟨v,ev⟩:∃ v,v=(R i).next[k.toNat]:=⟨_,rfl⟩
 rw [← ev] at nx ⊢
 by_cases c:v<=(R i).log.ix
 ·rw [if_pos c]
  refine ⟨⟨⟨i0,i1⟩,fun q=>(by cases q),fun q=>(by cases q),fun q=>(by cases q),fun q=>(by cases q),fun _=>⟨A.ld,x0,by show (R i).log.ix.toNat<=_; rw [← A.F]; exact x1,?_,?_⟩⟩,M.t0,M.bt⟩
  ·show tA (G.LL (R i).term) (R i).log.ix.toNat=(R i).log.tm
   rw [← A.F,M.rep.tm]
  ·show Com n G (R i).term ((G.LL (R i).term).take (R i).log.ix.toNat)
   rw [← A.F]
   have:=M.cm.take (R i).log.ix.toNat
   rw [List.take_take,Nat.min_eq_left (by omega)] at this
   exact this
 ·rw [if_neg c]
  have wv:W (v - 1)=v - 1:=tN (by omega) (by omega)
  have to:=M.rep.aF (p:=v - 1) (by omega)
  rw [if_neg (by omega),if_neg (by omega)] at to
  have fr:=M.rep.frm (p:=v) (m:=4) (by omega) (by omega) nx.2
  rw [wv,to,fr]
  refine ⟨⟨⟨i0,i1⟩,fun q=>(by cases q),fun q=>(by cases q),fun _=>⟨A.ld,by show 0<=v - 1; omega,?_,?_,fun j x hx=>?_,by show 0<=(R i).commit; omega,by show (R i).commit.toNat<=_; rw [← A.F]; omega,by show Com n G (R i).term ((G.LL (R i).term).take (R i).commit.toNat); rw [← A.F]; exact M.cm⟩,fun q=>(by cases q),fun q=>(by cases q)⟩,M.t0,M.bt⟩
  ·show (v - 1).toNat + (((G.F i).drop (v.toNat - 1)).take (4:Int).toNat).length<=(G.LL (R i).term).length
   rw [← A.F,List.length_take,List.length_drop]; omega
  ·show tA (G.LL (R i).term) (v - 1).toNat=tA (G.F i) (v - 1).toNat
   rw [A.F]
  ·have hx':(((G.F i).drop (v.toNat - 1)).take (4:Int).toNat)[j]? = some x:=hx
   rw [List.getElem?_take] at hx'
   split at hx'
   ·rw [List.getElem?_drop] at hx'
    show (G.LL (R i).term)[(v - 1).toNat + j]? = some x
    rw [← A.F,show (v - 1).toNat + j=v.toNat - 1 + j from by omega]; exact hx'
   ·cases hx'
theorem EM (C:Core n B G R) (i0:0<=i) (i1:i < n) (hB:B<=50000000) (h2:(R i).role=2):Lts n B G i ((R i).others (R i).due):=fun x hx=>by
 unfold RS.others at hx
 obtain ⟨k,hk,rfl⟩:=List.mem_map.1 hx
 have:=RS.uH hk
 rw [(C.mi i i0 i1).rn] at this
 exact GG C i0 i1 hB h2 this.1 this.2.1
theorem y8 (C:Core n B G R) (i0:0<=i) (i1:i < n) (hB:B<=10000000) (h2:(R i).role=2) (cmd:List Int):∃ G',Core n (B + 1) G' (upd R i ((R i).put cmd).1)/\Pst n G G'/\((R i).put cmd).1.role=2:=by
 unfold RS.put
 by_cases c:((R i).log.append (R i).log.last (R i).log.lastT [((R i).term,cmd)]).2.2≠0
 ·rw [if_pos c]
  exact ⟨G,by rw [mD]; exact C.mono (by omega),Pst.refl n G,h2⟩
 ·rw [if_neg c]
  obtain ⟨r1,er⟩:∃ r1:RS,r1 = { R i with log:=((R i).log.append (R i).log.last (R i).log.lastT [((R i).term,cmd)]).1,keeps:=(R i).keeps ++ [⟨2,(R i).log.lastT,0,(R i).log.last,[((R i).term,cmd)],[]⟩],has:=(R i).has.set (R i).me.toNat ((R i).log.append (R i).log.last (R i).log.lastT [((R i).term,cmd)]).2.1 }:=⟨_,rfl⟩
  have rr:r1.role=2:=by rw [er]; exact h2
  obtain ⟨G',g1,g2⟩:=C.put i0 i1 (by omega) h2 (cmd:=cmd) (Decidable.not_not.1 c) (r:=r1) (by rw [er]; exact ⟨rfl,rfl,rfl,rfl,rfl,rfl,rfl,rfl,rfl,rfl⟩)
  have S:=g1.settle i0 i1 (by rw [upd_same]; exact rr)
  rw [upd_same,nY] at S
  rw [← er]
  exact ⟨G',S.1,g2.pst,S.2.2.2⟩
theorem zN (C:Core n B G R) (i0:0<=i) (i1:i < n) (hB:B<=10000000):∃ G',Core n (B + 1) G' (upd R i (R i).win.1)/\Pst n G G'/\Lts n (B + 1) G' i (R i).win.2:=by
 unfold RS.win
 by_cases c:(R i).role≠1∨(R i).won=false
 ·rw [if_pos c]
  exact ⟨G,by rw [mD]; exact C.mono (by omega),Pst.refl n G,Lts.nil⟩
 ·rw [if_neg c]
  have c1:(R i).role=1:=Decidable.not_not.1 fun q=>c (.inl q)
  have c2:(R i).won=true:=by cases h:(R i).won with | true=>rfl | false=>exact absurd (.inr h) c
  obtain ⟨G1,g1,g2⟩:=C.lead i0 i1 (by omega) c1 c2
  obtain ⟨G2,h1,h2,h3⟩:=y8 g1 i0 i1 hB (by rw [upd_same]; rfl) []
  rw [upd_same,nY] at h1
  rw [upd_same] at h3
  refine ⟨G2,h1,g2.pst.trans h2,?_⟩
  have:=EM h1 i0 i1 (by omega) (by rw [upd_same]; exact h3)
  rw [upd_same] at this
  exact this
theorem IG (C:Core n B G R) (i0:0<=i) (i1:i < n) (hB:B<=10000000 - 2):∃ G',Core n (B + 2) G' (upd R i (R i).dJ.1)/\Pst n G G'/\Lts n (B + 2) G' i (R i).dJ.2:=by
 unfold RS.dJ
 by_cases c:(R i).term>=4611686018427387904
 ·rw [if_pos c]
  exact ⟨G,by rw [mD]; exact C.mono (by omega),Pst.refl n G,Lts.nil⟩
 ·rw [if_neg c]
  have M:=C.mi i i0 i1
  obtain ⟨G1,g1,g2,g3,g4,g5,g6⟩:=C.asks i0 i1 (by omega)
  obtain ⟨G2,h1,h2,h3⟩:=zN g1 i0 i1 (by omega)
  rw [upd_same] at h1 h3
  rw [nY] at h1
  refine ⟨G2,h1,g2.pst.trans h2,Lts.app ?_ h3⟩
  have L1:Lts n (B + 1) G1 i ((R i).asks.others fun _=>⟨1,(R i).asks.term,(R i).log.last,(R i).log.lastT,0,false,[],[]⟩):=fun x hx=>by
   unfold RS.others at hx
   obtain ⟨k,hk,rfl⟩:=List.mem_map.1 hx
   have t0:=M.t0
   have bt:=M.bt
   refine ⟨⟨⟨i0,i1⟩,fun _=>?_,fun q=>(by cases q),fun q=>(by cases q),fun q=>(by cases q),fun q=>(by cases q)⟩,by show 0<=(R i).asks.term; rw [g3]; omega,by show (R i).asks.term<=_; rw [g3]; omega⟩
   show G1.vt (R i).asks.term i=some i/\G1.cp (R i).asks.term i=((R i).log.lastT,(R i).log.last.toNat)/\0<=(R i).log.last
   rw [g3,M.rep.last,M.rep.lastT]
   exact ⟨g4,by rw [g5,Int.toNat_natCast],by omega⟩
  exact L1.pst h2 (by omega)
theorem yz (C:Core n B G R) (i0:0<=i) (i1:i < n) (hB:B<=10000000 - 2):∃ G',Core n (B + 2) G' (upd R i (R i).tick.1)/\Pst n G G'/\Lts n (B + 2) G' i (R i).tick.2:=by
 obtain ⟨r1,er⟩:∃ r1:RS,r1 = { R i with ticks:=(R i).ticks + 1 }:=⟨_,rfl⟩
 have C1:Core n B G (upd R i r1):=C.eqv i0 i1 (by rw [er]; exact ⟨rfl,rfl,rfl,rfl,rfl,rfl,rfl,rfl,rfl,rfl⟩)
 unfold RS.tick
 rw [← er]
 by_cases c1:(R i).role=2/\((R i).ticks + 1) % 3=0
 ·rw [if_pos c1]
  have:=EM C1 i0 i1 (by omega) (by rw [upd_same,er]; exact c1.1)
  rw [upd_same] at this
  exact ⟨G,C1.mono (by omega),Pst.refl n G,this.pst (Pst.refl n G) (by omega)⟩
 rw [if_neg c1]
 by_cases c2:(R i).role≠2/\(R i).ticks + 1>=10 + 7 * (R i).me
 ·rw [if_pos c2]
  obtain ⟨G2,h1,h2,h3⟩:=IG C1 i0 i1 hB
  rw [upd_same] at h1 h3
  rw [nY] at h1
  exact ⟨G2,h1,h2,h3⟩
 ·rw [if_neg c2]
  exact ⟨G,C1.mono (by omega),Pst.refl n G,Lts.nil⟩
theorem yU (C:Core n B G R) (i0:0<=i) (i1:i < n) {f:Int} {m:Msg} (L:LI n G f i m) (ne:f≠i) (mk:m.kind=1) (mt:m.term=(R i).term):∃ G',Core n B G' (upd R i ((R i).lv f m).1)/\Pst n G G'/\Lts n B G' i ((R i).lv f m).2:=by
 have M:=C.mi i i0 i1
 unfold RS.lv
 by_cases c:(R i).mP f m=true
 ·rw [if_pos c]
  unfold RS.mP at c
  rw [Bool.and_eq_true] at c
  by_cases v:(R i).aN=0
  ·rw [if_pos v]
   obtain ⟨G',g1,g2,g3⟩:=C.aN i0 i1 L mk mt ne v c.2 (r:={ RS.fq { R i with aN:=f + 1 } with ticks:=0 }) ⟨rfl,rfl,rfl,rfl,rfl,rfl,rfl,rfl,rfl,rfl⟩
   have M':=g1.mi i i0 i1
   rw [upd_same] at M'
   refine ⟨G',g1,g2.pst,?_⟩
   have:=ut M' i0 i1 (f:=f) (k:=2) (y:=true) (x:=0) (fun _ _=>g3) (fun q=>by cases q) (.inl rfl)
   exact this
  ·rw [if_neg v]
   have C1:Core n B G (upd R i { R i with ticks:=0 }):=C.eqv i0 i1 ⟨rfl,rfl,rfl,rfl,rfl,rfl,rfl,rfl,rfl,rfl⟩
   refine ⟨G,C1,Pst.refl n G,ut M i0 i1 (fun _ _=>?_) (fun q=>by cases q) (.inl rfl)⟩
   rw [M.v1,if_neg v]
   have:=c.1
   simp only [Bool.or_eq_true,beq_iff_eq] at this
   congr 1; omega
 ·rw [if_neg c]
  exact ⟨G,by rw [mD]; exact C,Pst.refl n G,ut M i0 i1 (fun _ q=>by cases q) (fun q=>by cases q) (.inl rfl)⟩
theorem Er (C:Core n B G R) (i0:0<=i) (i1:i < n) {f:Int} {m:Msg} (mt:m.term=(R i).term):Core n B G (upd R i ((R i).dZ f m))/\((R i).dZ f m).term=(R i).term/\((R i).dZ f m).role=0:=by
 have M:=C.mi i i0 i1
 have h:=(C.follow i0 i1 (T:=m.term) (l:=f) (by omega) (by rw [mt]; exact M.bt)).1
 have h2:=h.eqv i0 i1 (r:=(R i).dZ f m) (by rw [upd_same]; exact ⟨rfl,rfl,rfl,rfl,rfl,rfl,rfl,rfl,rfl,rfl⟩)
 rw [nY] at h2
 refine ⟨h2,?_,rfl⟩
 show ((R i).aK m.term).term=_
 unfold RS.aK
 rw [if_neg (by omega)]
theorem vC (C:Core n B G R) (i0:0<=i) (i1:i < n) (hB:B<=10000000) {f:Int} {m:Msg} (L:LI n G f i m) (mk:m.kind=3) (mt:m.term=(R i).term):∃ G',Core n B G' (upd R i ((R i).appends f m).1)/\Pst n G G'/\Lts n B G' i ((R i).appends f m).2:=by
 obtain ⟨C1,t1,r1⟩:=Er C i0 i1 (f:=f) mt
 unfold RS.appends RS.mQ
 obtain ⟨q,eq⟩:∃ q,q=(R i).dZ f m:=⟨_,rfl⟩
 rw [← eq] at C1 t1 r1 ⊢
 have M1:=C1.mi i i0 i1
 rw [upd_same] at M1
 by_cases c:(q.log.append m.index m.logTerm m.aM).2.2≠0
 ·rw [if_pos c]
  exact ⟨G,C1,Pst.refl n G,ut M1 i0 i1 (fun q=>by cases q) (fun _ y=>by cases y) (.inr rfl)⟩
 ·rw [if_neg c]
  obtain ⟨G',g1,g2,g3,g4⟩:=C1.app i0 i1 (by omega) (by rw [upd_same]; exact r1) L mk (by rw [upd_same,t1]; exact mt) (by rw [upd_same]; exact Decidable.not_not.1 c) (r:=q.Ae m) (by rw [upd_same]; exact ⟨rfl,rfl,rfl,rfl,rfl,rfl,rfl,rfl,rfl,rfl⟩)
  rw [nY] at g1
  rw [upd_same] at g3 g4
  have M':=g1.mi i i0 i1
  rw [upd_same] at M'
  exact ⟨G',g1,g2.pst,ut M' i0 i1 (fun q=>by cases q) (fun _ _=>⟨g3,g4⟩) (.inr rfl)⟩
theorem uo (C:Core n B G R) (i0:0<=i) (i1:i < n) {f:Int} {m:Msg} (L:LI n G f i m) (mk:m.kind=5) (mt:m.term=(R i).term):∃ G',Core n B G' (upd R i ((R i).dK f m).1)/\Pst n G G'/\Lts n B G' i ((R i).dK f m).2:=by
 obtain ⟨C1,t1,r1⟩:=Er C i0 i1 (f:=f) mt
 unfold RS.dK
 obtain ⟨q,eq⟩:∃ q,q=(R i).dZ f m:=⟨_,rfl⟩
 rw [← eq] at C1 t1 r1 ⊢
 obtain ⟨G',g1,g2,g3,g4⟩:=C1.aQ i0 i1 (by rw [upd_same]; exact r1) L mk (by rw [upd_same,t1]; exact mt) (r:=q.lV m) (by rw [upd_same]; exact ⟨rfl,rfl,rfl,rfl,rfl,rfl,rfl,rfl,rfl,rfl⟩)
 rw [nY] at g1
 rw [upd_same] at g4
 have M':=g1.mi i i0 i1
 rw [upd_same] at M'
 have et:(q.lV m).term=q.term:=by unfold RS.lV; split <;> rfl
 exact ⟨G',g1,g2.pst,ut M' i0 i1 (fun q=>by cases q) (fun _ _=>⟨g3,by rw [et]; exact g4⟩) (.inr rfl)⟩
theorem uQ (C:Core n B G R) (i0:0<=i) (i1:i < n) (hB:B<=10000000) {f:Int} {m:Msg} (L:LI n G f i m) (mk:m.kind=4) (mt:m.term=(R i).term):∃ G',Core n B G' (upd R i ((R i).appended f m).1)/\Pst n G G'/\Lts n B G' i ((R i).appended f m).2:=by
 have f0:=L.fr
 unfold RS.appended
 by_cases c1:(R i).role≠2
 ·rw [if_pos c1]; exact ⟨G,by rw [mD]; exact C,Pst.refl n G,Lts.nil⟩
 rw [if_neg c1]
 have c1':=Decidable.not_not.1 c1
 have one:∀ {r1:RS},Core n B G (upd R i r1)->r1.role=2->Lts n B G i [(f,r1.due f)]:=fun {r1} h hr x hx=>by
  rw [List.mem_singleton] at hx
  subst hx
  have:=GG h i0 i1 (by omega) (by rw [upd_same]; exact hr) f0.1 f0.2
  rw [upd_same] at this
  exact this
 by_cases c2:m.yes=false
 ·rw [if_pos c2]
  obtain ⟨h,_⟩:=C.back i0 i1 (by omega) c1' (m:=m) f0
  exact ⟨G,h,Pst.refl n G,one h c1'⟩
 rw [if_neg c2]
 by_cases c3:m.index > (R i).log.last
 ·rw [if_pos c3]; exact ⟨G,by rw [mD]; exact C,Pst.refl n G,Lts.nil⟩
 rw [if_neg c3]
 obtain ⟨h,_,_,hr⟩:=C.gD i0 i1 (by omega) c1' L mk mt (by simpa using c2) (by omega)
 by_cases c4:((R i).gD f m).next.getD f.toNat 0<=(R i).log.last
 ·rw [if_pos c4]; exact ⟨G,h,Pst.refl n G,one h hr⟩
 ·rw [if_neg c4]; exact ⟨G,h,Pst.refl n G,Lts.nil⟩
theorem Ay (C:Core n B G R) (i0:0<=i) (i1:i < n) (hB:B<=10000000) {f:Int} {m:Msg} (L:LI n G f i m) (ne:f≠i) (mk:1<=m.kind/\m.kind<=5) (mt:m.term=(R i).term):∃ G',Core n (B + 1) G' (upd R i ((R i).take2 f m).1)/\Pst n G G'/\Lts n (B + 1) G' i ((R i).take2 f m).2:=by
 have up:∀ {r1:RS} {l:List gQ},(∃ G',Core n B G' (upd R i r1)/\Pst n G G'/\Lts n B G' i l)->∃ G',Core n (B + 1) G' (upd R i r1)/\Pst n G G'/\Lts n (B + 1) G' i l:=fun ⟨G',a,b,c⟩=>⟨G',a.mono (by omega),b,c.pst (Pst.refl n G') (by omega)⟩
 unfold RS.take2
 by_cases k1:m.kind=1
 ·rw [if_pos k1]; exact up (yU C i0 i1 L ne k1 mt)
 rw [if_neg k1]
 by_cases k2:m.kind=2
 ·rw [if_pos k2]
  obtain ⟨h,hx,_⟩:=C.counted i0 i1 L k2 mt
  obtain ⟨G2,h1,h2,h3⟩:=zN h i0 i1 hB
  rw [upd_same] at h1 h3
  rw [nY] at h1
  exact ⟨G2,h1,h2,h3⟩
 rw [if_neg k2]
 by_cases k3:m.kind=3
 ·rw [if_pos k3]; exact up (vC C i0 i1 hB L k3 mt)
 rw [if_neg k3]
 by_cases k4:m.kind=4
 ·rw [if_pos k4]; exact up (uQ C i0 i1 hB L k4 mt)
 rw [if_neg k4]
 exact up (uo C i0 i1 L (by omega) mt)
theorem CP (C:Core n B G R) (i0:0<=i) (i1:i < n) (hB:B<=10000000) {f:Int} {m:Msg} (L:LI n G f i m) (mb:m.term<=B):∃ G',Core n (B + 1) G' (upd R i ((R i).take f m).1)/\Pst n G G'/\Lts n (B + 1) G' i ((R i).take f m).2:=by
 have M:=C.mi i i0 i1
 unfold RS.take
 by_cases c:f < 0∨f>=(R i).n∨f=(R i).me∨m.kind < 1∨m.kind > 5
 ·rw [if_pos c]; exact ⟨G,by rw [mD]; exact C.mono (by omega),Pst.refl n G,Lts.nil⟩
 rw [if_neg c,M.me,M.rn] at *
 have ne:f≠i:=fun q=>c (.inr (.inr (.inl q)))
 have mk:1<=m.kind/\m.kind<=5:=⟨Int.not_lt.1 fun q=>c (.inr (.inr (.inr (.inl q)))),Int.not_lt.1 fun q=>c (.inr (.inr (.inr (.inr q))))⟩
 by_cases c1:m.term < (R i).term
 ·rw [if_pos c1]
  refine ⟨G,by rw [mD]; exact C.mono (by omega),Pst.refl n G,?_⟩
  unfold RS.late
  have M1:MI n (B + 1) G i (R i):=M.mono (by omega)
  by_cases k1:m.kind=1
  ·rw [if_pos k1]; exact ut M1 i0 i1 (fun _ q=>by cases q) (fun q=>by cases q) (.inl rfl)
  rw [if_neg k1]
  by_cases k3:m.kind=3∨m.kind=5
  ·rw [if_pos k3]; exact ut M1 i0 i1 (fun q=>by cases q) (fun _ q=>by cases q) (.inr rfl)
  ·rw [if_neg k3]; exact Lts.nil
 rw [if_neg c1]
 by_cases c2:m.term > (R i).term
 ·rw [if_pos c2]
  obtain ⟨h,hx⟩:=C.follow i0 i1 (T:=m.term) (l:=-1) (by omega) mb
  obtain ⟨G2,h1,h2,h3⟩:=Ay h i0 i1 hB L ne mk (by rw [upd_same]; show m.term=((R i).aK m.term).term; unfold RS.aK; rw [if_pos c2]; rfl)
  rw [upd_same] at h1 h3
  rw [nY] at h1
  exact ⟨G2,h1,h2,h3⟩
 ·rw [if_neg c2]
  exact Ay C i0 i1 hB L ne mk (by omega)
theorem vM (C:Core n B G R) (i0:0<=i) (i1:i < n) (hB:B<=10000000) (cmd:List Int):∃ G',Core n (B + 1) G' (upd R i ((R i).aI cmd).1)/\Pst n G G':=by
 unfold RS.aI
 by_cases c:(R i).role≠2
 ·rw [if_pos c]; exact ⟨G,by rw [mD]; exact C.mono (by omega),Pst.refl n G⟩
 ·rw [if_neg c]
  obtain ⟨G',a,b,_⟩:=y8 C i0 i1 hB (Decidable.not_not.1 c) cmd
  exact ⟨G',a,b⟩
end
end Go.Q.Rf
end
section
/- What a member has stored is what it has. -/
namespace Go.Q.Rf
structure SS where
 term:Int
 aN:Int
 log:Lg
 aQ:List Int
def ofR (r:RS):SS:=⟨r.term,r.aN,r.log,r.aQ⟩
/-- something more is stored; none: it doesn't fit -/
def o8 (s:SS) (k:rZ):Option SS :=
 if k.kind=1 then some { s with term:=k.term,aN:=k.aN }
 else if k.kind=2 then (if (s.log.append k.index k.term k.aM).2.2=0 then some { s with log:=(s.log.append k.index k.term k.aM).1 } else none)
 else if k.kind=3 then some { s with log:=if s.log.mat k.index k.term then (s.log.cut k.index).1 else ⟨k.index,k.term,[]⟩,aQ:=k.aQ }
 else none
def kf:SS->List rZ->Option SS
 | s,[]=>some s
 | s,k :: l=>match o8 s k with | some s'=>kf s' l | none=>none
theorem Lp (s:SS) (l:List rZ) (k:rZ):kf s (l ++ [k])=match kf s l with | some s'=>o8 s' k | none=>none:=by
 induction l generalizing s with
 | nil=>show (match o8 s k with | some s'=>kf s' [] | none=>none)=o8 s k; cases o8 s k <;> rfl
 | cons a l ih =>
  show (match o8 s a with | some s'=>kf s' (l ++ [k]) | none=>none)=match (match o8 s a with | some s'=>kf s' l | none=>none) with | some s'=>o8 s' k | none=>none
  cases o8 s a with
  | none=>rfl
  | some s'=>exact ih s'
/-- what is to be kept, kept behind what was stored, is what it has -/
def Sy (s:SS) (r:RS):Prop:=kf s r.keeps=some (ofR r)
section
variable {s:SS} {r:RS} {f:Int} {m:Msg}
theorem Sy.of {r':RS} (h:Sy s r) (e:r'.keeps=r.keeps) (e2:ofR r'=ofR r):Sy s r':=by unfold Sy at *; rw [e,e2]; exact h
theorem Sy.one {r':RS} {k:rZ} (h:Sy s r) (e:r'.keeps=r.keeps ++ [k]) (e2:o8 (ofR r) k=some (ofR r')):Sy s r':=by unfold Sy at *; rw [e,Lp,h]; exact e2
theorem Sy.fq {r':RS} (h:Sy s r) (e:r'.keeps=r.keeps) (el:r'.log=r.log) (es:r'.aQ=r.aQ):Sy s r'.fq:=by
 refine h.one (k:=⟨1,r'.term,r'.aN,0,[],[]⟩) (by unfold RS.fq; dsimp only; rw [e]) ?_
 unfold o8 ofR
 rw [if_pos rfl]
 show some (SS.mk r'.term r'.aN r.log r.aQ)=some (SS.mk r'.term r'.aN r'.log r'.aQ)
 rw [el,es]
theorem Sy.aK (h:Sy s r) (t:Int):Sy s (r.aK t):=by
 unfold RS.aK
 split
 ·exact h.fq rfl rfl rfl
 ·exact h
theorem Sy.follow (h:Sy s r) (t l:Int):Sy s (r.follow t l):=(h.aK t).of rfl rfl
theorem Sy.settle (h:Sy s r):Sy s r.settle:=by unfold RS.settle; split <;> exact h.of rfl rfl
theorem Sy.put (h:Sy s r) (cmd:List Int):Sy s (r.put cmd).1:=by
 unfold RS.put
 split
 ·exact h
 ·rename_i c
  have c':=Decidable.not_not.1 c
  refine Sy.settle (h.one (k:=⟨2,r.log.lastT,0,r.log.last,[(r.term,cmd)],[]⟩) rfl ?_)
  unfold o8 ofR
  rw [if_neg (by show ¬ (2:Int)=1; decide),if_pos rfl]
  dsimp only
  rw [if_pos c']
theorem Sy.win (h:Sy s r):Sy s r.win.1:=by
 unfold RS.win
 split
 ·exact h
 ·exact Sy.put (h.of (r':=r.lead) rfl rfl) []
theorem Sy.asks (h:Sy s r):Sy s r.asks:=(Sy.fq (r':={ r with term:=W (r.term + 1),role:=1,leader:=-1,ticks:=0,aN:=r.me + 1 }) h rfl rfl rfl).of rfl rfl
theorem Sy.dJ (h:Sy s r):Sy s r.dJ.1:=by
 unfold RS.dJ
 split
 ·exact h
 ·exact h.asks.win
theorem Sy.tick (h:Sy s r):Sy s r.tick.1:=by
 unfold RS.tick
 split
 ·exact h.of rfl rfl
 ·split
  ·exact Sy.dJ (h.of rfl rfl)
  ·exact h.of rfl rfl
theorem Sy.lv (h:Sy s r):Sy s (r.lv f m).1:=by
 unfold RS.lv
 split
 ·dsimp only
  split
  ·exact (Sy.fq (r':={ r with aN:=f + 1 }) h rfl rfl rfl).of rfl rfl
  ·exact h.of rfl rfl
 ·exact h
theorem Sy.counted (h:Sy s r):Sy s (r.counted f m):=by
 unfold RS.counted
 split
 ·exact h.of rfl rfl
 ·exact h
theorem Sy.dZ (h:Sy s r):Sy s (r.dZ f m):=(h.follow m.term f).of rfl rfl
theorem Sy.base (h:Sy s r) (x t:Int) (sn:List Int):Sy s (r.base x t sn):=by
 refine h.one (k:=⟨3,t,0,x,[],sn⟩) rfl ?_
 unfold o8 ofR RS.base
 rw [if_neg (by show ¬ (3:Int)=1; decide),if_neg (by show ¬ (3:Int)=2; decide),if_pos rfl]
theorem Sy.lV (h:Sy s r):Sy s (r.lV m):=by
 unfold RS.lV
 split
 ·exact (h.base m.index m.logTerm m.aQ).of rfl rfl
 ·exact h
theorem Sy.back (h:Sy s r):Sy s (r.back f m):=h.of rfl rfl
theorem Sy.gD (h:Sy s r):Sy s (r.gD f m):=Sy.settle (h.of rfl rfl)
theorem Sy.appended (h:Sy s r):Sy s (r.appended f m).1:=by
 unfold RS.appended
 split
 ·exact h
 ·split
  ·exact h.back
  ·split
   ·exact h
   ·split
    ·exact h.gD
    ·exact h.gD
theorem Sy.aI (h:Sy s r) (cmd:List Int):Sy s (r.aI cmd).1:=by
 unfold RS.aI
 split
 ·exact h
 ·exact h.put cmd
theorem Sy.mU (h:Sy s r) (x:Int) (sn:List Int):Sy s (r.mU x sn).1:=by
 unfold RS.mU
 split
 ·exact h
 ·split
  ·exact h
  ·exact h.base x _ sn
/-! ### entries that the log hasn't -/
theorem Bq {l:Lg} {p t:Int}:l.mat p t=true ↔ l.aF p=(t,0):=by
 unfold Lg.mat
 rw [Prod.ext_iff]
 simp [and_comm]
theorem IK {l:Lg} {p t:Int} (h:l.mat p t=true) (hp:l.ix < p):(p - l.ix - 1).toNat < l.es.length/\(l.es.getD (p - l.ix - 1).toNat (0,[])).1=t:=by
 rw [Bq] at h
 unfold Lg.aF at h
 rw [if_neg (by omega)] at h
 split at h
 ·cases h
 ·rename_i q
  unfold Lg.last at q
  rw [if_neg (by omega)] at h
  exact ⟨by omega,by have:=congrArg Prod.fst h; exact this⟩
variable {l:Lg} {p t:Int} {more:List Ent}
/-- is the entry i there, or below the base? -/
def skp (l:Lg) (p:Int) (i:Nat) (x:Ent):Prop:=W (p + i + 1)<=l.ix∨l.mat (W (p + i + 1)) x.1=true
theorem xK {n:Nat} (h:∀ j x,j < n->more[j]? = some x->skp l p j x):∀ i,i<=n->Lg.fD l.ix p l.es more i=l.es
 | 0,_=>rfl
 | i + 1,hi=>by
  show (match more[i]? with | some x=>Lg.dG l.ix p (Lg.fD l.ix p l.es more i) i x | none=>Lg.fD l.ix p l.es more i)=_
  rw [xK h i (by omega)]
  cases hx:more[i]? with
  | none=>rfl
  | some x =>
   dsimp only
   unfold Lg.dG
   by_cases c:W (p + i + 1)<=l.ix
   ·rw [if_pos c]
   ·rw [if_neg c]
    rcases h i x (by omega) hx with q | q
    ·exact absurd q c
    ·have:=IK q (by omega)
     rw [if_pos this.1,if_pos this.2]
theorem AQ {i:Nat} (p0:0<=p) (bd:p + more.length<=100000000) (il:i<=more.length) (h:Lg.fD l.ix p l.es more i=l.es):∀ j,i + j<=more.length->Lg.fD l.ix (p + i) l.es (more.drop i) j=Lg.fD l.ix p l.es more (i + j)
 | 0,_=>h.symm
 | j + 1,hj=>by
  show (match (more.drop i)[j]? with | some x=>Lg.dG l.ix (p + i) (Lg.fD l.ix (p + i) l.es (more.drop i) j) j x | none=>Lg.fD l.ix (p + i) l.es (more.drop i) j)=(match more[i + j]? with | some x=>Lg.dG l.ix p (Lg.fD l.ix p l.es more (i + j)) (i + j) x | none=>Lg.fD l.ix p l.es more (i + j))
  rw [List.getElem?_drop,AQ p0 bd il h j (by omega)]
  cases more[i + j]? with
  | none=>rfl
  | some x =>
   dsimp only
   unfold Lg.dG
   rw [show p + (i:Int) + (j:Int) + 1=p + ((i + j:Nat):Int) + 1 from by omega]
theorem wE (r:RS) (m:Msg) (p0:0<=m.index):∀ (xs:List Ent) (i:Nat),m.aM.drop i=xs->(∀ j x,j < i->m.aM[j]? = some x->skp r.log m.index j x) ->
  (r.nC m i xs=RS.DF/\∀ j x,m.aM[j]? = some x->skp r.log m.index j x)∨∃ i0 x,m.aM[i0]? = some x/\¬ skp r.log m.index i0 x/\(∀ j x,j < i0->m.aM[j]? = some x->skp r.log m.index j x) /\
   r.nC m i xs=⟨2,(if i0 > 0/\W (W (m.index + i0 + 1) - 1) > r.log.ix then (m.aM.getD (i0 - 1) (0,[])).1 else (r.log.aF (W (W (m.index + i0 + 1) - 1))).1),0,W (W (m.index + i0 + 1) - 1),m.aM.drop i0,[]⟩
 | [],i,hd,hs=>by
  left
  refine ⟨rfl,fun j x hx=>hs j x ?_ hx⟩
  have:=List.drop_eq_nil_iff.1 hd
  have:=(List.getElem?_eq_some_iff.1 hx).1
  omega
 | x :: xs,i,hd,hs=>by
  have hx:m.aM[i]? = some x:=by
   have:=congrArg (fun l=>l[0]?) hd
   simpa using this
  unfold RS.nC
  by_cases c:W (m.index + i + 1)<=r.log.ix∨r.log.mat (W (m.index + i + 1)) x.1=true
  ·rw [if_pos c]
   refine wE r m p0 xs (i + 1) ?_ fun j y hj hy=>?_
   ·rw [← List.drop_drop,hd]; rfl
   ·by_cases e:j=i
    ·subst e; rw [hx] at hy; cases hy; exact c
    ·exact hs j y (by omega) hy
  ·rw [if_neg c]
   exact .inr ⟨i,x,hx,c,hs,by rw [hd]⟩
theorem Sy.Ae (h:Sy s r) (p0:0<=m.index) (bd:m.index + m.aM.length<=100000000) (lx:0<=r.log.ix) (ok:(r.log.append m.index m.logTerm m.aM).2.2=0):Sy s (r.Ae m):=by
 have ok':=ok
 unfold Lg.append at ok
 by_cases c1:m.index>=r.log.ix/\r.log.mat m.index m.logTerm=false
 ·rw [if_pos c1] at ok; simp at ok
 rw [if_neg c1] at ok
 by_cases c2:(Lg.fD r.log.ix m.index r.log.es m.aM m.aM.length).length > 64
 ·rw [if_pos c2] at ok; simp at ok
 have ev:(r.log.append m.index m.logTerm m.aM).1 = { r.log with es:=Lg.fD r.log.ix m.index r.log.es m.aM m.aM.length }:=by
  unfold Lg.append; rw [if_neg c1,if_neg c2]
 unfold RS.Ae
 rw [ev]
 rcases wE r m p0 m.aM 0 (by simp) (fun j x hj _=>absurd hj (Nat.not_lt_zero _)) with ⟨e,sk⟩ | ⟨i0,x,hx,nsk,sk,e⟩
 ·have ef:r.fresh m=RS.DF:=e
  rw [ef,xK (fun j x _ hx=>sk j x hx) m.aM.length (Nat.le_refl _)]
  exact h.of rfl rfl
 ·have il:=(List.getElem?_eq_some_iff.1 hx).1
  have w1:W (m.index + i0 + 1)=m.index + i0 + 1:=tN (by omega) (by omega)
  have w2:W (m.index + i0 + 1 - 1)=m.index + i0:=by rw [tN (by omega) (by omega)]; omega
  unfold skp at nsk
  rw [w1] at e nsk
  rw [w2] at e
  have ef:r.fresh m=⟨2,(if i0 > 0/\m.index + i0 > r.log.ix then (m.aM.getD (i0 - 1) (0,[])).1 else (r.log.aF (m.index + i0)).1),0,m.index + i0,m.aM.drop i0,[]⟩:=e
  rw [ef]
  rw [if_pos (by show 0 < (m.aM.drop i0).length; rw [List.length_drop]; omega)]
  refine h.one rfl ?_
  unfold o8 ofR
  rw [if_neg (by show ¬ (2:Int)=1; decide),if_pos (by rfl)]
  dsimp only
  have as':=xK (l:=r.log) (p:=m.index) sk i0 (Nat.le_refl _)
  have eq:=AQ (l:=r.log) p0 bd (by omega) as' (m.aM.drop i0).length (by rw [List.length_drop]; omega)
  rw [show i0 + (m.aM.drop i0).length=m.aM.length from by rw [List.length_drop]; omega] at eq
  -- the term that it stands behind
  have mt:m.index + i0>=r.log.ix->r.log.mat (m.index + i0) (if i0 > 0/\m.index + i0 > r.log.ix then (m.aM.getD (i0 - 1) (0,[])).1 else (r.log.aF (m.index + i0)).1)=true:=fun ge=>by
   by_cases z:i0 > 0/\m.index + i0 > r.log.ix
   ·rw [if_pos z]
    obtain ⟨y,hy⟩:∃ y,m.aM[i0 - 1]? = some y:=⟨_,List.getElem?_eq_getElem (by omega)⟩
    rw [List.getD_eq_getElem?_getD,hy]
    have:=sk (i0 - 1) y (by omega) hy
    unfold skp at this
    rw [show m.index + ((i0 - 1:Nat):Int) + 1=m.index + i0 from by omega,tN (by omega) (by omega)] at this
    exact this.elim (fun q=>by omega) id
   ·rw [if_neg z]
    have err:(r.log.aF (m.index + i0)).2=0:=by
     by_cases y:i0=0
     ·subst y
      have:r.log.mat m.index m.logTerm=true:=by
       cases hh:r.log.mat m.index m.logTerm with
       | true=>rfl
       | false=>exact absurd ⟨by omega,hh⟩ c1
      rw [Bq] at this
      rw [show m.index + ((0:Nat):Int)=m.index from by omega,this]
     ·have:m.index + i0=r.log.ix:=by omega
      rw [this]
      unfold Lg.aF Lg.last
      rw [if_neg (by omega),if_neg (by omega),if_pos rfl]
    rw [Bq,← err]
  obtain ⟨T,eT⟩:∃ T,T=(if i0 > 0/\m.index + i0 > r.log.ix then (m.aM.getD (i0 - 1) (0,[])).1 else (r.log.aF (m.index + i0)).1):=⟨_,rfl⟩
  rw [← eT] at mt ⊢
  have c3:¬ (m.index + (i0:Int)>=r.log.ix/\r.log.mat (m.index + i0) T=false):=fun z=>by rw [mt z.1] at z; exact Bool.noConfusion z.2
  unfold Lg.append
  rw [if_neg c3,eq,if_neg c2]
  rfl
theorem Sy.appends (h:Sy s r) (p0:0<=m.index) (bd:m.index + m.aM.length<=100000000) (lx:0<=r.log.ix):Sy s (r.appends f m).1:=by
 unfold RS.appends RS.mQ
 have h1:Sy s (r.dZ f m):=h.dZ
 have hl:(r.dZ f m).log=r.log:=by
  show (r.aK m.term).log=r.log
  unfold RS.aK; split <;> rfl
 split
 ·exact h1
 ·rename_i c
  exact h1.Ae p0 bd (by rw [hl]; exact lx) (Decidable.not_not.1 c)
theorem Sy.take2 (h:Sy s r) (k3:m.kind=3->0<=m.index/\m.index + m.aM.length<=100000000) (lx:0<=r.log.ix):Sy s (r.take2 f m).1:=by
 unfold RS.take2
 split
 ·exact h.lv
 ·split
  ·exact h.counted.win
  ·split
   ·rename_i c; exact h.appends (k3 c).1 (k3 c).2 lx
   ·split
    ·exact h.appended
    ·exact h.dZ.lV
theorem Sy.take (h:Sy s r) (k3:m.kind=3->0<=m.index/\m.index + m.aM.length<=100000000) (lx:0<=r.log.ix):Sy s (r.take f m).1:=by
 unfold RS.take
 split
 ·exact h
 ·split
  ·exact h
  ·split
   ·refine (h.follow m.term (-1)).take2 k3 ?_
    show 0<=(r.aK m.term).log.ix
    unfold RS.aK; split <;> exact lx
   ·exact h.take2 k3 lx
end
end Go.Q.Rf
end

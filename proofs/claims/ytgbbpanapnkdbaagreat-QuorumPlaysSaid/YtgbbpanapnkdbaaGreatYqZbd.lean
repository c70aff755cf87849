/- A part of the proof of statements of this seat: lemmas, no statement of their own. -/
import Derived.Test.YtgbbpanapnkdbaaGreatYqZbc
import Derived.Test.YtgbbpanapnkdbaaGreatYqZat
import Derived.Test.YtgbbpanapnkdbaaGreatYqZay
import Derived.Test.YtgbbpanapnkdbaaGreatYqZan
import Derived.Test.YtgbbpanapnkdbaaGreatYqZau
set_option linter.unusedVariables false
set_option linter.unusedSimpArgs false
set_option maxRecDepth 100000
section
/- The document's queries, walked: groups, and all. -/
namespace Go.Q.Yq
open Go.Q.Rw
section
variable {q:aC} {A:Slc} {as':List Pc} {b1:Nat} {hA:Heap} {i kk:Nat} {g:List Pc} {h h':Heap} {rs:List RI} {t10:Slc}
theorem rX.upd {h2 h3:Heap} {b:Nat} (O:rX hA h t10 rs) (X:Ext h.size h h2) (U:Upd b h2 h3) (hb:h.size<=b):rX hA h3 t10 rs:=by
 have O2:=O.ext X
 have z:=O.X.size
 have z2:=X.size
 exact ⟨O2.X.trans (U.ext (by omega) (by omega)),O2.R.keep fun g hg=>U.block g (O2.R.bd hg).2 (by have:=(O.R.bd hg).2; omega),O2.l,O2.m⟩
variable {k:KP (Slc × Int)} {N1:KP (Slc × Int)} {N2:KP Int} {N4:KP (Int × Int × Int)}
theorem PP (C:yu q A as' b1 hA i kk g) {b17 x y:Nat} {a b:Pc} (O:rX hA h t10 rs) (m:rs.length + 1<=2000) (c:q.aW=5) (K:Blk h b17 (aH.cs (rC (ser g,0,0))) 118) (hb17:∀ gg,t10.blk=some gg->gg < b17) (hb17A:hA.size<=b17)
  (PA:Blk h x (ae.cs a) 89) (PB:Blk h y (ae.cs b) 89) (ha:g.head? = some a) (hl:g.getLast? = some b)
  (bad:gU q.aW q.aX g=none->∀ h',Ext hA.size hA h'->k (⟨none,0,0⟩,19) h')
  (fin:∀ r2 s h',gU q.aW q.aX g=some r2->rX hA h' s (rs ++ r2)->N1 (s,(kk:Int)) h'):oq ⟨b1,0,none⟩ A t10 (i:Int) (kk:Int) ⟨b17,0,none⟩ ⟨x,0,none⟩ ⟨y,0,none⟩ k N1 N2 N4 h:=by
 have len:=C.len
 have kl:=C.kl
 have km:=C.m
 have ik:=C.ik
 have ab:=C.hv a (C.sub a (List.mem_of_mem_head? ha))
 have bb:=C.hv b (C.sub b (List.mem_of_getLast? hl))
 have er:gU q.aW q.aX g=if g.length < 2 then some [] else (AP g).map fun n=>[(ser g,0,n)]:=by unfold gU; rw [c]; rfl
 unfold oq
 rw [aA (by omega) (by omega)]
 by_cases h2:(kk:Int) - (i:Int) > 1
 rotate_left
 ·rw [if_neg (by simpa using h2)]
  exact J5b C O.X (.inr (.inr ⟨c,by omega⟩)) (fin [] t10 h (by rw [er,if_pos (by omega)]) (by rw [List.append_nil]; exact O))
 rw [if_pos (by simpa using h2)]
 rw [if_neg (by omega)] at er
 have ert:AP g=if bJ (b.f_V - a.f_V)/\bJ (b.f_T - a.f_T) then some ((b.f_V - a.f_V) / (b.f_T - a.f_T)) else none:=by unfold AP; rw [ha,hl]
 have lt:a.f_T < b.f_T:=by
  obtain ⟨a',b',ea,eb,lt⟩:=FU C.rise (by omega)
  rw [ha] at ea; cases ea
  rw [hl] at eb; cases eb
  exact lt
 refine ⟨b.f_V,PB.cl rfl,a.f_V,PA.cl rfl,Hd bb.1 ab.1 ?_⟩
 have g11t:¬ (bJ (b.f_V - a.f_V)/\bJ (b.f_T - a.f_T))->ou ⟨b1,0,none⟩ A t10 (i:Int) (kk:Int) ⟨b17,0,none⟩ ⟨x,0,none⟩ ⟨y,0,none⟩ true k N1 N2 N4 h:=fun hn=>by
  unfold ou
  rw [if_pos rfl]
  exact bad (by rw [er,ert,if_neg hn]; rfl) h O.X
 by_cases i1:bJ (b.f_V - a.f_V)
 rotate_left
 ·rw [if_pos (by simp [i1])]
  exact g11t fun hh=>i1 hh.1
 rw [if_neg (by simp [i1])]
 refine ⟨b.f_T,PB.cl rfl,a.f_T,PA.cl rfl,Hd bb.2 ab.2 ?_⟩
 by_cases i2:bJ (b.f_T - a.f_T)
 rotate_left
 ·rw [show (!decide (bJ (b.f_T - a.f_T)))=true from by simp [i2]]
  exact g11t fun hh=>i2 hh.2
 rw [show (!decide (bJ (b.f_T - a.f_T)))=false from by simp [i2]]
 unfold ou
 rw [if_neg (by simp)]
 refine ⟨b.f_V,PB.cl rfl,a.f_V,PA.cl rfl,b.f_T,PB.cl rfl,a.f_T,PA.cl rfl,?_⟩
 rw [aA (x:=b.f_V - a.f_V) i1.1 i1.2,aA (x:=b.f_T - a.f_T) i2.1 i2.2]
 refine DW i1 i2 (by omega) (zN (Jp i1 (by omega)) fun h3 X3=>?_)
 have K3:=K.ext X3 K.lt
 have z3:=X3.size
 have zA:=O.X.size
 refine Mr K3 rfl (by show 2 + 2<=4; decide) fun h4 F U=>?_
 have O3:=O.ext X3
 have O4:rX hA h4 t10 rs:=⟨O3.X.trans (U.ext hb17A (by omega)),O3.R.keep fun gg hg=>U.block gg (O3.R.bd hg).2 (by have:=hb17 gg hg; omega),O3.l,O3.m⟩
 exact J5a C (n:=(b.f_V - a.f_V) / (b.f_T - a.f_T)) O4 m F (.inr ⟨c,by omega⟩) fun s h' O'=>fin _ s h' (by rw [er,ert,if_pos ⟨i1,i2⟩]; rfl) O'
theorem Qj (C:yu q A as' b1 hA i kk g) (O:rX hA h t10 rs) (m:rs.length + g.length<=2000)
  (bad:gU q.aW q.aX g=none->∀ h',Ext hA.size hA h'->k (⟨none,0,0⟩,19) h')
  (fin:∀ r2 s h',gU q.aW q.aX g=some r2->rX hA h' s (rs ++ r2)->N1 (s,(kk:Int)) h'):nP ⟨b1,0,none⟩ A t10 (i:Int) (kk:Int) false k N1 N2 h:=by
 have len:=C.len
 have kl:=C.kl
 have km:=C.m
 have ik:=C.ik
 have gpos:1<=g.length:=by omega
 unfold nP
 rw [if_neg (by simp)]
 obtain ⟨a,x0,ha,p0,p1,hc,hx0,hm0,v0,t0⟩:=C.it O.X (j:=i) (Nat.le_refl _) ik
 rw [Nat.sub_self] at hx0
 have c2:∀ {h'},Ext h.size h h'->ah h' ((a.add (((i:Nat):Int).toNat * 5)).add 2)=some (.int .i64 x0.f_V):=fun X=>(hc.ext X) 2 _ rfl
 refine ⟨a,ha,p0,p1,x0.f_V,hc 2 _ rfl,a,ha,p0,p1,x0.f_V,hc 2 _ rfl,bx0 fun h15 B14 X15=>⟨c2 X15,c2 X15,pY B14 rfl (Nat.le_refl _) fun h18 E14 U18=>?_⟩⟩
 have z15:=X15.size
 have z18:=U18.size
 have X18:Ext h.size h h18:=X15.trans (U18.ext (Nat.le_refl _) (by omega))
 have O18:=O.ext X18
 refine ⟨c2 X18,c2 X18,?_⟩
 have sb:∀ n,-(9223372036854775808 * 1000)<=pR (g.take n)/\pR (g.take n)<=9223372036854775808 * 1000:=fun n=>by
  have:=CW (l:=g.take n) fun p hp=>(C.hv p (C.sub p (List.mem_of_mem_take hp))).1
  have hle:(g.take n).length<=1000:=by rw [List.length_take]; omega
  omega
 unfold Cv
 refine ⟨fun r h'=>∃ n:Nat,r.2.2=((i + n:Nat):Int)/\n<=g.length/\r.1=(g.take n).foldl (fun m p=>if p.f_V < m then p.f_V else m) x0.f_V/\r.2.1=(g.take n).foldl (fun m p=>if p.f_V > m then p.f_V else m) x0.f_V/\rX hA h' t10 rs/\h18.size<=h'.size/\Blk h' h.size (au.cs (wd (pR (g.take n)))) 116,fun r _=>kk - r.2.2.toNat,⟨0,rfl,by omega,by simp,by simp,O18,Nat.le_refl _,by simpa [pR,wd] using E14⟩,?_⟩
 rintro low high j h1 ⟨n,ej,nl,el,eh,O1,z1,B1⟩
 dsimp only at ej el eh
 subst ej
 unfold Ca
 have zA:=O.X.size
 by_cases hn:n < g.length
 ·rw [if_pos (by simp; omega)]
  obtain ⟨a2,x,ha2,q0,q1,hc2,hx,hm,xv,xt⟩:=C.it O1.X (j:=i + n) (by omega) (by omega)
  rw [show i + n - i=n from by omega] at hx
  have tk:g.take (n + 1)=g.take n ++ [x]:=by
   obtain ⟨h1,h2⟩:=List.getElem?_eq_some_iff.1 hx
   rw [List.take_succ_eq_append_getElem h1,h2]
  refine ⟨_,ai.aL B1,a2,ha2,q0,q1,x.f_V,hc2 2 _ rfl,zN xv fun h4 X4=>⟨(ai.aL B1).ext X4,Js (by have:=sb n; unfold bd2; omega) (Gx xv) fun h5 X5=>?_⟩⟩
  have z4:=X4.size
  have z5:=X5.size
  have X15':=X4.trans (X5.mono z4)
  refine pY ((B1.ext X4 B1.lt).ext X5 (Nat.lt_of_lt_of_le B1.lt z4)) rfl (Nat.le_refl _) fun h6 F U=>?_
  have z6:=U.size
  have O6:rX hA h6 t10 rs:=by
   have O5:=O1.ext X15'
   exact ⟨O5.X.trans (U.ext (by omega) (by omega)),O5.R.keep fun gg hg=>U.block gg (O5.R.bd hg).2 (by have:=(O.R.bd hg).2; omega),O5.l,O5.m⟩
  obtain ⟨a3,x3,ha3,q3,q4,hc3,hx3,_,_,_⟩:=C.it O6.X (j:=i + n) (by omega) (by omega)
  rw [show i + n - i=n from by omega,hx] at hx3
  cases hx3
  refine ⟨a3,ha3,q3,q4,x.f_V,hc3 2 _ rfl,_,rfl,a3,ha3,q3,q4,x.f_V,hc3 2 _ rfl,_,rfl,_,rfl,?_⟩
  rw [aA (by omega) (by omega)]
  refine ⟨⟨n + 1,by dsimp only; omega,by omega,?_,?_,O6,by omega,?_⟩,by dsimp only; omega⟩
  ·dsimp only; rw [tk,List.foldl_append,← el]; rfl
  ·dsimp only; rw [tk,List.foldl_append,← eh]; rfl
  ·have sv':pR (g.take (n + 1))=pR (g.take n) + x.f_V:=by rw [tk]; simp [pR]
   rw [sv']; exact F
 rw [if_neg (by simp; omega)]
 rw [List.take_of_length_le (by omega)] at el eh B1
 obtain ⟨r0,er0⟩:∃ r,g=x0 :: r:=by cases hg:g with
  | nil=>rw [hg] at hx0; cases hx0
  | cons y r=>rw [hg] at hx0; simp at hx0; subst hx0; exact ⟨r,rfl⟩
 have el':low=Dj g:=by rw [el,er0]; exact Kg
 have eh':high=CO g:=by rw [eh,er0]; exact Ku
 subst el'; subst eh'
 obtain ⟨a2,x2,ha2,q0,q1,hc2,hx2,hm2,_,_⟩:=C.it O1.X (j:=i) (Nat.le_refl _) ik
 refine ⟨a2,ha2,q0,q1,x2.ak,zx hc2 rfl,bx rfl (Nat.le_refl _) fun h41 B39 X41=>?_⟩
 rw [← C.ser hm2] at B39
 have z41:=X41.size
 have O41:=O1.ext X41
 have zA1:=O1.X.size
 have Bq:=C.bq O41.X
 refine ⟨q.aW,Bq.cl rfl,?_⟩
 have fresh:∀ gg,t10.blk=some gg->gg < h1.size:=fun gg hg=>(O1.R.bd hg).2
 have mn:=J4 C.ne
 have mx:=Kc C.ne
 have mnb:bJ (Dj g):=by obtain ⟨p,hp,e⟩:=mn.2; rw [← e]; exact (C.hv p (C.sub p hp)).1
 have mxb:bJ (CO g):=by obtain ⟨p,hp,e⟩:=mx.2; rw [← e]; exact (C.hv p (C.sub p hp)).1
 -- one number is put into the row
 have put:∀ (n:Int) (h2:Heap),Ext h41.size h41 h2->1<=q.aW/\q.aW<=4->gU q.aW q.aX g=some [(ser g,0,n)]->∀ N4:Int × Int × Int->Heap->Prop,∃ h68:Heap,aN h2 ((⟨h1.size,0,none⟩:Addr).add 2) 2/\h68=aM h2 ((⟨h1.size,0,none⟩:Addr).add 2) 0 (au.cs (wd n))/\dR ⟨b1,0,none⟩ A (i:Int) (kk:Int) ⟨h1.size,0,none⟩ t10 k N1 N2 N4 h68:=fun n h2 X2 c e N4=>by
  have z2:=X2.size
  refine Mr (B39.ext X2 B39.lt) rfl (by show 2 + 2<=4; decide) fun h3 F U=>?_
  exact J5a C (n:=n) (O1.upd (X41.trans (X2.mono z41)) U (Nat.le_refl _)) (by omega) F (.inl c) fun s h' O'=>fin _ s h' e O'
 by_cases c0:q.aW=0
 ·rw [if_pos (by simpa using c0)]
  refine Qb C O41 m c0 fun s h' O'=>fin _ s h' ?_ O'
  unfold gU; rw [if_pos c0]
 rw [if_neg (by simpa using c0)]
 by_cases c1:q.aW=1
 ·rw [if_pos (by simpa using c1),aA (by omega) (by omega)]
  refine zN ⟨by omega,by omega⟩ fun h2 X2=>put _ h2 X2 (by omega) ?_ _
  unfold gU; rw [if_neg c0,if_pos c1]
  rw [show (g.length:Int)=(kk:Int) - (i:Int) from by omega]
 rw [if_neg (by simpa using c1)]
 by_cases c2':q.aW=2
 ·rw [if_pos (by simpa using c2')]
  refine ⟨_,(ai.aL B1).ext X41,put _ h41 (Ext.refl _ _) (by omega) ?_ _⟩
  unfold gU; rw [if_neg c0,if_neg c1,if_pos c2']
 rw [if_neg (by simpa using c2')]
 by_cases c3:q.aW=3
 ·rw [if_pos (by simpa using c3)]
  refine zN mnb fun h2 X2=>put _ h2 X2 (by omega) ?_ _
  unfold gU; rw [if_neg c0,if_neg c1,if_neg c2',if_pos c3]
 rw [if_neg (by simpa using c3)]
 by_cases c4:q.aW=4
 ·rw [if_pos (by simpa using c4)]
  refine zN mxb fun h2 X2=>put _ h2 X2 (by omega) ?_ _
  unfold gU; rw [if_neg c0,if_neg c1,if_neg c2',if_neg c3,if_pos c4]
 rw [if_neg (by simpa using c4)]
 by_cases c5:q.aW=5
 ·rw [if_pos (by simpa using c5)]
  have hw:IntKind.i64.wrap ((kk:Int) - 1)=((kk - 1:Nat):Int):=by rw [aA (by omega) (by omega)]; omega
  rw [hw]
  obtain ⟨x,pa,hxa,u0,u1,pac,pax,_,_,_⟩:=C.it O41.X (j:=i) (Nat.le_refl _) ik
  obtain ⟨y,pb,hyb,w0,w1,pbc,pbx,_,_,_⟩:=C.it O41.X (j:=kk - 1) (by omega) (by omega)
  have hhead:g.head? = some pa:=by rw [List.head?_eq_getElem?,← pax,Nat.sub_self]
  have hlast:g.getLast? = some pb:=by rw [List.getLast?_eq_getElem?,← pbx]; congr 1; omega
  have done:∀ h' x y,Ext h41.size h41 h'->Blk h' x (ae.cs pa) 89->Blk h' y (ae.cs pb) 89->∀ N4:Int × Int × Int->Heap->Prop,oq ⟨b1,0,none⟩ A t10 (i:Int) (kk:Int) ⟨h1.size,0,none⟩ ⟨x,0,none⟩ ⟨y,0,none⟩ k N1 N2 N4 h':=fun h' x y X' PA PB N4 =>
   PP C (O41.ext X') (by omega) c5 (B39.ext X' B39.lt) fresh zA1 PA PB hhead hlast bad fin
  refine ⟨x,hxa,u0,u1,pa,pac,y,hyb,w0,w1,pb,pbc,?_,?_⟩
  ·refine bx0 fun h2 B1 X1=>⟨pbc.ext X1,pac.ext X1,bx0 fun h3 B3 X3=>?_⟩
   have z1:=X1.size
   have z3:=X3.size
   have X:=X1.trans (X3.mono z1)
   have l1:=B1.lt
   refine ⟨pbc.ext X,pac.ext X,pY (B1.ext X3 l1) rfl (Nat.le_refl _) fun h4 C4 U=>?_⟩
   have Xu:=X.trans (U.ext (Nat.le_refl _) (by omega))
   have z4:=U.size
   refine ⟨pbc.ext Xu,pY (U.blk B3 (by omega)) rfl (Nat.le_refl _) fun h5 D V=>done h5 _ _ (Xu.trans (V.ext (by omega) (by omega))) (V.blk C4 (by omega)) D _⟩
  ·refine bx0 fun h2 B1 X1=>⟨pbc.ext X1,pac.ext X1,bx0 fun h3 B3 X3=>?_⟩
   have z1:=X1.size
   have z3:=X3.size
   have X:=X1.trans (X3.mono z1)
   have l1:=B1.lt
   refine ⟨pbc.ext X,pac.ext X,pY B3 rfl (Nat.le_refl _) fun h4 C4 U=>?_⟩
   have Xu:=X.trans (U.ext (by omega) (by omega))
   have z4:=U.size
   refine ⟨pbc.ext Xu,pY (U.blk (B1.ext X3 l1) (by omega)) rfl (Nat.le_refl _) fun h5 D V=>done h5 _ _ (Xu.trans (V.ext (Nat.le_refl _) (by omega))) (V.blk C4 (by omega)) D _⟩
 rw [if_neg (by simpa using c5)]
 have c6:q.aW=6:=by have:=C.qa; omega
 rw [if_pos (by simpa using c6)]
 refine OM C O41 m c6 fun s h' O'=>fin _ s h' ?_ O'
 unfold gU; rw [if_neg c0,if_neg c1,if_neg c2',if_neg c3,if_neg c4,if_neg c5]
end
theorem Nl {q:aC} {p1:Slc} {l:List Pc} {hz:Int} {k:KP (Slc × Int)} {h:Heap} (L:Pcs h p1 l) (m:l.length<=1000) (hs:q.dF.size<=100000000) (hp:∀ p∈l,p.ak.size<=100000000/\bJ p.f_V/\bJ p.f_T) (q6:bJ q.aX)
  (H:∀ s h',Ext h.size h h'->Ee h' s (oh q hz (fT l)).1->(∀ b,s.blk=some b->h.size<=b)->k (s,(oh q hz (fT l)).2) h'):BK q p1 hz k h:=by
 unfold BK
 refine bx0 fun h2 B1 X1=>⟨q,ai.aL B1,HY hs fun h5 X5=>?_⟩
 have z1:=X1.size
 have z5:=X5.size
 have l1:=B1.lt
 have X05:=X1.trans (X5.mono z1)
 by_cases hc:tZ q=0
 rotate_left
 ·rw [if_pos (by simpa using hc)]
  have e:oh q hz (fT l)=([],tZ q):=by unfold oh; rw [if_pos hc]
  have:=H ⟨none,0,0⟩ h5 X05
  rw [e] at this
  exact this (.nil _) (fun b hb=>by cases hb)
 rw [if_neg (by simpa using hc)]
 have B5:=B1.ext X5 l1
 refine ⟨q,ai.aL B5,NM (L.ext X05) m hs hc (fun p h=>(hp p h).1) fun A hA RA al XA=>?_⟩
 have zA:=XA.size
 have X0A:=X05.trans (XA.mono X05.size)
 have IM:=u7 l
 obtain ⟨as',ea⟩:∃ x,x=AJ q hz (fT l):=⟨_,rfl⟩
 have er:oh q hz (fT l)=match qX q.aW q.aX (grp as') with | none=>([],19) | some r=>(r,0):=by unfold oh; rw [if_neg (by simpa using hc),ea]; rfl
 rw [← ea] at RA al
 have sub:List.Sublist as' (fT l):=by rw [ea]; exact Ib
 have asl:as'.length<=1000:=Nat.le_trans sub.length_le (Nat.le_trans IM.len m)
 have qa:0<=q.aW/\q.aW<=6/\(q.aW=6->0 < q.aX):=by
  unfold tZ at hc
  split at hc
  ·omega
  ·split at hc
   ·omega
   ·omega
 have hv:∀ p∈as',bJ p.f_V/\bJ p.f_T:=fun p h=>(hp p (IM.sub p (sub.mem h))).2
 have LA:Pcs hA A as':=iH Aw RA.slc al (by decide)
 have BA:Blk hA h.size (aC.cs q) 28:=B5.ext XA (by omega)
 have srt:=IM.srt.sublist sub
 unfold CZ
 refine ⟨fun r h'=>∃ (i:Nat) (rs:List RI),r.2=(i:Int)/\i<=as'.length/\rX hA h' r.1 rs/\rs.length<=i/\qX q.aW q.aX (grp as')=(qX q.aW q.aX (grp (as'.drop i))).map (rs ++ ·),fun r _=>as'.length - r.2.toNat,⟨0,[],rfl,by omega,⟨Ext.refl _ _,Row.nil _ _ _ _,rfl,by simp⟩,by simp,by simp⟩,?_⟩
 rintro t10 ii h1 ⟨i,rs,ei,il,O,rl,eR⟩
 dsimp only at ei O
 subst ei
 unfold Cf
 rw [al]
 by_cases hi:i < as'.length
 rotate_left
 ·rw [if_neg (by simp; omega)]
  rw [List.drop_of_length_le (by omega),Jw] at eR
  have e2:oh q hz (fT l)=(rs,0):=by rw [er,eR]; simp [qX]
  have:=H t10 h1 (X0A.trans (O.X.mono X0A.size))
  rw [e2] at this
  exact this (.of O.R O.l) (fun b hb=>by have:=(O.R.bd hb).1; have:=X0A.size; omega)
 rw [if_pos (by simp; omega)]
 obtain ⟨x,hx⟩:∃ x,as'[i]? = some x:=⟨_,List.getElem?_eq_getElem hi⟩
 have dx:as'.drop i=x :: as'.drop (i + 1):=by
  obtain ⟨h1,h2⟩:=List.getElem?_eq_some_iff.1 hx
  rw [List.drop_eq_getElem_cons h1,h2]
 unfold Cz
 refine ⟨fun j h'=>h'=h1/\∃ kk:Nat,j=(kk:Int)/\i<=kk/\kk<=as'.length/\∀ y∈(as'.drop i).take (kk - i),y.ak=x.ak,fun j _=>as'.length - j.toNat,⟨rfl,i,rfl,Nat.le_refl _,il,by simp⟩,?_⟩
 rintro j h2' ⟨rfl,kk,rfl,ik,kl,al2⟩
 have itA:∀ n,n < as'.length->∃ a y,A.a=some a/\(0:Int)<=(n:Int)/\(n:Int) < (A.len:Int)/\as'[n]? = some y/\ai h2' (a.add (((n:Nat):Int).toNat * 5)) (ae.cs y):=fun n hn=>by
  obtain ⟨a,y,ha,p0,p1,hy,hc⟩:=(LA.ext O.X).it (i:=(n:Int)) (by omega) (by omega)
  rw [Int.toNat_natCast] at hy
  exact ⟨a,y,ha,p0,p1,hy,hc⟩
 unfold BV
 rw [al]
 have g3f:i < kk->(∀ y,as'[kk]? = some y->y.ak≠x.ak)->nP ⟨h.size,0,none⟩ A t10 (i:Int) (kk:Int) false k (fun r h'=>(∃ (i:Nat) (rs:List RI),r.2=(i:Int)/\i<=as'.length/\rX hA h' r.1 rs/\rs.length<=i/\qX q.aW q.aX (grp as')=(qX q.aW q.aX (grp (as'.drop i))).map (rs ++ ·))/\as'.length - r.2.toNat < as'.length - ((i:Nat):Int).toNat) (fun s h'=>(h'=h2'/\∃ kk:Nat,s=(kk:Int)/\i<=kk/\kk<=as'.length/\∀ y∈(as'.drop i).take (kk - i),y.ak=x.ak)/\as'.length - s.toNat < as'.length - ((kk:Nat):Int).toNat) h2':=fun ikl stop=>by
  obtain ⟨g,eg⟩:∃ g,g=(as'.drop i).take (kk - i):=⟨_,rfl⟩
  rw [← eg] at al2
  have gsub:List.Sublist g as':=by rw [eg]; exact (List.take_sublist _ _).trans (List.drop_sublist _ _)
  have same:∀ a∈g,∀ b∈g,a.ak=b.ak:=fun a ha b hb=>by rw [al2 a ha,al2 b hb]
  have C:yu q A as' h.size hA i kk g:=⟨LA,asl,hv,qa,q6,BA,ikl,kl,eg,by
   refine List.Pairwise.imp_of_mem ?_ (srt.sublist gsub)
   intro a b ha hb hlt
   have e:=same a ha b hb
   rcases hlt with hlt | hlt
   ·rw [e,Dv] at hlt; omega
   ·exact hlt.2,same⟩
  have gl:=C.len
  have split:grp (as'.drop i)=g :: grp (as'.drop kk):=by
   obtain ⟨d,hd⟩:∃ d,kk - i=d + 1:=⟨kk - i - 1,by omega⟩
   have:=DL (x:=x) (l:=as'.drop (i + 1)) (i:=d) (fun y hy=>al2 y (by rw [eg,dx,hd]; exact hy)) (fun y hy=>by
    rw [← dx,List.getElem?_drop,show i + (d + 1)=kk from by omega] at hy
    exact stop y hy)
   rw [dx,this,← hd,← dx,← eg,List.drop_drop,show i + (kk - i)=kk from by omega]
  rw [split] at eR
  refine Qj C O (by omega) (fun e h' X'=>?_) (fun r2 s h' e O'=>?_)
  ·have e2:oh q hz (fT l)=([],19):=by rw [er,eR]; unfold qX; rw [e]; rfl
   have:=H ⟨none,0,0⟩ h' (X0A.trans (X'.mono X0A.size))
   rw [e2] at this
   exact this (.nil _) (fun b hb=>by cases hb)
  ·have bd:=LY C.ne e
   refine ⟨⟨kk,rs ++ r2,rfl,kl,O',by rw [List.length_append]; omega,?_⟩,by dsimp only; omega⟩
   rw [eR]
   conv=>lhs; unfold qX
   rw [e]
   dsimp only
   rw [Option.map_map]
   congr 1
   funext y
   simp
 by_cases hk:kk < as'.length
 ·rw [if_pos (by simp; omega)]
  obtain ⟨a,y,ha,p0,p1,hy,hc1⟩:=itA kk hk
  obtain ⟨b,y2,hb,p2,p3,hy2,hc2⟩:=itA i hi
  rw [hx] at hy2; cases hy2
  rw [al] at p1 p3
  refine ⟨a,ha,p0,p1,y.ak,zx hc1 rfl,b,hb,p2,p3,x.ak,zx hc2 rfl,?_⟩
  rw [LD]
  by_cases es:y.ak=x.ak
  ·rw [show decide (y.ak=x.ak)=true from by simpa using es]
   unfold nP
   rw [if_pos rfl]
   refine ⟨_,rfl,?_⟩
   rw [aA (by omega) (by omega)]
   refine ⟨⟨rfl,kk + 1,by omega,by omega,by omega,?_⟩,by dsimp only; omega⟩
   have e:(as'.drop i).take (kk + 1 - i)=(as'.drop i).take (kk - i) ++ [y]:=by
    have:(as'.drop i)[kk - i]? = some y:=by rw [List.getElem?_drop,show i + (kk - i)=kk from by omega]; exact hy
    obtain ⟨h1,h2⟩:=List.getElem?_eq_some_iff.1 this
    rw [show kk + 1 - i=(kk - i) + 1 from by omega,List.take_succ_eq_append_getElem h1,h2]
   rw [e]
   intro z hz'
   rcases List.mem_append.1 hz' with h | h
   ·exact al2 z h
   ·simp only [List.mem_singleton] at h; rw [h]; exact es
  ·rw [show decide (y.ak=x.ak)=false from by simpa using es]
   refine g3f ?_ fun z hz'=>by rw [hy] at hz'; cases hz'; exact es
   rcases Nat.lt_or_eq_of_le ik with h | h
   ·exact h
   ·subst h; rw [hx] at hy; cases hy; exact absurd rfl es
 ·rw [if_neg (by simp; omega)]
  exact g3f (by omega) fun y hy=>by rw [List.getElem?_eq_none (by omega)] at hy; cases hy
end Go.Q.Yq
end
section
/- The document's desk: what it is, finding, needs. -/
namespace Go.Q.Yq
open Go.Q.Rw
/-- an op of the document's desk -/
structure RE where
 x:aj
 o:OpV
abbrev recs (e:RE):List Value:=aj.cs e.x
theorem Eb (e:RE):(recs e).length=33:=rfl
def uD (W:kQ) (d:Nat) (s:Slc):kQ:=fun b=>b=d∨s.blk=some b∨W b
structure fP (W:kQ) (h:Heap) (d:Nat) (s:Slc) (L:List RE):Prop where
 P:Blk h d [Slc.v s] 55
 R:Row 0 h 39 33 s (L.flatMap recs)
 l:s.len=L.length
 ds:s.blk≠some d
 I:∀ e∈L,Imm (uD W d s) h fun h'=>OpM h' e.x e.o
 z:∀ e∈L,OpZ e.o
section
variable {W:kQ} {h:Heap} {d:Nat} {s:Slc} {L:List RE}
theorem fP.ls (D:fP W h d s L):LsAt recs 33 h s L:=iH Eb D.R.slc D.l (by decide)
theorem fP.m (D:fP W h d s L) {e:RE} (he:e∈L):OpM h e.x e.o:=(D.I e he).now
/-- what others do -/
theorem fP.stp {W':kQ} {h':Heap} (D:fP W h d s L) (st:Stp W h h') (hd:¬ W d) (hs:∀ b,s.blk=some b->¬ W b) (hw:∀ b,W' b->W b∨h.size<=b):fP W' h' d s L :=
 ⟨st.blk D.P hd,st.row D.R hs,D.l,D.ds,fun e he=>(D.I e he).step (st.mono fun b hb=>.inl (.inr (.inr hb))) fun b hb=>by
  rcases hb with hb | hb | hb
  ·exact .inl (.inl hb)
  ·exact .inl (.inr (.inl hb))
  ·exact (hw b hb).imp (fun q=>.inr (.inr q)) id,D.z⟩
theorem fP.ext {h':Heap} (D:fP W h d s L) (X:Ext h.size h h'):fP W h' d s L :=
 ⟨D.P.ext X D.P.lt,D.R.keep fun g hg=>X.block g (D.R.bd hg).2,D.l,D.ds,fun e he=>(D.I e he).ext X,D.z⟩
theorem fP.lt (D:fP W h d s L) {b:Nat} (hb:b=d∨s.blk=some b):b < h.size:=by
 rcases hb with rfl | hb
 ·exact D.P.lt
 ·exact (D.R.bd hb).2
theorem fP.cs (D:fP W h d s L):ah h (⟨d,0,none⟩:Addr)=some (Slc.v s):=D.P.cl0 rfl
/-- one cell of an op is turned -/
theorem fP.cell (D:fP W h d s L) {i j:Nat} {e:RE} {v:Value} {x':aj} {o':OpV} {a:Addr} {K:Heap->Prop} (hi:L[i]? = some e) (hj:j < 33) (hx:aj.cs x'=(aj.cs e.x).set j v)
  (hO:∀ h',OpM h' e.x e.o->OpM h' x' o') (hz:OpZ o') (ha:s.a=some a) (H:∀ h',fP W h' d s (L.set i ⟨x',o'⟩)->Stp (fun b=>s.blk=some b) h h'->K h') :
  ∃ h6:Heap,WrH h ((a.add (i * 33)).add j)/\h6=setH h ((a.add (i * 33)).add j) v/\K h6:=by
 have il:=(List.getElem?_eq_some_iff.1 hi).1
 rcases D.R.2.2 with ⟨q,_⟩ | ⟨g,cur,a1,_⟩
 ·rw [q] at ha; cases ha
 rw [a1] at ha; cases ha
 have sb:s.blk=some g:=by unfold Slc.blk; rw [a1]
 obtain ⟨w,R',_⟩:=LG (j:=i * 33 + j) (v:=v) D.R a1 (by rw [D.l]; have:(i + 1) * 33<=L.length * 33:=Nat.mul_le_mul_right _ il; omega)
 rw [Gq Eb L i j e ⟨x',o'⟩ v hj hi hx] at R'
 have st:Stp (fun b=>s.blk=some b) h (setH h ⟨g,i * 33 + j,none⟩ v):=Stp.set (.inl sb)
 rw [add_mk,add_mk,Nat.zero_add]
 refine ⟨_,w,rfl,H _ ⟨st.blk D.P D.ds,R',by rw [List.length_set]; exact D.l,D.ds,fun f hf=>?_,fun f hf=>?_⟩ st⟩
 ·have st':=st.mono (O':=uD W d s) fun b hb=>.inl (.inr (.inl hb))
  rcases List.mem_or_eq_of_mem_set hf with hf | rfl
  ·exact (D.I f hf).stp st'
  ·exact ((D.I e (List.mem_of_getElem? hi)).stp st').imp hO
 ·rcases List.mem_or_eq_of_mem_set hf with hf | rfl
  ·exact D.z f hf
  ·exact hz
theorem ET {p0:Slc} {l:List Int} {x:Int} {k:KP Bool} (S:SlcAt h p0 (ints l)) (n:p0.len=l.length) (m:l.length<=1000000) (H:k (decide (x∈l)) h):qH p0 x k h:=by
 unfold qH Dp
 refine ⟨fun i h'=>h'=h/\0<=i/\i<=l.length/\x ∉ l.take i.toNat,fun i _=>(l.length - i.toNat),⟨rfl,by omega,by omega,by simp⟩,?_⟩
 rintro i h' ⟨rfl,i0,i1,nx⟩
 unfold BS
 by_cases c:i < l.length
 ·rw [if_pos (by rw [decide_eq_true_eq]; omega)]
  have hi:i.toNat < l.length:=by omega
  obtain ⟨a,ha,hc⟩:=S.get (i:=i.toNat) (v:=.int .i64 l[i.toNat]) (by simp [hi])
  refine ⟨a,ha,i0,by omega,l[i.toNat],by rw [Nat.mul_one]; exact hc,?_⟩
  by_cases e:l[i.toNat]=x
  ·rw [if_pos (by simpa using e)]
   rw [decide_eq_true (by rw [← e]; exact List.getElem_mem _)] at H
   exact H
  ·rw [if_neg (by simpa using e)]
   refine ⟨_,rfl,?_⟩
   rw [aA (by omega) (by omega)]
   refine ⟨⟨rfl,by omega,by omega,?_⟩,by dsimp only; omega⟩
   rw [show (i + 1).toNat=i.toNat + 1 from by omega,List.take_add_one,List.getElem?_eq_getElem hi]
   simp only [Option.toList_some,List.mem_append,List.mem_singleton]
   rintro (h1 | h1)
   ·exact nx h1
   ·exact e h1.symm
 ·rw [if_neg (by rw [decide_eq_true_eq]; omega)]
  have e:i.toNat=l.length:=by omega
  rw [e,List.take_length] at nx
  rw [decide_eq_false nx] at H
  exact H
theorem Ga {x:aj} {k:KP Int} (m:x.aQ.len<=1000000) (H:∀ h',Ext h.size h h'->k (needs x.aJ x.aQ.len) h'):qM x k h:=by
 unfold qM
 refine bx0 fun h2 P X=>⟨x.aQ,P.cl rfl,_,rfl,x.aJ,P.cl rfl,?_⟩
 have H':=H h2 X
 unfold needs at H'
 by_cases k1:x.aJ=1
 ·rw [if_pos (by simpa using k1)]; rw [if_pos k1] at H'
  by_cases c:(x.aQ.len:Int) < 2
  ·rw [if_pos (by simpa using c)]; rw [if_pos c] at H'; exact H'
  ·rw [if_neg (by simpa using c)]; rw [if_neg c] at H'; exact H'
 rw [if_neg (by simpa using k1)]; rw [if_neg k1] at H'
 by_cases k2:x.aJ=2
 ·rw [if_pos (by simpa using k2)]; rw [if_pos k2] at H'
  by_cases c:(x.aQ.len:Int) < 2
  ·rw [if_pos (by simpa using c)]; rw [if_neg (by omega)] at H'; exact H'
  ·rw [if_neg (by simpa using c)]
   refine ⟨_,rfl,?_⟩
   rw [aA (by omega) (by omega)]
   by_cases c2:(x.aQ.len:Int) - 1 > 1
   ·rw [if_pos c2] at H'; exact H'
   ·rw [if_neg c2] at H'
    rw [show (x.aQ.len:Int) - 1=1 from by omega]; exact H'
 rw [if_neg (by simpa using k2)]; rw [if_neg k2] at H'
 by_cases k3:x.aJ=3
 ·rw [if_pos (by simpa using k3)]; rw [if_pos k3] at H'; exact H'
 rw [if_neg (by simpa using k3)]; rw [if_neg k3] at H'; exact H'
theorem Ez {n:Int} {k:KP Int} (D:fP W h d s L) (m:L.length<=1000000) (N:(∀ e∈L,e.x.f_N≠n)->k (-1) h)
  (H:∀ (i:Nat) e,L[i]? = some e->e.x.f_N=n->k i h):gX (some ⟨d,0,none⟩) n k h:=by
 unfold gX wO
 refine ⟨fun i h'=>h'=h/\0<=i/\i<=L.length/\∀ e∈L.take i.toNat,e.x.f_N≠n,fun i _=>(L.length - i.toNat),⟨rfl,by omega,by omega,by simp⟩,?_⟩
 rintro i h' ⟨rfl,i0,i1,nx⟩
 unfold uQ
 refine ⟨_,rfl,s,D.cs,?_⟩
 rw [D.l]
 by_cases c:i < (L.length:Int)
 ·rw [if_pos (by simpa using c)]
  obtain ⟨a,e,ha,g0,g1,he,hc⟩:=D.ls.it i0 c
  refine ⟨s,D.cs,a,ha,g0,g1,e.x.f_N,zx hc rfl,?_⟩
  by_cases q:e.x.f_N=n
  ·rw [if_pos (by simpa using q)]
   have:=H i.toNat e he q
   rw [show ((i.toNat:Nat):Int)=i from by omega] at this
   exact this
  ·rw [if_neg (by simpa using q)]
   refine ⟨_,rfl,?_⟩
   rw [aA (by omega) (by omega)]
   refine ⟨⟨rfl,by omega,by omega,?_⟩,by dsimp only; omega⟩
   rw [take1 i0 he]
   intro f hf
   rcases List.mem_append.1 hf with hf | hf
   ·exact nx f hf
   ·simp at hf; subst hf; exact q
 ·rw [if_neg (by simpa using c)]
  rw [List.take_of_length_le (by omega)] at nx
  exact ⟨_,rfl,N nx⟩
end
end Go.Q.Yq
end
section
/- The document's desk: an op is ended, ops are ticked. -/
namespace Go.Q.Yq
open Go.Q.Rw
def NoR (L:List RE) (n:Int) (P:OpV->Prop):Prop:=(∀ e∈L,e.x.f_N≠n)∨∃ e∈L,e.x.f_N=n/\P e.o
def Mv (o:OpV) (er:Int):OpV:={ o with x:={ o.x with aI:=true,f_E:=er } }
theorem JZ (x:aj):bare (uf x)=uf (bare x):=by
 unfold uf
 by_cases c:IntKind.i64.wrap (x.cZ + 1)>=60
 ·rw [if_pos c,if_pos (by exact c)]; rfl
 ·rw [if_neg c,if_neg (by exact c)]; rfl
def Gb (o:OpV):OpV:=if o.x.aI then o else { o with x:=uf o.x }
def qL (e:RE):RE:=if e.o.x.aI then e else ⟨uf e.x,{ e.o with x:=uf e.o.x }⟩
theorem Eu (e:RE):(qL e).o=Gb e.o:=by unfold qL Gb; split <;> rfl
theorem JM (e:Ent) (be:bare e.x=e.o.x):(iR e).o=Gb e.o:=by
 have d:e.o.x.aI=e.x.aI:=by rw [← be]; rfl
 unfold iR Gb
 rw [d]
 split
 ·rfl
 ·dsimp only; rw [JZ,be]
theorem LC {α:Type} {f:α->α} {L:List α} {i:Nat} (h:i<=L.length):((L.take i).map f ++ L.drop i)[i]? = L[i]?:=by
 rw [List.getElem?_append_right (by simp; omega)]
 simp [Nat.min_eq_left h]
theorem Mi {α:Type} {f:α->α} {L:List α} {i:Nat} {e:α} (he:L[i]? = some e):((L.take i).map f ++ L.drop i).set i (f e)=(L.take (i + 1)).map f ++ L.drop (i + 1):=by
 obtain ⟨il,hl⟩:=List.getElem?_eq_some_iff.1 he
 have e1:((L.take i).map f).length=i:=by simp; omega
 rw [List.set_append_right _ _ (by omega),e1,Nat.sub_self,List.drop_eq_getElem_cons il,List.set_cons_zero,List.take_add_one,he]
 simp
section
variable {W:kQ} {h:Heap} {d:Nat} {s:Slc} {L:List RE}
theorem Lb {n node er:Int} {k:KP Bool} (D:fP W h d s L) (m:L.length<=1000000) (nz:∀ e∈L,e.o.ns.length<=1000000)
  (N:NoR L n (fun o=>o.x.aI=true∨node ∉ o.ns∨xG o.x.aJ er=false)->k false h)
  (H:∀ (i:Nat) e x' h',L[i]? = some e->e.x.f_N=n->e.o.x.aI=false->node∈e.o.ns->xG e.o.x.aJ er=true->fP W h' d s (L.set i ⟨x',Mv e.o er⟩)->Stp (fun b=>s.blk=some b) h h'->k true h') :
  tF (some ⟨d,0,none⟩) n node er k h:=by
 have no:∀ v,NoR L n (fun o=>o.x.aI=true∨node ∉ o.ns∨xG o.x.aJ er=false)->kr (some ⟨d,0,none⟩) er v true k h:=fun v q=>by unfold kr; rw [if_pos rfl]; exact N q
 unfold tF
 refine Ez D m (fun q=>?_) fun i e hi en=>?_
 ·rw [if_pos (by decide)]
  unfold mY
  rw [if_pos rfl]; exact no _ (.inl q)
 have he:=List.mem_of_getElem? hi
 have M:=D.m he
 have il:=(List.getElem?_eq_some_iff.1 hi).1
 have kd:e.x.aJ=e.o.x.aJ:=by rw [← M.e]; rfl
 have dn:e.x.aI=e.o.x.aI:=by rw [← M.e]; rfl
 rw [if_neg (by simp)]
 obtain ⟨a,f,ha,g0,g1,hf,hc⟩:=D.ls.it (i:=(i:Int)) (by omega) (by omega)
 rw [Int.toNat_natCast,hi] at hf; cases hf
 refine ⟨_,rfl,s,D.cs,a,ha,g0,g1,e.x.aI,Ay hc rfl,?_⟩
 unfold mY
 rw [dn]
 cases hd:e.o.x.aI with
 | true=>rw [if_pos rfl]; exact no _ (.inr ⟨e,he,en,.inl hd⟩)
 | false =>
  rw [if_neg (by simp)]
  refine ⟨_,rfl,s,D.cs,a,ha,g0,g1,e.x.aQ,Ay hc rfl,ET M.n M.nl (nz e he) ?_⟩
  by_cases cn:node∈e.o.ns
  rotate_left
  ·rw [decide_eq_false cn]; exact no _ (.inr ⟨e,he,en,.inr (.inl cn)⟩)
  rw [decide_eq_true cn]
  unfold kr
  rw [if_neg (by simp)]
  refine ⟨_,rfl,s,D.cs,a,ha,g0,g1,e.x.aJ,Ay hc rfl,?_⟩
  rw [kd]
  have j3:ny (some ⟨d,0,none⟩) er (i:Int) (xG e.o.x.aJ er) k h:=by
   unfold ny
   cases hb:xG e.o.x.aJ er with
   | false=>rw [if_neg (by simp)]; unfold nD; exact N (.inr ⟨e,he,en,.inr (.inr hb)⟩)
   | true =>
    rw [if_pos rfl]
    refine ⟨_,rfl,s,D.cs,a,ha,g0,g1,D.cell hi (j:=30) (by decide) (x':={ e.x with aI:=true }) (o':={ e.o with x:={ e.o.x with aI:=true } }) rfl (fun h' M=>⟨by rw [← M.e]; rfl,M.p,M.pl,M.n,M.nl,M.nc,M.y,M.yl,M.r,M.rl,M.w,M.wl⟩) (by have z:=D.z e he; exact ⟨z.p,z.n,z.y,z.r,z.w⟩) ha fun h6 D6 S6=>?_⟩
    have z:=D.z e he
    refine ⟨s,D6.cs,a,ha,g0,g1,D6.cell (i:=(i:Int).toNat) (List.getElem?_set_self il) (j:=31) (by decide) (x':={ e.x with aI:=true,f_E:=er }) (o':=Mv e.o er) rfl (fun h' M=>⟨by unfold Mv; have:=M.e; dsimp only at this ⊢; rw [show ({ e.o.x with aI:=true,f_E:=er }:aj) = { ({ e.o.x with aI:=true }:aj) with f_E:=er } from rfl,← this]; rfl,M.p,M.pl,M.n,M.nl,M.nc,M.y,M.yl,M.r,M.rl,M.w,M.wl⟩) (by exact ⟨z.p,z.n,z.y,z.r,z.w⟩) ha fun h9 D9 S9=>?_⟩
    unfold nD
    rw [List.set_set] at D9
    exact H i e _ h9 hi en hd cn hb D9 (S6.trans' S9)
  by_cases c:e.o.x.aJ=3/\er≠0/\er≠18/\er≠14/\er≠11/\er≠15
  ·obtain ⟨c0,c1,c2,c3,c4,c5⟩:=c
   rw [if_pos (by simp [c0,c1,c2,c3,c4,c5])]
   have:xG e.o.x.aJ er=true:=by
    unfold xG
    split
    ·rfl
    ·rw [if_neg (by omega),c0]; rfl
   rw [this] at j3; exact j3
  ·rw [if_neg (by simp only [Bool.and_eq_true,bne_iff_ne,beq_iff_eq,ne_eq]; intro q; exact c ⟨q.1.1.1.1.1,q.1.1.1.1.2,q.1.1.1.2,q.1.1.2,q.1.2,q.2⟩)]
   have:xG e.o.x.aJ er=(((er == 1) || (er == 3)) || (er == 17)):=by
    unfold xG
    by_cases h1:er=1∨er=3∨er=17
    ·rw [if_pos h1]; rcases h1 with rfl | rfl | rfl <;> rfl
    ·rw [if_neg h1]
     have e1:(((er == 1) || (er == 3)) || (er == 17))=false:=by simp; omega
     rw [e1]
     by_cases h2:er=0∨er=18∨er=14∨er=11∨er=15
     ·rw [if_pos h2]
     ·rw [if_neg h2]; simp; intro q; exact c ⟨q,by omega,by omega,by omega,by omega,by omega⟩
   rw [this] at j3; exact j3
theorem KS {k:KP Unit} (D:fP W h d s L) (m:L.length<=1000000) (H:∀ h',fP W h' d s (L.map qL)->Stp (fun b=>s.blk=some b) h h'->k () h'):qz (some ⟨d,0,none⟩) k h:=by
 unfold qz vP
 refine ⟨fun i h'=>0<=i/\i<=(L.length:Int)/\fP W h' d s ((L.take i.toNat).map qL ++ L.drop i.toNat)/\Stp (fun b=>s.blk=some b) h h',fun i _=>L.length - i.toNat,⟨Int.le_refl _,by omega,by simpa using D,Stp.refl _ _⟩,?_⟩
 rintro i h1 ⟨i0,i1,D1,S1⟩
 unfold uU
 refine ⟨_,rfl,s,D1.cs,?_⟩
 rw [D.l]
 by_cases hi:i < (L.length:Int)
 ·rw [if_pos (by simpa using hi)]
  have ln:((L.take i.toNat).map qL ++ L.drop i.toNat).length=L.length:=by simp; omega
  obtain ⟨a,e,ha,g0,g1,he,hc⟩:=D1.ls.it i0 (by rw [ln]; exact hi)
  have heL:L[i.toNat]? = some e:=by rw [← LC (f:=qL) (by omega)]; exact he
  have M:=D1.m (List.mem_of_getElem? he)
  have z:=D1.z e (List.mem_of_getElem? he)
  have il:=(List.getElem?_eq_some_iff.1 he).1
  have dn:e.x.aI=e.o.x.aI:=by rw [← M.e]; rfl
  have ag:e.x.cZ=e.o.x.cZ:=by rw [← M.e]; rfl
  have fin:∀ h',fP W h' d s (((L.take i.toNat).map qL ++ L.drop i.toNat).set i.toNat (qL e))->Stp (fun b=>s.blk=some b) h h'->iG (some ⟨d,0,none⟩) i k (fun i' h''=>(0<=i'/\i'<=(L.length:Int)/\fP W h'' d s ((L.take i'.toNat).map qL ++ L.drop i'.toNat)/\Stp (fun b=>s.blk=some b) h h'')/\L.length - i'.toNat < L.length - i.toNat) h':=fun h' D' S'=>by
   unfold iG
   refine ⟨_,rfl,?_⟩
   rw [aA (by omega) (by omega)]
   rw [Mi heL] at D'
   exact ⟨⟨by omega,by omega,by rw [show (i + 1).toNat=i.toNat + 1 from by omega]; exact D',S'⟩,by omega⟩
  refine ⟨s,D1.cs,a,ha,i0,g1,e.x.aI,Ay hc rfl,?_⟩
  cases hd:e.x.aI with
  | true =>
   rw [if_neg (by decide)]
   refine fin h1 ?_ S1
   have:qL e=e:=by unfold qL; rw [← dn,hd,if_pos rfl]
   rw [this,Di he]; exact D1
  | false =>
   rw [if_pos (by rfl)]
   refine ⟨s,D1.cs,a,ha,i0,g1,e.x.cZ,Ay hc rfl,a,ha,i0,g1,?_⟩
   refine D1.cell he (j:=29) (by decide) (x':={ e.x with cZ:=IntKind.i64.wrap (e.x.cZ + 1) }) (o':={ e.o with x:={ e.o.x with cZ:=IntKind.i64.wrap (e.o.x.cZ + 1) } }) rfl (fun h' M=>⟨by rw [ag,← M.e]; rfl,M.p,M.pl,M.n,M.nl,M.nc,M.y,M.yl,M.r,M.rl,M.w,M.wl⟩) ⟨z.p,z.n,z.y,z.r,z.w⟩ ha fun h2 D2 S2=>?_
   obtain ⟨a2,e2,ha2,_,_,he2,hc2⟩:=D2.ls.it i0 (by rw [List.length_set,ln]; exact hi)
   rw [ha] at ha2; cases ha2
   rw [List.getElem?_set_self il] at he2; cases he2
   refine ⟨s,D2.cs,a,ha,i0,g1,_,Ay hc2 (v:=.int .i64 (IntKind.i64.wrap (e.x.cZ + 1))) rfl,?_⟩
   by_cases c:IntKind.i64.wrap (e.x.cZ + 1)>=60
   ·rw [if_pos (by simpa using c)]
    have te:qL e=⟨{ e.x with cZ:=IntKind.i64.wrap (e.x.cZ + 1),aI:=true,f_E:=15 },{ e.o with x:={ e.o.x with cZ:=IntKind.i64.wrap (e.o.x.cZ + 1),aI:=true,f_E:=15 } }⟩:=by
     unfold qL; rw [← dn,hd,if_neg (by simp)]; unfold uf; rw [if_pos c,if_pos (by rw [← ag]; exact c)]
    refine ⟨s,D2.cs,a,ha,i0,g1,D2.cell (i:=i.toNat) (List.getElem?_set_self il) (j:=30) (by decide) (x':={ e.x with cZ:=IntKind.i64.wrap (e.x.cZ + 1),aI:=true }) (o':={ e.o with x:={ e.o.x with cZ:=IntKind.i64.wrap (e.o.x.cZ + 1),aI:=true } }) rfl (fun h' M=>⟨by have:=M.e; dsimp only at this ⊢; rw [show ({ e.o.x with cZ:=IntKind.i64.wrap (e.o.x.cZ + 1),aI:=true }:aj) = { ({ e.o.x with cZ:=IntKind.i64.wrap (e.o.x.cZ + 1) }:aj) with aI:=true } from rfl,← this]; rfl,M.p,M.pl,M.n,M.nl,M.nc,M.y,M.yl,M.r,M.rl,M.w,M.wl⟩) ⟨z.p,z.n,z.y,z.r,z.w⟩ ha fun h3 D3 S3=>?_⟩
    refine ⟨s,D3.cs,a,ha,i0,g1,D3.cell (i:=i.toNat) (List.getElem?_set_self (by rw [List.length_set]; exact il)) (j:=31) (by decide) (x':={ e.x with cZ:=IntKind.i64.wrap (e.x.cZ + 1),aI:=true,f_E:=15 }) (o':={ e.o with x:={ e.o.x with cZ:=IntKind.i64.wrap (e.o.x.cZ + 1),aI:=true,f_E:=15 } }) rfl (fun h' M=>⟨by have:=M.e; dsimp only at this ⊢; rw [show ({ e.o.x with cZ:=IntKind.i64.wrap (e.o.x.cZ + 1),aI:=true,f_E:=15 }:aj) = { ({ e.o.x with cZ:=IntKind.i64.wrap (e.o.x.cZ + 1),aI:=true }:aj) with f_E:=15 } from rfl,← this]; rfl,M.p,M.pl,M.n,M.nl,M.nc,M.y,M.yl,M.r,M.rl,M.w,M.wl⟩) ⟨z.p,z.n,z.y,z.r,z.w⟩ ha fun h4 D4 S4=>?_⟩
    refine fin h4 ?_ (S1.trans' (S2.trans' (S3.trans' S4)))
    rw [List.set_set,List.set_set,← te] at D4; exact D4
   ·rw [if_neg (by simpa using c)]
    have te:qL e=⟨{ e.x with cZ:=IntKind.i64.wrap (e.x.cZ + 1) },{ e.o with x:={ e.o.x with cZ:=IntKind.i64.wrap (e.o.x.cZ + 1) } }⟩:=by
     unfold qL; rw [← dn,hd,if_neg (by simp)]; unfold uf; rw [if_neg c,if_neg (by rw [← ag]; exact c)]
    refine fin h2 ?_ (S1.trans' S2)
    rw [← te] at D2; exact D2
 ·rw [if_neg (by simpa using hi)]
  rw [List.take_of_length_le (by omega),List.drop_of_length_le (by omega),List.append_nil] at D1
  exact H h1 D1 S1
end
end Go.Q.Yq
end
section
/- The document's desk: an op is started. -/
namespace Go.Q.Yq
open Go.Q.Rw
theorem Fs (x:aj):∀ v∈aj.cs x,v.oneCell'=true:=fun v hv=>by
 have key:∀ v∈arr 12 .u8 x.oM.EC,v.oneCell'=true:=fun v hv=>by
  rw [Jv] at hv
  obtain ⟨a,_,rfl⟩:=List.mem_map.1 hv; rfl
 unfold aj.cs aC.cs aT.cs at hv
 simp only [List.mem_append,List.mem_cons,List.not_mem_nil,or_false] at hv
 rcases hv with ((hv | hv) | hv) | hv
 ·rcases hv with rfl | rfl | rfl | rfl <;> rfl
 ·rcases hv with rfl | rfl | rfl | rfl | rfl <;> rfl
 ·rcases hv with (hv | hv) | hv
  ·rcases hv with rfl | rfl | rfl <;> rfl
  ·exact key v hv
  ·rcases hv with rfl | rfl <;> rfl
 ·rcases hv with rfl | rfl | rfl | rfl | rfl | rfl | rfl <;> rfl
theorem J8 (l:List RE):∀ v∈l.flatMap recs,v.oneCell'=true:=fun v hv=>by obtain ⟨x,_,hx⟩:=List.mem_flatMap.1 hv; exact Fs x.x v hx
def Bf (L:List RE) (n:Int) (e:RE):List RE:=L.takeWhile (fun f=>decide (f.x.f_N < n)) ++ e :: L.dropWhile (fun f=>decide (f.x.f_N < n))
theorem II {L:List RE} {n:Int} {e:RE} {i:Nat} (h1:∀ f∈L.take i,f.x.f_N < n) (h2:∀ f,L[i]? = some f->¬ f.x.f_N < n):Bf L n e=L.take i ++ e :: L.drop i:=by
 have key:∀ (i:Nat) (L:List RE),(∀ f∈L.take i,f.x.f_N < n)->(∀ f,L[i]? = some f->¬ f.x.f_N < n)->L.takeWhile (fun f=>decide (f.x.f_N < n))=L.take i/\L.dropWhile (fun f=>decide (f.x.f_N < n))=L.drop i:=by
  intro i
  induction i with
  | zero =>
   intro L _ h2
   cases L with
   | nil=>exact ⟨rfl,rfl⟩
   | cons f r =>
    have:=h2 f rfl
    rw [List.takeWhile_cons_of_neg (by simpa using this),List.dropWhile_cons_of_neg (by simpa using this)]
    exact ⟨rfl,rfl⟩
  | succ i ih =>
   intro L h1 h2
   cases L with
   | nil=>exact ⟨rfl,rfl⟩
   | cons f r =>
    have hf:=h1 f (by simp)
    obtain ⟨a,b⟩:=ih r (fun g hg=>h1 g (by simp [hg])) (fun g hg=>h2 g (by simpa using hg))
    rw [List.takeWhile_cons_of_pos (by simpa using hf),List.dropWhile_cons_of_pos (by simpa using hf),a,b]
    exact ⟨rfl,rfl⟩
 obtain ⟨a,b⟩:=key i L h1 h2
 unfold Bf; rw [a,b]
section
variable {W:kQ} {h:Heap} {d:Nat} {s:Slc} {L:List RE}
theorem MO {y:aj} {o:OpV} {b:Nat} {k:KP Int} {nx3:KP Int} (D:fP W h d s L) (P:Blk h b (aj.cs y) 39) (M:Imm (uD W d s) h fun h'=>OpM h' y o) (Z:OpZ o) (m:L.length<=1000)
  (H:∀ s' h',fP W h' d s' (Bf L y.f_N ⟨y,o⟩)->Stp (fun b=>b=d) h h'->(∀ g,s'.blk=some g->h.size<=g)->k 0 h'):gJ (some ⟨d,0,none⟩) ⟨b,0,none⟩ k nx3 h:=by
 have pl:=P.lt
 have dl:=D.P.lt
 unfold gJ uX
 refine ⟨fun q h'=>∃ i:Nat,q.2=(i:Int)/\i<=L.length/\(∀ f∈L.take i,f.x.f_N < y.f_N)/\Ext h.size h h'/\Row h.size h' 39 33 q.1 ((L.take i).flatMap recs)/\q.1.len=i,fun q _=>L.length - q.2.toNat,⟨0,rfl,by omega,by simp,Ext.refl _ _,by simpa using Row.nil _ _ _ _,rfl⟩,?_⟩
 rintro t6 ii h1 ⟨i,ei,il,al,X1,R,rl⟩
 dsimp only at ei R rl
 subst ei
 have z1:=X1.size
 have D1:=D.ext X1
 have P1:=P.ext X1 pl
 unfold uu
 refine ⟨_,rfl,s,D1.cs,?_⟩
 have last:(∀ f,L[i]? = some f->¬ f.x.f_N < y.f_N)->gG (some ⟨d,0,none⟩) ⟨b,0,none⟩ t6 (i:Int) false k nx3 (fun q h'=>(∃ i:Nat,q.2=(i:Int)/\i<=L.length/\(∀ f∈L.take i,f.x.f_N < y.f_N)/\Ext h.size h h'/\Row h.size h' 39 33 q.1 ((L.take i).flatMap recs)/\q.1.len=i)/\L.length - q.2.toNat < L.length - ((i:Nat):Int).toNat) h1:=fun h2=>by
  unfold gG
  rw [if_neg (by simp)]
  refine ⟨_,rfl,y,ai.aL P1,bx0 fun h3 B3 X3=>?_⟩
  have z3:=X3.size
  refine app1 (R.keep fun g hg=>X3.block g (R.bd hg).2) (by omega) rfl rfl (Fs y) (by rw [rl]; omega) (by rw [rl]; simp only [maxLen]; omega) fun s4 h4 R4 l4 X4=>?_
  have X04:Ext h.size h h4:=(X1.trans (X3.mono z1)).trans X4
  have z4:=X04.size
  have D4:=D.ext X04
  have Ls:=D4.ls.sub (a:=i) (b:=s.len) (m:=s.cap) (by rw [D.l]; omega) (Nat.le_refl _) (by
   rcases D.R.2.2 with ⟨_,q1,q2⟩ | ⟨_,_,_,_,_,q,_⟩
   ·omega
   ·exact q)
  rw [List.take_of_length_le (by rw [D.l]; exact Nat.le_refl _)] at Ls
  refine ⟨_,rfl,s,D4.cs,_,by omega,by rw [rl,D.l]; omega,?_,Int.le_refl _,rfl,(L.drop i).flatMap recs,?_,?_⟩
  ·rcases D.R.2.2 with ⟨_,q1,q2⟩ | ⟨_,_,_,_,_,q,_⟩ <;> omega
  ·rw [rl]; exact Ls.J7 Eb (by decide)
  ·refine app1 R4 (by omega) rfl (by rw [rl,rR Eb,← Ls.l]; rfl) (J8 _) ?_ ?_ fun s5 h5 R5 l5 X5=>?_
   ·rw [l4,rl]
    have:(rY s 33 ((i:Int)).toNat ((s.len:Int)).toNat ((s.cap:Int)).toNat).len=L.length - i:=by show ((s.len:Int)).toNat - ((i:Int)).toNat=_; rw [D.l]; simp
    rw [this]; omega
   ·rw [l4,rl]
    have:(rY s 33 ((i:Int)).toNat ((s.len:Int)).toNat ((s.cap:Int)).toNat).len=L.length - i:=by show ((s.len:Int)).toNat - ((i:Int)).toNat=_; rw [D.l]; simp
    rw [this]; simp only [maxLen]; omega
   have X05:Ext h.size h h5:=X04.trans X5
   have z5:=X05.size
   have D5:=D.ext X05
   have e5:(L.take i).flatMap recs ++ aj.cs y ++ (L.drop i).flatMap recs=(Bf L y.f_N ⟨y,o⟩).flatMap recs:=by
    rw [II al h2,List.flatMap_append,List.flatMap_cons,List.append_assoc]
   rw [e5] at R5
   have wr:=D5.P.wr (i:=0) (by simp)
   have sb:∀ g,s5.blk=some g->h.size<=g:=fun g hg=>(R5.bd hg).1
   have st:Stp (fun b=>b=d) h (setH h5 ⟨d,0,none⟩ (Slc.v s5)):=(Stp.oL X05).trans' (Stp.set (.inl rfl))
   refine ⟨_,wr,rfl,H s5 _ ⟨D5.P.set,(R5.mono (Nat.zero_le _)).keep fun g hg=>jL fun q=>by have:=sb g hg; have:g=d:=q; omega,?_,fun q=>by have:=sb d q; omega,fun f hf=>?_,fun f hf=>?_⟩ st sb⟩
   ·have e1:=R5.1
    rw [rR Eb] at e1
    omega
   ·have hO:∀ g,uD W d s5 g->uD W d s g∨h.size<=g:=fun g hg=>by
     rcases hg with q | q | q
     ·exact .inl (.inl q)
     ·exact .inr (sb g q)
     ·exact .inl (.inr (.inr q))
    have st':=st.mono (O':=uD W d s) fun b hb=>.inl (.inl hb)
    rw [II al h2] at hf
    rcases List.mem_append.1 hf with hf | hf
    ·exact (D.I f (List.mem_of_mem_take hf)).step st' hO
    ·rcases List.mem_cons.1 hf with rfl | hf
     ·exact M.step st' hO
     ·exact (D.I f (List.mem_of_mem_drop hf)).step st' hO
   ·rw [II al h2] at hf
    rcases List.mem_append.1 hf with hf | hf
    ·exact D.z f (List.mem_of_mem_take hf)
    ·rcases List.mem_cons.1 hf with rfl | hf
     ·exact Z
     ·exact D.z f (List.mem_of_mem_drop hf)
 by_cases c:(i:Int) < (s.len:Int)
 ·rw [if_pos (by simpa using c)]
  obtain ⟨a,e,ha,g0,g1,he,hc⟩:=D1.ls.it (i:=(i:Int)) (by omega) (by rw [← D.l]; exact c)
  rw [Int.toNat_natCast] at he
  refine ⟨s,D1.cs,a,ha,g0,g1,e.x.f_N,zx hc rfl,y.f_N,P1.cl0 rfl,?_⟩
  by_cases q:e.x.f_N < y.f_N
  ·rw [decide_eq_true q]
   unfold gG
   rw [if_pos rfl]
   refine ⟨_,rfl,s,D1.cs,a,ha,g0,g1,e.x,hc,bx0 fun h3 B3 X3=>?_⟩
   have z3:=X3.size
   refine app1 (R.keep fun g hg=>X3.block g (R.bd hg).2) (by omega) rfl rfl (Fs e.x) (by rw [rl]; omega) (by rw [rl]; simp only [maxLen]; omega) fun s4 h4 R4 l4 X4=>⟨_,rfl,?_⟩
   have X04:Ext h.size h h4:=(X1.trans (X3.mono z1)).trans X4
   have ti:L.take (i + 1)=L.take i ++ [e]:=by rw [List.take_add_one,he]; rfl
   rw [aA (by omega) (by omega)]
   refine ⟨⟨i + 1,by dsimp only; omega,by have:=D.l; omega,fun f hf=>?_,X04,?_,by dsimp only; omega⟩,by dsimp only; have:=D.l; omega⟩
   ·rw [ti] at hf
    rcases List.mem_append.1 hf with hf | hf
    ·exact al f hf
    ·simp at hf; subst hf; exact q
   ·rw [ti,List.flatMap_append]
    simpa using R4
  ·rw [decide_eq_false q]
   exact last fun f hf=>by rw [he] at hf; cases hf; exact q
 ·rw [if_neg (by simpa using c)]
  exact last fun f hf=>by
   have:=(List.getElem?_eq_some_iff.1 hf).1
   have:=D.l; omega
end
end Go.Q.Yq
end

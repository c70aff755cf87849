/- A part of the proof of statements of this seat: lemmas, no statement of their own. -/
import Derived.Test.YtmmpamfadeonmaaGreatDoorYkZax
import Derived.Test.YtmmpamfadeonmaaGreatDoorYkZar
import Derived.Test.YtmmpamfadeonmaaGreatDoorYkZaj
import Derived.Test.YtmmpamfadeonmaaGreatDoorYkZah
import Derived.Test.YtmmpamfadeonmaaGreatDoorYkZas
set_option linter.unusedVariables false
set_option linter.unusedSimpArgs false
section
set_option maxRecDepth 100000
/- Strong: Make, whatever the change. -/
namespace Go.Q.Yk
open Go.Q.Sg
section
variable {h:Heap} {v:S_api_Mem} {m:MemV}
theorem Make_ok {cv:S_api_Change} {c:ChgV} {k:S_api_Mem × Int->Heap->Prop} (M:MemAt h v m) (w:WfM m) (ml:m.ents.length<=1000/\m.boxes.length<=1000) (CA:ChgAt h cv c) (wc:WfC c) (cl:c.ents.length<=1000/\c.boxes.length<=1000) (ck:-9223372036854775808<=cv.f_Node/\cv.f_Node < 9223372036854775808) (Z:MK h (fun m'=>cv.f_Kind=1->m' = { m with boot:=c.n }) (cv.f_Kind=1->chkE { m with boot:=c.n }≠0) k):strong_Make v cv k h:=by
 unfold strong_Make
 refine bx0 fun h2 P2 X2=>bx0 fun h4 P4 X4=>bx0 fun h6 P6 X6=>⟨v,CellsAt.of_blk ((P2.ext X4 P2.lt).ext X6 (P2.ext X4 P2.lt).lt),?_⟩
 have z2:=X2.size
 have z4:=X4.size
 have z6:=X6.size
 have p2:=P2.lt
 have p4:=P4.lt
 have p6:=P6.lt
 have X06:Ext h.size h h6:=X2.trans ((X4.mono z2).trans (X6.mono (by omega)))
 refine copied_ok (M.ext X06) w fun v8 h9 M9 X9=>?_
 have z9:=X9.size
 have P29:=((P2.ext X4 p2).ext X6 (P2.ext X4 p2).lt).ext X9 ((P2.ext X4 p2).ext X6 (P2.ext X4 p2).lt).lt
 refine bset (cs:=S_api_Mem.cs v8) P29 rfl (by show 79<=79; omega) fun h10 P10 U10=>?_
 have z10:=U10.size
 have P3:Blk h10 h2.size (S_api_Change.cs cv) 40:=U10.blk ((P4.ext X6 p4).ext X9 (P4.ext X6 p4).lt) (by omega)
 have P5:Blk h10 h4.size _ 33:=U10.blk (P6.ext X9 p6) (by omega)
 have K:KS h.size h6.size h.size h10 v8 m:=⟨P10,M9.keep fun g h1 hg=>U10.block g hg (by omega),Nat.le_refl _,by omega,by omega⟩
 have X:Ext h.size h h10:=X06.trans ((X9.mono (by omega)).trans (U10.ext (Nat.le_refl _) (by omega)))
 have h5:h.size<=h4.size/\h4.size < h6.size/\h4.size≠h.size:=⟨by omega,by omega,by omega⟩
 have o:h.size<=h.size/\h.size < h6.size/\h6.size<=h10.size:=⟨Nat.le_refl _,by omega,by omega⟩
 have CX:∀ {h'},Ext h.size h10 h'->ChgAt h' cv c:=fun {h'} Y=>CA.ext (X.trans Y)
 refine ⟨_,P3.cl0 rfl,?_⟩
 by_cases c1:cv.f_Kind=1
 ·rw [if_pos (by simpa using c1)]
  exact ⟨_,P3.cl rfl,set_j1 (v':={ v8 with f_Boot:=cv.f_N }) (m':={ m with boot:=c.n }) Z X K.P o P5 rfl h5 (by omega) rfl { K.M with boot:=CA.n } { w with boot:=wc.n } (fun _=>rfl) fun f _=>f⟩
 rw [if_neg (by simpa using c1)]
 by_cases c2:cv.f_Kind=2
 ·rw [if_pos (by simpa using c2)]
  exact ⟨_,P3.cl rfl,set_j1 (v':={ v8 with f_Lease:=cv.f_N }) (m':={ m with lease:=c.n }) Z X K.P o P5 rfl h5 (by omega) rfl { K.M with lease:=CA.n } { w with lease:=wc.n } (fun q=>absurd q c1) fun _ q=>absurd q c1⟩
 rw [if_neg (by simpa using c2)]
 by_cases c7:cv.f_Kind=7
 ·rw [if_pos (by simpa using c7)]
  exact ⟨_,P3.cl rfl,set_j1 (v':={ v8 with f_Clean:=cv.f_N }) (m':={ m with clean:=c.n }) Z X K.P o P5 rfl h5 (by omega) rfl { K.M with clean:=CA.n } { w with clean:=wc.n } (fun q=>absurd q c1) fun _ q=>absurd q c1⟩
 rw [if_neg (by simpa using c7)]
 obtain ⟨bs,B1,B2⟩:=K.M.boxes
 have bl:=rowb_len B1
 have bml:=B2.l
 by_cases c4:cv.f_Kind=4
 ·rw [if_pos (by simpa using c4)]
  have bad:strong_Make_g3 ⟨h.size,0,none⟩ ⟨h2.size,0,none⟩ ⟨h4.size,0,none⟩ 0 true k h10:=by
   unfold strong_Make_g3
   rw [if_pos rfl]
   exact bset (cs:=S_api_Mem.cs zMem) P5 rfl (by show 79<=79; omega) fun h11 P11 U11=>⟨zMem,CellsAt.of_blk P11,Z.no 1 h11 (by omega) (X.trans (U11.ext h5.1 (by omega))) fun q=>absurd q c1⟩
  refine ⟨_,P3.cl rfl,?_⟩
  by_cases q:cv.f_Node < 0
  ·rw [if_pos (by rw [decide_eq_true_eq]; exact q)]
   exact bad
  rw [if_neg (by rw [decide_eq_true_eq]; exact q)]
  refine ⟨_,P3.cl rfl,v8.f_Chains,K.P.cl rfl,?_⟩
  by_cases q2:cv.f_Node>=v8.f_Chains.len
  ·rw [show decide (cv.f_Node>=(v8.f_Chains.len:Int))=true from by rw [decide_eq_true_eq]; exact q2]
   exact bad
  rw [show decide (cv.f_Node>=(v8.f_Chains.len:Int))=false from by rw [decide_eq_false_iff_not]; exact q2]
  unfold strong_Make_g3
  rw [if_neg (by simp)]
  obtain ⟨us,C1,C2⟩:=K.M.chains
  have L:=ls_chains C1
  have ll:=L.l
  have cml:=C2.l
  obtain ⟨a,u,ha,_⟩:=L.it (i:=cv.f_Node) (by omega) (by omega)
  obtain ⟨w1,w2,w3⟩:=Go.Q.Rw.row_setS (w:=33) (fun x=>rfl) C1 ll (i:=cv.f_Node.toNat) (by omega) cv.f_Chain ha
  have hb:v8.f_Chains.blk=some a.block:=by unfold Slc.blk; rw [ha]
  refine ⟨_,K.P.cl rfl,_,P3.cl rfl,cv.f_Chain,P3.cls rfl,a,ha,by omega,by omega,_,w1,rfl,?_⟩
  have hne:∀ g,v8.f_Chains.blk≠some g->(setsH h10 (a.add (cv.f_Node.toNat * 33)) 0 (S_api_Chain.cs cv.f_Chain))[g]? = h10[g]?:=fun g hs=>setsH_other _ _ fun e=>hs (by rw [hb,e,add_block])
  have sz:(setsH h10 (a.add (cv.f_Node.toNat * 33)) 0 (S_api_Chain.cs cv.f_Chain)).size=h10.size:=setsH_size _ _
  generalize setsH h10 (a.add (cv.f_Node.toNat * 33)) 0 (S_api_Chain.cs cv.f_Chain)=h11 at *
  obtain ⟨r1,r2,r3⟩:=K.M.chainless C1 (fun g _ _ hs=>hne g hs)
  have lo:∀ g,g < h6.size->h11[g]? = h10[g]?:=fun g hg=>hne g fun e=>by have:=(C1.bd e).1; omega
  refine j1_ok (m:={ m with chains:=m.chains.set cv.f_Node.toNat c.chain }) (v:=v8) Z (X.trans ⟨by omega,fun g hg=>lo g (by omega)⟩) (fun _=>⟨⟨K.P.old (lo _ (by omega)),{ K.M with snap:=r1,ents:=r2,boxes:=r3,chains:=⟨_,w2,⟨by simp [cml],fun i x y hx hy=>?_⟩⟩ },Nat.le_refl _,by omega,by omega⟩,{ w with chains:=fun x hx=>?_,chainsl:=by simpa using w.chainsl }⟩) (P5.old (lo _ (by omega))) rfl h5 (fun _ q=>absurd q c1) fun _ q=>absurd q c1
  ·rw [List.getElem?_set] at hx hy
   by_cases e:cv.f_Node.toNat=i
   ·rw [if_pos e] at hx hy
    split at hx
    ·split at hy
     ·simp at hx hy; subst hx; subst hy; exact CA.chain
     ·cases hy
    ·cases hx
   ·rw [if_neg e] at hx hy; exact C2.r i x y hx hy
  ·rcases List.mem_or_eq_of_mem_set hx with e | e
   ·exact w.chains x e
   ·subst e; exact ⟨wc.chain,wc.chainb,wc.chainl⟩
 rw [if_neg (by simpa using c4)]
 have low:∀ {s:Slc} {h1:Heap},v8.f_Boxes=s->UpS s h10 h1->Ext h6.size h10 h1:=fun {s h1} e U=>⟨U.size,fun g hg=>U.block g (by omega) fun q=>by subst e; have:=(B1.bd q).1; omega⟩
 -- boxes that stay
 have stay:∀ {h1:Heap} {us':List S_api_Box},UpS v8.f_Boxes h10 h1->(∀ u∈us',u∈bs)->∃ bs',Many (BoxR h6.size h1) us' bs'/\∀ b∈bs',WfB b:=fun {h1 us'} U hm=>many_of fun u hu=>by
  obtain ⟨b,r,q⟩:=many_mem B2 (hm u hu)
  exact ⟨b,(K.M.boxless B1 (fun g h1 h2 h3=>U.block g h2 h3)).2.2.2 u b r,w.boxes b q⟩
 by_cases c5:cv.f_Kind=5
 ·rw [if_pos (by simpa using c5)]
  refine ⟨v8.f_Boxes,K.P.cl rfl,dela_w (fun h1 U1 u k' Hk=>mk1_ok (gs:=c.gone) (P3.ext (low rfl U1) (by omega)) (CX ((low rfl U1).mono (by omega))).gone wc.gonel Hk) B1 (by omega) fun s1 us1 h1 U1 R1 m1 l1=>?_⟩
  have L1:=low rfl U1
  have z1:=L1.size
  obtain ⟨bs1,M1,W1⟩:=stay U1 m1
  obtain ⟨r1,r2,r3,_⟩:=K.M.boxless B1 (fun g _ h2 h3=>U1.block g h2 h3)
  have P1:=K.P.ext L1 (by omega)
  refine bset1 P1 (by show 77 < 79; omega) fun h11 P11 U11=>?_
  have z11:=U11.size
  have P11:Blk h11 h.size (S_api_Mem.cs { v8 with f_Boxes:=s1 }) 33:=P11
  have kr:∀ {E w:Nat} {t:Slc} {ys:List Value},Row h6.size h1 E w t ys->Row h6.size h11 E w t ys:=fun Q=>Q.keep fun g hg=>U11.block g (Q.bd hg).2 (by have:=(Q.bd hg).1; omega)
  have kb:∀ {u b},BoxR h6.size h1 u b->BoxR h6.size h11 u b:=fun E=>⟨E.t,E.e,E.n,kr E.r⟩
  have X11:Ext h.size h10 h11:=(L1.mono (by omega)).trans (U11.ext (Nat.le_refl _) (by omega))
  have CA11:=CX X11
  obtain ⟨vs,V1,V2⟩:=CA11.boxes
  have P311:Blk h11 h2.size (S_api_Change.cs cv) 40:=U11.blk (P3.ext L1 (by omega)) (by omega)
  refine ⟨s1,P11.cl rfl,cv.f_Boxes,P311.cl rfl,owned_ok V1 V2 wc.boxesl wc.boxes fun s2 us2 h12 R12 M12 X12=>?_⟩
  have z12:=X12.size
  refine ⟨(P11.ext X12 P11.lt).cl rfl,_,R12.slc,?_⟩
  have l2:=rowb_len R12
  have l2':=M12.l
  have Rn:Row h6.size h12 76 15 s1 (us1.flatMap S_api_Box.cs):=(kr R1).ext X12 fun g hg=>((kr R1).bd hg).2
  have ls1:=rowb_len R1
  refine App.row Rn (by omega) rfl (by rw [fb_len,l2]) (fun x hx=>?_) (by omega) (by simp only [maxLen]; omega) fun s8 h13 R13 l13 z13 F13 _=>?_
  ·obtain ⟨y,_,hy⟩:=List.mem_flatMap.1 hx
   exact oneC (l:=S_api_Box.cs y) (by kernel_rfl) x hy
  have lo:∀ g,g < h6.size->h13[g]? = h12[g]?:=fun g hg=>F13 g (by omega) fun q=>by have:=(Rn.bd q).1; omega
  have P13:Blk h13 h.size (S_api_Mem.cs { v8 with f_Boxes:=s1 }) 33:=(P11.ext X12 P11.lt).old (lo _ (by omega))
  have kn:∀ {E w:Nat} {t:Slc} {ys:List Value},E≠76->Row h6.size h12 E w t ys->Row h6.size h13 E w t ys:=fun hE Q=>Q.keep fun g hg=>F13 g (Q.bd hg).2 (Q.ne_row Rn hE hg)
  have kx:∀ {E w:Nat} {t:Slc} {ys:List Value},Row h6.size h11 E w t ys->Row h6.size h12 E w t ys:=fun Q=>Q.ext X12 fun g hg=>(Q.bd hg).2
  obtain ⟨es1,e1,e2⟩:=r2
  obtain ⟨cs1,d1,d2⟩:=r3
  have mm:Many (BoxR h6.size h13) (us1 ++ us2) (bs1 ++ c.boxes):=⟨by simp [M1.l,l2'],fun i u b hu hb=>by
   have ml1:=M1.l
   by_cases q:i < us1.length
   ·rw [List.getElem?_append_left q] at hu
    rw [List.getElem?_append_left (by omega)] at hb
    have E:=kb (M1.r i u b hu hb)
    exact ⟨E.t,E.e,E.n,kn (by decide) (kx E.r)⟩
   ·rw [List.getElem?_append_right (by omega)] at hu hb
    rw [← ml1] at hb
    have E:=M12.r _ u b hu hb
    exact ⟨E.t,E.e,E.n,kn (by decide) (E.r.mono (by omega))⟩⟩
  have b1l:=M1.l
  refine set_j1 (C:=h6.size) (v:={ v8 with f_Boxes:=s1 }) (v':={ v8 with f_Boxes:=s8 }) (m':={ m with boxes:=bs1 ++ c.boxes }) Z (X.trans (X11.trans ((X12.mono (by omega)).trans ⟨by omega,fun g hg=>lo g (by omega)⟩))) P13 ⟨Nat.le_refl _,by omega,by omega⟩ ((U11.blk (P5.ext L1 (by omega)) (by omega) |>.ext X12 (by omega)).old (lo _ (by omega))) rfl h5 (by omega) rfl ?_ { w with boxes:=fun b hb=>(List.mem_append.1 hb).elim (W1 b) (wc.boxes b),boxesl:=by show (bs1 ++ c.boxes).length<=_; rw [List.length_append]; omega } (fun q=>absurd q c1) fun _ q=>absurd q c1
  exact { K.M with snap:=kn (by decide) (kx (kr r1)),ents:=⟨es1,kn (by decide) (kx (kr e1)),e2.imp fun v e E=>⟨E.t,kn (by decide) (kx (kr E.r))⟩⟩,chains:=⟨cs1,kn (by decide) (kx (kr d1)),d2⟩,boxes:=⟨us1 ++ us2,by rw [List.flatMap_append]; exact R13,mm⟩ }
 rw [if_neg (by simpa using c5)]
 by_cases c6:cv.f_Kind=6
 ·rw [if_pos (by simpa using c6)]
  refine ⟨v8.f_Boxes,K.P.cl rfl,delb_w (fun h1 U1 u k' Hk=>mk2_ok (P3.ext (low rfl U1) (by omega)) Hk) B1 (by omega) fun s1 us1 h1 U1 R1 m1 l1=>?_⟩
  have L1:=low rfl U1
  have z1:=L1.size
  obtain ⟨bs1,M1,W1⟩:=stay U1 m1
  have b1l:=M1.l
  obtain ⟨r1,r2,r3,_⟩:=K.M.boxless B1 (fun g _ h2 h3=>U1.block g h2 h3)
  exact set_j1 (C:=h6.size) (v:=v8) (v':={ v8 with f_Boxes:=s1 }) (m':={ m with boxes:=bs1 }) Z (X.trans (L1.mono (by omega))) (K.P.ext L1 (by omega)) ⟨Nat.le_refl _,by omega,by omega⟩ (P5.ext L1 (by omega)) rfl h5 (by omega) rfl { K.M with snap:=r1,ents:=r2,chains:=r3,boxes:=⟨us1,R1,M1⟩ } { w with boxes:=W1,boxesl:=by show bs1.length<=_; omega } (fun q=>absurd q c1) fun _ q=>absurd q c1
 rw [if_neg (by simpa using c6)]
 by_cases c3:cv.f_Kind=3
 rotate_left
 ·rw [if_neg (by simpa using c3)]
  exact j1_ok (v:=v8) (m:=m) Z X (fun q=>by cases q) P5 rfl h5 (fun _ q=>absurd q c1) fun _ q=>absurd q c1
 rw [if_pos (by simpa using c3)]
 obtain ⟨vs,V1,V2⟩:=CA.ents
 refine ⟨cv.f_Keep,P3.cls rfl,keep_ok (vs:=vs) (more:=c.ents) (sn:=c.snap) K w ml.1 (fun h' Y=>?_) cl.1 wc.ents CA.snapl wc.snapl wc.snap (by rw [CA.kt]; exact wc.kt) (by rw [CA.ki]; exact wc.ki) (by rw [CA.kv]; exact wc.kv) fun r h' Y HR=>?_⟩
 ·have XY:=X.trans Y
  exact ⟨V1.ext XY,V2.imp fun v e E=>E.ext XY,CA.snap.ext XY⟩
 ·have z':=Y.size
  have XY:=X.trans (Y.ext (Nat.le_refl _) (by omega))
  by_cases q:r=0
  ·obtain ⟨v',m',P',M',cz',w'⟩:=HR q
   exact j1_ok (v:=v') (m:=m') Z XY (fun _=>⟨⟨P',M',Nat.le_refl _,by omega,cz'⟩,w'⟩) (P5.old (Y.block _ h5.2.1 h5.2.2)) rfl h5 (fun _ q=>absurd q c1) fun _ q=>absurd q c1
  ·exact j1_ok (v:=v8) (m:=m) Z XY (fun e=>absurd e q) (P5.old (Y.block _ h5.2.1 h5.2.2)) rfl h5 (fun _ q=>absurd q c1) fun _ q=>absurd q c1
end
end Go.Q.Yk
end
section
namespace Go.Q.Yk
/-! ### keys and what they have -/
theorem mget_put {K V:Type} [DecidableEq K] (k j:K) (v:V):∀ l:List (K × V),mget (mput l k v) j=if j=k then some v else mget l j
 | []=>by
  show mget [(k,v)] j=_
  unfold mget
  by_cases h:j=k
  ·rw [if_pos h.symm,if_pos h]
  ·rw [if_neg (fun e=>h e.symm),if_neg h]; rfl
 | p :: r=>by
  have ih:=mget_put k j v r
  unfold mput
  by_cases hp:p.1=k
  ·rw [if_pos hp]
   unfold mget
   by_cases h:j=k
   ·rw [if_pos h.symm,if_pos h]
   ·rw [if_neg (fun e=>h e.symm),if_neg h,if_neg (fun e=>h (e.symm.trans hp))]
  ·rw [if_neg hp]
   unfold mget
   by_cases h:p.1=j
   ·rw [if_pos h,if_pos h,if_neg (fun e=>hp (h.trans e))]
   ·rw [if_neg h,if_neg h,ih]
theorem mput_le {K V:Type} [DecidableEq K] (k:K) (v:V):∀ l:List (K × V),(mput l k v).length<=l.length + 1
 | []=>Nat.le_refl _
 | p :: r=>by
  have ih:=mput_le k v r
  unfold mput
  split
  ·simp
  ·simp only [List.length_cons]; omega
theorem mput_in {K V:Type} [DecidableEq K] {k:K} {v:V} {q:K × V}:∀ {l:List (K × V)},q∈mput l k v->q=(k,v)∨q∈l
 | [],h=>.inl (by simpa [mput] using h)
 | p :: r,h=>by
  unfold mput at h
  split at h
  ·rcases List.mem_cons.1 h with h | h
   ·exact .inl h
   ·exact .inr (List.mem_cons_of_mem _ h)
  ·rcases List.mem_cons.1 h with h | h
   ·exact .inr (by rw [h]; simp)
   ·rcases mput_in h with h | h
    ·exact .inl h
    ·exact .inr (List.mem_cons_of_mem _ h)
/-! ### a disk -/
abbrev Sec:=S_disk_sector
abbrev zSec:Sec:=⟨[],false⟩
abbrev secB (x:Sec):List Int:=nrm 128 x.f_b
structure DK where
 now:List (Int × Sec)
 safe:List (Int × Sec)
 fuse:Int
 dead:Bool
 ops:Int
abbrev dcs (rn rs:Nat) (X:DK):List Value:=S_disk_Disk.cs ⟨some rn,some rs,X.fuse,X.dead,X.ops⟩
structure DAt (B c:Nat) (h:Heap) (d rn rs:Nat) (X:DK):Prop where
 P:Blk h d (dcs rn rs X) 100
 N:MapI h (some rn) X.now
 S:MapI h (some rs) X.safe
 ne:rn≠rs
 bd:B<=d/\B<=rn/\B<=rs
 ks:∀ p∈X.safe,0<=p.1/\p.1 < 1024
 c:X.safe.length<=c
/-- whatever but the disk is as it was -/
structure DF (d rn rs:Nat) (h h':Heap):Prop where
 size:h.size<=h'.size
 block:∀ g,g < h.size->g≠d->g≠rn->g≠rs->h'[g]? = h[g]?
section
variable {B c:Nat} {h h' h'':Heap} {d rn rs:Nat} {X:DK}
theorem DF.of_ext (E:Ext h.size h h'):DF d rn rs h h':=⟨E.size,fun g hg _ _ _=>E.block g hg⟩
theorem DF.trans (p:DF d rn rs h h') (q:DF d rn rs h' h''):DF d rn rs h h'' :=
 ⟨Nat.le_trans p.size q.size,fun g hg a b c=>(q.block g (Nat.lt_of_lt_of_le hg p.size) a b c).trans (p.block g hg a b c)⟩
theorem blk_map {r:Nat} {cs:List Value} {E:Nat} {dd:TypeDesc} {l:List (Value × Value)} (P:Blk h d cs E) (M:MapH dd h r l):d≠r:=fun e=>by
 subst e
 obtain ⟨_,_,p,_⟩:=P
 obtain ⟨_,_,m,_⟩:=M
 rw [p] at m; cases m
theorem DAt.dn (D:DAt B c h d rn rs X):d≠rn:=blk_map D.P D.N
theorem DAt.ds (D:DAt B c h d rn rs X):d≠rs:=blk_map D.P D.S
theorem DAt.keep (D:DAt B c h d rn rs X) (hd:h'[d]? = h[d]?) (hn:h'[rn]? = h[rn]?) (hs:h'[rs]? = h[rs]?):DAt B c h' d rn rs X:=⟨D.P.old hd,D.N.old hn,D.S.old hs,D.ne,D.bd,D.ks,D.c⟩
theorem DAt.ext (D:DAt B c h d rn rs X) (E:Ext h.size h h'):DAt B c h' d rn rs X:=D.keep (E.block d D.P.lt) (E.block rn D.N.lt) (E.block rs D.S.lt)
theorem DAt.more (D:DAt B c h d rn rs X) {c':Nat} (hc:c<=c'):DAt B c' h d rn rs X:=⟨D.P,D.N,D.S,D.ne,D.bd,D.ks,Nat.le_trans D.c hc⟩
theorem DAt.fz (D:DAt B c h d rn rs X) {i:Nat} (hi:i < 5):WrH h ⟨d,i,none⟩:=D.P.wr hi
theorem DF.set {i:Nat} {v:Value}:DF d rn rs h (setH h ⟨d,i,none⟩ v):=⟨by rw [setH_size]; exact Nat.le_refl _,fun g _ hd _ _=>setH_other hd⟩
theorem DAt.set (D:DAt B c h d rn rs X) {i:Nat} {v:Value} {Y:DK} (hN:Y.now=X.now) (hS:Y.safe=X.safe) (hcs:(dcs rn rs X).set i v=dcs rn rs Y):DAt B c (setH h ⟨d,i,none⟩ v) d rn rs Y :=
 ⟨by have:=D.P.set (i:=i) (v:=v); rw [hcs] at this; exact this,by rw [hN]; exact D.N.old (setH_other fun e=>D.dn e.symm),by rw [hS]; exact D.S.old (setH_other fun e=>D.ds e.symm),D.ne,D.bd,by rw [hS]; exact D.ks,by rw [hS]; exact D.c⟩
theorem DAt.putN (D:DAt B c h d rn rs X) (a:Int) (v:Sec):DAt B c (setM h rn (.int .i64 a) (.agg (S_disk_sector.cs v).toArray)) d rn rs { X with now:=mput X.now a v } :=
 ⟨D.P.old (setM_other D.dn),D.N.put (kInt .i64) a v,D.S.old (setM_other fun e=>D.ne e.symm),D.ne,D.bd,D.ks,D.c⟩
theorem DF.putN {k v:Value}:DF d rn rs h (setM h rn k v):=⟨by rw [setM_size]; exact Nat.le_refl _,fun g _ _ hn _=>setM_other hn⟩
theorem DAt.putS (D:DAt B c h d rn rs X) (a:Int) (v:Sec) (ha:0<=a/\a < 1024):DAt B (c + 1) (setM h rs (.int .i64 a) (.agg (S_disk_sector.cs v).toArray)) d rn rs { X with safe:=mput X.safe a v } :=
 ⟨D.P.old (setM_other D.ds),D.N.old (setM_other D.ne),D.S.put (kInt .i64) a v,D.ne,D.bd,fun p hp=>by
  rcases mput_in hp with rfl | hp
  ·exact ha
  ·exact D.ks p hp,Nat.le_trans (mput_le _ _ _) (Nat.succ_le_succ D.c)⟩
theorem DF.putS {k v:Value}:DF d rn rs h (setM h rs k v):=⟨by rw [setM_size]; exact Nat.le_refl _,fun g _ _ _ hs=>setM_other hs⟩
theorem DAt.clr (D:DAt B c h d rn rs X):DAt B c (clrM h rs) d rn rs { X with safe:=[] } :=
 ⟨D.P.old (clrM_other D.ds),D.N.old (clrM_other D.ne),D.S.clr,D.ne,D.bd,fun p hp=>by simp at hp,Nat.zero_le _⟩
theorem DF.clr:DF d rn rs h (clrM h rs):=⟨by rw [clrM_size]; exact Nat.le_refl _,fun g _ _ _ hs=>clrM_other hs⟩
theorem DAt.cell (D:DAt B c h d rn rs X) (i:Nat):cellH h ((⟨d,0,none⟩:Addr).add i)=(dcs rn rs X)[i]?:=by rw [add_mk,Nat.zero_add,D.P.cell]
theorem DAt.cell0 (D:DAt B c h d rn rs X):cellH h (⟨d,0,none⟩:Addr)=some (.map (some rn)):=by rw [D.P.cell]; rfl
end
theorem add0 (d i:Nat):(⟨d,0,none⟩:Addr).add i=⟨d,i,none⟩:=by rw [add_mk,Nat.zero_add]
/-! ### what is done to it, plainly -/
def burnD (X:DK):Bool × DK :=
 if X.fuse=0 then (false,{ X with ops:=IntKind.i64.wrap (X.ops + 1) })
 else (IntKind.i64.wrap (X.fuse - 1) == 0,{ X with ops:=IntKind.i64.wrap (X.ops + 1),fuse:=IntKind.i64.wrap (X.fuse - 1),dead:=(IntKind.i64.wrap (X.fuse - 1) == 0) })
def padB (bs:List Int):List Int:=bs ++ List.replicate (128 - bs.length) 0
def laidD (X:DK) (a:Int) (bs:List Int):DK :=
 { X with now:=mput X.now a ⟨padB bs,false⟩,safe:=if (mget X.safe a).isSome=true then X.safe else mput X.safe a ((mget X.now a).getD zSec) }
def endD (b:Bool):Int:=if b=true then 10 else 0
def writeD (X:DK) (a:Int) (bs:List Int):Int × DK :=
 if X.dead=true then (10,X) else if a < 0∨a>=1024 then (1,X) else if bs.length > 128 then (3,X) else (endD (burnD (laidD X a bs)).1,(burnD (laidD X a bs)).2)
def syncD (X:DK):Int × DK :=
 if X.dead=true then (10,X) else if (burnD X).1=true then (10,(burnD X).2) else (0,{ (burnD X).2 with safe:=[] })
def readD (X:DK) (a:Int):List Int × Int:=if a < 0∨a>=1024 then ([],1) else if ((mget X.now a).getD zSec).f_torn=true then ([],9) else (secB ((mget X.now a).getD zSec),0)
section
variable {B c:Nat} {h:Heap} {d rn rs:Nat} {X:DK}
theorem DNew_ok {k:Option Addr->Heap->Prop} (hB:B<=h.size) (H:∀ d rn rs h',DAt B 0 h' d rn rs ⟨[],[],0,false,0⟩->Ext h.size h h'->k (some ⟨d,0,none⟩) h'):disk_New k h:=by
 unfold disk_New
 refine ⟨_,_,rfl,rfl,_,_,rfl,rfl,_,_,rfl,rfl,?_⟩
 have M1:MapI (h.push (.map #[] 0)) (some h.size) []:=MapAt.mk0
 have M2:MapI ((h.push (.map #[] 0)).push (.map #[] 0)) (some (h.push (.map #[] 0)).size) []:=MapAt.mk0
 have X1:=Ext.push h (.map #[] 0) (Nat.le_refl _)
 have X2:=Ext.push (h.push (.map #[] 0)) (.map #[] 0) (Nat.le_refl _)
 have z1:(h.push (.map #[] 0)).size=h.size + 1:=by simp
 generalize h.push (.map #[] 0)=h1 at *
 have z2:(h1.push (.map #[] 0)).size=h1.size + 1:=by simp
 generalize h1.push (.map #[] 0)=h2 at *
 have X3:=Ext.push h2 (.cells (S_disk_Disk.cs ⟨some h.size,some h1.size,0,false,0⟩).toArray 100) (Nat.le_refl _)
 refine H h2.size h.size h1.size _ ⟨Blk.push _ _ _,(M1.ext X2 M1.lt).ext X3 (by omega),M2.ext X3 M2.lt,by omega,⟨by omega,hB,by omega⟩,fun p hp=>by simp at hp,Nat.le_refl _⟩ (X1.trans ((X2.trans (X3.mono (by omega))).mono (by omega)))
theorem DPower_ok {k:Bool->Heap->Prop} (D:DAt B c h d rn rs X) (H:k (!X.dead) h):disk_Disk_power (some ⟨d,0,none⟩) k h:=by
 unfold disk_Disk_power
 rw [if_pos (by rfl)]
 refine ⟨_,rfl,X.dead,by rw [D.cell]; rfl,?_⟩
 unfold disk_Disk_power_g1
 exact H
theorem DBurn_ok {k:Bool->Heap->Prop} (D:DAt B c h d rn rs X) (H:∀ h',DAt B c h' d rn rs (burnD X).2->DF d rn rs h h'->k (burnD X).1 h'):disk_Disk_burn (some ⟨d,0,none⟩) k h:=by
 unfold disk_Disk_burn
 refine ⟨_,rfl,X.ops,by rw [D.cell]; rfl,_,by rw [add0]; exact D.fz (by omega),rfl,?_⟩
 rw [add0,add0,add0]
 have D1:DAt B c (setH h ⟨d,4,none⟩ (.int .i64 (IntKind.i64.wrap (X.ops + 1)))) d rn rs { X with ops:=IntKind.i64.wrap (X.ops + 1) }:=D.set rfl rfl rfl
 have F1:DF d rn rs h (setH h ⟨d,4,none⟩ (.int .i64 (IntKind.i64.wrap (X.ops + 1)))):=DF.set
 generalize setH h ⟨d,4,none⟩ (.int .i64 (IntKind.i64.wrap (X.ops + 1)))=h1 at *
 unfold burnD at H
 refine ⟨X.fuse,by rw [D1.P.cell]; rfl,?_⟩
 by_cases hf:X.fuse=0
 ·rw [if_pos (by simp [hf])]
  rw [if_pos hf] at H
  exact H h1 D1 F1
 ·rw [if_neg (by simpa using hf)]
  rw [if_neg hf] at H
  refine ⟨X.fuse,by rw [D1.P.cell]; rfl,_,D1.fz (by omega),rfl,?_⟩
  have D2:DAt B c (setH h1 ⟨d,2,none⟩ (.int .i64 (IntKind.i64.wrap (X.fuse - 1)))) d rn rs { X with ops:=IntKind.i64.wrap (X.ops + 1),fuse:=IntKind.i64.wrap (X.fuse - 1) }:=D1.set rfl rfl rfl
  have F2:DF d rn rs h1 (setH h1 ⟨d,2,none⟩ (.int .i64 (IntKind.i64.wrap (X.fuse - 1)))):=DF.set
  generalize setH h1 ⟨d,2,none⟩ (.int .i64 (IntKind.i64.wrap (X.fuse - 1)))=h2 at *
  refine ⟨IntKind.i64.wrap (X.fuse - 1),by rw [D2.P.cell]; rfl,_,D2.fz (by omega),rfl,?_⟩
  have D3:DAt B c (setH h2 ⟨d,3,none⟩ (.bool (IntKind.i64.wrap (X.fuse - 1) == 0))) d rn rs { X with ops:=IntKind.i64.wrap (X.ops + 1),fuse:=IntKind.i64.wrap (X.fuse - 1),dead:=(IntKind.i64.wrap (X.fuse - 1) == 0) }:=D2.set rfl rfl rfl
  have F3:DF d rn rs h2 (setH h2 ⟨d,3,none⟩ (.bool (IntKind.i64.wrap (X.fuse - 1) == 0))):=DF.set
  refine ⟨(IntKind.i64.wrap (X.fuse - 1) == 0),by rw [D3.P.cell]; rfl,?_⟩
  exact H _ D3 (F1.trans (F2.trans F3))
theorem DEnded_ok {b:Bool} {k:Int->Heap->Prop} (H:k (endD b) h):disk_ended b k h:=by
 unfold disk_ended
 unfold endD at H
 cases b <;> exact H
theorem sec_cs (x:Sec):S_disk_sector.cs x=b8 (secB x) ++ [.bool x.f_torn]:=by
 show arr 128 .u8 x.f_b ++ _=_
 rw [arr_nrm]
theorem sec_len (x:Sec):(S_disk_sector.cs x).length=129:=by
 rw [sec_cs,List.length_append,List.length_map,nrm_len]; rfl
theorem pad_len {bs:List Int} (h:bs.length<=128):(padB bs).length=128:=by
 unfold padB; rw [List.length_append,List.length_replicate]; omega
theorem nrm_nil:nrm 128 []=List.replicate 128 (0:Int):=by decide
theorem sec_laid {bs:List Int} (hl:bs.length<=128):b8 bs ++ (S_disk_sector.cs zSec).drop bs.length=S_disk_sector.cs ⟨padB bs,false⟩:=by
 rw [sec_cs,sec_cs]
 have e1:secB ⟨padB bs,false⟩=padB bs:=nrm_id (pad_len hl)
 have e2:secB zSec=List.replicate 128 0:=nrm_nil
 rw [e1,e2]
 unfold padB
 rw [List.drop_append_of_le_length (by simp; omega)]
 simp only [List.map_append,List.map_replicate,List.drop_replicate,List.append_assoc]
theorem DWrite_j1_ok {a:Int} {s:Slc} {bs:List Int} {k:Int->Heap->Prop} (D:DAt B c h d rn rs X) (hs:SlcAt h s (b8 bs)) (sl:s.len=bs.length) (hl:bs.length<=128)
  (H:∀ h',DAt B c h' d rn rs (burnD { X with now:=mput X.now a ⟨padB bs,false⟩ }).2->DF d rn rs h h'->k (endD (burnD { X with now:=mput X.now a ⟨padB bs,false⟩ }).1) h'):disk_Disk_Write_j1 (some ⟨d,0,none⟩) a s k h:=by
 unfold disk_Disk_Write_j1
 refine ⟨_,_,rfl,rfl,?_⟩
 have P:=Blk.push h (S_disk_sector.cs zSec) 115
 have W:=Ext.push h (.cells (S_disk_sector.cs zSec).toArray 115) (Nat.le_refl _)
 generalize h.push (.cells (S_disk_sector.cs zSec).toArray 115)=h2 at *
 have z2:=W.size
 have hs2:=hs.ext W
 refine ⟨_,by omega,by omega,by omega,rfl,b8 bs,?_⟩
 have e:subS ⟨some (⟨h.size,0,none⟩:Addr),128,128⟩ 1 (0:Int).toNat (128:Int).toNat 128=⟨some ⟨h.size,0,none⟩,128,128⟩:=by
  unfold subS; simp [Addr.add]
 rw [e]
 refine ⟨⟨b8 bs,hs2,by rw [List.length_map]; omega,by rw [List.take_of_length_le (by rw [List.length_map]; simp only; omega)]⟩,b8_one bs,fun hn=>(by cases hn),fun a ha=>by cases ha; exact WrsAt.of_blk P (by rw [sec_len,List.length_map]; omega),?_⟩
 dsimp only
 have P3:Blk (setsH h2 ⟨h.size,0,none⟩ 0 (b8 bs)) h.size (S_disk_sector.cs ⟨padB bs,false⟩) 115:=by
  have:=P.sets (b8 bs) 0 0 (by rw [sec_len,List.length_map]; omega)
  rw [← sec_laid hl]
  simpa using this
 have W3:Ext h.size h2 (setsH h2 ⟨h.size,0,none⟩ 0 (b8 bs)):=Ext.sets _ _ _ (Nat.le_refl _)
 generalize setsH h2 ⟨h.size,0,none⟩ 0 (b8 bs)=h3 at *
 have X3:Ext h.size h h3:=W.trans W3
 have D3:=D.ext X3
 refine ⟨_,rfl,some rn,D3.cell0,⟨padB bs,false⟩,CellsAt.of_blk P3,rn,X.now,_,rfl,D3.N,rfl,?_⟩
 have D4:=D3.putN a ⟨padB bs,false⟩
 refine DBurn_ok D4 fun h5 D5 F5=>DEnded_ok (H h5 D5 ((DF.of_ext X3).trans (DF.putN.trans F5)))
theorem DWrite_ok {a:Int} {s:Slc} {bs:List Int} {k:Int->Heap->Prop} (D:DAt B c h d rn rs X) (hs:SlcAt h s (b8 bs)) (sl:s.len=bs.length)
  (H:∀ h',DAt B (c + 1) h' d rn rs (writeD X a bs).2->DF d rn rs h h'->k (writeD X a bs).1 h'):disk_Disk_Write (some ⟨d,0,none⟩) a s k h:=by
 have R:DF d rn rs h h:=DF.of_ext (Ext.refl _ _)
 have D':=D.more (Nat.le_succ c)
 unfold disk_Disk_Write
 refine DPower_ok D ?_
 unfold writeD at H
 cases hd:X.dead with
 | true =>
  rw [hd,if_pos rfl] at H
  rw [if_pos (by simp)]
  exact H h D' R
 | false =>
 rw [hd,if_neg (by simp)] at H
 rw [if_neg (by simp)]
 by_cases ha:a < 0∨a>=1024
 ·rw [if_pos ha] at H
  rw [if_pos (by simpa using ha)]
  exact H h D' R
 rw [if_neg ha] at H
 rw [if_neg (by simpa using ha)]
 by_cases hl:bs.length > 128
 ·rw [if_pos hl] at H
  rw [if_pos (by rw [decide_eq_true_eq]; omega)]
  exact H h D' R
 rw [if_neg hl] at H
 rw [if_neg (by rw [decide_eq_true_eq]; omega)]
 refine ⟨_,rfl,some rs,by rw [D.cell]; rfl,X.safe,D.S,_,_,rfl,rfl,?_⟩
 have P:=Blk.push h (S_disk_sector.cs zSec) 115
 have W:=Ext.push h (.cells (S_disk_sector.cs zSec).toArray 115) (Nat.le_refl _)
 have W2:=W.trans (Ext.sets (h.push (.cells (S_disk_sector.cs zSec).toArray 115)) (a:=⟨h.size,0,none⟩) 0 (S_disk_sector.cs ((mget X.safe a).getD zSec)) (Nat.le_refl _))
 refine ⟨_,WrsAt.of_blk P (by rw [sec_len]; omega),rfl,?_⟩
 generalize setsH (h.push (.cells (S_disk_sector.cs zSec).toArray 115)) ⟨h.size,0,none⟩ 0 (S_disk_sector.cs ((mget X.safe a).getD zSec))=h3 at *
 have D3:=D.ext W2
 have hs3:=hs.ext W2
 unfold laidD at H
 cases hm:(mget X.safe a).isSome with
 | true =>
  rw [if_neg (by simp)]
  simp only [hm,if_true] at H
  exact DWrite_j1_ok D3 hs3 sl (by omega) fun h5 D5 F5=>H h5 (D5.more (Nat.le_succ c)) ((DF.of_ext W2).trans F5)
 | false =>
  rw [if_pos (by simp)]
  simp only [hm,Bool.false_eq_true,if_false] at H
  refine ⟨some rs,by rw [D3.cell]; rfl,some rn,D3.cell0,X.now,D3.N,rs,X.safe,_,rfl,D3.S,rfl,?_⟩
  have D4:=D3.putS a ((mget X.now a).getD zSec) (by omega)
  have hs4:SlcAt (setM h3 rs (.int .i64 a) (.agg (S_disk_sector.cs ((mget X.now a).getD zSec)).toArray)) s (b8 bs):=⟨hs3.1,fun b hb j w hj=>by
   have:=hs3.2 b hb j w hj
   rw [← this]
   refine cellH_of (setM_other fun e=>?_)
   unfold cellH at this
   obtain ⟨_,_,m,_⟩:=D3.S
   rw [e,m] at this; cases this⟩
  exact DWrite_j1_ok D4 hs4 sl (by omega) fun h5 D5 F5=>H h5 D5 ((DF.of_ext W2).trans (DF.putS.trans F5))
theorem DSync_ok {k:Int->Heap->Prop} (D:DAt B c h d rn rs X) (H:∀ h',DAt B c h' d rn rs (syncD X).2->DF d rn rs h h'->k (syncD X).1 h'):disk_Disk_Sync (some ⟨d,0,none⟩) k h:=by
 unfold disk_Disk_Sync
 refine DPower_ok D ?_
 unfold syncD at H
 cases hd:X.dead with
 | true =>
  rw [hd,if_pos rfl] at H
  rw [if_pos (by simp)]
  exact H h D (DF.of_ext (Ext.refl _ _))
 | false =>
  rw [hd,if_neg (by simp)] at H
  rw [if_neg (by simp)]
  refine DBurn_ok D fun h2 D2 F2=>?_
  cases hb:(burnD X).1 with
  | true =>
   rw [hb,if_pos rfl] at H
   rw [if_neg (by simp)]
   unfold disk_Disk_Sync_j1
   exact DEnded_ok (H h2 D2 F2)
  | false =>
   rw [hb,if_neg (by simp)] at H
   rw [if_pos (by simp)]
   refine ⟨_,rfl,some rs,by rw [D2.cell]; rfl,rs,_,_,rfl,D2.S,rfl,?_⟩
   unfold disk_Disk_Sync_j1
   exact DEnded_ok (H _ D2.clr (F2.trans DF.clr))
theorem DRead_ok {a:Int} {k:Slc × Int->Heap->Prop} (D:DAt B c h d rn rs X) (H:∀ s h',SlcAt h' s (b8 (readD X a).1)->s.len=(readD X a).1.length->s.len=s.cap->(∀ b,s.a=some b->h.size<=b.block)->Ext h.size h h'->k (s,(readD X a).2) h'):disk_Disk_Read (some ⟨d,0,none⟩) a k h:=by
 have nil:∀ h':Heap,SlcAt h' ⟨none,0,0⟩ (b8 []):=fun h'=>⟨fun _=>rfl,fun a ha=>by cases ha⟩
 unfold disk_Disk_Read
 unfold readD at H
 by_cases ha:a < 0∨a>=1024
 ·rw [if_pos ha] at H
  rw [if_pos (by simpa using ha)]
  exact H _ h (nil h) rfl rfl (fun b hb=>by cases hb) (Ext.refl _ _)
 rw [if_neg ha] at H
 rw [if_neg (by simpa using ha)]
 refine ⟨_,rfl,some rn,D.cell0,X.now,D.N,_,_,rfl,rfl,?_⟩
 have P:=Blk.push h (S_disk_sector.cs zSec) 115
 have W:=Ext.push h (.cells (S_disk_sector.cs zSec).toArray 115) (Nat.le_refl _)
 have P2:=P.sets_all (vs:=S_disk_sector.cs ((mget X.now a).getD zSec)) (by rw [sec_len,sec_len])
 have W2:=W.trans (Ext.sets (h.push (.cells (S_disk_sector.cs zSec).toArray 115)) (a:=⟨h.size,0,none⟩) 0 (S_disk_sector.cs ((mget X.now a).getD zSec)) (Nat.le_refl _))
 refine ⟨_,WrsAt.of_blk P (by rw [sec_len]; omega),rfl,?_⟩
 generalize setsH (h.push (.cells (S_disk_sector.cs zSec).toArray 115)) ⟨h.size,0,none⟩ 0 (S_disk_sector.cs ((mget X.now a).getD zSec))=h3 at *
 generalize (mget X.now a).getD zSec=x at *
 refine ⟨x.f_torn,by
  rw [add0,P2.cell,sec_cs,List.getElem?_append_right (by rw [List.length_map,nrm_len]; exact Nat.le_refl _),List.length_map,nrm_len]; rfl,?_⟩
 cases ht:x.f_torn with
 | true =>
  rw [ht,if_pos rfl] at H
  rw [if_pos rfl]
  exact H _ h3 (nil h3) rfl rfl (fun b hb=>by cases hb) W2
 | false =>
  rw [ht,if_neg (by simp)] at H
  rw [if_neg (by simp)]
  refine ⟨_,by omega,by omega,by omega,rfl,?_⟩
  have e:subS ⟨some (⟨h.size,0,none⟩:Addr),128,128⟩ 1 (0:Int).toNat (128:Int).toNat 128=⟨some ⟨h.size,0,none⟩,128,128⟩:=by
   unfold subS; simp [Addr.add]
  rw [e]
  refine H _ h3 (P2.slc (n:=128) (o:=0) ?_) (by show 128=_; rw [nrm_len]) rfl (fun b hb=>by cases hb; exact Nat.le_refl _) W2
  rw [List.drop_zero,sec_cs,List.take_append_of_le_length (by rw [List.length_map,nrm_len]; exact Nat.le_refl _),List.take_of_length_le (by rw [List.length_map,nrm_len]; exact Nat.le_refl _)]
end
end Go.Q.Yk
end
section
namespace Go.Q.Yk
/-! ### the power comes back -/
def fateD (fs:List Int) (j:Nat):Int:=if fs.length > 0 then Int.tmod (fs.getD (j % fs.length) 0) 3 else 0
def bootOne (fs:List Int) (safe:List (Int × Sec)) (j:Nat) (a:Int) (now:List (Int × Sec)):List (Int × Sec) :=
 if fateD fs j=0 then mput now a ((mget safe a).getD zSec) else if fateD fs j=2 then mput now a ⟨[],true⟩ else now
def bootGo (fs:List Int) (safe:List (Int × Sec)) (ks:List Int):Nat->List (Int × Sec)->List (Int × Sec)
 | 0,m=>m
 | n + 1,m=>bootOne fs safe n (ks.getD n 0) (bootGo fs safe ks n m)
def keysD (X:DK):List Int:=srtI (X.safe.map (·.1))
def bootD (X:DK) (fs:List Int):DK:={ now:=bootGo fs X.safe (keysD X) X.safe.length X.now,safe:=[],fuse:=0,dead:=false,ops:=X.ops }
section
variable {B c:Nat} {h h':Heap} {d rn rs:Nat} {X:DK}
theorem wf_key {a:Int} (h:0<=a/\a < 1024):(Lit.int .i64 a).wf=true:=by
 simp [Lit.wf,IntKind.min,IntKind.max,IntKind.signed,IntKind.bits]; omega
theorem keysD_len:(keysD X).length=X.safe.length:=by unfold keysD srtI; rw [List.length_mergeSort,List.length_map]
theorem tmod_nat (j n:Nat):Int.tmod (j:Int) (n:Int)=((j % n:Nat):Int):=by rw [Int.tmod_eq_emod_of_nonneg (by omega)]; rfl
theorem DBoot_ok {s:Slc} {fs:List Int} {k:Unit->Heap->Prop} (D:DAt B c h d rn rs X) (hs:SlcAt h s (b8 fs)) (sl:s.len=fs.length) (hd:∀ h',DF d rn rs h h'->SlcAt h' s (b8 fs)) (hc:c<=1000000)
  (H:∀ h',DAt B c h' d rn rs (bootD X fs)->DF d rn rs h h'->k () h'):disk_Disk_Boot (some ⟨d,0,none⟩) s k h:=by
 unfold disk_Disk_Boot
 rw [if_neg (by simp)]
 refine ⟨_,rfl,some rs,by rw [D.cell]; rfl,?_⟩
 unfold maps_Keys_map_int_disk_sector_int_disk_sector
 have W:=Ext.push h (.cells #[.map (some rs)] 98) (Nat.le_refl _)
 have Q:=Blk.push h [.map (some rs)] 98
 have Q':Blk (h.push (.cells #[.map (some rs)] 98)) h.size [.map (some rs)] 98:=Q
 generalize h.push (.cells #[.map (some rs)] 98)=h2 at *
 have z2:=W.size
 have D2:=D.ext W
 refine ⟨h.size,rs,X.safe,rfl,by rw [Q'.cell]; rfl,D2.S,fun p hp=>wf_key (D.ks p hp),by have:=D.c; omega,fun sk h6 R6 skl X6=>?_⟩
 have z6:=X6.size
 have X06:Ext h.size h h6:=W.trans (X6.mono z2)
 have D6:=D.ext X06
 have hs6:=hs.ext X06
 have kl:(keysD X).length=X.safe.length:=keysD_len
 have D6':DAt B c h6 d rn rs { X with now:=bootGo fs X.safe (keysD X) 0 X.now }:=D6
 refine ⟨fun i h'=>0<=i/\i<=X.safe.length/\DAt B c h' d rn rs { X with now:=bootGo fs X.safe (keysD X) i.toNat X.now }/\DF d rn rs h6 h',fun i _=>(X.safe.length - i).toNat,⟨by omega,by omega,D6',DF.of_ext (Ext.refl _ _)⟩,?_⟩
 rintro i h7 ⟨i0,i1,D7,F7⟩
 have z7:=F7.size
 have R7:Row h2.size h7 3 1 sk ((keysD X).map (Value.int .i64)):=Row.keep R6 fun g hg=>F7.block g (R6.bd hg).2 (by have:=(R6.bd hg).1; have:=D2.P.lt; omega) (by have:=(R6.bd hg).1; have:=D2.N.lt; omega) (by have:=(R6.bd hg).1; have:=D2.S.lt; omega)
 have hs7:=hd h7 ((DF.of_ext X06).trans F7)
 unfold disk_Disk_Boot_l1b
 by_cases hi:i < X.safe.length
 ·rw [if_pos (by rw [decide_eq_true_eq]; omega)]
  have hx:(keysD X)[i.toNat]? = some ((keysD X).getD i.toNat 0):=by
   rw [List.getD_eq_getElem?_getD]
   have:i.toNat < (keysD X).length:=by omega
   rw [List.getElem?_eq_getElem this]; rfl
  generalize hk:(keysD X).getD i.toNat 0=a at *
  obtain ⟨ad,ha,hcell⟩:=R7.at (j:=i.toNat) (by omega)
  rw [List.getElem?_map,hx] at hcell
  refine ⟨ad,ha,i0,by omega,a,by rw [Nat.mul_one]; exact hcell,?_⟩
  have j2:∀ {h'},DAt B c h' d rn rs { X with now:=bootGo fs X.safe (keysD X) (i.toNat + 1) X.now }->DF d rn rs h7 h'->disk_Disk_Boot_j2 (some ⟨d,0,none⟩) s sk (sk.len:Int) i k (fun q h'=>(0<=q/\q<=(X.safe.length:Int)/\DAt B c h' d rn rs { X with now:=bootGo fs X.safe (keysD X) q.toNat X.now }/\DF d rn rs h6 h')/\((X.safe.length:Int) - q).toNat < ((X.safe.length:Int) - i).toNat) h':=fun D' F'=>by
   have:=D.c
   unfold disk_Disk_Boot_j2
   rw [wrapI64 (by omega) (by omega)]
   exact ⟨⟨by omega,by omega,by rw [show (i + 1).toNat=i.toNat + 1 from by omega]; exact D',F7.trans F'⟩,by omega⟩
  have j3:∀ f:Int,f=fateD fs i.toNat->disk_Disk_Boot_j3 (some ⟨d,0,none⟩) s a sk (sk.len:Int) i f k (fun q h'=>(0<=q/\q<=(X.safe.length:Int)/\DAt B c h' d rn rs { X with now:=bootGo fs X.safe (keysD X) q.toNat X.now }/\DF d rn rs h6 h')/\((X.safe.length:Int) - q).toNat < ((X.safe.length:Int) - i).toNat) h7:=fun f hf=>by
   have go:bootGo fs X.safe (keysD X) (i.toNat + 1) X.now=bootOne fs X.safe i.toNat a (bootGo fs X.safe (keysD X) i.toNat X.now):=by
    show bootOne fs X.safe i.toNat ((keysD X).getD i.toNat 0) _=_
    rw [hk]
   unfold bootOne at go
   unfold disk_Disk_Boot_j3
   by_cases f0:f=0
   ·rw [if_pos (by simp [f0])]
    rw [if_pos (hf ▸ f0)] at go
    refine ⟨_,rfl,some rn,D7.cell0,some rs,by rw [D7.cell]; rfl,X.safe,D7.S,rn,_,_,rfl,D7.N,rfl,?_⟩
    have D8:=D7.putN a ((mget X.safe a).getD zSec)
    refine j2 ?_ DF.putN
    rw [go]; exact D8
   ·rw [if_neg (by simpa using f0)]
    rw [if_neg (fun e=>f0 (hf.trans e))] at go
    by_cases f2:f=2
    ·rw [if_pos (by simp [f2])]
     rw [if_pos (hf ▸ f2)] at go
     refine ⟨_,rfl,some rn,D7.cell0,rn,_,_,rfl,D7.N,rfl,?_⟩
     have D8:=D7.putN a ⟨[],true⟩
     refine j2 ?_ DF.putN
     rw [go]; exact D8
    ·rw [if_neg (by simpa using f2)]
     rw [if_neg (fun e=>f2 (hf.trans e))] at go
     refine j2 ?_ (DF.of_ext (Ext.refl _ _))
     rw [go]; exact D7
  by_cases hf:fs.length > 0
  ·rw [if_pos (by rw [decide_eq_true_eq]; omega)]
   have ei:Int.tmod i (s.len:Int)=((i.toNat % fs.length:Nat):Int):=by
    rw [sl,← tmod_nat,Int.toNat_of_nonneg i0]
   have lt:i.toNat % fs.length < fs.length:=Nat.mod_lt _ hf
   obtain ⟨b,hb⟩:∃ b,s.a=some b:=by
    cases hb:s.a with
    | some b=>exact ⟨b,rfl⟩
    | none=>have:=hs.1 hb; simp at this; rw [this] at hf; simp at hf
   have hv:fs[i.toNat % fs.length]? = some (fs.getD (i.toNat % fs.length) 0):=by
    rw [List.getD_eq_getElem?_getD,List.getElem?_eq_getElem lt]; rfl
   refine ⟨by omega,b,hb,by rw [ei]; omega,by rw [ei]; omega,fs.getD (i.toNat % fs.length) 0,?_,_,rfl,j3 _ ?_⟩
   ·rw [ei,Nat.mul_one,show (((i.toNat % fs.length:Nat):Int)).toNat=i.toNat % fs.length from rfl]
    exact hs7.2 b hb _ _ (by rw [List.getElem?_map,hv]; rfl)
   ·unfold fateD; rw [if_pos hf]
  ·rw [if_neg (by rw [decide_eq_true_eq]; omega)]
   exact j3 0 (by unfold fateD; rw [if_neg hf])
 ·rw [if_neg (by rw [decide_eq_true_eq]; omega)]
  have hn:i.toNat=X.safe.length:=by omega
  rw [hn] at D7
  refine ⟨_,rfl,some rs,by rw [D7.cell]; rfl,rs,_,_,rfl,D7.S,rfl,?_⟩
  have D8:=D7.clr
  have F8:DF d rn rs h7 (clrM h7 rs):=DF.clr
  generalize clrM h7 rs=h8 at *
  refine ⟨_,by rw [add0]; exact D8.fz (by omega),rfl,?_⟩
  rw [add0,add0]
  have D9:DAt B c (setH h8 ⟨d,2,none⟩ (.int .i64 0)) d rn rs { X with now:=bootGo fs X.safe (keysD X) X.safe.length X.now,safe:=[],fuse:=0 }:=D8.set rfl rfl rfl
  have F9:DF d rn rs h8 (setH h8 ⟨d,2,none⟩ (.int .i64 0)):=DF.set
  generalize setH h8 ⟨d,2,none⟩ (.int .i64 0)=h9 at *
  refine ⟨_,D9.fz (by omega),rfl,?_⟩
  exact H _ (D9.set rfl rfl rfl) ((DF.of_ext X06).trans (F7.trans (F8.trans (F9.trans DF.set))))
end
end Go.Q.Yk
end
section
set_option maxRecDepth 100000
/- Slot: heads of sectors. -/
namespace Go.Q.Yk
/-- a number in a sector -/
def fld (b:List Int) (at' w:Nat):Int:=numL ((b.drop at').take w)
theorem fld_bd {b:List Int} (hB:isB b) (at' w:Nat):0<=fld b at' w/\fld b at' w < 256 ^ w:=by
 have:=numL_bd (isB_take (isB_drop hB at') w)
 have h2:(256:Int) ^ ((b.drop at').take w).length<=256 ^ w:=by
  have hl:((b.drop at').take w).length<=w:=List.length_take_le _ _
  exact pow_mono hl
 unfold fld; omega
theorem at_ok {s:Slc} {b:List Int} {h:Heap} {at' w:Nat} {k:Int × Int->Heap->Prop} (hs:SlcAt h s (b8 b)) (hl:s.len=b.length) (lb:b.length=128) (lc:s.len<=s.cap) (hB:isB b) (w0:1<=w) (w1:w<=8) (hw:at' + w<=100) (a0:0 < at') (H:k (fld b at' w,0) h) :
  num_Get (subS s 1 at' s.len s.cap) w k h:=by
 have S:=SlcAt.sub (w:=1) (l:=at') (u:=s.len) (m:=s.cap) hs (by omega) (by omega)
 rw [Nat.mul_one,Nat.mul_one,← List.map_drop,← List.map_take] at S
 have e:(b.drop at').take (s.len - at')=b.drop at':=List.take_of_length_le (by rw [List.length_drop]; omega)
 rw [e] at S
 refine nGet_ok (l':=b.drop at') (l:=(b.drop at').take w) S (by rw [List.length_drop]; show s.len - at'=_; omega) (by rw [Int.toNat_natCast]) (isB_take (isB_drop hB _) _) (by omega) (by omega) (by rw [List.length_take,List.length_drop]; omega) H
def hdD (b:List Int):S_slot_head:=⟨fld b 0 8,fld b 8 2,fld b 10 2,fld b 12 4,fld b 16 8⟩
theorem field_ok {s:Slc} {b:List Int} {h:Heap} {at' w:Nat} {k:Int->Heap->Prop} (hs:SlcAt h s (b8 b)) (hl:s.len=b.length) (lb:b.length=128) (lc:s.len<=s.cap) (hB:isB b) (w0:1<=w) (w1:w<=4) (hw:at' + w<=100) (a0:0 < at') (H:k (fld b at' w) h):slot_field s at' w k h:=by
 unfold slot_field
 refine ⟨_,by omega,by omega,by omega,by omega,rfl,?_⟩
 simp only [Int.toNat_natCast]
 refine at_ok (at':=at') hs hl lb lc hB w0 (by omega) hw a0 ⟨_,rfl,?_⟩
 have bd:=fld_bd hB at' w
 have h2:(256:Int) ^ w<=256 ^ 4:=pow_mono w1
 rw [show (256:Int) ^ 4=4294967296 from by decide] at h2
 rw [wrapI64 (by omega) (by omega)]
 exact H
theorem headOf_ok {s:Slc} {b:List Int} {h:Heap} {k:S_slot_head->Heap->Prop} (hs:SlcAt h s (b8 b)) (hl:s.len=b.length) (lb:b.length=128) (lc:s.len<=s.cap) (hB:isB b) (H:∀ h',Ext h.size h h'->k (hdD b) h'):slot_headOf s k h:=by
 unfold slot_headOf
 refine ⟨_,_,rfl,rfl,?_⟩
 have P:=Blk.push h (S_slot_head.cs ⟨0,0,0,0,0⟩) 201
 have W:=Ext.push h (.cells (S_slot_head.cs ⟨0,0,0,0,0⟩).toArray 201) (Nat.le_refl _)
 generalize h.push (.cells (S_slot_head.cs ⟨0,0,0,0,0⟩).toArray 201)=h2 at *
 have S:=hs.ext W
 refine nGet_ok (w:=8) (l':=b) (l:=b.take 8) S hl rfl (isB_take hB _) (by omega) (by omega) (by rw [List.length_take,lb]; rfl) ?_
 refine ⟨_,by omega,by omega,by omega,by omega,rfl,?_⟩
 refine at_ok (at':=16) (w:=8) S hl lb lc hB (by omega) (by omega) (by omega) (by omega) ?_
 refine field_ok (at':=8) (w:=2) S hl lb lc hB (by omega) (by omega) (by omega) (by omega) ?_
 refine field_ok (at':=10) (w:=2) S hl lb lc hB (by omega) (by omega) (by omega) (by omega) ?_
 refine field_ok (at':=12) (w:=4) S hl lb lc hB (by omega) (by omega) (by omega) (by omega) ?_
 refine ⟨_,WrsAt.of_blk P (by show 5<=5; omega),rfl,hdD b,CellsAt.of_blk (P.sets_all rfl),H _ (W.trans (Ext.sets _ _ _ (Nat.le_refl _)))⟩
end Go.Q.Yk
end

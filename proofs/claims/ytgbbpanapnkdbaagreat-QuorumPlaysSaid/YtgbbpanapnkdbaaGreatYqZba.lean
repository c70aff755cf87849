/- A part of the proof of statements of this seat: lemmas, no statement of their own. -/
import Derived.Test.YtgbbpanapnkdbaaGreatYqZaz
set_option linter.unusedVariables false
set_option linter.unusedSimpArgs false
set_option maxRecDepth 100000
section
/- The document's selectors and series, walked. -/
namespace Go.Q.Yq
open Go.Q.Rw
abbrev sv (l:List Tx):List Value:=l.map fun t=>Value.string (ofL t)
theorem Ji (t:ByteArray):∀ v∈[Value.string t],v.oneCell'=true:=fun v hv=>by simp at hv; subst hv; rfl
theorem drop_at {l:Tx} {i k:Nat} {c:UInt8} (hk:i<=k) (hc:l[k]? = some c):(l.drop i)[k - i]? = some c:=by
 rw [List.getElem?_drop,show i + (k - i)=k from by omega]; exact hc
theorem Gh {l:Tx} {i k:Nat} {c:UInt8} (hk:i<=k) (hc:l[k]? = some c):(l.drop i).take (k + 1 - i)=(l.drop i).take (k - i) ++ [c]:=by
 have:=drop_at hk hc
 obtain ⟨h1,h2⟩:=List.getElem?_eq_some_iff.1 this
 rw [show k + 1 - i=(k - i) + 1 from by omega,List.take_succ_eq_append_getElem h1,h2]
theorem Lh {l:Tx} {i k:Nat}:(ofL l).extract i k=ofL ((l.drop i).take (k - i)):=ig l i k
theorem La {l:Tx} {k:KP (Slc × Slc)} {h:Heap} (hl:l.length<=100000000)
  (H:∀ sw ss h',Row h.size h' 9 1 sw (sv ((bB l).map (·.1)))->sw.len=(bB l).length->Row h.size h' 9 1 ss (sv ((bB l).map (·.2)))->ss.len=(bB l).length->Ext h.size h h'->k (sw,ss) h'):xB (ofL l) k h:=by
 unfold xB A9
 refine ⟨fun q h'=>∃ (i:Nat) (W:List WS),q.2.2=(i:Int)/\i<=l.length/\Ext h.size h h'/\bB l=W ++ bB (l.drop i)/\Row h.size h' 9 1 q.1 (sv (W.map (·.1)))/\q.1.len=W.length/\Row h.size h' 9 1 q.2.1 (sv (W.map (·.2)))/\q.2.1.len=W.length/\(∀ g,q.1.blk=some g->q.2.1.blk≠some g)/\W.length<=i,
  fun q _=>l.length - q.2.2.toNat,⟨0,[],rfl,by omega,Ext.refl _ _,by simp,Row.nil _ _ _ _,rfl,Row.nil _ _ _ _,rfl,(fun g hg=>by cases hg),by simp⟩,?_⟩
 rintro t4 t5 t6 h1 ⟨i,W,ei,il,X1,eW,R4,l4,R5,l5,dj,wl⟩
 dsimp only at ei R4 l4 R5 l5 dj
 subst ei
 have z1:=X1.size
 unfold Ap
 rw [dI]
 by_cases hi:i < l.length
 rotate_left
 ·rw [if_neg (by simp; omega)]
  rw [List.drop_of_length_le (by omega),Fp,List.append_nil] at eW
  exact H _ _ h1 (by rw [eW]; exact R4) (by rw [eW]; exact l4) (by rw [eW]; exact R5) (by rw [eW]; exact l5) X1
 rw [if_pos (by simp; omega)]
 have dne:l.drop i≠[]:=by intro e; have:=congrArg List.length e; rw [List.length_drop,List.length_nil] at this; omega
 have ew:=yZ dne
 unfold AQ
 refine ⟨fun t h'=>h'=h1/\∃ k:Nat,t=(k:Int)/\i<=k/\k<=l.length/\((l.drop i).take (k - i)).all aO=true,fun t _=>l.length - t.toNat,⟨rfl,i,rfl,Nat.le_refl _,il,by simp⟩,?_⟩
 rintro t7 h2 ⟨rfl,k,rfl,ik,kl,al⟩
 unfold Aq
 rw [dI]
 have g3f:∀ (K:KP (Slc × Slc)),(k=l.length∨∃ c,l[k]? = some c/\aO c=false)->mW (ofL l) t4 t5 (i:Int) (k:Int) false K (fun q h'=>(∃ (i:Nat) (W:List WS),q.2.2=(i:Int)/\i<=l.length/\Ext h.size h h'/\bB l=W ++ bB (l.drop i)/\Row h.size h' 9 1 q.1 (sv (W.map (·.1)))/\q.1.len=W.length/\Row h.size h' 9 1 q.2.1 (sv (W.map (·.2)))/\q.2.1.len=W.length/\(∀ g,q.1.blk=some g->q.2.1.blk≠some g)/\W.length<=i)/\l.length - q.2.2.toNat < l.length - ((i:Nat):Int).toNat) (fun s h'=>(h'=h2/\∃ k:Nat,s=(k:Int)/\i<=k/\k<=l.length/\((l.drop i).take (k - i)).all aO=true)/\l.length - s.toNat < l.length - ((k:Nat):Int).toNat) h2:=fun K stop=>by
  have dl:(l.drop i).length=l.length - i:=List.length_drop
  obtain ⟨tw,dw⟩:=Es (p:=aO) (l:=l.drop i) (i:=k - i) al (by
   rcases stop with e | ⟨c,hc,lc⟩
   ·left; omega
   ·exact .inr ⟨c,drop_at ik hc,lc⟩)
  have dk:(l.drop i).drop (k - i)=l.drop k:=by rw [List.drop_drop,show i + (k - i)=k from by omega]
  rw [dk] at dw
  unfold mW
  rw [if_neg (by simp),dI]
  refine ⟨_,by omega,by omega,by omega,rfl,?_⟩
  rw [Int.toNat_natCast,Int.toNat_natCast,Lh,← tw]
  refine bx0 fun h4 B3 X4=>?_
  have z4:=X4.size
  refine QO (R4.ext X4 fun g hg=>(R4.bd hg).2) (R5.ext X4 fun g hg=>(R5.bd hg).2) dj (by omega) rfl rfl (Ji _) (by omega) (by unfold maxLen; omega) fun s5 h6 R6 l6 R56 dj6 X6=>?_
  have z6:=X6.size
  have X06:=X1.trans ((X4.mono z1).trans X6)
  unfold AB
  refine ⟨fun t h'=>h'=h6/\∃ j:Nat,t=(j:Int)/\k<=j/\j<=l.length/\((l.drop k).take (j - k)).all nl=true,fun t _=>l.length - t.toNat,⟨rfl,k,rfl,Nat.le_refl _,kl,by simp⟩,?_⟩
  rintro t7 h7 ⟨rfl,j,rfl,kj,jl,al2⟩
  unfold Ae
  rw [dI]
  have g5f:∀ (K:KP (Slc × Slc)) (N2:KP Int),(j=l.length∨∃ c,l[j]? = some c/\nl c=false)->kz (ofL l) s5 t5 (k:Int) (j:Int) false K (fun q h'=>(∃ (i:Nat) (W:List WS),q.2.2=(i:Int)/\i<=l.length/\Ext h.size h h'/\bB l=W ++ bB (l.drop i)/\Row h.size h' 9 1 q.1 (sv (W.map (·.1)))/\q.1.len=W.length/\Row h.size h' 9 1 q.2.1 (sv (W.map (·.2)))/\q.2.1.len=W.length/\(∀ g,q.1.blk=some g->q.2.1.blk≠some g)/\W.length<=i)/\l.length - q.2.2.toNat < l.length - ((i:Nat):Int).toNat) N2 (fun s h'=>(h'=h7/\∃ j:Nat,s=(j:Int)/\k<=j/\j<=l.length/\((l.drop k).take (j - k)).all nl=true)/\l.length - s.toNat < l.length - ((j:Nat):Int).toNat) h7:=fun K N2 stop2=>by
   have dl2:(l.drop k).length=l.length - k:=List.length_drop
   obtain ⟨tw2,dw2⟩:=Es (p:=nl) (l:=l.drop k) (i:=j - k) al2 (by
    rcases stop2 with e | ⟨c,hc,lc⟩
    ·left; omega
    ·exact .inr ⟨c,drop_at kj hc,lc⟩)
   have dj2:(l.drop k).drop (j - k)=l.drop j:=by rw [List.drop_drop,show k + (j - k)=j from by omega]
   rw [dj2] at dw2
   have aft:after (l.drop i)=l.drop j:=by unfold after; rw [dw,dw2]
   have jgt:i < j:=by
    obtain ⟨c,r,ec⟩:∃ c r,l.drop i=c :: r:=by cases hd:l.drop i with
     | nil=>exact absurd hd dne
     | cons c r=>exact ⟨c,r,rfl⟩
    have h1:=Bo c r
    rw [← ec,aft] at h1
    have h2:=congrArg List.length ec
    rw [List.length_drop] at h1 h2
    rw [List.length_cons] at h2
    omega
   unfold kz
   rw [if_neg (by simp),dI]
   refine ⟨_,by omega,by omega,by omega,rfl,?_⟩
   rw [Int.toNat_natCast,Int.toNat_natCast,Lh,← tw2]
   refine bx0 fun h8 B8 X8=>?_
   have z8:=X8.size
   refine QO (R56.ext X8 fun g hg=>(R56.bd hg).2) (R6.ext X8 fun g hg=>(R6.bd hg).2) (fun g hg ht=>dj6 g ht hg) (by omega) rfl rfl (Ji _) (by omega) (by unfold maxLen; omega) fun s9 h9 R9 l9 R69 dj9 X9=>?_
   refine ⟨⟨j,W ++ [((l.drop i).takeWhile aO,((l.drop i).dropWhile aO).takeWhile nl)],rfl,jl,X06.trans ((X8.mono (by omega)).trans X9),?_,?_,?_,?_,?_,fun g hg ht=>dj9 g ht hg,?_⟩,?_⟩
   ·rw [eW,ew,aft]; simp
   ·simp only [List.map_append,sv]
    exact R69
   ·rw [l6,l4]; simp
   ·simp only [List.map_append,sv]
    rw [dw]; exact R9
   ·rw [l9,l5]; simp
   ·simp only [List.length_append,List.length_cons,List.length_nil]; omega
   ·dsimp only; omega
  by_cases hj:j < l.length
  ·rw [if_pos (by simp; omega)]
   have hx:l[j]? = some (l[j]'hj):=List.getElem?_eq_getElem hj
   generalize l[j]'hj=c at hx
   refine ⟨_,by omega,vM (by rw [Int.toNat_natCast]; exact hx),Cs ?_⟩
   cases hc:aO c with
   | true=>exact g5f _ _ (.inr ⟨c,hx,by simp [nl,hc]⟩)
   | false =>
    show kz _ _ _ _ _ true _ _ _ _ _
    unfold kz
    rw [if_pos rfl,aA (by omega) (by omega)]
    refine ⟨_,rfl,⟨rfl,j + 1,by omega,by omega,by omega,?_⟩,by dsimp only; omega⟩
    rw [Gh kj hx,List.all_append,al2]
    simp [nl,hc]
  ·rw [if_neg (by simp; omega)]
   exact g5f _ _ (.inl (by omega))
 by_cases hk:k < l.length
 ·rw [if_pos (by simp; omega)]
  have hx:l[k]? = some (l[k]'hk):=List.getElem?_eq_getElem hk
  generalize l[k]'hk=c at hx
  refine ⟨_,by omega,vM (by rw [Int.toNat_natCast]; exact hx),Cs ?_⟩
  cases hc:aO c with
  | false=>exact g3f _ (.inr ⟨c,hx,hc⟩)
  | true =>
   unfold mW
   rw [if_pos rfl,aA (by omega) (by omega)]
   refine ⟨_,rfl,⟨rfl,k + 1,by omega,by omega,by omega,?_⟩,by dsimp only; omega⟩
   rw [Gh ik hx,List.all_append,al]
   simp [hc]
 ·rw [if_neg (by simp; omega)]
  exact g3f _ (.inl (by omega))
end Go.Q.Yq
end
section
/- The document's selectors and series, walked. -/
namespace Go.Q.Yq
open Go.Q.Rw
theorem Ei {B:Nat} {h:Heap} {s:Slc} {xs:List Tx} (R:Row B h 9 1 s (sv xs)) {i:Int} {t:Tx} (i0:0<=i) (hx:xs[i.toNat]? = some t):∃ a,s.a=some a/\ah h (a.add (i.toNat * 1))=some (.string (ofL t)):=by
 obtain ⟨a,ha,hc⟩:=u6 R.slc (i:=i.toNat) (v:=Value.string (ofL t)) (by rw [List.getElem?_map,hx]; rfl)
 exact ⟨a,ha,by rw [Nat.mul_one]; exact hc⟩
theorem Dh (t:Tx) (p:ByteArray) (q:Tx) (e:p=ofL q):((ofL t).toList == p.toList)=decide (t=q):=by rw [e]; exact bq t q
def sgI (s:Tx):Int:=match sgn s with | none=>-1 | some k=>k
theorem Lt (x:QU):∀ v∈qcs x,v.oneCell'=true:=fun v hv=>by
 simp [qcs,az.cs,qst] at hv; rcases hv with rfl | rfl | rfl <;> rfl
theorem zi {l:Tx} {k:KP (af × Bool)} {h:Heap} (hl:l.length<=100000000)
  (H0:∀ h',sG l=none->Ext h.size h h'->k (sN,false) h')
  (H1:∀ name qs s h',sG l=some (name,qs)->Row h.size h' 174 3 s (qs.flatMap qcs)->s.len=qs.length->Ext h.size h h'->k (⟨ofL name,s⟩,true) h'):iT (ofL l) k h:=by
 have esel:=Pk l
 unfold iT
 refine bx0 fun h2 B1 X1=>bx rfl (Nat.le_refl _) fun h5 B3 X5=>?_
 have z1:=X1.size
 have z5:=X5.size
 have l1:=B1.lt
 have l3:=B3.lt
 have C1:=B1.ext X5 l1
 have X05:=X1.trans (X5.mono z1)
 refine La hl fun sw ss h7 Rw7 wl Rs7 sl X7=>?_
 have z7:=X7.size
 have D1:=C1.ext X7 (by omega)
 have D3:=B3.ext X7 l3
 have X07:=X05.trans (X7.mono (by omega))
 -- how it ends
 have bad:∀ h',Blk h' h.size (af.cs sN) 139->Blk h' h2.size (af.cs sN) 139->Ext h.size h h'->sG l=none->∃ v18:af,ai h' ⟨h2.size,0,none⟩ (af.cs v18)/\(∃ h19:Heap,aN h' (⟨h.size,0,none⟩:Addr) 2/\h19=aM h' ⟨h.size,0,none⟩ 0 (af.cs v18)/\(∃ v20:af,ai h19 ⟨h.size,0,none⟩ (af.cs v20)/\k (v20,false) h19)):=fun h' P Q X e =>
  ⟨_,ai.aL Q,pY P rfl (Nat.le_refl _) fun h'' F U=>⟨_,ai.aL F,H0 h'' e (X.trans (U.ext (Nat.le_refl _) X.size))⟩⟩
 dsimp only
 rw [wl]
 unfold OW at esel
 cases hP:bB l with
 | nil =>
  rw [hP] at esel wl
  dsimp only at esel
  rw [if_pos (by simp)]
  have ln:l=[]:=by
   cases l with
   | nil=>rfl
   | cons c r=>rw [uB] at hP; cases hP
  refine ⟨_,ai.aL D3,pY D1 rfl (Nat.le_refl _) fun h' F U=>⟨_,ai.aL F,?_⟩⟩
  have:=H1 [] [] ⟨none,0,0⟩ h' esel.symm (Row.nil _ _ _ _) rfl (X07.trans (U.ext (Nat.le_refl _) (by omega)))
  rw [Dh l ⟨#[]⟩ [] rfl,ln]
  exact this
 | cons ws P =>
  obtain ⟨w0,s0⟩:=ws
  rw [hP] at esel wl sl Rw7 Rs7
  dsimp only at esel
  replace Rw7:Row h5.size h7 9 1 sw (sv (w0 :: P.map (·.1))):=Rw7
  replace Rs7:Row h5.size h7 9 1 ss (sv (s0 :: P.map (·.2))):=Rs7
  rw [if_neg (by simp; omega)]
  have lw:sw.len=P.length + 1:=wl
  have ls':ss.len=P.length + 1:=sl
  obtain ⟨a,ha,hc⟩:=Ei Rw7 (i:=0) (Int.le_refl _) rfl
  refine ⟨a,ha,Int.le_refl _,by omega,ofL w0,hc,bx rfl (Nat.le_refl _) fun h15 B13 X15=>?_⟩
  have z15:=X15.size
  have Rw15:=Rw7.ext X15 fun g hg=>(Rw7.bd hg).2
  have Rs15:=Rs7.ext X15 fun g hg=>(Rs7.bd hg).2
  have E1:=D1.ext X15 (by omega)
  have E3:=D3.ext X15 D3.lt
  have X015:=X07.trans (X15.mono (by omega))
  have l13:=B13.lt
  obtain ⟨a2,ha2,hc2⟩:=Ei Rw15 (i:=0) (Int.le_refl _) rfl
  refine ⟨a2,ha2,Int.le_refl _,by omega,ofL w0,hc2,?_⟩
  rw [Dh w0 ⟨#[]⟩ [] rfl]
  -- a selector there
  have good:∀ h' s qs,Blk h' h.size (af.cs sN) 139->Blk h' h7.size (af.cs ⟨ofL w0,s⟩) 139->Row h15.size h' 174 3 s (qs.flatMap qcs)->s.len=qs.length->Ext h.size h h'->sG l=some (w0,qs)->∃ v24:af,ai h' ⟨h7.size,0,none⟩ (af.cs v24)/\(∃ h25:Heap,aN h' (⟨h.size,0,none⟩:Addr) 2/\h25=aM h' ⟨h.size,0,none⟩ 0 (af.cs v24)/\(∃ v26:af,ai h25 ⟨h.size,0,none⟩ (af.cs v26)/\k (v26,true) h25)):=fun h' s qs P Q R rl X e =>
   ⟨_,ai.aL Q,pY P rfl (Nat.le_refl _) fun h'' F U=>⟨_,ai.aL F,H1 w0 qs s h'' e ((R.keep fun g hg=>U.block g (R.bd hg).2 (by have:=(R.bd hg).1; omega)).mono (by omega)) rl (X.trans (U.ext (Nat.le_refl _) X.size))⟩⟩
  have g2:∀ b,(b=true->sG l=none)->(b=false->(if P.isEmpty=true then some (w0,[]) else if s0≠[123]∨P.length % 2=1∨P.length > 16 then none else (kR P).map fun qs=>(w0,qs))=sG l)->lX ⟨h.size,0,none⟩ ⟨h2.size,0,none⟩ sw ss ⟨h7.size,0,none⟩ b k h15:=fun b b1 b2=>by
   unfold lX
   cases b with
   | true =>
    rw [if_pos rfl]
    exact bad h15 E1 E3 X015 (b1 rfl)
   | false =>
    have e2:=b2 rfl
    rw [if_neg (by simp),lw]
    cases P with
    | nil =>
     rw [if_pos (by simp)]
     rw [if_pos (by decide)] at e2
     exact good h15 ⟨none,0,0⟩ [] E1 B13 (Row.nil _ _ _ _) rfl X015 e2.symm
    | cons pw P' =>
     rw [if_neg (by simp; omega)]
     rw [if_neg (by simp)] at e2
     obtain ⟨P,eP⟩:∃ P,P=pw :: P':=⟨_,rfl⟩
     rw [← eP] at e2 Rw15 Rs15 ls' lw ⊢
     have pne:P≠[]:=by rw [eP]; simp
     obtain ⟨a3,ha3,hc3⟩:=Ei Rs15 (i:=0) (Int.le_refl _) rfl
     refine ⟨a3,ha3,Int.le_refl _,by omega,ofL s0,hc3,?_⟩
     rw [Dh s0 ⟨#[123]⟩ [123] rfl]
     have tm:Int.tmod ((P.length + 1:Nat):Int) 2=((P.length + 1) % 2:Nat):=by rw [Int.tmod_eq_emod_of_nonneg (by omega)]; omega
     by_cases hb:s0≠[123]∨P.length % 2=1∨P.length > 16
     ·rw [if_pos hb] at e2
      rw [if_pos (by
       rw [tm]
       simp only [Bool.or_eq_true,Bool.not_eq_true',decide_eq_false_iff_not,beq_iff_eq,decide_eq_true_eq]
       rcases hb with h | h | h
       ·exact .inl (.inl h)
       ·exact .inl (.inr (by omega))
       ·exact .inr (by omega))]
      exact bad h15 E1 E3 X015 e2.symm
     ·rw [if_neg hb] at e2
      rw [if_neg (by
       rw [tm]
       simp only [Bool.or_eq_true,Bool.not_eq_true',decide_eq_false_iff_not,beq_iff_eq,decide_eq_true_eq]
       intro hh
       apply hb
       rcases hh with (h | h) | h
       ·exact .inl h
       ·exact .inr (.inl (by omega))
       ·exact .inr (.inr (by omega)))]
      have pev:P.length % 2=0/\P.length<=16:=by omega
      unfold xX
      refine ⟨fun i h'=>∃ (m:Nat) (qs:List QU) (s:Slc),i=(2 * m + 1:Nat)/\2 * m<=P.length/\Blk h' h.size (af.cs sN) 139/\Blk h' h2.size (af.cs sN) 139/\Blk h' h7.size (af.cs ⟨ofL w0,s⟩) 139/\Row h15.size h' 174 3 s (qs.flatMap qcs)/\s.len=qs.length/\qs.length=m/\Row h5.size h' 9 1 sw (sv (w0 :: P.map (·.1)))/\Row h5.size h' 9 1 ss (sv (s0 :: P.map (·.2)))/\Ext h.size h h'/\h15.size<=h'.size/\((P.drop (2 * m)≠[]/\kR P=(kR (P.drop (2 * m))).map (qs ++ ·))∨(P.drop (2 * m)=[]/\kR P=some qs)),
       fun i _=>(P.length + 1) - i.toNat,⟨0,[],⟨none,0,0⟩,rfl,by omega,E1,E3,B13,Row.nil _ _ _ _,rfl,rfl,Rw15,Rs15,X015,Nat.le_refl _,.inl ⟨by simpa using pne,by simp⟩⟩,?_⟩
      rintro i h16 ⟨m,qs,s,ei,m2,F1,F2,F7,Rq,ql,qm,Rw16,Rs16,X016,z16,C⟩
      subst ei
      unfold wE
      rw [lw]
      by_cases hm:2 * m < P.length
      rotate_left
      ·rw [if_neg (by simp; omega)]
       have dn:P.drop (2 * m)=[]:=List.drop_of_length_le (by omega)
       have ec:kR P=some qs:=(C.resolve_left fun h=>h.1 dn).2
       rw [ec] at e2
       exact good h16 s qs F1 F7 Rq ql X016 e2.symm
      rw [if_pos (by simp; omega)]
      refine ⟨_,rfl,?_⟩
      obtain ⟨⟨pa,ps⟩,hA⟩:∃ x,P[2 * m]? = some x:=⟨_,List.getElem?_eq_getElem hm⟩
      obtain ⟨⟨pb,pe⟩,hB⟩:∃ x,P[2 * m + 1]? = some x:=⟨_,List.getElem?_eq_getElem (by omega)⟩
      have dA:P.drop (2 * m)=(pa,ps) :: (pb,pe) :: P.drop (2 * (m + 1)):=by
       obtain ⟨h1,h2⟩:=List.getElem?_eq_some_iff.1 hA
       obtain ⟨h3,h4⟩:=List.getElem?_eq_some_iff.1 hB
       rw [List.drop_eq_getElem_cons h1,h2,List.drop_eq_getElem_cons h3,h4]; rfl
      have ec:kR P=(kR ((pa,ps) :: (pb,pe) :: P.drop (2 * (m + 1)))).map (qs ++ ·):=by
       rcases C with ⟨_,c⟩ | ⟨c,_⟩
       ·rw [dA] at c; exact c
       ·rw [dA] at c; cases c
      -- words and what stands between
      have ia:((2 * m + 1:Nat):Int).toNat=2 * m + 1:=by omega
      have ib:IntKind.i64.wrap (((2 * m + 1:Nat):Int) + 1)=((2 * m + 2:Nat):Int):=by rw [aA (by omega) (by omega)]; omega
      have ic:IntKind.i64.wrap (((2 * m + 1:Nat):Int) + 2)=((2 * (m + 1) + 1:Nat):Int):=by rw [aA (by omega) (by omega)]; omega
      have wa:(w0 :: P.map (·.1))[2 * m + 1]? = some pa:=by rw [List.getElem?_cons_succ,List.getElem?_map,hA]; rfl
      have wb:(w0 :: P.map (·.1))[2 * m + 2]? = some pb:=by rw [List.getElem?_cons_succ,List.getElem?_map,hB]; rfl
      have sa:(s0 :: P.map (·.2))[2 * m + 1]? = some ps:=by rw [List.getElem?_cons_succ,List.getElem?_map,hA]; rfl
      have sb:(s0 :: P.map (·.2))[2 * m + 2]? = some pe:=by rw [List.getElem?_cons_succ,List.getElem?_map,hB]; rfl
      unfold xO
      refine ⟨fun q h'=>∃ n:Nat,q.2=(n:Int)/\n<=3/\Ext h16.size h16 h'/\q.1=(if ps=[61]/\0 < n then 0 else if ps=[33,61]/\1 < n then 1 else if ps=[94,61]/\2 < n then 2 else -1),fun q _=>3 - q.2.toNat,⟨0,rfl,by omega,Ext.refl _ _,by simp⟩,?_⟩
      rintro sg9 t10 h17 ⟨n,en,n3,X17,es9⟩
      dsimp only at en es9
      subst en
      have z17:=X17.size
      have Rw17:=Rw16.ext X17 fun g hg=>(Rw16.bd hg).2
      have Rs17:=Rs16.ext X17 fun g hg=>(Rs16.bd hg).2
      have Rq17:=Rq.ext X17 fun g hg=>(Rq.bd hg).2
      have G1:=F1.ext X17 F1.lt
      have G2:=F2.ext X17 F2.lt
      have G7:=F7.ext X17 F7.lt
      have X017:=X016.trans (X17.mono X016.size)
      unfold wu
      by_cases hn:n < 3
      ·rw [if_pos (by simp; omega)]
       obtain ⟨a4,ha4,hc4⟩:=Ei Rs17 (i:=((2 * m + 1:Nat):Int)) (by omega) (by rw [ia]; exact sa)
       refine ⟨a4,ha4,by omega,by rw [ls']; omega,ofL ps,hc4,bx0 fun h18 B36 X18=>⟨(uw (X18.block _ (om hc4))).trans hc4,?_⟩⟩
       have z18:=X18.size
       obtain ⟨sgn',hsg,ecmp,estep⟩:∃ x:Tx,([.string (⟨#[61]⟩:ByteArray),.string (⟨#[33,61]⟩:ByteArray),.string (⟨#[94,61]⟩:ByteArray)]:List Value)[n]? = some (.string (ofL x))/\(ps=x->(n:Int)=(if ps=[61]/\0 < n + 1 then 0 else if ps=[33,61]/\1 < n + 1 then 1 else if ps=[94,61]/\2 < n + 1 then 2 else -1))/\(ps≠x->sg9=(if ps=[61]/\0 < n + 1 then 0 else if ps=[33,61]/\1 < n + 1 then 1 else if ps=[94,61]/\2 < n + 1 then 2 else -1)):=by
        have:n=0∨n=1∨n=2:=by omega
        rcases this with rfl | rfl | rfl
        ·exact ⟨[61],rfl,fun e=>by rw [e]; rfl,fun e=>by rw [es9]; simp [e]⟩
        ·exact ⟨[33,61],rfl,fun e=>by rw [e]; rfl,fun e=>by rw [es9]; simp [e]⟩
        ·exact ⟨[94,61],rfl,fun e=>by rw [e]; rfl,fun e=>by rw [es9]; simp [e]⟩
       refine ⟨_,rfl,by omega,by show (n:Int) < 3; omega,ofL sgn',B36.cl (by rw [Nat.mul_one,Int.toNat_natCast]; exact hsg),?_⟩
       rw [bq]
       have j5:∀ (N3:KP Int) (v:Int),v=(if ps=[61]/\0 < n + 1 then 0 else if ps=[33,61]/\1 < n + 1 then 1 else if ps=[94,61]/\2 < n + 1 then 2 else -1)->lT ⟨h.size,0,none⟩ ⟨h2.size,0,none⟩ sw ss ⟨h7.size,0,none⟩ ((2 * m + 1:Nat):Int) (n:Int) v k N3 (fun q h'=>(∃ n:Nat,q.2=(n:Int)/\n<=3/\Ext h16.size h16 h'/\q.1=(if ps=[61]/\0 < n then 0 else if ps=[33,61]/\1 < n then 1 else if ps=[94,61]/\2 < n then 2 else -1))/\3 - q.2.toNat < 3 - ((n:Nat):Int).toNat) h18:=fun N3 v hv=>by
        unfold lT
        refine ⟨_,rfl,?_⟩
        rw [aA (by omega) (by omega)]
        exact ⟨⟨n + 1,by dsimp only; omega,by omega,X17.trans (X18.mono z17),hv⟩,by dsimp only; omega⟩
       by_cases he:ps=sgn'
       ·rw [if_pos (by simpa using he)]
        exact j5 _ _ (ecmp he)
       ·rw [if_neg (by simpa using he)]
        exact j5 _ _ (estep he)
      ·rw [if_neg (by simp; omega)]
       have n3':n=3:=by omega
       subst n3'
       have e9:sg9=sgI ps:=by
        rw [es9]; unfold sgI sgn
        by_cases h0:ps=[61]
        ·simp [h0]
        ·by_cases h1:ps=[33,61]
         ·simp [h1]
         ·by_cases h2:ps=[94,61]
          ·simp [h2]
          ·simp [h0,h1,h2]
       have fail:sG l=none->∀ h',Ext h17.size h17 h'->jC ⟨h.size,0,none⟩ ⟨h2.size,0,none⟩ sw ss ⟨h7.size,0,none⟩ ((2 * m + 1:Nat):Int) sg9 true k (fun i h'=>(∃ (m:Nat) (qs:List QU) (s:Slc),i=(2 * m + 1:Nat)/\2 * m<=P.length/\Blk h' h.size (af.cs sN) 139/\Blk h' h2.size (af.cs sN) 139/\Blk h' h7.size (af.cs ⟨ofL w0,s⟩) 139/\Row h15.size h' 174 3 s (qs.flatMap qcs)/\s.len=qs.length/\qs.length=m/\Row h5.size h' 9 1 sw (sv (w0 :: P.map (·.1)))/\Row h5.size h' 9 1 ss (sv (s0 :: P.map (·.2)))/\Ext h.size h h'/\h15.size<=h'.size/\((P.drop (2 * m)≠[]/\kR P=(kR (P.drop (2 * m))).map (qs ++ ·))∨(P.drop (2 * m)=[]/\kR P=some qs)))/\(P.length + 1) - i.toNat < (P.length + 1) - ((2 * m + 1:Nat):Int).toNat) (fun q h'=>(∃ n:Nat,q.2=(n:Int)/\n<=3/\Ext h16.size h16 h'/\q.1=(if ps=[61]/\0 < n then 0 else if ps=[33,61]/\1 < n then 1 else if ps=[94,61]/\2 < n then 2 else -1))/\3 - q.2.toNat < 3 - ((3:Nat):Int).toNat) h':=fun e h' X'=>by
        unfold jC
        rw [if_pos rfl]
        exact bad h' (G1.ext X' G1.lt) (G2.ext X' G2.lt) (X017.trans (X'.mono X017.size)) e
       have none':kR P=none->sG l=none:=fun e=>by rw [← e2,e]; rfl
       have j6:∀ (et:Tx) (p:ByteArray),p=ofL et->et=(if (P.drop (2 * (m + 1))).isEmpty=true then [125] else [44])->lL ⟨h.size,0,none⟩ ⟨h2.size,0,none⟩ sw ss ⟨h7.size,0,none⟩ ((2 * m + 1:Nat):Int) sg9 p k (fun i h'=>(∃ (m:Nat) (qs:List QU) (s:Slc),i=(2 * m + 1:Nat)/\2 * m<=P.length/\Blk h' h.size (af.cs sN) 139/\Blk h' h2.size (af.cs sN) 139/\Blk h' h7.size (af.cs ⟨ofL w0,s⟩) 139/\Row h15.size h' 174 3 s (qs.flatMap qcs)/\s.len=qs.length/\qs.length=m/\Row h5.size h' 9 1 sw (sv (w0 :: P.map (·.1)))/\Row h5.size h' 9 1 ss (sv (s0 :: P.map (·.2)))/\Ext h.size h h'/\h15.size<=h'.size/\((P.drop (2 * m)≠[]/\kR P=(kR (P.drop (2 * m))).map (qs ++ ·))∨(P.drop (2 * m)=[]/\kR P=some qs)))/\(P.length + 1) - i.toNat < (P.length + 1) - ((2 * m + 1:Nat):Int).toNat) (fun q h'=>(∃ n:Nat,q.2=(n:Int)/\n<=3/\Ext h16.size h16 h'/\q.1=(if ps=[61]/\0 < n then 0 else if ps=[33,61]/\1 < n then 1 else if ps=[94,61]/\2 < n then 2 else -1))/\3 - q.2.toNat < 3 - ((3:Nat):Int).toNat) h17:=fun et p ep eet=>by
        unfold lL
        cases hs:sgn ps with
        | none =>
         have e9':sg9 = -1:=by rw [e9]; unfold sgI; rw [hs]
         have ch:kR P=none:=by rw [ec]; unfold kR; rw [hs]; rfl
         rw [e9',if_pos (by decide)]
         unfold mi jo
         rw [if_pos rfl,if_pos rfl]
         rw [← e9']
         exact fail (none' ch) h17 (Ext.refl _ _)
        | some kk =>
         have e9':sg9=kk:=by rw [e9]; unfold sgI; rw [hs]
         have k0:0<=kk:=by rcases D8 hs with ⟨_,e⟩ | ⟨_,e⟩ | ⟨_,e⟩ <;> omega
         rw [if_neg (by rw [decide_eq_true_eq]; omega)]
         obtain ⟨a5,ha5,hc5⟩:=Ei Rs17 (i:=((2 * m + 2:Nat):Int)) (by omega) (by rw [Int.toNat_natCast]; exact sb)
         rw [ib]
         refine ⟨a5,ha5,by omega,by rw [ls']; omega,ofL pe,hc5,?_⟩
         rw [Dh pe p et ep]
         have ch:¬ (pe=et/\cu pa=true/\cu pb=true)->kR P=none:=fun hh=>by
          rw [ec]; unfold kR; rw [hs]; dsimp only
          rw [if_neg (by rw [← eet]; exact hh)]; rfl
         unfold mi
         by_cases hpe:pe=et
         rotate_left
         ·rw [if_pos (by simp [hpe])]
          unfold jo
          rw [if_pos rfl]
          exact fail (none' (ch fun h=>hpe h.1)) h17 (Ext.refl _ _)
         rw [if_neg (by simp [hpe])]
         obtain ⟨a6,ha6,hc6⟩:=Ei Rw17 (i:=((2 * m + 1:Nat):Int)) (by omega) (by rw [ia]; exact wa)
         refine ⟨a6,ha6,by omega,by rw [lw]; omega,ofL pa,hc6,zg ?_⟩
         unfold jo
         cases hwa:cu pa with
         | false =>
          rw [if_pos (by simp)]
          exact fail (none' (ch fun h=>by rw [hwa] at h; cases h.2.1)) h17 (Ext.refl _ _)
         | true =>
         rw [if_neg (by simp),ib]
         obtain ⟨a7,ha7,hc7⟩:=Ei Rw17 (i:=((2 * m + 2:Nat):Int)) (by omega) (by rw [Int.toNat_natCast]; exact wb)
         refine ⟨a7,ha7,by omega,by rw [lw]; omega,ofL pb,hc7,zg ?_⟩
         cases hwb:cu pb with
         | false=>exact fail (none' (ch fun h=>by rw [hwb] at h; cases h.2.2)) h17 (Ext.refl _ _)
         | true =>
         unfold jC
         rw [if_neg (by simp),ib,ic]
         have cell1:ah h17 ((⟨h7.size,0,none⟩:Addr).add 1)=some (Slc.v s):=G7.cl rfl
         refine ⟨s,cell1,a6,ha6,by omega,by rw [lw]; omega,ofL pa,hc6,a7,ha7,by omega,by rw [lw]; omega,ofL pb,hc7,bx0 fun h50 B49 X50=>⟨(G7.ext X50 G7.lt).cl rfl,?_⟩⟩
         have z50:=X50.size
         refine app1 (Rq17.ext X50 fun g hg=>(Rq17.bd hg).2) (by omega) rfl rfl (Lt (pa,sg9,pb)) (by omega) (by unfold maxLen; omega) fun s52 h53 R53 l53 X53=>?_
         have z53:=X53.size
         have K7:Blk h53 h7.size (af.cs ⟨ofL w0,s⟩) 139:=(G7.ext X50 G7.lt).ext X53 (by omega)
         refine jI K7 (by show 1 < 2; decide) fun h54 B54 U54=>?_
         have z54:=U54.size
         have X1754:Ext h7.size h17 h54:=(X50.mono (by omega)).trans ((X53.mono (by omega)).trans (U54.ext (Nat.le_refl _) (by omega)))
         have keepR:∀ {sx:Slc} {xs:List Tx},Row h5.size h17 9 1 sx (sv xs)->(∀ g,sx.blk=some g->g < h7.size)->Row h5.size h54 9 1 sx (sv xs):=fun {sx xs} R hg7=>R.keep fun g hg=>X1754.block g (hg7 g hg)
         refine ⟨_,rfl,⟨m + 1,qs ++ [(pa,sg9,pb)],s52,rfl,by omega,U54.blk ((G1.ext X50 G1.lt).ext X53 (by omega)) (by omega),U54.blk ((G2.ext X50 G2.lt).ext X53 (by omega)) (by omega),B54,?_,by rw [l53]; simp [ql],by simp [qm],keepR Rw17 (fun g hg=>(Rw7.bd hg).2),keepR Rs17 (fun g hg=>(Rs7.bd hg).2),X017.trans (X1754.mono (by omega)),by omega,?_⟩,by omega⟩
         ·rw [List.flatMap_append]
          have:Row h15.size h54 174 3 s52 (qs.flatMap qcs ++ qcs (pa,sg9,pb)):=R53.keep fun g hg=>U54.block g (R53.bd hg).2 (by have:=(R53.bd hg).1; omega)
          simpa using this
         ·have cs:kR ((pa,ps) :: (pb,pe) :: P.drop (2 * (m + 1)))=if (P.drop (2 * (m + 1))).isEmpty=true then some [(pa,kk,pb)] else (kR (P.drop (2 * (m + 1)))).map ((pa,kk,pb) :: ·):=by
           conv=>lhs; unfold kR
           rw [hs]; dsimp only
           rw [if_pos ⟨by rw [hpe,eet],hwa,hwb⟩]
          rw [cs] at ec
          rw [e9']
          cases hd:P.drop (2 * (m + 1)) with
          | nil =>
           rw [hd] at ec
           exact .inr ⟨rfl,by rw [ec]; rfl⟩
          | cons x y =>
           rw [hd] at ec
           refine .inl ⟨by simp,?_⟩
           rw [ec,if_neg (by simp),Option.map_map]
           congr 1
           funext z
           simp
       have dl:(P.drop (2 * (m + 1))).length=P.length - 2 * (m + 1):=List.length_drop
       rw [ic,lw]
       by_cases hend:2 * (m + 1)>=P.length
       ·rw [if_pos (by rw [decide_eq_true_eq]; omega)]
        exact j6 [125] _ rfl (by rw [if_pos (by rw [List.isEmpty_iff]; exact List.length_eq_zero_iff.1 (by omega))])
       ·rw [if_neg (by rw [decide_eq_true_eq]; omega)]
        exact j6 [44] _ rfl (by rw [if_neg (by rw [List.isEmpty_iff]; intro e; rw [e] at dl; simp at dl; omega)])
  have g1:∀ b,b=decide (w0≠[]/\cu w0=false)->lN ⟨h.size,0,none⟩ ⟨h2.size,0,none⟩ sw ss ⟨h7.size,0,none⟩ b k h15:=fun b hb=>by
   unfold lN
   by_cases hw:w0≠[]/\cu w0=false
   ·rw [hb,if_pos (by simpa using hw)]
    exact bad h15 E1 E3 X015 (by rw [← esel,if_pos hw])
   ·rw [hb,if_neg (by simpa using hw)]
    rw [if_neg hw] at esel
    rw [lw]
    cases P with
    | nil =>
     rw [if_pos (by simp)]
     rw [if_pos (by decide)] at esel
     obtain ⟨a3,ha3,hc3⟩:=Ei Rs15 (i:=0) (Int.le_refl _) rfl
     refine ⟨a3,ha3,Int.le_refl _,by omega,ofL s0,hc3,?_⟩
     rw [Dh s0 ⟨#[]⟩ [] rfl]
     refine g2 _ (fun e=>?_) (fun e=>?_)
     ·rw [← esel,if_neg (by simpa using e)]
     ·rw [if_pos (by decide),← esel,if_pos (by simpa using e)]
    | cons pw P' =>
     rw [if_neg (by simp; omega)]
     rw [if_neg (by simp)] at esel
     exact g2 false (fun e=>by cases e) fun _=>by rw [if_neg (by simp)]; exact esel
  by_cases hw:w0=[]
  ·rw [if_neg (by simp [hw])]
   exact g1 false (by simp [hw])
  ·rw [if_pos (by simp [hw])]
   refine ⟨a2,ha2,Int.le_refl _,by omega,ofL w0,hc2,zg ?_⟩
   exact g1 _ (by cases cu w0 <;> simp [hw])
end Go.Q.Yq
end

/- A part of the proof of statements of this seat: lemmas, no statement of their own. -/
import Derived.Test.YtgbbpanapnkdbaaGreatYqZau
import Derived.Test.YtgbbpanapnkdbaaGreatYqZak
import Derived.Test.YtgbbpanapnkdbaaGreatYqZaf
set_option linter.unusedVariables false
set_option linter.unusedSimpArgs false
section
namespace Go.Q.Yq
/-! ### questions -/
abbrev QU:=Tx × Int × Tx
def qst (x:QU):az:=⟨ofL x.1,x.2.1,ofL x.2.2⟩
def qcs (x:QU):List Value:=az.cs (qst x)
theorem o7 (x:az):(az.cs x).length=3:=rfl
theorem Df (x:af):(af.cs x).length=2:=rfl
def sg:List Tx:=[[61],[33,61],[94,61]]
def qgo (n r:Tx):Int->List Tx->QU × Bool
 | _,[]=>((n,0,[]),false)
 | j,s :: ss=>if ut r s=true then ((n,j,r.drop s.length),cu n && cu (r.drop s.length)) else qgo n r (j + 1) ss
def eF (l:Tx):QU × Bool:=qgo (l.takeWhile aO) (l.dropWhile aO) 0 sg
theorem Es {p:UInt8->Bool}:∀ {l:Tx} {i:Nat},(l.take i).all p=true->(i=l.length∨∃ c,l[i]? = some c/\p c=false)->l.takeWhile p=l.take i/\l.dropWhile p=l.drop i
 | [],i,_,_=>by simp
 | b :: r,0,_,h=>by
  rcases h with h | ⟨c,hc,hp⟩
  ·simp at h
  ·simp at hc; subst hc; simp [hp]
 | b :: r,i + 1,ha,h=>by
  simp only [List.take_succ_cons,List.all_cons,Bool.and_eq_true] at ha
  have:=Es (l:=r) (i:=i) ha.2 (by
   rcases h with h | ⟨c,hc,hp⟩
   ·left; simpa using h
   ·right; exact ⟨c,by simpa using hc,hp⟩)
  rw [List.takeWhile_cons,if_pos ha.1,List.dropWhile_cons,if_pos ha.1,this.1,this.2]
  exact ⟨rfl,rfl⟩
theorem H8 {l:Tx} {k:KP (az × Bool)} {h:Heap} (hl:l.length<=1000000000) (H:∀ h',Ext h.size h h'->k (qst (eF l).1,(eF l).2) h'):rW (ofL l) k h:=by
 unfold rW
 refine ⟨_,_,rfl,rfl,?_⟩
 have P:=Blk.push h (az.cs ⟨ByteArray.empty,0,ByteArray.empty⟩) 174
 have W:=Ext.push h (.cells (az.cs ⟨ByteArray.empty,0,ByteArray.empty⟩).toArray 174) (Nat.le_refl _)
 have pl:=P.lt
 generalize h.push (.cells (az.cs ⟨ByteArray.empty,0,ByteArray.empty⟩).toArray 174)=h2 at *
 have z2:=W.size
 refine ⟨fun i h'=>0<=i/\i<=l.length/\(l.take i.toNat).all aO=true/\h'=h2,fun i _=>(l.length - i).toNat,⟨by omega,by omega,by simp,rfl⟩,?_⟩
 rintro i h' ⟨i0,i1,ha,e⟩
 subst e
 have g2:(i.toNat=l.length∨∃ c,l[i.toNat]? = some c/\aO c=false)->∀ nx,jF (ofL l) ⟨h.size,0,none⟩ i false k nx h':=fun hs nx=>by
  obtain ⟨tw,dw⟩:=Es ha hs
  unfold jF
  rw [if_neg (by simp),dI]
  refine ⟨_,by omega,i0,by omega,rfl,?_⟩
  rw [ig,show (0:Int).toNat=0 from rfl,List.drop_zero,Nat.sub_zero]
  obtain ⟨n,en⟩:∃ n,n=l.take i.toNat:=⟨_,rfl⟩
  obtain ⟨r,er⟩:∃ r,r=l.drop i.toNat:=⟨_,rfl⟩
  rw [← en] at tw ⊢
  rw [← er] at dw
  have nl:n.length<=1000000000:=by rw [en,List.length_take]; omega
  have rl:r.length<=1000000000:=by rw [er,List.length_drop]; omega
  refine ⟨_,_,rfl,rfl,?_⟩
  have Q:=Blk.push h' (az.cs ⟨ByteArray.empty,0,ByteArray.empty⟩) 174
  have Q2:=Q.jW (vs:=az.cs ⟨ofL n,0,ByteArray.empty⟩) rfl
  have W3:=(Ext.push h' (.cells (az.cs ⟨ByteArray.empty,0,ByteArray.empty⟩).toArray 174) (Nat.le_refl _)).trans (Ext.sets _ (a:=⟨h'.size,0,none⟩) 0 (az.cs ⟨ofL n,0,ByteArray.empty⟩) (Nat.le_refl _))
  refine ⟨_,aN.aL Q (by rw [o7]; omega),rfl,?_⟩
  generalize aM (h'.push (.cells (az.cs ⟨ByteArray.empty,0,ByteArray.empty⟩).toArray 174)) ⟨h'.size,0,none⟩ 0 (az.cs ⟨ofL n,0,ByteArray.empty⟩)=h3 at *
  have z3:=W3.size
  have ql:=Q2.lt
  unfold Bc
  refine ⟨_,_,rfl,rfl,?_⟩
  have S:=Blk.push h3 (sg.map fun s=>Value.string (ofL s)) 9
  have W4:=Ext.push h3 (.cells (sg.map fun s=>Value.string (ofL s)).toArray 9) (Nat.le_refl _)
  have es:h3.push (.cells ([.string (⟨#[61]⟩:ByteArray),.string (⟨#[33,61]⟩:ByteArray),.string (⟨#[94,61]⟩:ByteArray)]).toArray 9)=h3.push (.cells (sg.map fun s=>Value.string (ofL s)).toArray 9):=rfl
  rw [es]
  generalize h3.push (.cells (sg.map fun s=>Value.string (ofL s)).toArray 9)=h4 at *
  have z4:=W4.size
  have Q4:=Q2.ext W4 ql
  have P4:=(P.ext W3 pl).ext W4 (by omega)
  have X04:Ext h.size h h4:=W.trans ((W3.trans (W4.mono z3)).mono z2)
  have ans:∀ (x:az) (b:Bool) (h5:Heap),Ext h.size h4 h5->Blk h5 h.size (az.cs ⟨ByteArray.empty,0,ByteArray.empty⟩) 174->(qst (eF l).1,(eF l).2)=(x,b)->∃ h6:Heap,aN h5 ⟨h.size,0,none⟩ 3/\h6=aM h5 ⟨h.size,0,none⟩ 0 (az.cs x)/\(∃ v17:az,ai h6 ⟨h.size,0,none⟩ (az.cs v17)/\k (v17,b) h6):=fun x b h5 X5 P5 e=>by
   refine ⟨_,aN.aL P5 (by rw [o7]; omega),rfl,x,ai.aL (P5.jW (vs:=az.cs x) rfl),?_⟩
   rw [← e]
   exact H _ ((X04.trans X5).trans (Ext.sets _ _ _ (Nat.le_refl _)))
  refine ⟨fun j h5=>0<=j/\j<=3/\qgo n r j (sg.drop j.toNat)=eF l/\h5=h4,fun j _=>(3 - j).toNat,⟨by omega,by omega,by show qgo n r 0 sg=_; unfold eF; rw [tw,dw],rfl⟩,?_⟩
  rintro j h5 ⟨j0,j1,hq,e5⟩
  subst e5
  unfold wW
  by_cases hj:j < 3
  ·rw [if_pos (by rw [decide_eq_true_eq]; exact hj)]
   have hsg:sg[j.toNat]? = some (sg[j.toNat]'(by show j.toNat < 3; omega)):=by simp
   have hdr:sg.drop j.toNat=(sg[j.toNat]'(by show j.toNat < 3; omega)) :: sg.drop (j.toNat + 1):=List.drop_eq_getElem_cons (by show j.toNat < 3; omega)
   generalize sg[j.toNat]'(by show j.toNat < 3; omega)=s at *
   refine ⟨_,rfl,j0,by simpa using hj,ofL s,?_,_,i0,by rw [dI]; omega,by omega,rfl,?_⟩
   ·rw [Nat.mul_one,add_mk,S.cell,Nat.zero_add,List.getElem?_map,hsg]; rfl
   rw [ig,dI,show (l.length:Int).toNat=l.length from rfl,List.take_of_length_le (by rw [List.length_drop]; exact Nat.le_refl _),← er]
   refine Gm (Nat.le_trans rl (by decide)) ?_
   rw [hdr] at hq
   unfold qgo at hq
   cases hp:ut r s with
   | true =>
    rw [hp,if_pos rfl] at hq
    rw [if_pos rfl,if_pos rfl]
    refine ⟨_,by rw [add_mk]; exact Q4.wr (by rw [o7]; omega),rfl,?_⟩
    rw [show (⟨h'.size,0,none⟩:Addr).add 1=⟨h'.size,1,none⟩ from by simp,show (⟨h'.size,0,none⟩:Addr).add 2=⟨h'.size,2,none⟩ from by simp]
    have Q5:Blk (setH h5 ⟨h'.size,1,none⟩ (.int .i64 j)) h'.size (az.cs ⟨ofL n,j,ByteArray.empty⟩) 174:=Q4.set
    refine ⟨_,Q5.wr (by rw [o7]; omega),rfl,?_⟩
    have Q6:Blk (setH (setH h5 ⟨h'.size,1,none⟩ (.int .i64 j)) ⟨h'.size,2,none⟩ (.string (ofL (r.drop s.length)))) h'.size (az.cs ⟨ofL n,j,ofL (r.drop s.length)⟩) 174:=Q5.set
    have oth:∀ g,g≠h'.size->(setH (setH h5 ⟨h'.size,1,none⟩ (.int .i64 j)) ⟨h'.size,2,none⟩ (.string (ofL (r.drop s.length))))[g]? = h5[g]?:=fun g hg=>(jL hg).trans (jL hg)
    have z6:(setH (setH h5 ⟨h'.size,1,none⟩ (.int .i64 j)) ⟨h'.size,2,none⟩ (.string (ofL (r.drop s.length)))).size=h5.size:=lv.trans lv
    generalize setH (setH h5 ⟨h'.size,1,none⟩ (.int .i64 j)) ⟨h'.size,2,none⟩ (.string (ofL (r.drop s.length)))=h6 at *
    have P6:=P4.old (oth h.size (by omega))
    have X6:Ext h.size h5 h6:=⟨by omega,fun g hg=>oth g (by omega)⟩
    refine ⟨_,ai.aL Q6,ofL n,by rw [Q6.cell]; rfl,Bt (Nat.le_trans nl (by decide)) ⟨ai.aL Q6,?_⟩⟩
    cases hn:cu n with
    | true =>
     rw [hn,Bool.true_and] at hq
     rw [if_pos rfl]
     refine ⟨ofL (r.drop s.length),by rw [Q6.cell]; rfl,Bt (by rw [List.length_drop]; omega) ⟨ai.aL Q6,?_⟩⟩
     unfold lF
     exact ans _ _ h6 X6 P6 (by rw [← hq]; rfl)
    | false =>
     rw [hn,Bool.false_and] at hq
     rw [if_neg (by simp)]
     unfold lF
     exact ans _ _ h6 X6 P6 (by rw [← hq]; rfl)
   | false =>
    rw [hp,if_neg (by simp)] at hq
    rw [if_neg (by simp),aA (by omega) (by omega)]
    exact ⟨⟨by omega,by omega,by rw [show (j + 1).toNat=j.toNat + 1 from by omega]; exact hq,rfl⟩,by dsimp only; omega⟩
  ·rw [if_neg (by rw [decide_eq_true_eq]; exact hj)]
   have:j=3:=by omega
   subst this
   refine ⟨_,ai.aL Q4,?_⟩
   exact ans _ _ h5 (Ext.refl _ _) P4 (by rw [← hq]; rfl)
 unfold vY
 rw [dI]
 by_cases hi:i < l.length
 ·rw [if_pos (by rw [decide_eq_true_eq]; exact hi)]
  have hx:l[i.toNat]? = some (l[i.toNat]'(by omega)):=by simp
  generalize l[i.toNat]'(by omega)=c at *
  refine ⟨_,i0,vM hx,Gd ?_⟩
  cases hc:aO c with
  | false=>exact g2 (.inr ⟨c,hx,hc⟩) _
  | true =>
   unfold jF
   rw [if_pos rfl,aA (by omega) (by omega)]
   refine ⟨_,rfl,⟨by omega,by omega,?_,rfl⟩,by dsimp only; omega⟩
   rw [show (i + 1).toNat=i.toNat + 1 from by omega,List.take_add_one,hx]
   simp [ha,hc]
 ·rw [if_neg (by rw [decide_eq_true_eq]; exact hi)]
  exact g2 (.inl (by omega)) _
/-! ### selectors -/
abbrev sN:af:=⟨ByteArray.empty,⟨none,0,0⟩⟩
def Cb:Nat->Tx->List QU->Option (List QU)
 | 0,_,_=>none
 | f + 1,rest,qs =>
  if (eF (jV rest 44).1).2=false∨qs.length=8 then none
  else if (jV rest 44).2.2=true then Cb f (jV rest 44).2.1 (qs ++ [(eF (jV rest 44).1).1]) else some (qs ++ [(eF (jV rest 44).1).1])
def sG (l:Tx):Option (Tx × List QU) :=
 if (jV l 123).1≠[]/\cu (jV l 123).1=false then none
 else if (jV l 123).2.2=false then some ((jV l 123).1,[])
 else if (xu (jV l 123).2.1 125).2=false then none
 else (Cb ((xu (jV l 123).2.1 125).1.length + 1) (xu (jV l 123).2.1 125).1 []).map fun qs=>((jV l 123).1,qs)
theorem Et (l:Tx) (c:UInt8):(jV l c).1.length<=l.length/\(jV l c).2.1.length<=l.length/\((jV l c).2.2=true->(jV l c).2.1.length < l.length):=by
 unfold jV
 by_cases hc:c∈l
 ·rw [if_pos hc]
  have:=congrArg List.length (AC c hc)
  rw [List.length_append,List.length_cons] at this
  dsimp only
  exact ⟨by omega,by omega,fun _=>by omega⟩
 ·rw [if_neg hc]; simp
theorem JV (l:Tx) (c:UInt8):(xu l c).1.length<=l.length:=by
 unfold xu; split <;> simp
theorem Be {l:Tx} {k:KP (af × Int)} {h:Heap} (hl:l.length<=100000000)
  (H0:∀ h',sG l=none->Ext h.size h h'->k (sN,4) h')
  (H1:∀ name qs s h',sG l=some (name,qs)->Row h.size h' 174 3 s (qs.flatMap qcs)->s.len=qs.length->Ext h.size h h'->k (⟨ofL name,s⟩,0) h'):je (ofL l) k h:=by
 unfold je
 refine ⟨_,_,rfl,rfl,?_⟩
 have P:=Blk.push h (af.cs sN) 139
 have W:=Ext.push h (.cells (af.cs sN).toArray 139) (Nat.le_refl _)
 have pl:=P.lt
 generalize h.push (.cells (af.cs sN).toArray 139)=h2 at *
 have z2:=W.size
 refine JQ (by omega) ?_
 obtain ⟨cl1,cl2,cl3⟩:=Et l 123
 obtain ⟨name,en⟩:∃ x,x=(jV l 123).1:=⟨_,rfl⟩
 obtain ⟨rest,er⟩:∃ x,x=(jV l 123).2.1:=⟨_,rfl⟩
 obtain ⟨some',es⟩:∃ x,x=(jV l 123).2.2:=⟨_,rfl⟩
 have hsel:sG l=if name≠[]/\cu name=false then none else if some'=false then some (name,[]) else if (xu rest 125).2=false then none else (Cb ((xu rest 125).1.length + 1) (xu rest 125).1 []).map fun qs=>(name,qs):=by
  rw [en,er,es]; rfl
 rw [← en,← er,← es]
 rw [← en] at cl1
 rw [← er] at cl2
 dsimp only
 refine ⟨_,_,rfl,rfl,?_⟩
 have Q:=Blk.push h2 (af.cs sN) 139
 have Q2:=Q.jW (vs:=af.cs ⟨ofL name,⟨none,0,0⟩⟩) rfl
 have W3:=(Ext.push h2 (.cells (af.cs sN).toArray 139) (Nat.le_refl _)).trans (Ext.sets _ (a:=⟨h2.size,0,none⟩) 0 (af.cs ⟨ofL name,⟨none,0,0⟩⟩) (Nat.le_refl _))
 refine ⟨_,aN.aL Q (by rw [Df]; omega),rfl,?_⟩
 generalize aM (h2.push (.cells (af.cs sN).toArray 139)) ⟨h2.size,0,none⟩ 0 (af.cs ⟨ofL name,⟨none,0,0⟩⟩)=h3 at *
 have z3:=W3.size
 have ql:=Q2.lt
 have P3:=P.ext W3 pl
 have X03:Ext h.size h h3:=W.trans (W3.mono z2)
 have bad:∀ h',Blk h' h.size (af.cs sN) 139->Ext h.size h h'->sG l=none->∃ h8:Heap,aN h' ⟨h.size,0,none⟩ 2/\h8=aM h' ⟨h.size,0,none⟩ 0 (af.cs sN)/\(∃ v9:af,ai h8 ⟨h.size,0,none⟩ (af.cs v9)/\k (v9,4) h8):=fun h' P' X' hn =>
  ⟨_,aN.aL P' (by rw [Df]; omega),rfl,_,ai.aL (P'.jW (vs:=af.cs sN) rfl),H0 _ hn (X'.trans (Ext.sets _ _ _ (Nat.le_refl _)))⟩
 have good:∀ h' s qs,Blk h' h.size (af.cs sN) 139->Ext h.size h h'->Blk h' h2.size (af.cs ⟨ofL name,s⟩) 139->Row (h2.size + 1) h' 174 3 s (qs.flatMap qcs)->s.len=qs.length->sG l=some (name,qs) ->
   ∃ v10:af,ai h' ⟨h2.size,0,none⟩ (af.cs v10)/\(∃ h11:Heap,aN h' ⟨h.size,0,none⟩ 2/\h11=aM h' ⟨h.size,0,none⟩ 0 (af.cs v10)/\(∃ v12:af,ai h11 ⟨h.size,0,none⟩ (af.cs v12)/\k (v12,0) h11)):=fun h' s qs P' X' Q' R' sl hs=>by
  refine ⟨_,ai.aL Q',_,aN.aL P' (by rw [Df]; omega),rfl,_,ai.aL (P'.jW (vs:=af.cs ⟨ofL name,s⟩) rfl),?_⟩
  exact H1 name qs s _ hs ((R'.keep fun g hg=>lV _ _ (by have:=(R'.bd hg).1; dsimp only; omega)).mono (by omega)) sl (X'.trans (Ext.sets _ _ _ (Nat.le_refl _)))
 have g1:∀ b,b=decide (name≠[]/\cu name=false)->lZ ⟨h.size,0,none⟩ (ofL rest) some' ⟨h2.size,0,none⟩ b k h3:=fun b hb=>by
  unfold lZ
  by_cases hw:name≠[]/\cu name=false
  ·rw [hb,if_pos (by simpa using hw)]
   exact bad h3 P3 X03 (by rw [hsel,if_pos hw])
  rw [hb,if_neg (by simpa using hw)]
  rw [if_neg hw] at hsel
  cases hs':some' with
  | false =>
   rw [if_pos (by simp)]
   rw [hs',if_pos rfl] at hsel
   exact good h3 ⟨none,0,0⟩ [] P3 X03 Q2 (Row.nil _ _ _ _) rfl hsel
  | true =>
   rw [if_neg (by simp)]
   rw [hs',if_neg (by simp)] at hsel
   refine Gl (by omega) ?_
   have sl:=JV rest 125
   obtain ⟨r0,er0⟩:∃ x,x=(xu rest 125).1:=⟨_,rfl⟩
   obtain ⟨ok0,eok⟩:∃ x,x=(xu rest 125).2:=⟨_,rfl⟩
   rw [← er0,← eok] at hsel
   rw [← er0] at sl
   rw [← er0,← eok]
   refine ⟨fun q h'=>∃ s qs rl,Blk h' h.size (af.cs sN) 139/\Blk h' h2.size (af.cs ⟨ofL name,s⟩) 139/\Row (h2.size + 1) h' 174 3 s (qs.flatMap qcs)/\s.len=qs.length/\qs.length<=8/\q.1=ofL rl/\rl.length<=100000000/\Ext h.size h h' /\
     ((q.2.1=false/\sG l=none)∨(q.2.1=true/\q.2.2=true/\∃ f,rl.length < f/\(Cb f rl qs).map (fun qs=>(name,qs))=sG l)∨(q.2.1=true/\q.2.2=false/\sG l=some (name,qs))),
    fun q _=>if q.2.2=true then q.1.size + 1 else 0,⟨⟨none,0,0⟩,[],r0,P3,Q2,Row.nil _ _ _ _,rfl,by simp,rfl,by omega,X03,?_⟩,?_⟩
   ·cases hok:ok0 with
    | false=>rw [hok,if_pos rfl] at hsel; exact .inl ⟨rfl,hsel⟩
    | true=>rw [hok,if_neg (by simp)] at hsel; exact .inr (.inl ⟨rfl,rfl,r0.length + 1,by omega,hsel.symm⟩)
   rintro t5 t8 t9 h' ⟨s,qs,rl,P',Q',R',sl',q8,et,rl8,X',C⟩
   dsimp only at et C
   subst et
   have z':=X'.size
   have p':=P'.lt
   have q':=Q'.lt
   unfold vV
   have j2f:fB ⟨h.size,0,none⟩ ⟨h2.size,0,none⟩ false k h'∨sG l≠none:=by
    by_cases hn:sG l=none
    ·left; unfold fB; rw [if_pos (by simp)]; exact bad h' P' X' hn
    ·exact .inr hn
   rcases C with ⟨c1,c2⟩ | ⟨c1,c2,f,hf,hgo⟩ | ⟨c1,c2,hgo⟩
   ·subst c1
    rw [if_neg (by simp)]
    exact j2f.resolve_right fun hh=>hh c2
   ·subst c1; subst c2
    rw [if_pos (by simp)]
    obtain ⟨f,rfl⟩:∃ g,f=g + 1:=⟨f - 1,by omega⟩
    unfold Cb at hgo
    obtain ⟨d1,d2,d3⟩:=Et rl 44
    refine JQ (by omega) ?_
    dsimp only
    refine H8 (by omega) fun h4 X4=>?_
    obtain ⟨x,ex⟩:∃ x,x=(eF (jV rl 44).1).1:=⟨_,rfl⟩
    obtain ⟨fit,ef⟩:∃ x,x=(eF (jV rl 44).1).2:=⟨_,rfl⟩
    obtain ⟨r2,er2⟩:∃ x,x=(jV rl 44).2.1:=⟨_,rfl⟩
    obtain ⟨more,em⟩:∃ x,x=(jV rl 44).2.2:=⟨_,rfl⟩
    rw [← ex,← ef,← er2,← em] at hgo
    rw [← er2,← em] at d3
    rw [← er2] at d2
    rw [← ex,← ef,← er2,← em]
    have z4:=X4.size
    refine ⟨_,_,rfl,rfl,?_⟩
    have T:=Blk.push h4 (az.cs ⟨ByteArray.empty,0,ByteArray.empty⟩) 174
    have T2:=T.jW (vs:=az.cs (qst x)) rfl
    have W5:=(Ext.push h4 (.cells (az.cs ⟨ByteArray.empty,0,ByteArray.empty⟩).toArray 174) (Nat.le_refl _)).trans (Ext.sets _ (a:=⟨h4.size,0,none⟩) 0 (az.cs (qst x)) (Nat.le_refl _))
    refine ⟨_,aN.aL T (by rw [o7]; omega),rfl,?_⟩
    generalize aM (h4.push (.cells (az.cs ⟨ByteArray.empty,0,ByteArray.empty⟩).toArray 174)) ⟨h4.size,0,none⟩ 0 (az.cs (qst x))=h5 at *
    have z5:=W5.size
    have X45:Ext h'.size h' h5:=X4.trans (W5.mono z4)
    have P5:=P'.ext X45 p'
    have Q5:=Q'.ext X45 q'
    have R5:=R'.ext X45 fun g hg=>(R'.bd hg).2
    have X05:Ext h.size h h5:=X'.trans (X45.mono z')
    have no:sG l=none->fB ⟨h.size,0,none⟩ ⟨h2.size,0,none⟩ false k h5:=fun hn=>by
     unfold fB; rw [if_pos (by simp)]; exact bad h5 P5 X05 hn
    cases hfit:fit with
    | false =>
     rw [if_pos (by simp)]
     rw [hfit,if_pos (.inl rfl)] at hgo
     unfold lK
     rw [if_pos rfl]
     exact no (by rw [← hgo]; rfl)
    | true =>
     rw [if_neg (by simp)]
     have c5:ah h5 ((⟨h2.size,0,none⟩:Addr).add 1)=some (Slc.v s):=by rw [add_mk,Q5.cell]; rfl
     refine ⟨s,c5,?_⟩
     unfold lK
     by_cases h8:qs.length=8
     ·rw [if_pos (by rw [beq_iff_eq]; omega)]
      rw [hfit,if_pos (.inr h8)] at hgo
      exact no (by rw [← hgo]; rfl)
     rw [if_neg (by rw [beq_iff_eq]; omega)]
     rw [hfit,if_neg (by simpa using h8)] at hgo
     refine ⟨s,c5,qst x,ai.aL T2,_,_,rfl,rfl,?_⟩
     refine App.row (R5.pushed _) (by simp; omega) rfl rfl (yV (by kernel_rfl)) (by omega) (by simp only [maxLen]; omega) fun s' h6 R6 l6 z6 F6 _=>?_
     simp at z6
     have F:∀ g,g < h5.size->s.blk≠some g->h6[g]? = h5[g]?:=fun g hg hs=>by rw [F6 g (by simp; omega) hs,Array.getElem?_push,if_neg (by omega)]
     have ns:∀ g,g<=h2.size->s.blk≠some g:=fun g hg e=>by have:=(R5.bd e).1; omega
     have P6:Blk h6 h.size (af.cs sN) 139:=P5.old (F h.size (by omega) (ns _ (by omega)))
     have Q6:Blk h6 h2.size (af.cs ⟨ofL name,s⟩) 139:=Q5.old (F h2.size (by omega) (ns _ (Nat.le_refl _)))
     refine ⟨_,by rw [add_mk]; exact Q6.wr (by rw [Df]; omega),rfl,?_⟩
     rw [show (⟨h2.size,0,none⟩:Addr).add 1=⟨h2.size,1,none⟩ from by simp]
     have Q7:Blk (setH h6 ⟨h2.size,1,none⟩ (Slc.v s')) h2.size (af.cs ⟨ofL name,s'⟩) 139:=Q6.set
     have oth:∀ g,g≠h2.size->(setH h6 ⟨h2.size,1,none⟩ (Slc.v s'))[g]? = h6[g]?:=fun g hg=>jL hg
     have z7:(setH h6 ⟨h2.size,1,none⟩ (Slc.v s')).size=h6.size:=lv
     generalize setH h6 ⟨h2.size,1,none⟩ (Slc.v s')=h7 at *
     refine ⟨⟨s',qs ++ [x],r2,P6.old (oth _ (by omega)),Q7,?_,by rw [l6,List.length_append]; simp; omega,by rw [List.length_append]; simp; omega,rfl,by omega,X05.trans ⟨by omega,fun g hg=>by rw [oth g (by omega),F g (by omega) (ns g (by omega))]⟩,?_⟩,?_⟩
     ·have:=R6.keep fun g hg=>oth g (by have:=(R6.bd hg).1; omega)
      rw [List.flatMap_append]
      simpa [qcs] using this
     ·cases hm:more with
      | true =>
       rw [hm,if_pos rfl] at hgo
       exact .inr (.inl ⟨rfl,rfl,f,by have:=d3 hm; omega,hgo⟩)
      | false =>
       rw [hm,if_neg (by simp)] at hgo
       exact .inr (.inr ⟨rfl,rfl,hgo.symm⟩)
     ·dsimp only
      rw [dI,dI,if_pos rfl]
      cases hm:more with
      | true=>rw [if_pos rfl]; have:=d3 hm; omega
      | false=>rw [if_neg (by simp)]; omega
   ·subst c1; subst c2
    rw [if_neg (by simp)]
    unfold fB
    rw [if_neg (by simp)]
    exact good h' s qs P' X' Q' R' sl' hgo
 have nempty:(ofL name).toList == (⟨#[]⟩:ByteArray).toList ↔ name=[]:=by
  rw [gz,show (⟨#[]⟩:ByteArray).toList=[] from gz []]; simp
 by_cases hn:name=[]
 ·rw [if_neg (by rw [Bool.not_eq_true',Bool.not_eq_false]; exact nempty.2 hn)]
  exact g1 _ (by simp [hn])
 ·rw [if_pos (by
   rw [Bool.not_eq_true']
   cases hh:((ofL name).toList == (⟨#[]⟩:ByteArray).toList) with
   | false=>rfl
   | true=>exact absurd (nempty.1 hh) hn)]
  refine Bt (by omega) (g1 _ ?_)
  cases hw:cu name <;> simp [hn,hw]
end Go.Q.Yq
end
section
namespace Go.Q.Yq
/-! ### series -/
abbrev LU:=Tx × Tx
def lst (x:LU):aD:=⟨ofL x.1,ofL x.2⟩
def lcs (x:LU):List Value:=aD.cs (lst x)
theorem vH (x:aD):(aD.cs x).length=2:=rfl
theorem BJ (x:ay):(ay.cs x).length=2:=rfl
abbrev Dy:ay:=⟨ByteArray.empty,⟨none,0,0⟩⟩
def xm:Option Tx->List LU->Bool
 | _,[]=>true
 | prev,l :: r=>if cu l.1=true then if cu l.2=true then if (match prev with | none=>true | some p=>Op.bytesLess p l.1)=true then xm (some l.1) r else false else false else false
theorem FR (prev:Option Tx) (l:LU) (r:List LU):xm prev (l :: r)=if cu l.1=true then if cu l.2=true then if (match prev with | none=>true | some p=>Op.bytesLess p l.1)=true then xm (some l.1) r else false else false else false:=rfl
def yo (name:Tx) (ls:List LU):Bool:=if cu name=true then if ls.length > 8 then false else xm none ls else false
def uZ (ls:List LU) (i:Nat):Option Tx:=if i=0 then none else (ls[i - 1]?).map (·.1)
def okL (ls:List LU):Prop:=∀ x∈ls,x.1.length<=9223372036854775807/\x.2.length<=9223372036854775807
theorem Kb {name:Tx} {s:Slc} {ls:List LU} {k:KP Int} {h:Heap} (L:LsAt aD.cs 2 h s (ls.map lst)) (nl:name.length<=9223372036854775807) (ok:okL ls) (hm:s.len<=4611686018427387904)
  (H:∀ h',Ext h.size h h'->k (if yo name ls=true then 0 else 1) h'):yn ⟨ofL name,s⟩ k h:=by
 have sl:s.len=ls.length:=by have:=L.l; simpa using this
 unfold yn
 refine ⟨_,_,rfl,rfl,?_⟩
 have P:=Blk.push h (ay.cs ⟨ofL name,s⟩) 147
 have W:=Ext.push h (.cells (ay.cs ⟨ofL name,s⟩).toArray 147) (Nat.le_refl _)
 have pl:=P.lt
 generalize h.push (.cells (ay.cs ⟨ofL name,s⟩).toArray 147)=h2 at *
 have z2:=W.size
 have cs:∀ {h'},Blk h' h.size (ay.cs ⟨ofL name,s⟩) 147->ah h' ((⟨h.size,0,none⟩:Addr).add 1)=some (Slc.v s):=fun K=>by rw [add_mk,K.cell]; rfl
 refine ⟨ofL name,by rw [P.cell]; rfl,Bt nl ?_⟩
 unfold yo at H
 have fin:=H h2 W
 cases hw:cu name with
 | false =>
  rw [if_pos (by simp)]
  unfold oN
  rw [if_pos rfl]
  rw [hw,if_neg (by simp)] at fin; exact fin
 | true =>
  rw [if_neg (by simp)]
  simp only [hw,if_true] at H fin
  refine ⟨s,cs P,?_⟩
  unfold oN
  by_cases h8:ls.length > 8
  ·rw [if_pos (by rw [decide_eq_true_eq]; omega)]
   rw [if_pos h8,if_neg (by simp)] at fin; exact fin
  rw [if_neg (by rw [decide_eq_true_eq]; omega)]
  simp only [if_neg h8] at H
  refine ⟨s,cs P,?_⟩
  refine ⟨fun i h'=>0<=i/\i<=ls.length/\xm (uZ ls i.toNat) (ls.drop i.toNat)=xm none ls/\Ext h2.size h2 h',fun i _=>(ls.length - i).toNat,⟨by omega,by omega,rfl,Ext.refl _ _⟩,?_⟩
  rintro i h3 ⟨i0,i1,hc,X⟩
  have z3:=X.size
  have P3:=P.ext X pl
  have L3:=(L.ext W).ext X
  have X03:Ext h.size h h3:=W.trans (X.mono z2)
  unfold Am
  by_cases hi:i < ls.length
  ·rw [if_pos (by rw [decide_eq_true_eq]; omega)]
   have hx:ls[i.toNat]? = some (ls[i.toNat]'(by omega)):=by simp
   have hd:ls.drop i.toNat=(ls[i.toNat]'(by omega)) :: ls.drop (i.toNat + 1):=List.drop_eq_getElem_cons (by omega)
   generalize ls[i.toNat]'(by omega)=x at *
   obtain ⟨ok1,ok2⟩:=ok x (List.mem_of_getElem? hx)
   obtain ⟨a,ha,C⟩:=L3.at' i.toNat (lst x) (by rw [List.getElem?_map,hx]; rfl)
   refine ⟨a,ha,i0,by omega,lst x,C,_,_,rfl,rfl,?_⟩
   have T:=Blk.push h3 (aD.cs ⟨ByteArray.empty,ByteArray.empty⟩) 178
   have T2:=T.jW (vs:=aD.cs (lst x)) rfl
   have W5:=(Ext.push h3 (.cells (aD.cs ⟨ByteArray.empty,ByteArray.empty⟩).toArray 178) (Nat.le_refl _)).trans (Ext.sets _ (a:=⟨h3.size,0,none⟩) 0 (aD.cs (lst x)) (Nat.le_refl _))
   refine ⟨_,aN.aL T (by rw [vH]; omega),rfl,?_⟩
   generalize aM (h3.push (.cells (aD.cs ⟨ByteArray.empty,ByteArray.empty⟩).toArray 178)) ⟨h3.size,0,none⟩ 0 (aD.cs (lst x))=h5 at *
   have z5:=W5.size
   have P5:=P3.ext W5 P3.lt
   have L5:=L3.ext W5
   have X5:Ext h2.size h2 h5:=X.trans (W5.mono z3)
   have X05:Ext h.size h h5:=W.trans (X5.mono z2)
   rw [hd] at hc
   rw [FR] at hc
   have F:=H h5 X05
   have j3:∀ b:Bool,(b=true->xm none ls=false)->(b=false->xm (some x.1) (ls.drop (i.toNat + 1))=xm none ls)->gu ⟨h.size,0,none⟩ s (s.len:Int) i b k (fun q h'=>(0<=q/\q<=(ls.length:Int)/\xm (uZ ls q.toNat) (ls.drop q.toNat)=xm none ls/\Ext h2.size h2 h')/\((ls.length:Int) - q).toNat < ((ls.length:Int) - i).toNat) h5:=fun b b1 b2=>by
    unfold gu
    cases b with
    | true =>
     rw [if_pos rfl]
     rw [b1 rfl,if_neg (by simp)] at F; exact F
    | false =>
     rw [if_neg (by simp),aA (by omega) (by omega)]
     refine ⟨⟨by omega,by omega,?_,X5⟩,by omega⟩
     rw [show (i + 1).toNat=i.toNat + 1 from by omega]
     have:uZ ls (i.toNat + 1)=some x.1:=by unfold uZ; rw [if_neg (by omega),show i.toNat + 1 - 1=i.toNat from by omega,hx]; rfl
     rw [this]; exact b2 rfl
   refine ⟨ofL x.1,by rw [T2.cell]; rfl,Bt ok1 ?_⟩
   cases hw1:cu x.1 with
   | false =>
    rw [hw1,if_neg (by simp)] at hc
    rw [if_pos (by simp),if_pos rfl]
    exact j3 true (fun _=>hc.symm) (fun h=>by cases h)
   | true =>
    rw [hw1,if_pos rfl] at hc
    rw [if_neg (by simp)]
    refine ⟨ofL x.2,by rw [add_mk,T2.cell]; rfl,Bt ok2 ?_⟩
    cases hw2:cu x.2 with
    | false =>
     rw [hw2,if_neg (by simp)] at hc
     rw [if_pos (by simp)]
     exact j3 true (fun _=>hc.symm) (fun h=>by cases h)
    | true =>
     rw [hw2,if_pos rfl] at hc
     rw [if_neg (by simp)]
     by_cases hi0:i > 0
     ·rw [if_pos (by simpa using hi0)]
      refine ⟨s,cs P5,?_⟩
      rw [aA (x:=i - 1) (by omega) (by omega)]
      have hy:ls[i.toNat - 1]? = some (ls[i.toNat - 1]'(by omega)):=by simp
      generalize ls[i.toNat - 1]'(by omega)=y at *
      have pv:uZ ls i.toNat=some y.1:=by unfold uZ; rw [if_neg (by omega),hy]; rfl
      rw [pv] at hc
      obtain ⟨a2,ha2,C2⟩:=L5.at' (i.toNat - 1) (lst y) (by rw [List.getElem?_map,hy]; rfl)
      have c0:=C2 0 (.string (ofL y.1)) rfl
      rw [show (a2.add ((i.toNat - 1) * 2)).add 0=a2.add ((i.toNat - 1) * 2) from by simp [Addr.add]] at c0
      refine ⟨a2,ha2,by omega,by omega,ofL y.1,by rw [show (i - 1).toNat=i.toNat - 1 from by omega]; exact c0,ofL x.1,by rw [T2.cell]; rfl,?_⟩
      rw [gz,gz]
      have hc2:(if Op.bytesLess y.1 x.1=true then xm (some x.1) (ls.drop (i.toNat + 1)) else false)=xm none ls:=hc
      refine j3 _ (fun hb=>?_) fun hb=>?_
      ·rw [Bool.not_eq_true'] at hb
       rw [hb,if_neg (by simp)] at hc2; exact hc2.symm
      ·rw [Bool.not_eq_false'] at hb
       rw [hb,if_pos rfl] at hc2; exact hc2
     ·rw [if_neg (by simpa using hi0)]
      have pv:uZ ls i.toNat=none:=by unfold uZ; rw [if_pos (by omega)]
      rw [pv] at hc
      exact j3 false (fun h=>by cases h) fun _=>hc
  ·rw [if_neg (by rw [decide_eq_true_eq]; omega)]
   have hd:ls.drop i.toNat=[]:=List.drop_of_length_le (by omega)
   rw [hd] at hc
   have F:=H h3 X03
   rw [← hc] at F
   exact F
def p8 (l:Tx):Option (Tx × List LU) :=
 match sG l with
 | none=>none
 | some (name,qs)=>if (qs.any fun x=>x.2.1 != 0)=true then none else if yo name (qs.map fun x=>(x.1,x.2.2))=true then some (name,qs.map fun x=>(x.1,x.2.2)) else none
theorem q_len (l:Tx):(eF l).1.1.length<=l.length/\(eF l).1.2.2.length<=l.length:=by
 have key:∀ (n r:Tx) (j:Int) (ss:List Tx),n.length<=l.length->r.length<=l.length->(qgo n r j ss).1.1.length<=l.length/\(qgo n r j ss).1.2.2.length<=l.length:=by
  intro n r j ss hn hr
  induction ss generalizing j with
  | nil=>exact ⟨hn,Nat.zero_le _⟩
  | cons s ss ih =>
   unfold qgo
   split
   ·exact ⟨hn,by dsimp only; rw [List.length_drop]; omega⟩
   ·exact ih _
 have h1:l.takeWhile aO ++ l.dropWhile aO=l:=List.takeWhile_append_dropWhile
 have:=congrArg List.length h1
 rw [List.length_append] at this
 exact key _ _ _ _ (by omega) (by omega)
theorem FK:∀ (f:Nat) (rest:Tx) (qs out:List QU) (N:Nat),rest.length<=N->(∀ x∈qs,x.1.length<=N/\x.2.2.length<=N)->qs.length<=8->Cb f rest qs=some out->(∀ x∈out,x.1.length<=N/\x.2.2.length<=N)/\out.length<=8
 | 0,_,_,_,_,_,_,_,h=>by cases h
 | f + 1,rest,qs,out,N,hr,hq,q8,h=>by
  unfold Cb at h
  obtain ⟨d1,d2,_⟩:=Et rest 44
  have ql:=q_len (jV rest 44).1
  have hq':∀ x∈qs ++ [(eF (jV rest 44).1).1],x.1.length<=N/\x.2.2.length<=N:=fun x hx=>by
   rcases List.mem_append.1 hx with hx | hx
   ·exact hq x hx
   ·simp at hx; subst hx; exact ⟨by omega,by omega⟩
  split at h
  ·cases h
  ·rename_i hc
   have h8:qs.length≠8:=fun e=>hc (.inr e)
   split at h
   ·exact FK f _ _ out N (by omega) hq' (by rw [List.length_append]; simp; omega) h
   ·cases h
    refine ⟨hq',?_⟩
    rw [List.length_append]; simp; omega
theorem Dg {l name:Tx} {qs:List QU} (h:sG l=some (name,qs)):name.length<=l.length/\(∀ x∈qs,x.1.length<=l.length/\x.2.2.length<=l.length)/\qs.length<=8:=by
 unfold sG at h
 obtain ⟨d1,d2,_⟩:=Et l 123
 split at h
 ·cases h
 ·split at h
  ·cases h; exact ⟨d1,by simp,by simp⟩
  ·split at h
   ·cases h
   ·cases hg:Cb ((xu (jV l 123).2.1 125).1.length + 1) (xu (jV l 123).2.1 125).1 [] with
    | none=>rw [hg] at h; cases h
    | some out =>
     rw [hg] at h; cases h
     have:=JV (jV l 123).2.1 125
     have:=FK _ _ _ _ l.length (by omega) (by simp) (by simp) hg
     exact ⟨d1,this.1,by have:=this.2; simpa using this⟩
theorem KE {l:Tx} {k:KP (ay × Int)} {h:Heap} (hl:l.length<=100000000)
  (H0:∀ h',p8 l=none->Ext h.size h h'->k (Dy,4) h')
  (H1:∀ name ls s h',p8 l=some (name,ls)->Row h.size h' 178 2 s (ls.flatMap lcs)->s.len=ls.length->Ext h.size h h'->k (⟨ofL name,s⟩,0) h'):tY (ofL l) k h:=by
 unfold tY
 refine ⟨_,_,rfl,rfl,?_⟩
 have P:=Blk.push h (ay.cs Dy) 147
 have W:=Ext.push h (.cells (ay.cs Dy).toArray 147) (Nat.le_refl _)
 have pl:=P.lt
 generalize h.push (.cells (ay.cs Dy).toArray 147)=h2 at *
 have z2:=W.size
 -- what comes of a selector
 have go:∀ (name:Tx) (qs:List QU) (sq:Slc) (e0:Int) (h4:Heap),Row h2.size h4 174 3 sq (qs.flatMap qcs)->sq.len=qs.length->Ext h2.size h2 h4->name.length<=100000000->(∀ x∈qs,x.1.length<=100000000/\x.2.2.length<=100000000)->qs.length<=8->(e0=0∨e0=4) ->
   p8 l=(if e0≠0 then none else if (qs.any fun x=>x.2.1 != 0)=true then none else if yo name (qs.map fun x=>(x.1,x.2.2))=true then some (name,qs.map fun x=>(x.1,x.2.2)) else none) ->
   ∃ (b5:Nat) (h6:Heap),b5=h4.size/\h6=h4.push (.cells (af.cs sN).toArray 139)/\(∃ h7:Heap,aN h6 (⟨b5,0,none⟩:Addr) 2/\h7=aM h6 (⟨b5,0,none⟩:Addr) 0 (af.cs ⟨ofL name,sq⟩)/\(∃ v8:ByteArray,ah h7 (⟨b5,0,none⟩:Addr)=some (.string v8)/\(∃ (b9:Nat) (h10:Heap),b9=h7.size/\h10=h7.push (.cells (ay.cs Dy).toArray 147)/\(∃ h11:Heap,aN h10 (⟨b9,0,none⟩:Addr) 2/\h11=aM h10 (⟨b9,0,none⟩:Addr) 0 (ay.cs (⟨v8,(⟨none,0,0⟩:Slc)⟩:ay))/\(∃ v12:Slc,ah h11 ((⟨b5,0,none⟩:Addr).add 1)=some (Slc.v v12)/\(Ba (⟨h.size,0,none⟩:Addr) (⟨b9,0,none⟩:Addr) v12 (v12.len:Int) e0 0 k h11)))))):=by
  intro name qs sq e0 h4 Rq sql X4 nl ql q8 he hp
  have z4:=X4.size
  have P4:=P.ext X4 pl
  refine ⟨_,_,rfl,rfl,?_⟩
  have Q:=Blk.push h4 (af.cs sN) 139
  have Q2:=Q.jW (vs:=af.cs ⟨ofL name,sq⟩) rfl
  have W5:=(Ext.push h4 (.cells (af.cs sN).toArray 139) (Nat.le_refl _)).trans (Ext.sets _ (a:=⟨h4.size,0,none⟩) 0 (af.cs ⟨ofL name,sq⟩) (Nat.le_refl _))
  refine ⟨_,aN.aL Q (by rw [Df]; omega),rfl,?_⟩
  generalize aM (h4.push (.cells (af.cs sN).toArray 139)) ⟨h4.size,0,none⟩ 0 (af.cs ⟨ofL name,sq⟩)=h5 at *
  have z5:=W5.size
  have ql5:=Q2.lt
  refine ⟨ofL name,by rw [Q2.cell]; rfl,_,_,rfl,rfl,?_⟩
  have S:=Blk.push h5 (ay.cs Dy) 147
  have S2:=S.jW (vs:=ay.cs ⟨ofL name,⟨none,0,0⟩⟩) rfl
  have W6:=(Ext.push h5 (.cells (ay.cs Dy).toArray 147) (Nat.le_refl _)).trans (Ext.sets _ (a:=⟨h5.size,0,none⟩) 0 (ay.cs ⟨ofL name,⟨none,0,0⟩⟩) (Nat.le_refl _))
  refine ⟨_,aN.aL S (by rw [BJ]; omega),rfl,?_⟩
  generalize aM (h5.push (.cells (ay.cs Dy).toArray 147)) ⟨h5.size,0,none⟩ 0 (ay.cs ⟨ofL name,⟨none,0,0⟩⟩)=h6 at *
  have z6:=W6.size
  have sl6:=S2.lt
  have Q6:=Q2.ext W6 ql5
  refine ⟨sq,by rw [add_mk,Q6.cell]; rfl,?_⟩
  have X46:Ext h4.size h4 h6:=W5.trans (W6.mono z5)
  have P6:=P4.ext X46 P4.lt
  have Rq6:=Rq.ext X46 fun g hg=>(Rq.bd hg).2
  have X06:Ext h.size h h6:=W.trans ((X4.trans (X46.mono z4)).mono z2)
  have g3:∀ (b:Bool) (s:Slc) (h':Heap) nx,Blk h' h.size (ay.cs Dy) 147->Ext h.size h h'->(b=true->p8 l=none)->(b=false->Blk h' h5.size (ay.cs ⟨ofL name,s⟩) 147/\Row (h5.size + 1) h' 178 2 s ((qs.map fun x=>(x.1,x.2.2)).flatMap lcs)/\s.len=qs.length/\p8 l=some (name,qs.map fun x=>(x.1,x.2.2))) ->
    oP ⟨h.size,0,none⟩ ⟨h5.size,0,none⟩ b k nx h':=fun b s h' nx P' X' b1 b2=>by
   unfold oP
   cases b with
   | true =>
    rw [if_pos rfl]
    exact ⟨_,aN.aL P' (by rw [BJ]; omega),rfl,_,ai.aL (P'.jW (vs:=ay.cs Dy) rfl),H0 _ (b1 rfl) (X'.trans (Ext.sets _ _ _ (Nat.le_refl _)))⟩
   | false =>
    obtain ⟨S',R',sl',hp'⟩:=b2 rfl
    rw [if_neg (by simp)]
    refine ⟨_,ai.aL S',_,aN.aL P' (by rw [BJ]; omega),rfl,_,ai.aL (P'.jW (vs:=ay.cs ⟨ofL name,s⟩) rfl),?_⟩
    exact H1 name _ s _ hp' ((R'.keep fun g hg=>lV _ _ (by have:=(R'.bd hg).1; dsimp only; omega)).mono (by omega)) (by rw [List.length_map]; exact sl') (X'.trans (Ext.sets _ _ _ (Nat.le_refl _)))
  refine ⟨fun q h'=>∃ s,0<=q.2/\q.2<=qs.length/\Blk h' h.size (ay.cs Dy) 147/\Blk h' h5.size (ay.cs ⟨ofL name,s⟩) 147/\Row (h5.size + 1) h' 178 2 s (((qs.take q.2.toNat).map fun x=>(x.1,x.2.2)).flatMap lcs)/\s.len=q.2.toNat/\Row h2.size h' 174 3 sq (qs.flatMap qcs)/\Ext h.size h h' /\
    q.1=(if ((qs.take q.2.toNat).any fun x=>x.2.1 != 0)=true then 4 else e0),fun q _=>(qs.length - q.2).toNat,⟨⟨none,0,0⟩,by dsimp only; omega,by dsimp only; omega,P6,S2,by simpa using Row.nil _ _ _ _,rfl,Rq6,X06,by simp⟩,?_⟩
  rintro e i h' ⟨s,i0,i1,P',S',R',sl',Rq',X',ee⟩
  dsimp only at i0 i1 R' sl' ee
  have z':=X'.size
  have p':=P'.lt
  have s':=S'.lt
  unfold Ai
  by_cases hi:i < qs.length
  ·rw [if_pos (by rw [decide_eq_true_eq]; omega)]
   have hx:qs[i.toNat]? = some (qs[i.toNat]'(by omega)):=by simp
   generalize qs[i.toNat]'(by omega)=x at *
   have Lq:LsAt az.cs 3 h' sq (qs.map qst):=LsAt.MM o7 (by rw [List.flatMap_map]; exact Rq'.slc) (by rw [List.length_map]; exact sql) (by omega)
   obtain ⟨a,ha,C⟩:=Lq.at' i.toNat (qst x) (by rw [List.getElem?_map,hx]; rfl)
   refine ⟨a,ha,i0,by omega,qst x,C,_,_,rfl,rfl,?_⟩
   have T:=Blk.push h' (az.cs ⟨ByteArray.empty,0,ByteArray.empty⟩) 174
   have T2:=T.jW (vs:=az.cs (qst x)) rfl
   have W7:=(Ext.push h' (.cells (az.cs ⟨ByteArray.empty,0,ByteArray.empty⟩).toArray 174) (Nat.le_refl _)).trans (Ext.sets _ (a:=⟨h'.size,0,none⟩) 0 (az.cs (qst x)) (Nat.le_refl _))
   refine ⟨_,aN.aL T (by rw [o7]; omega),rfl,?_⟩
   generalize aM (h'.push (.cells (az.cs ⟨ByteArray.empty,0,ByteArray.empty⟩).toArray 174)) ⟨h'.size,0,none⟩ 0 (az.cs (qst x))=h7 at *
   have z7:=W7.size
   have P7:=P'.ext W7 p'
   have S7:=S'.ext W7 s'
   have R7:=R'.ext W7 fun g hg=>(R'.bd hg).2
   have Rq7:=Rq'.ext W7 fun g hg=>(Rq'.bd hg).2
   have X7:Ext h.size h h7:=X'.trans (W7.mono z')
   have j2:∀ e',e'=(if ((qs.take (i.toNat + 1)).any fun x=>x.2.1 != 0)=true then 4 else e0)->pF ⟨h.size,0,none⟩ ⟨h5.size,0,none⟩ ⟨h'.size,0,none⟩ sq (sq.len:Int) i e' k (fun q h''=>(∃ s,0<=q.2/\q.2<=(qs.length:Int)/\Blk h'' h.size (ay.cs Dy) 147/\Blk h'' h5.size (ay.cs ⟨ofL name,s⟩) 147/\Row (h5.size + 1) h'' 178 2 s (((qs.take q.2.toNat).map fun x=>(x.1,x.2.2)).flatMap lcs)/\s.len=q.2.toNat/\Row h2.size h'' 174 3 sq (qs.flatMap qcs)/\Ext h.size h h'' /\
     q.1=(if ((qs.take q.2.toNat).any fun x=>x.2.1 != 0)=true then 4 else e0))/\((qs.length:Int) - q.2).toNat < ((qs.length:Int) - i).toNat) h7:=fun e' he'=>by
    unfold pF
    refine ⟨s,by rw [add_mk,S7.cell]; rfl,ofL x.1,by rw [T2.cell]; rfl,ofL x.2.2,by rw [add_mk,T2.cell]; rfl,_,_,rfl,rfl,?_⟩
    refine App.row (R7.pushed _) (by simp; omega) rfl rfl (yV (by kernel_rfl)) (by omega) (by simp only [maxLen]; omega) fun s'' h8 R8 l8 z8 F8 _=>?_
    simp at z8
    have F:∀ g,g < h7.size->s.blk≠some g->h8[g]? = h7[g]?:=fun g hg hs=>by rw [F8 g (by simp; omega) hs,Array.getElem?_push,if_neg (by omega)]
    have ns:∀ g,g<=h5.size->s.blk≠some g:=fun g hg e=>by have:=(R7.bd e).1; omega
    have P8:Blk h8 h.size (ay.cs Dy) 147:=P7.old (F h.size (by omega) (ns _ (by omega)))
    have S8:Blk h8 h5.size (ay.cs ⟨ofL name,s⟩) 147:=S7.old (F h5.size (by omega) (ns _ (Nat.le_refl _)))
    refine ⟨_,by rw [add_mk]; exact S8.wr (by rw [BJ]; omega),rfl,?_⟩
    rw [show (⟨h5.size,0,none⟩:Addr).add 1=⟨h5.size,1,none⟩ from by simp,aA (by omega) (by omega)]
    have S9:Blk (setH h8 ⟨h5.size,1,none⟩ (Slc.v s'')) h5.size (ay.cs ⟨ofL name,s''⟩) 147:=S8.set
    have oth:∀ g,g≠h5.size->(setH h8 ⟨h5.size,1,none⟩ (Slc.v s''))[g]? = h8[g]?:=fun g hg=>jL hg
    have z9:(setH h8 ⟨h5.size,1,none⟩ (Slc.v s'')).size=h8.size:=lv
    generalize setH h8 ⟨h5.size,1,none⟩ (Slc.v s'')=h9 at *
    refine ⟨⟨s'',by dsimp only; omega,by dsimp only; omega,P8.old (oth _ (by omega)),S9,?_,by dsimp only; rw [l8]; omega,Rq7.keep fun g hg=>?_,X7.trans ⟨by omega,fun g hg=>by rw [oth g (by omega),F g (by omega) (ns g (by omega))]⟩,by dsimp only; rw [show (i + 1).toNat=i.toNat + 1 from by omega]; exact he'⟩,by dsimp only; omega⟩
    ·dsimp only
     have:=R8.keep fun g hg=>oth g (by have:=(R8.bd hg).1; omega)
     rw [show (i + 1).toNat=i.toNat + 1 from by omega,List.take_add_one,hx,List.map_append,List.flatMap_append]
     simpa [lcs,lst] using this
    ·have b7:=Rq7.bd hg
     rw [oth g (fun e=>by subst e; exact Row.Ij Rq7 S7 (by decide) hg),F g b7.2 fun e=>Row.Pf R7 Rq7 (by decide) e hg]
   refine ⟨x.2.1,by rw [add_mk,T2.cell]; rfl,?_⟩
   have anys:((qs.take (i.toNat + 1)).any fun x=>x.2.1 != 0)=(((qs.take i.toNat).any fun x=>x.2.1 != 0) || (x.2.1 != 0)):=by
    rw [List.take_add_one,hx,List.any_append]; simp
   by_cases hs:x.2.1=0
   ·rw [if_neg (by simp [hs])]
    exact j2 e (by rw [ee,anys,hs,show ((0:Int) != 0)=false from rfl,Bool.or_false])
   ·rw [if_pos (by simpa using hs)]
    exact j2 4 (by rw [anys,show (x.2.1 != 0)=true from by simpa using hs,Bool.or_true,if_pos rfl])
  ·rw [if_neg (by rw [decide_eq_true_eq]; omega)]
   have ht:qs.take i.toNat=qs:=List.take_of_length_le (by omega)
   rw [ht] at R' ee
   by_cases hany:(qs.any fun x=>x.2.1 != 0)=true
   ·rw [if_pos hany] at ee
    rw [if_pos (by rw [ee]; decide)]
    refine g3 true s h' _ P' X' (fun _=>?_) (fun h=>by cases h)
    rw [hp,if_pos hany]; split <;> rfl
   ·rw [if_neg hany] at ee
    by_cases he0:e0=0
    ·rw [if_neg (by rw [ee,he0]; decide)]
     have Ls:LsAt aD.cs 2 h' s ((qs.map fun x=>(x.1,x.2.2)).map lst):=LsAt.MM vH (by rw [List.flatMap_map]; exact R'.slc) (by simp; omega) (by omega)
     refine ⟨_,ai.aL S',Kb Ls (by omega) (fun y hy=>?_) (by omega) fun h8 X8=>?_⟩
     ·simp only [List.mem_map] at hy
      obtain ⟨x,hx,rfl⟩:=hy
      have:=ql x hx
      exact ⟨by dsimp only; omega,by dsimp only; omega⟩
     have z8:=X8.size
     have P8:=P'.ext X8 p'
     have X08:Ext h.size h h8:=X'.trans (X8.mono z')
     rw [if_neg (by simpa using he0),if_neg hany] at hp
     cases hck:yo name (qs.map fun x=>(x.1,x.2.2)) with
     | true =>
      rw [hck,if_pos rfl] at hp
      rw [if_pos rfl]
      exact g3 _ s h8 _ P8 X08 (fun h=>by simp at h) fun _=>⟨S'.ext X8 s',R'.ext X8 fun g hg=>(R'.bd hg).2,by omega,hp⟩
     | false =>
      rw [hck,if_neg (by simp)] at hp
      rw [if_neg (by simp)]
      exact g3 _ s h8 _ P8 X08 (fun _=>hp) fun h=>by simp at h
    ·rw [if_pos (by rw [ee]; simpa using he0)]
     refine g3 true s h' _ P' X' (fun _=>?_) (fun h=>by cases h)
     rw [hp,if_pos he0]
 refine Be hl (fun h4 hn X4=>?_) fun name qs s h4 hs R4 sl4 X4=>?_
 ·exact go [] [] ⟨none,0,0⟩ 4 h4 (Row.nil _ _ _ _) rfl X4 (by simp) (by simp) (by simp) (.inr rfl) (by unfold p8; rw [hn]; rfl)
 ·obtain ⟨n1,n2,n3⟩:=Dg hs
  exact go name qs s 0 h4 R4 sl4 X4 (by omega) (fun x hx=>by have:=n2 x hx; omega) n3 (.inl rfl) (by unfold p8; rw [hs]; rfl)
end Go.Q.Yq
end

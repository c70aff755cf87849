/- A part of the proof of statements of this seat: lemmas, no statement of their own. -/
import Derived.Test.YtgbbpanapnkdbaaGreatYqZau
import Derived.Test.YtgbbpanapnkdbaaGreatYqZam
import Derived.Test.YtgbbpanapnkdbaaGreatYqZah
import Derived.Test.YtgbbpanapnkdbaaGreatYqZak
import Derived.Test.YtgbbpanapnkdbaaGreatYqZai
set_option linter.unusedVariables false
set_option linter.unusedSimpArgs false
section
namespace Go.Q.Yq
/-! ### series -/
abbrev LU:=Tx × Tx
def lst (x:LU):S_api_Label:=⟨ofL x.1,ofL x.2⟩
def lcs (x:LU):List Value:=S_api_Label.cs (lst x)
theorem labcs_len (x:S_api_Label):(S_api_Label.cs x).length=2:=rfl
theorem sercs_len (x:S_api_Series):(S_api_Series.cs x).length=2:=rfl
abbrev zSer:S_api_Series:=⟨ByteArray.empty,⟨none,0,0⟩⟩
def chkL:Option Tx->List LU->Bool
 | _,[]=>true
 | prev,l :: r=>if wordU l.1=true then if wordU l.2=true then if (match prev with | none=>true | some p=>Op.bytesLess p l.1)=true then chkL (some l.1) r else false else false else false
theorem chkL_cons (prev:Option Tx) (l:LU) (r:List LU):chkL prev (l :: r)=if wordU l.1=true then if wordU l.2=true then if (match prev with | none=>true | some p=>Op.bytesLess p l.1)=true then chkL (some l.1) r else false else false else false:=rfl
def checkU (name:Tx) (ls:List LU):Bool:=if wordU name=true then if ls.length > 8 then false else chkL none ls else false
def prevU (ls:List LU) (i:Nat):Option Tx:=if i=0 then none else (ls[i - 1]?).map (·.1)
def okL (ls:List LU):Prop:=∀ x∈ls,x.1.length<=9223372036854775807/\x.2.length<=9223372036854775807
theorem SCheck_ok {name:Tx} {s:Slc} {ls:List LU} {k:Int->Heap->Prop} {h:Heap} (L:LsAt S_api_Label.cs 2 h s (ls.map lst)) (nl:name.length<=9223372036854775807) (ok:okL ls) (hm:s.len<=4611686018427387904)
  (H:∀ h',Ext h.size h h'->k (if checkU name ls=true then 0 else 1) h'):label_Check ⟨ofL name,s⟩ k h:=by
 have sl:s.len=ls.length:=by have:=L.l; simpa using this
 unfold label_Check
 refine ⟨_,_,rfl,rfl,?_⟩
 have P:=Blk.push h (S_api_Series.cs ⟨ofL name,s⟩) 147
 have W:=Ext.push h (.cells (S_api_Series.cs ⟨ofL name,s⟩).toArray 147) (Nat.le_refl _)
 have pl:=P.lt
 generalize h.push (.cells (S_api_Series.cs ⟨ofL name,s⟩).toArray 147)=h2 at *
 have z2:=W.size
 have cs:∀ {h'},Blk h' h.size (S_api_Series.cs ⟨ofL name,s⟩) 147->cellH h' ((⟨h.size,0,none⟩:Addr).add 1)=some (Slc.v s):=fun K=>by rw [add_mk,K.cell]; rfl
 refine ⟨ofL name,by rw [P.cell]; rfl,word_ok nl ?_⟩
 unfold checkU at H
 have fin:=H h2 W
 cases hw:wordU name with
 | false =>
  rw [if_pos (by simp)]
  unfold label_Check_g1
  rw [if_pos rfl]
  rw [hw,if_neg (by simp)] at fin; exact fin
 | true =>
  rw [if_neg (by simp)]
  simp only [hw,if_true] at H fin
  refine ⟨s,cs P,?_⟩
  unfold label_Check_g1
  by_cases h8:ls.length > 8
  ·rw [if_pos (by rw [decide_eq_true_eq]; omega)]
   rw [if_pos h8,if_neg (by simp)] at fin; exact fin
  rw [if_neg (by rw [decide_eq_true_eq]; omega)]
  simp only [if_neg h8] at H
  refine ⟨s,cs P,?_⟩
  refine ⟨fun i h'=>0<=i/\i<=ls.length/\chkL (prevU ls i.toNat) (ls.drop i.toNat)=chkL none ls/\Ext h2.size h2 h',fun i _=>(ls.length - i).toNat,⟨by omega,by omega,rfl,Ext.refl _ _⟩,?_⟩
  rintro i h3 ⟨i0,i1,hc,X⟩
  have z3:=X.size
  have P3:=P.ext X pl
  have L3:=(L.ext W).ext X
  have X03:Ext h.size h h3:=W.trans (X.mono z2)
  unfold label_Check_l2b
  by_cases hi:i < ls.length
  ·rw [if_pos (by rw [decide_eq_true_eq]; omega)]
   have hx:ls[i.toNat]? = some (ls[i.toNat]'(by omega)):=by simp
   have hd:ls.drop i.toNat=(ls[i.toNat]'(by omega)) :: ls.drop (i.toNat + 1):=List.drop_eq_getElem_cons (by omega)
   generalize ls[i.toNat]'(by omega)=x at *
   obtain ⟨ok1,ok2⟩:=ok x (List.mem_of_getElem? hx)
   obtain ⟨a,ha,C⟩:=L3.at' i.toNat (lst x) (by rw [List.getElem?_map,hx]; rfl)
   refine ⟨a,ha,i0,by omega,lst x,C,_,_,rfl,rfl,?_⟩
   have T:=Blk.push h3 (S_api_Label.cs ⟨ByteArray.empty,ByteArray.empty⟩) 178
   have T2:=T.sets_all (vs:=S_api_Label.cs (lst x)) rfl
   have W5:=(Ext.push h3 (.cells (S_api_Label.cs ⟨ByteArray.empty,ByteArray.empty⟩).toArray 178) (Nat.le_refl _)).trans (Ext.sets _ (a:=⟨h3.size,0,none⟩) 0 (S_api_Label.cs (lst x)) (Nat.le_refl _))
   refine ⟨_,WrsAt.of_blk T (by rw [labcs_len]; omega),rfl,?_⟩
   generalize setsH (h3.push (.cells (S_api_Label.cs ⟨ByteArray.empty,ByteArray.empty⟩).toArray 178)) ⟨h3.size,0,none⟩ 0 (S_api_Label.cs (lst x))=h5 at *
   have z5:=W5.size
   have P5:=P3.ext W5 P3.lt
   have L5:=L3.ext W5
   have X5:Ext h2.size h2 h5:=X.trans (W5.mono z3)
   have X05:Ext h.size h h5:=W.trans (X5.mono z2)
   rw [hd] at hc
   rw [chkL_cons] at hc
   have F:=H h5 X05
   have j3:∀ b:Bool,(b=true->chkL none ls=false)->(b=false->chkL (some x.1) (ls.drop (i.toNat + 1))=chkL none ls)->label_Check_j3 ⟨h.size,0,none⟩ s (s.len:Int) i b k (fun q h'=>(0<=q/\q<=(ls.length:Int)/\chkL (prevU ls q.toNat) (ls.drop q.toNat)=chkL none ls/\Ext h2.size h2 h')/\((ls.length:Int) - q).toNat < ((ls.length:Int) - i).toNat) h5:=fun b b1 b2=>by
    unfold label_Check_j3
    cases b with
    | true =>
     rw [if_pos rfl]
     rw [b1 rfl,if_neg (by simp)] at F; exact F
    | false =>
     rw [if_neg (by simp),wrapI64 (by omega) (by omega)]
     refine ⟨⟨by omega,by omega,?_,X5⟩,by omega⟩
     rw [show (i + 1).toNat=i.toNat + 1 from by omega]
     have:prevU ls (i.toNat + 1)=some x.1:=by unfold prevU; rw [if_neg (by omega),show i.toNat + 1 - 1=i.toNat from by omega,hx]; rfl
     rw [this]; exact b2 rfl
   refine ⟨ofL x.1,by rw [T2.cell]; rfl,word_ok ok1 ?_⟩
   cases hw1:wordU x.1 with
   | false =>
    rw [hw1,if_neg (by simp)] at hc
    rw [if_pos (by simp),if_pos rfl]
    exact j3 true (fun _=>hc.symm) (fun h=>by cases h)
   | true =>
    rw [hw1,if_pos rfl] at hc
    rw [if_neg (by simp)]
    refine ⟨ofL x.2,by rw [add_mk,T2.cell]; rfl,word_ok ok2 ?_⟩
    cases hw2:wordU x.2 with
    | false =>
     rw [hw2,if_neg (by simp)] at hc
     rw [if_pos (by simp)]
     exact j3 true (fun _=>hc.symm) (fun h=>by cases h)
    | true =>
     rw [hw2,if_pos rfl] at hc
     rw [if_neg (by simp)]
     by_cases hi0:i > 0
     ·rw [if_pos (by simpa using hi0)]
      refine ⟨s,cs P5,?_⟩
      rw [wrapI64 (x:=i - 1) (by omega) (by omega)]
      have hy:ls[i.toNat - 1]? = some (ls[i.toNat - 1]'(by omega)):=by simp
      generalize ls[i.toNat - 1]'(by omega)=y at *
      have pv:prevU ls i.toNat=some y.1:=by unfold prevU; rw [if_neg (by omega),hy]; rfl
      rw [pv] at hc
      obtain ⟨a2,ha2,C2⟩:=L5.at' (i.toNat - 1) (lst y) (by rw [List.getElem?_map,hy]; rfl)
      have c0:=C2 0 (.string (ofL y.1)) rfl
      rw [show (a2.add ((i.toNat - 1) * 2)).add 0=a2.add ((i.toNat - 1) * 2) from by simp [Addr.add]] at c0
      refine ⟨a2,ha2,by omega,by omega,ofL y.1,by rw [show (i - 1).toNat=i.toNat - 1 from by omega]; exact c0,ofL x.1,by rw [T2.cell]; rfl,?_⟩
      rw [ofL_toList,ofL_toList]
      have hc2:(if Op.bytesLess y.1 x.1=true then chkL (some x.1) (ls.drop (i.toNat + 1)) else false)=chkL none ls:=hc
      refine j3 _ (fun hb=>?_) fun hb=>?_
      ·rw [Bool.not_eq_true'] at hb
       rw [hb,if_neg (by simp)] at hc2; exact hc2.symm
      ·rw [Bool.not_eq_false'] at hb
       rw [hb,if_pos rfl] at hc2; exact hc2
     ·rw [if_neg (by simpa using hi0)]
      have pv:prevU ls i.toNat=none:=by unfold prevU; rw [if_pos (by omega)]
      rw [pv] at hc
      exact j3 false (fun h=>by cases h) fun _=>hc
  ·rw [if_neg (by rw [decide_eq_true_eq]; omega)]
   have hd:ls.drop i.toNat=[]:=List.drop_of_length_le (by omega)
   rw [hd] at hc
   have F:=H h3 X03
   rw [← hc] at F
   exact F
def parseU (l:Tx):Option (Tx × List LU) :=
 match selU l with
 | none=>none
 | some (name,qs)=>if (qs.any fun x=>x.2.1 != 0)=true then none else if checkU name (qs.map fun x=>(x.1,x.2.2))=true then some (name,qs.map fun x=>(x.1,x.2.2)) else none
theorem q_len (l:Tx):(questionU l).1.1.length<=l.length/\(questionU l).1.2.2.length<=l.length:=by
 have key:∀ (n r:Tx) (j:Int) (ss:List Tx),n.length<=l.length->r.length<=l.length->(qgo n r j ss).1.1.length<=l.length/\(qgo n r j ss).1.2.2.length<=l.length:=by
  intro n r j ss hn hr
  induction ss generalizing j with
  | nil=>exact ⟨hn,Nat.zero_le _⟩
  | cons s ss ih =>
   unfold qgo
   split
   ·exact ⟨hn,by dsimp only; rw [List.length_drop]; omega⟩
   ·exact ih _
 have h1:l.takeWhile letterU ++ l.dropWhile letterU=l:=List.takeWhile_append_dropWhile
 have:=congrArg List.length h1
 rw [List.length_append] at this
 exact key _ _ _ _ (by omega) (by omega)
theorem selGo_len:∀ (f:Nat) (rest:Tx) (qs out:List QU) (N:Nat),rest.length<=N->(∀ x∈qs,x.1.length<=N/\x.2.2.length<=N)->qs.length<=8->selGo f rest qs=some out->(∀ x∈out,x.1.length<=N/\x.2.2.length<=N)/\out.length<=8
 | 0,_,_,_,_,_,_,_,h=>by cases h
 | f + 1,rest,qs,out,N,hr,hq,q8,h=>by
  unfold selGo at h
  obtain ⟨d1,d2,_⟩:=cut_len rest 44
  have ql:=q_len (cutU rest 44).1
  have hq':∀ x∈qs ++ [(questionU (cutU rest 44).1).1],x.1.length<=N/\x.2.2.length<=N:=fun x hx=>by
   rcases List.mem_append.1 hx with hx | hx
   ·exact hq x hx
   ·simp at hx; subst hx; exact ⟨by omega,by omega⟩
  split at h
  ·cases h
  ·rename_i hc
   have h8:qs.length≠8:=fun e=>hc (.inr e)
   split at h
   ·exact selGo_len f _ _ out N (by omega) hq' (by rw [List.length_append]; simp; omega) h
   ·cases h
    refine ⟨hq',?_⟩
    rw [List.length_append]; simp; omega
theorem sel_len {l name:Tx} {qs:List QU} (h:selU l=some (name,qs)):name.length<=l.length/\(∀ x∈qs,x.1.length<=l.length/\x.2.2.length<=l.length)/\qs.length<=8:=by
 unfold selU at h
 obtain ⟨d1,d2,_⟩:=cut_len l 123
 split at h
 ·cases h
 ·split at h
  ·cases h; exact ⟨d1,by simp,by simp⟩
  ·split at h
   ·cases h
   ·cases hg:selGo ((sufU (cutU l 123).2.1 125).1.length + 1) (sufU (cutU l 123).2.1 125).1 [] with
    | none=>rw [hg] at h; cases h
    | some out =>
     rw [hg] at h; cases h
     have:=suf_len (cutU l 123).2.1 125
     have:=selGo_len _ _ _ _ l.length (by omega) (by simp) (by simp) hg
     exact ⟨d1,this.1,by have:=this.2; simpa using this⟩
theorem Parse_ok {l:Tx} {k:S_api_Series × Int->Heap->Prop} {h:Heap} (hl:l.length<=100000000)
  (H0:∀ h',parseU l=none->Ext h.size h h'->k (zSer,4) h')
  (H1:∀ name ls s h',parseU l=some (name,ls)->Row h.size h' 178 2 s (ls.flatMap lcs)->s.len=ls.length->Ext h.size h h'->k (⟨ofL name,s⟩,0) h'):label_Parse (ofL l) k h:=by
 unfold label_Parse
 refine ⟨_,_,rfl,rfl,?_⟩
 have P:=Blk.push h (S_api_Series.cs zSer) 147
 have W:=Ext.push h (.cells (S_api_Series.cs zSer).toArray 147) (Nat.le_refl _)
 have pl:=P.lt
 generalize h.push (.cells (S_api_Series.cs zSer).toArray 147)=h2 at *
 have z2:=W.size
 -- what comes of a selector
 have go:∀ (name:Tx) (qs:List QU) (sq:Slc) (e0:Int) (h4:Heap),Row h2.size h4 174 3 sq (qs.flatMap qcs)->sq.len=qs.length->Ext h2.size h2 h4->name.length<=100000000->(∀ x∈qs,x.1.length<=100000000/\x.2.2.length<=100000000)->qs.length<=8->(e0=0∨e0=4) ->
   parseU l=(if e0≠0 then none else if (qs.any fun x=>x.2.1 != 0)=true then none else if checkU name (qs.map fun x=>(x.1,x.2.2))=true then some (name,qs.map fun x=>(x.1,x.2.2)) else none) ->
   ∃ (b5:Nat) (h6:Heap),b5=h4.size/\h6=h4.push (.cells (S_api_Selector.cs zSel).toArray 139)/\(∃ h7:Heap,WrsAt h6 (⟨b5,0,none⟩:Addr) 2/\h7=setsH h6 (⟨b5,0,none⟩:Addr) 0 (S_api_Selector.cs ⟨ofL name,sq⟩)/\(∃ v8:ByteArray,cellH h7 (⟨b5,0,none⟩:Addr)=some (.string v8)/\(∃ (b9:Nat) (h10:Heap),b9=h7.size/\h10=h7.push (.cells (S_api_Series.cs zSer).toArray 147)/\(∃ h11:Heap,WrsAt h10 (⟨b9,0,none⟩:Addr) 2/\h11=setsH h10 (⟨b9,0,none⟩:Addr) 0 (S_api_Series.cs (⟨v8,(⟨none,0,0⟩:Slc)⟩:S_api_Series))/\(∃ v12:Slc,cellH h11 ((⟨b5,0,none⟩:Addr).add 1)=some (Slc.v v12)/\(label_Parse_l1 (⟨h.size,0,none⟩:Addr) (⟨b9,0,none⟩:Addr) v12 (v12.len:Int) e0 0 k h11)))))):=by
  intro name qs sq e0 h4 Rq sql X4 nl ql q8 he hp
  have z4:=X4.size
  have P4:=P.ext X4 pl
  refine ⟨_,_,rfl,rfl,?_⟩
  have Q:=Blk.push h4 (S_api_Selector.cs zSel) 139
  have Q2:=Q.sets_all (vs:=S_api_Selector.cs ⟨ofL name,sq⟩) rfl
  have W5:=(Ext.push h4 (.cells (S_api_Selector.cs zSel).toArray 139) (Nat.le_refl _)).trans (Ext.sets _ (a:=⟨h4.size,0,none⟩) 0 (S_api_Selector.cs ⟨ofL name,sq⟩) (Nat.le_refl _))
  refine ⟨_,WrsAt.of_blk Q (by rw [scs_len]; omega),rfl,?_⟩
  generalize setsH (h4.push (.cells (S_api_Selector.cs zSel).toArray 139)) ⟨h4.size,0,none⟩ 0 (S_api_Selector.cs ⟨ofL name,sq⟩)=h5 at *
  have z5:=W5.size
  have ql5:=Q2.lt
  refine ⟨ofL name,by rw [Q2.cell]; rfl,_,_,rfl,rfl,?_⟩
  have S:=Blk.push h5 (S_api_Series.cs zSer) 147
  have S2:=S.sets_all (vs:=S_api_Series.cs ⟨ofL name,⟨none,0,0⟩⟩) rfl
  have W6:=(Ext.push h5 (.cells (S_api_Series.cs zSer).toArray 147) (Nat.le_refl _)).trans (Ext.sets _ (a:=⟨h5.size,0,none⟩) 0 (S_api_Series.cs ⟨ofL name,⟨none,0,0⟩⟩) (Nat.le_refl _))
  refine ⟨_,WrsAt.of_blk S (by rw [sercs_len]; omega),rfl,?_⟩
  generalize setsH (h5.push (.cells (S_api_Series.cs zSer).toArray 147)) ⟨h5.size,0,none⟩ 0 (S_api_Series.cs ⟨ofL name,⟨none,0,0⟩⟩)=h6 at *
  have z6:=W6.size
  have sl6:=S2.lt
  have Q6:=Q2.ext W6 ql5
  refine ⟨sq,by rw [add_mk,Q6.cell]; rfl,?_⟩
  have X46:Ext h4.size h4 h6:=W5.trans (W6.mono z5)
  have P6:=P4.ext X46 P4.lt
  have Rq6:=Rq.ext X46 fun g hg=>(Rq.bd hg).2
  have X06:Ext h.size h h6:=W.trans ((X4.trans (X46.mono z4)).mono z2)
  have g3:∀ (b:Bool) (s:Slc) (h':Heap) nx,Blk h' h.size (S_api_Series.cs zSer) 147->Ext h.size h h'->(b=true->parseU l=none)->(b=false->Blk h' h5.size (S_api_Series.cs ⟨ofL name,s⟩) 147/\Row (h5.size + 1) h' 178 2 s ((qs.map fun x=>(x.1,x.2.2)).flatMap lcs)/\s.len=qs.length/\parseU l=some (name,qs.map fun x=>(x.1,x.2.2))) ->
    label_Parse_g3 ⟨h.size,0,none⟩ ⟨h5.size,0,none⟩ b k nx h':=fun b s h' nx P' X' b1 b2=>by
   unfold label_Parse_g3
   cases b with
   | true =>
    rw [if_pos rfl]
    exact ⟨_,WrsAt.of_blk P' (by rw [sercs_len]; omega),rfl,_,CellsAt.of_blk (P'.sets_all (vs:=S_api_Series.cs zSer) rfl),H0 _ (b1 rfl) (X'.trans (Ext.sets _ _ _ (Nat.le_refl _)))⟩
   | false =>
    obtain ⟨S',R',sl',hp'⟩:=b2 rfl
    rw [if_neg (by simp)]
    refine ⟨_,CellsAt.of_blk S',_,WrsAt.of_blk P' (by rw [sercs_len]; omega),rfl,_,CellsAt.of_blk (P'.sets_all (vs:=S_api_Series.cs ⟨ofL name,s⟩) rfl),?_⟩
    exact H1 name _ s _ hp' ((R'.keep fun g hg=>setsH_other _ _ (by have:=(R'.bd hg).1; dsimp only; omega)).mono (by omega)) (by rw [List.length_map]; exact sl') (X'.trans (Ext.sets _ _ _ (Nat.le_refl _)))
  refine ⟨fun q h'=>∃ s,0<=q.2/\q.2<=qs.length/\Blk h' h.size (S_api_Series.cs zSer) 147/\Blk h' h5.size (S_api_Series.cs ⟨ofL name,s⟩) 147/\Row (h5.size + 1) h' 178 2 s (((qs.take q.2.toNat).map fun x=>(x.1,x.2.2)).flatMap lcs)/\s.len=q.2.toNat/\Row h2.size h' 174 3 sq (qs.flatMap qcs)/\Ext h.size h h' /\
    q.1=(if ((qs.take q.2.toNat).any fun x=>x.2.1 != 0)=true then 4 else e0),fun q _=>(qs.length - q.2).toNat,⟨⟨none,0,0⟩,by dsimp only; omega,by dsimp only; omega,P6,S2,by simpa using Row.nil _ _ _ _,rfl,Rq6,X06,by simp⟩,?_⟩
  rintro e i h' ⟨s,i0,i1,P',S',R',sl',Rq',X',ee⟩
  dsimp only at i0 i1 R' sl' ee
  have z':=X'.size
  have p':=P'.lt
  have s':=S'.lt
  unfold label_Parse_l1b
  by_cases hi:i < qs.length
  ·rw [if_pos (by rw [decide_eq_true_eq]; omega)]
   have hx:qs[i.toNat]? = some (qs[i.toNat]'(by omega)):=by simp
   generalize qs[i.toNat]'(by omega)=x at *
   have Lq:LsAt S_api_Question.cs 3 h' sq (qs.map qst):=LsAt.of_slc scs3_len (by rw [List.flatMap_map]; exact Rq'.slc) (by rw [List.length_map]; exact sql) (by omega)
   obtain ⟨a,ha,C⟩:=Lq.at' i.toNat (qst x) (by rw [List.getElem?_map,hx]; rfl)
   refine ⟨a,ha,i0,by omega,qst x,C,_,_,rfl,rfl,?_⟩
   have T:=Blk.push h' (S_api_Question.cs ⟨ByteArray.empty,0,ByteArray.empty⟩) 174
   have T2:=T.sets_all (vs:=S_api_Question.cs (qst x)) rfl
   have W7:=(Ext.push h' (.cells (S_api_Question.cs ⟨ByteArray.empty,0,ByteArray.empty⟩).toArray 174) (Nat.le_refl _)).trans (Ext.sets _ (a:=⟨h'.size,0,none⟩) 0 (S_api_Question.cs (qst x)) (Nat.le_refl _))
   refine ⟨_,WrsAt.of_blk T (by rw [scs3_len]; omega),rfl,?_⟩
   generalize setsH (h'.push (.cells (S_api_Question.cs ⟨ByteArray.empty,0,ByteArray.empty⟩).toArray 174)) ⟨h'.size,0,none⟩ 0 (S_api_Question.cs (qst x))=h7 at *
   have z7:=W7.size
   have P7:=P'.ext W7 p'
   have S7:=S'.ext W7 s'
   have R7:=R'.ext W7 fun g hg=>(R'.bd hg).2
   have Rq7:=Rq'.ext W7 fun g hg=>(Rq'.bd hg).2
   have X7:Ext h.size h h7:=X'.trans (W7.mono z')
   have j2:∀ e',e'=(if ((qs.take (i.toNat + 1)).any fun x=>x.2.1 != 0)=true then 4 else e0)->label_Parse_j2 ⟨h.size,0,none⟩ ⟨h5.size,0,none⟩ ⟨h'.size,0,none⟩ sq (sq.len:Int) i e' k (fun q h''=>(∃ s,0<=q.2/\q.2<=(qs.length:Int)/\Blk h'' h.size (S_api_Series.cs zSer) 147/\Blk h'' h5.size (S_api_Series.cs ⟨ofL name,s⟩) 147/\Row (h5.size + 1) h'' 178 2 s (((qs.take q.2.toNat).map fun x=>(x.1,x.2.2)).flatMap lcs)/\s.len=q.2.toNat/\Row h2.size h'' 174 3 sq (qs.flatMap qcs)/\Ext h.size h h'' /\
     q.1=(if ((qs.take q.2.toNat).any fun x=>x.2.1 != 0)=true then 4 else e0))/\((qs.length:Int) - q.2).toNat < ((qs.length:Int) - i).toNat) h7:=fun e' he'=>by
    unfold label_Parse_j2
    refine ⟨s,by rw [add_mk,S7.cell]; rfl,ofL x.1,by rw [T2.cell]; rfl,ofL x.2.2,by rw [add_mk,T2.cell]; rfl,_,_,rfl,rfl,?_⟩
    refine App.row (R7.pushed _) (by simp; omega) rfl rfl (oneC (by kernel_rfl)) (by omega) (by simp only [maxLen]; omega) fun s'' h8 R8 l8 z8 F8 _=>?_
    simp at z8
    have F:∀ g,g < h7.size->s.blk≠some g->h8[g]? = h7[g]?:=fun g hg hs=>by rw [F8 g (by simp; omega) hs,Array.getElem?_push,if_neg (by omega)]
    have ns:∀ g,g<=h5.size->s.blk≠some g:=fun g hg e=>by have:=(R7.bd e).1; omega
    have P8:Blk h8 h.size (S_api_Series.cs zSer) 147:=P7.old (F h.size (by omega) (ns _ (by omega)))
    have S8:Blk h8 h5.size (S_api_Series.cs ⟨ofL name,s⟩) 147:=S7.old (F h5.size (by omega) (ns _ (Nat.le_refl _)))
    refine ⟨_,by rw [add_mk]; exact S8.wr (by rw [sercs_len]; omega),rfl,?_⟩
    rw [show (⟨h5.size,0,none⟩:Addr).add 1=⟨h5.size,1,none⟩ from by simp,wrapI64 (by omega) (by omega)]
    have S9:Blk (setH h8 ⟨h5.size,1,none⟩ (Slc.v s'')) h5.size (S_api_Series.cs ⟨ofL name,s''⟩) 147:=S8.set
    have oth:∀ g,g≠h5.size->(setH h8 ⟨h5.size,1,none⟩ (Slc.v s''))[g]? = h8[g]?:=fun g hg=>setH_other hg
    have z9:(setH h8 ⟨h5.size,1,none⟩ (Slc.v s'')).size=h8.size:=setH_size
    generalize setH h8 ⟨h5.size,1,none⟩ (Slc.v s'')=h9 at *
    refine ⟨⟨s'',by dsimp only; omega,by dsimp only; omega,P8.old (oth _ (by omega)),S9,?_,by dsimp only; rw [l8]; omega,Rq7.keep fun g hg=>?_,X7.trans ⟨by omega,fun g hg=>by rw [oth g (by omega),F g (by omega) (ns g (by omega))]⟩,by dsimp only; rw [show (i + 1).toNat=i.toNat + 1 from by omega]; exact he'⟩,by dsimp only; omega⟩
    ·dsimp only
     have:=R8.keep fun g hg=>oth g (by have:=(R8.bd hg).1; omega)
     rw [show (i + 1).toNat=i.toNat + 1 from by omega,List.take_add_one,hx,List.map_append,List.flatMap_append]
     simpa [lcs,lst] using this
    ·have b7:=Rq7.bd hg
     rw [oth g (fun e=>by subst e; exact Row.unlike Rq7 S7 (by decide) hg),F g b7.2 fun e=>Row.ne_row R7 Rq7 (by decide) e hg]
   refine ⟨x.2.1,by rw [add_mk,T2.cell]; rfl,?_⟩
   have anys:((qs.take (i.toNat + 1)).any fun x=>x.2.1 != 0)=(((qs.take i.toNat).any fun x=>x.2.1 != 0) || (x.2.1 != 0)):=by
    rw [List.take_add_one,hx,List.any_append]; simp
   by_cases hs:x.2.1=0
   ·rw [if_neg (by simp [hs])]
    exact j2 e (by rw [ee,anys,hs,show ((0:Int) != 0)=false from rfl,Bool.or_false])
   ·rw [if_pos (by simpa using hs)]
    exact j2 4 (by rw [anys,show (x.2.1 != 0)=true from by simpa using hs,Bool.or_true,if_pos rfl])
  ·rw [if_neg (by rw [decide_eq_true_eq]; omega)]
   have ht:qs.take i.toNat=qs:=List.take_of_length_le (by omega)
   rw [ht] at R' ee
   by_cases hany:(qs.any fun x=>x.2.1 != 0)=true
   ·rw [if_pos hany] at ee
    rw [if_pos (by rw [ee]; decide)]
    refine g3 true s h' _ P' X' (fun _=>?_) (fun h=>by cases h)
    rw [hp,if_pos hany]; split <;> rfl
   ·rw [if_neg hany] at ee
    by_cases he0:e0=0
    ·rw [if_neg (by rw [ee,he0]; decide)]
     have Ls:LsAt S_api_Label.cs 2 h' s ((qs.map fun x=>(x.1,x.2.2)).map lst):=LsAt.of_slc labcs_len (by rw [List.flatMap_map]; exact R'.slc) (by simp; omega) (by omega)
     refine ⟨_,CellsAt.of_blk S',SCheck_ok Ls (by omega) (fun y hy=>?_) (by omega) fun h8 X8=>?_⟩
     ·simp only [List.mem_map] at hy
      obtain ⟨x,hx,rfl⟩:=hy
      have:=ql x hx
      exact ⟨by dsimp only; omega,by dsimp only; omega⟩
     have z8:=X8.size
     have P8:=P'.ext X8 p'
     have X08:Ext h.size h h8:=X'.trans (X8.mono z')
     rw [if_neg (by simpa using he0),if_neg hany] at hp
     cases hck:checkU name (qs.map fun x=>(x.1,x.2.2)) with
     | true =>
      rw [hck,if_pos rfl] at hp
      rw [if_pos rfl]
      exact g3 _ s h8 _ P8 X08 (fun h=>by simp at h) fun _=>⟨S'.ext X8 s',R'.ext X8 fun g hg=>(R'.bd hg).2,by omega,hp⟩
     | false =>
      rw [hck,if_neg (by simp)] at hp
      rw [if_neg (by simp)]
      exact g3 _ s h8 _ P8 X08 (fun _=>hp) fun h=>by simp at h
    ·rw [if_pos (by rw [ee]; simpa using he0)]
     refine g3 true s h' _ P' X' (fun _=>?_) (fun h=>by cases h)
     rw [hp,if_pos he0]
 refine Selector_ok hl (fun h4 hn X4=>?_) fun name qs s h4 hs R4 sl4 X4=>?_
 ·exact go [] [] ⟨none,0,0⟩ 4 h4 (Row.nil _ _ _ _) rfl X4 (by simp) (by simp) (by simp) (.inr rfl) (by unfold parseU; rw [hn]; rfl)
 ·obtain ⟨n1,n2,n3⟩:=sel_len hs
  exact go name qs s 0 h4 R4 sl4 X4 (by omega) (fun x hx=>by have:=n2 x hx; omega) n3 (.inl rfl) (by unfold parseU; rw [hs]; rfl)
end Go.Q.Yq
end
section
namespace Go.Q.Yq
def hasU (ls:List LU) (a b:Tx):Bool:=ls.any fun l=>decide (l.1=a) && decide (l.2=b)
def begU (ls:List LU) (a b:Tx):Bool:=ls.any fun l=>decide (l.1=a) && prefU l.2 b
def answerU (ls:List LU) (x:QU):Bool:=if x.2.1=0 then hasU ls x.1 x.2.2 else if x.2.1=1 then !hasU ls x.1 x.2.2 else if x.2.1=2 then begU ls x.1 x.2.2 else false
def chooseU (qn:Tx) (qs:List QU) (sn:Tx) (ls:List LU):Bool:=if qn≠[]/\qn≠sn then false else !(qs.any fun x=>!answerU ls x)
theorem bq (a b:Tx):((ofL a).toList == (ofL b).toList)=decide (a=b):=by
 rw [ofL_toList,ofL_toList]; by_cases h:a=b <;> simp [h]
theorem any_snoc {α:Type} {p:α->Bool} {l:List α} {i:Nat} {x:α} (hx:l[i]? = some x):(l.take (i + 1)).any p=((l.take i).any p || p x):=by
 rw [List.take_add_one,hx,List.any_append]; simp
theorem any_take {α:Type} {p:α->Bool} {l:List α} {i:Nat} (h:(l.take i).any p=true):l.any p=true:=by
 obtain ⟨x,hx,hp⟩:=List.any_eq_true.1 h
 exact List.any_eq_true.2 ⟨x,List.mem_of_mem_take hx,hp⟩
section
variable {s:Slc} {ls:List LU}
theorem LHas_ok {a b:Tx} {k:Bool->Heap->Prop} {h:Heap} (L:LsAt S_api_Label.cs 2 h s (ls.map lst)) (hm:ls.length<=1000000) (H:∀ h',Ext h.size h h'->k (hasU ls a b) h'):slices_Contains_api_Label_api_Label s ⟨ofL a,ofL b⟩ k h:=by
 have sl:s.len=ls.length:=by have:=L.l; simpa using this
 unfold slices_Contains_api_Label_api_Label
 refine ⟨_,_,rfl,rfl,?_⟩
 have P:=Blk.push h (S_api_Label.cs ⟨ofL a,ofL b⟩) 178
 have W:=Ext.push h (.cells (S_api_Label.cs ⟨ofL a,ofL b⟩).toArray 178) (Nat.le_refl _)
 generalize h.push (.cells (S_api_Label.cs ⟨ofL a,ofL b⟩).toArray 178)=h2 at *
 have z2:=W.size
 refine ⟨_,CellsAt.of_blk P,?_⟩
 unfold slices_Index_api_Label_api_Label
 refine ⟨_,_,rfl,rfl,?_⟩
 have Q:=Blk.push h2 (S_api_Label.cs ⟨ofL a,ofL b⟩) 178
 have W3:=Ext.push h2 (.cells (S_api_Label.cs ⟨ofL a,ofL b⟩).toArray 178) (Nat.le_refl _)
 generalize h2.push (.cells (S_api_Label.cs ⟨ofL a,ofL b⟩).toArray 178)=h3 at *
 have X03:Ext h.size h h3:=W.trans (W3.mono z2)
 have L3:=(L.ext W).ext W3
 refine ⟨fun i h'=>0<=i/\i<=ls.length/\(hasU (ls.take i.toNat) a b)=false/\h'=h3,fun i _=>(ls.length - i).toNat,⟨by omega,by omega,by simp [hasU],rfl⟩,?_⟩
 rintro i h' ⟨i0,i1,ha,e⟩
 subst e
 unfold slices_Index_api_Label_api_Label_l1b
 by_cases hi:i < ls.length
 ·rw [if_pos (by rw [decide_eq_true_eq]; omega)]
  have hx:ls[i.toNat]? = some (ls[i.toNat]'(by omega)):=by simp
  generalize ls[i.toNat]'(by omega)=x at *
  obtain ⟨ad,h1,C⟩:=L3.at' i.toNat (lst x) (by rw [List.getElem?_map,hx]; rfl)
  refine ⟨_,CellsAt.of_blk Q,ad,h1,i0,by omega,lst x,C,?_⟩
  show (if (((ofL a).toList == (ofL x.1).toList) && ((ofL b).toList == (ofL x.2).toList))=true then _ else _)
  rw [bq,bq]
  have hs:=any_snoc (p:=fun l:LU=>decide (l.1=a) && decide (l.2=b)) hx
  by_cases hb:a=x.1/\b=x.2
  ·rw [if_pos (by simp [hb.1,hb.2])]
   have:hasU ls a b=true:=any_take (i:=i.toNat + 1) (by rw [hs]; simp [hb.1,hb.2])
   have F:=H h' X03
   rw [this] at F
   dsimp only
   rw [show decide (i>=0)=true from by simpa using i0]; exact F
  ·rw [if_neg (by simpa using hb),wrapI64 (by omega) (by omega)]
   refine ⟨⟨by omega,by omega,?_,rfl⟩,by dsimp only; omega⟩
   rw [show (i + 1).toNat=i.toNat + 1 from by omega]
   unfold hasU at ha ⊢
   rw [hs,ha]
   have:¬ (x.1=a/\x.2=b):=fun h=>hb ⟨h.1.symm,h.2.symm⟩
   by_cases h1:x.1=a
   ·have:¬ x.2=b:=fun h2=>this ⟨h1,h2⟩
    simp [this]
   ·simp [h1]
 ·rw [if_neg (by rw [decide_eq_true_eq]; omega)]
  rw [List.take_of_length_le (by omega)] at ha
  have F:=H h' X03
  rw [ha] at F
  exact ⟨_,rfl,F⟩
theorem LBeg_ok {x:QU} {b:Nat} {k:Bool->Heap->Prop} {h:Heap} (L:LsAt S_api_Label.cs 2 h s (ls.map lst)) (hm:ls.length<=1000000) (ok:okL ls) (P:Blk h b (qcs x) 174) (H:∀ h',Ext h.size h h'->k (begU ls x.1 x.2.2) h'):slices_ContainsFunc_api_Label_api_Label__label_answers_1 s ⟨b,0,none⟩ k h:=by
 have sl:s.len=ls.length:=by have:=L.l; simpa using this
 unfold slices_ContainsFunc_api_Label_api_Label__label_answers_1 slices_IndexFunc_api_Label_api_Label__label_answers_1
 refine ⟨fun i h'=>0<=i/\i<=ls.length/\(begU (ls.take i.toNat) x.1 x.2.2)=false/\Ext h.size h h',fun i _=>(ls.length - i).toNat,⟨by omega,by omega,by simp [begU],Ext.refl _ _⟩,?_⟩
 rintro i h1 ⟨i0,i1,ha,X⟩
 have z1:=X.size
 unfold slices_IndexFunc_api_Label_api_Label__label_answers_1_l1b
 by_cases hi:i < ls.length
 ·rw [if_pos (by rw [decide_eq_true_eq]; omega)]
  have hx:ls[i.toNat]? = some (ls[i.toNat]'(by omega)):=by simp
  generalize ls[i.toNat]'(by omega)=y at *
  obtain ⟨ad,hd,C⟩:=(L.ext X).at' i.toNat (lst y) (by rw [List.getElem?_map,hx]; rfl)
  refine ⟨ad,hd,i0,by omega,lst y,C,?_⟩
  unfold label_answers_1
  refine ⟨_,_,rfl,rfl,?_⟩
  have Q:=Blk.push h1 (S_api_Label.cs (lst y)) 178
  have W2:=Ext.push h1 (.cells (S_api_Label.cs (lst y)).toArray 178) (Nat.le_refl _)
  have P2:=(P.ext X P.lt).ext W2 (by have:=P.lt; omega)
  generalize h1.push (.cells (S_api_Label.cs (lst y)).toArray 178)=h2 at *
  have X2:Ext h.size h h2:=X.trans (W2.mono z1)
  have hs:=any_snoc (p:=fun l:LU=>decide (l.1=x.1) && prefU l.2 x.2.2) hx
  have step:∀ r,r=(decide (y.1=x.1) && prefU y.2 x.2.2)->(if r=true then k (decide (i>=0)) h2 else (0<=IntKind.i64.wrap (i + 1)/\IntKind.i64.wrap (i + 1)<=(ls.length:Int)/\begU (ls.take (IntKind.i64.wrap (i + 1)).toNat) x.1 x.2.2=false/\Ext h.size h h2)/\((ls.length:Int) - IntKind.i64.wrap (i + 1)).toNat < ((ls.length:Int) - i).toNat):=fun r hr=>by
   rw [← hr] at hs
   cases hr2:r with
   | true =>
    rw [if_pos rfl]
    have:begU ls x.1 x.2.2=true:=any_take (i:=i.toNat + 1) (by rw [hs,hr2]; simp)
    have F:=H h2 X2
    rw [this] at F
    rw [show decide (i>=0)=true from by simpa using i0]; exact F
   | false =>
    rw [if_neg (by simp),wrapI64 (by omega) (by omega)]
    refine ⟨⟨by omega,by omega,?_,X2⟩,by omega⟩
    rw [show (i + 1).toNat=i.toNat + 1 from by omega]
    unfold begU at ha ⊢
    rw [hs,ha,hr2]; rfl
  refine ⟨ofL y.1,by rw [Q.cell]; rfl,ofL x.1,by rw [P2.cell]; rfl,?_⟩
  rw [bq]
  by_cases hn:y.1=x.1
  ·rw [if_pos (by simpa using hn)]
   refine ⟨ofL y.2,by rw [add_mk,Q.cell]; rfl,ofL x.2.2,by rw [add_mk,P2.cell]; rfl,?_⟩
   refine HasPrefix_ok (ok y (List.mem_of_getElem? hx)).2 ?_
   unfold label_answers_1_g1
   exact step _ (by simp [hn])
  ·rw [if_neg (by simpa using hn)]
   unfold label_answers_1_g1
   exact step _ (by simp [hn])
 ·rw [if_neg (by rw [decide_eq_true_eq]; omega)]
  rw [List.take_of_length_le (by omega)] at ha
  have F:=H h1 X
  rw [ha] at F
  exact ⟨_,rfl,F⟩
theorem Answers_ok {x:QU} {sn:Tx} {k:Bool->Heap->Prop} {h:Heap} (L:LsAt S_api_Label.cs 2 h s (ls.map lst)) (hm:ls.length<=1000000) (ok:okL ls) (H:∀ h',Ext h.size h h'->k (answerU ls x) h'):label_answers (qst x) ⟨ofL sn,s⟩ k h:=by
 unfold label_answers
 refine ⟨_,_,rfl,rfl,?_⟩
 have P:=Blk.push h (qcs x) 174
 have W:=Ext.push h (.cells (qcs x).toArray 174) (Nat.le_refl _)
 have pl:=P.lt
 rw [show S_api_Question.cs (qst x)=qcs x from rfl]
 generalize h.push (.cells (qcs x).toArray 174)=h2 at *
 have z2:=W.size
 refine ⟨_,_,rfl,rfl,?_⟩
 have Q:=Blk.push h2 (S_api_Series.cs ⟨ofL sn,s⟩) 147
 have W3:=Ext.push h2 (.cells (S_api_Series.cs ⟨ofL sn,s⟩).toArray 147) (Nat.le_refl _)
 generalize h2.push (.cells (S_api_Series.cs ⟨ofL sn,s⟩).toArray 147)=h3 at *
 have P3:=P.ext W3 pl
 have L3:=(L.ext W).ext W3
 have X3:Ext h.size h h3:=W.trans (W3.mono z2)
 have z3:=X3.size
 have H':∀ h',Ext h3.size h3 h'->k (answerU ls x) h':=fun h' X=>H h' (X3.trans (X.mono z3))
 unfold answerU at H'
 have cq:∀ i:Nat,cellH h3 ((⟨h.size,0,none⟩:Addr).add i)=(qcs x)[i]?:=fun i=>by rw [add_mk,Nat.zero_add,P3.cell]
 have cs:cellH h3 ((⟨h2.size,0,none⟩:Addr).add 1)=some (Slc.v s):=by rw [add_mk,Q.cell]; rfl
 refine ⟨x.2.1,by rw [cq]; rfl,?_⟩
 by_cases h0:x.2.1=0
 ·rw [if_pos (by simp [h0])]
  simp only [if_pos h0] at H'
  exact ⟨s,cs,ofL x.1,by rw [P3.cell]; rfl,ofL x.2.2,by rw [cq]; rfl,LHas_ok L3 hm H'⟩
 rw [if_neg (by simpa using h0)]
 simp only [if_neg h0] at H'
 by_cases h1:x.2.1=1
 ·rw [if_pos (by simp [h1])]
  simp only [if_pos h1] at H'
  exact ⟨s,cs,ofL x.1,by rw [P3.cell]; rfl,ofL x.2.2,by rw [cq]; rfl,LHas_ok L3 hm H'⟩
 rw [if_neg (by simpa using h1)]
 simp only [if_neg h1] at H'
 by_cases h2':x.2.1=2
 ·rw [if_pos (by simp [h2'])]
  simp only [if_pos h2'] at H'
  exact ⟨s,cs,LBeg_ok L3 hm ok P3 H'⟩
 ·rw [if_neg (by simpa using h2')]
  simp only [if_neg h2'] at H'
  exact H' h3 (Ext.refl _ _)
variable {sq:Slc} {qs:List QU}
theorem Chooses_ok {qn sn:Tx} {k:Bool->Heap->Prop} {h:Heap} (Lq:LsAt S_api_Question.cs 3 h sq (qs.map qst)) (L:LsAt S_api_Label.cs 2 h s (ls.map lst)) (hq:qs.length<=1000000) (hm:ls.length<=1000000) (ok:okL ls) (H:∀ h',Ext h.size h h'->k (chooseU qn qs sn ls) h'):label_Chooses ⟨ofL qn,sq⟩ ⟨ofL sn,s⟩ k h:=by
 have ql:sq.len=qs.length:=by have:=Lq.l; simpa using this
 unfold label_Chooses
 refine ⟨_,_,rfl,rfl,?_⟩
 have P:=Blk.push h (S_api_Selector.cs ⟨ofL qn,sq⟩) 139
 have W:=Ext.push h (.cells (S_api_Selector.cs ⟨ofL qn,sq⟩).toArray 139) (Nat.le_refl _)
 have pl:=P.lt
 generalize h.push (.cells (S_api_Selector.cs ⟨ofL qn,sq⟩).toArray 139)=h2 at *
 have z2:=W.size
 refine ⟨_,_,rfl,rfl,?_⟩
 have Q:=Blk.push h2 (S_api_Series.cs ⟨ofL sn,s⟩) 147
 have W3:=Ext.push h2 (.cells (S_api_Series.cs ⟨ofL sn,s⟩).toArray 147) (Nat.le_refl _)
 generalize h2.push (.cells (S_api_Series.cs ⟨ofL sn,s⟩).toArray 147)=h3 at *
 have P3:=P.ext W3 pl
 have L3:=(L.ext W).ext W3
 have Lq3:=(Lq.ext W).ext W3
 have X3:Ext h.size h h3:=W.trans (W3.mono z2)
 have z3:=X3.size
 have ql3:=Q.lt
 have H':∀ h',Ext h3.size h3 h'->k (chooseU qn qs sn ls) h':=fun h' X=>H h' (X3.trans (X.mono z3))
 unfold chooseU at H'
 have g1:∀ b,b=decide (qn≠[]/\qn≠sn)->label_Chooses_g1 ⟨h.size,0,none⟩ ⟨h2.size,0,none⟩ b k h3:=fun b hb=>by
  unfold label_Chooses_g1
  by_cases hc:qn≠[]/\qn≠sn
  ·rw [hb,if_pos (by simpa using hc)]
   have:=H' h3 (Ext.refl _ _)
   rw [if_pos hc] at this; exact this
  rw [hb,if_neg (by simpa using hc)]
  simp only [if_neg hc] at H'
  refine ⟨sq,by rw [add_mk,P3.cell]; rfl,?_⟩
  unfold slices_ContainsFunc_api_Question_api_Question__label_Chooses_1 slices_IndexFunc_api_Question_api_Question__label_Chooses_1
  refine ⟨fun i h'=>0<=i/\i<=qs.length/\((qs.take i.toNat).any fun x=>!answerU ls x)=false/\Ext h3.size h3 h',fun i _=>(qs.length - i).toNat,⟨by omega,by omega,by simp,Ext.refl _ _⟩,?_⟩
  rintro i h4 ⟨i0,i1,ha,X4⟩
  have z4:=X4.size
  unfold slices_IndexFunc_api_Question_api_Question__label_Chooses_1_l1b
  by_cases hi:i < qs.length
  ·rw [if_pos (by rw [decide_eq_true_eq]; omega)]
   have hx:qs[i.toNat]? = some (qs[i.toNat]'(by omega)):=by simp
   generalize qs[i.toNat]'(by omega)=x at *
   obtain ⟨ad,hd,C⟩:=(Lq3.ext X4).at' i.toNat (qst x) (by rw [List.getElem?_map,hx]; rfl)
   refine ⟨ad,hd,i0,by omega,qst x,C,?_⟩
   unfold label_Chooses_1
   refine ⟨_,_,rfl,rfl,?_⟩
   have T:=Blk.push h4 (S_api_Question.cs (qst x)) 174
   have W5:=Ext.push h4 (.cells (S_api_Question.cs (qst x)).toArray 174) (Nat.le_refl _)
   have Q5:=(Q.ext X4 ql3).ext W5 (by omega)
   generalize h4.push (.cells (S_api_Question.cs (qst x)).toArray 174)=h5 at *
   have z5:=W5.size
   refine ⟨qst x,CellsAt.of_blk T,_,CellsAt.of_blk Q5,Answers_ok ((L3.ext X4).ext W5) hm ok fun h6 X6=>?_⟩
   have X36:Ext h3.size h3 h6:=X4.trans ((W5.trans (X6.mono z5)).mono z4)
   have hs:=any_snoc (p:=fun x:QU=>!answerU ls x) hx
   cases hb:answerU ls x with
   | true =>
    dsimp only
    rw [if_neg (by simp),wrapI64 (by omega) (by omega)]
    refine ⟨⟨by omega,by omega,?_,X36⟩,by omega⟩
    rw [show (i + 1).toNat=i.toNat + 1 from by omega,hs,ha,hb]; rfl
   | false =>
    dsimp only
    rw [if_pos (by simp)]
    have:(qs.any fun x=>!answerU ls x)=true:=any_take (i:=i.toNat + 1) (by rw [hs,hb]; simp)
    have F:=H' h6 X36
    rw [this] at F
    rw [show decide (i>=0)=true from by simpa using i0]; exact F
  ·rw [if_neg (by rw [decide_eq_true_eq]; omega)]
   rw [List.take_of_length_le (by omega)] at ha
   have F:=H' h4 X4
   rw [ha] at F
   exact ⟨_,rfl,F⟩
 have hne:((ofL qn).toList == (⟨#[]⟩:ByteArray).toList)=decide (qn=[]):=bq qn []
 refine ⟨ofL qn,by rw [P3.cell]; rfl,?_⟩
 rw [hne]
 by_cases hn:qn=[]
 ·rw [if_neg (by simp [hn])]
  exact g1 _ (by simp [hn])
 ·rw [if_pos (by simp [hn])]
  refine ⟨ofL qn,by rw [P3.cell]; rfl,ofL sn,by rw [Q.cell]; rfl,?_⟩
  rw [bq]
  exact g1 _ (by simp [hn])
end
end Go.Q.Yq
end
section
set_option maxRecDepth 100000
/- What pieces tell, plainly. -/
namespace Go.Q.Yq
abbrev Pc:=S_api_Piece
/-- may a piece be? -/
def okP (p:Pc):Bool:=decide (1<=p.f_Series.size) && decide (p.f_Series.size<=200)
/-- which of two pieces of one place counts -/
def ordP (a b:Pc):Int:=orL [idsP a.f_Id b.f_Id,cI a.f_V b.f_V]
def plc (p:Pc):S_piece_place:=⟨p.f_Series,p.f_T⟩
def ltP (a b:Pc):Prop:=cS a.f_Series b.f_Series < 0∨a.f_Series=b.f_Series/\a.f_T < b.f_T
/-- of each place the piece that counts, in their order -/
structure IsMrg (l zs:List Pc):Prop where
 srt:zs.Pairwise ltP
 mem:∀ z,z∈zs ↔ z∈l/\okP z=true/\∀ y∈l,okP y=true->plc y=plc z->ordP y z<=0
theorem cS_self (a:ByteArray):cS a a=0:=by have:=good_S.anti a a; omega
theorem cS_zero {a b:ByteArray} (h:cS a b=0):a=b:=by
 rw [cS_eq] at h
 split at h
 ·omega
 ·split at h
  ·omega
  ·rename_i h1 h2
   exact ba_ext (List.le_antisymm (List.not_lt.1 h2) (List.not_lt.1 h1))
theorem ltP_irr (a:Pc):¬ ltP a a:=by
 rintro (h | ⟨_,h⟩)
 ·rw [cS_self] at h; omega
 ·omega
theorem IsMrg.sub {l zs:List Pc} (A:IsMrg l zs):∀ z∈zs,z∈l:=fun z hz=>((A.mem z).1 hz).1
theorem nodup_len {α:Type} [DecidableEq α]:∀ {a l:List α},a.Nodup->(∀ z∈a,z∈l)->a.length<=l.length
 | [],l,_,_=>by simp
 | x :: a,l,h,s=>by
  obtain ⟨h1,h2⟩:=List.nodup_cons.1 h
  have hx:=s x List.mem_cons_self
  have:=nodup_len (l:=l.erase x) h2 fun z hz=>(List.mem_erase_of_ne (fun e=>h1 (by rw [← e]; exact hz))).2 (s z (List.mem_cons_of_mem _ hz))
  rw [List.length_erase_of_mem hx] at this
  have:=List.length_pos_of_mem hx
  simp only [List.length_cons]; omega
theorem IsMrg.len {l zs:List Pc} (A:IsMrg l zs):zs.length<=l.length:=by
 classical
 exact nodup_len (A.srt.imp fun {a b} h=>by rintro rfl; exact ltP_irr _ h) A.sub
/-! what is asked for -/
def chs (name:Tx) (qs:List QU) (s:ByteArray):Bool:=match parseU (U s) with | none=>false | some (n,ls)=>chooseU name qs n ls
def askP (f t hz:Int) (ch:ByteArray->Bool) (zs:List Pc):List Pc:=zs.filter fun p=>decide (max f hz<=p.f_T) && decide (p.f_T<=t) && ch p.f_Series
/-- the pieces of each series -/
def grpF:Nat->List Pc->List (List Pc)
 | _,[]=>[]
 | 0,_=>[]
 | n + 1,x :: l=>(x :: l.takeWhile fun p=>decide (p.f_Series=x.f_Series)) :: grpF n (l.dropWhile fun p=>decide (p.f_Series=x.f_Series))
def grp (l:List Pc):List (List Pc):=grpF l.length l
theorem dropWhile_le {α:Type} (p:α->Bool):∀ l:List α,(l.dropWhile p).length<=l.length
 | []=>by simp
 | a :: l=>by
  rw [List.dropWhile_cons]
  have:=dropWhile_le p l
  split <;> simp <;> omega
theorem grpF_enough:∀ (n m:Nat) (l:List Pc),l.length<=n->l.length<=m->grpF n l=grpF m l
 | n,m,[],_,_=>by cases n <;> cases m <;> rfl
 | 0,m,x :: l,h,_=>by simp at h
 | n + 1,0,x :: l,_,h=>by simp at h
 | n + 1,m + 1,x :: l,h1,h2=>by
  simp only [grpF]
  have:=dropWhile_le (fun p:Pc=>decide (p.f_Series=x.f_Series)) l
  simp only [List.length_cons] at h1 h2
  rw [grpF_enough n m _ (by omega) (by omega)]
theorem grp_nil:grp []=[]:=rfl
theorem grp_cons (x:Pc) (l:List Pc):grp (x :: l)=(x :: l.takeWhile fun p=>decide (p.f_Series=x.f_Series)) :: grp (l.dropWhile fun p=>decide (p.f_Series=x.f_Series)):=by
 unfold grp
 simp only [List.length_cons,grpF]
 rw [grpF_enough l.length _ _ (dropWhile_le _ _) (Nat.le_refl _)]
theorem grp_join:∀ (n:Nat) (l:List Pc),l.length<=n->(grp l).flatten=l
 | _,[],_=>rfl
 | 0,x :: l,h=>by simp at h
 | n + 1,x :: l,h=>by
  rw [grp_cons,List.flatten_cons,grp_join n _ (Nat.le_trans (dropWhile_le _ _) (by simpa using h)),List.cons_append,List.takeWhile_append_dropWhile]
theorem grp_flat (l:List Pc):(grp l).flatten=l:=grp_join l.length l (Nat.le_refl _)
theorem grpF_ne:∀ (n:Nat) (l:List Pc),∀ g∈grpF n l,g≠[]
 | n,[],g,h=>by cases n <;> cases h
 | 0,x :: l,g,h=>by cases h
 | n + 1,x :: l,g,h=>by
  simp only [grpF] at h
  rcases List.mem_cons.1 h with rfl | h
  ·simp
  ·exact grpF_ne n _ g h
theorem grp_ne {l g:List Pc} (h:g∈grp l):g≠[]:=grpF_ne _ _ g h
theorem grpF_same:∀ (n:Nat) (l:List Pc),∀ g∈grpF n l,∀ x∈g,∀ y∈g,x.f_Series=y.f_Series
 | n,[],g,h=>by cases n <;> cases h
 | 0,x :: l,g,h=>by cases h
 | n + 1,x :: l,g,h=>by
  simp only [grpF] at h
  rcases List.mem_cons.1 h with rfl | h
  ·have key:∀ z∈x :: l.takeWhile (fun p=>decide (p.f_Series=x.f_Series)),z.f_Series=x.f_Series:=fun z hz=>by
    rcases List.mem_cons.1 hz with rfl | hz
    ·rfl
    ·have:=List.all_eq_true.1 (List.all_takeWhile (p:=fun p:Pc=>decide (p.f_Series=x.f_Series)) (l:=l)) z hz; simpa using this
   intro a ha b hb
   rw [key a ha,key b hb]
  ·exact grpF_same n _ g h
theorem grp_same {l g:List Pc} (h:g∈grp l):∀ x∈g,∀ y∈g,x.f_Series=y.f_Series:=grpF_same _ _ g h
/-! rows -/
def wd (n:Int):S_api_Wide:=⟨n / 18446744073709551616,n % 18446744073709551616⟩
abbrev RI:=ByteArray × Int × Int
def toRow (r:RI):S_api_Row:=⟨r.1,r.2.1,wd r.2.2⟩
def sumV (g:List Pc):Int:=(g.map (·.f_V)).sum
def minV:List Pc->Int
 | []=>0
 | x :: l=>l.foldl (fun m p=>if p.f_V < m then p.f_V else m) x.f_V
def maxV:List Pc->Int
 | []=>0
 | x :: l=>l.foldl (fun m p=>if p.f_V > m then p.f_V else m) x.f_V
def atP (step:Int) (p:Pc):Int:=IntKind.i64.wrap (p.f_T / step * step)
def eachE (step:Int) (out:List RI) (p:Pc):List RI:=match out.getLast? with
 | some r=>if r.2.1=atP step p then out.dropLast ++ [(r.1,r.2.1,r.2.2 + p.f_V)] else out ++ [(p.f_Series,atP step p,p.f_V)]
 | none=>[(p.f_Series,atP step p,p.f_V)]
def eachP (step:Int) (g:List Pc):List RI:=g.foldl (eachE step) []
def in64 (n:Int):Prop:=-9223372036854775808<=n/\n < 9223372036854775808
instance (n:Int):Decidable (in64 n):=inferInstanceAs (Decidable (_/\_))
def ser (g:List Pc):ByteArray:=match g with | []=>ByteArray.empty | x :: _=>x.f_Series
def rateP (g:List Pc):Option Int:=match g.head?,g.getLast? with
 | some a,some b=>if in64 (b.f_V - a.f_V)/\in64 (b.f_T - a.f_T) then some ((b.f_V - a.f_V) / (b.f_T - a.f_T)) else none
 | _,_=>none
def rowsP (agg step:Int) (g:List Pc):Option (List RI) :=
 if agg=0 then some (g.map fun p=>(p.f_Series,p.f_T,p.f_V))
 else if agg=1 then some [(ser g,0,(g.length:Int))]
 else if agg=2 then some [(ser g,0,sumV g)]
 else if agg=3 then some [(ser g,0,minV g)]
 else if agg=4 then some [(ser g,0,maxV g)]
 else if agg=5 then (if g.length < 2 then some [] else (rateP g).map fun n=>[(ser g,0,n)])
 else some (eachP step g)
def rowsL (agg step:Int):List (List Pc)->Option (List RI)
 | []=>some []
 | g :: r=>match rowsP agg step g with | none=>none | some x=>(rowsL agg step r).map (x ++ ·)
def chkQ (q:S_api_Query):Int:=if (selU (U q.f_Select)).isNone then 4 else if q.f_Agg < 0∨q.f_Agg > 6∨q.f_Agg=6/\q.f_Step < 1 then 1 else 0
def askQ (q:S_api_Query) (hz:Int) (zs:List Pc):List Pc:=match selU (U q.f_Select) with | none=>[] | some (n,qs)=>askP q.f_From q.f_To hz (chs n qs) zs
def runP (q:S_api_Query) (hz:Int) (zs:List Pc):List RI × Int :=
 if chkQ q≠0 then ([],chkQ q) else match rowsL q.f_Agg q.f_Step (grp (askQ q hz zs)) with | none=>([],19) | some r=>(r,0)
end Go.Q.Yq
end

/- A part of the proof of statements of this seat: lemmas, no statement of their own. -/
import Derived.Test.YtgbbpanapnkdbaaGreatYqZaj
set_option linter.unusedVariables false
set_option linter.unusedSimpArgs false
section
namespace Go.Q.Yq
/-! ### texts as rows of bytes -/
abbrev Tx:=List UInt8
def U (t:ByteArray):Tx:=t.data.toList
def ofL (l:Tx):ByteArray:=⟨l.toArray⟩
theorem U_ofL (l:Tx):U (ofL l)=l:=by simp [U,ofL]
theorem ofL_U (t:ByteArray):ofL (U t)=t:=by cases t; simp [U,ofL]
theorem size_ofL (l:Tx):(ofL l).size=l.length:=by show l.toArray.size=l.length; simp
theorem toList_U (t:ByteArray):t.toList=U t:=by rw [ByteArray.toList_eq]; rfl
theorem ofL_toList (l:Tx):(ofL l).toList=l:=by rw [toList_U,U_ofL]
theorem U_len (t:ByteArray):(U t).length=t.size:=by show t.data.toList.length=t.data.size; simp
theorem extract_ofL (l:Tx) (a b:Nat):(ofL l).extract a b=ofL ((l.drop a).take (b - a)):=by
 have h:U ((ofL l).extract a b)=(l.drop a).take (b - a):=by
  show ((ofL l).extract a b).data.toList=_
  rw [ByteArray.data_extract]
  simp only [ofL,Array.toList_extract,List.extract_eq_take_drop,List.toList_toArray]
 rw [← h,ofL_U]
theorem strAt_ofL {l:Tx} {i:Int} {c:UInt8} (h:l[i.toNat]? = some c):StrAt (ofL l) i (c.toNat:Int):=by
 have hi:=(List.getElem?_eq_some_iff.1 h).1
 refine ⟨by rw [size_ofL]; exact hi,?_⟩
 have e:=(List.getElem?_eq_some_iff.1 h).2
 rw [← e]; rfl
theorem u8_back (c:UInt8):((c.toNat:Int)).toNat.toUInt8=c:=by simp
/-! ### letters and words -/
def letterU (c:UInt8):Bool:=(decide (97<=c.toNat) && decide (c.toNat<=122)) || (decide (65<=c.toNat) && decide (c.toNat<=90)) || (decide (48<=c.toNat) && decide (c.toNat<=57)) || c == 95 || c == 45 || c == 46 || c == 47
def wordU (l:Tx):Bool:=l.all letterU && (decide (0 < l.length) && decide (l.length<=24))
theorem ib4 (c:UInt8):decide (Lib.indexByte [95,45,46,47] c>=0)=(c == 95 || c == 45 || c == 46 || c == 47):=by
 simp only [Lib.indexByte]
 by_cases h1:(95:UInt8)=c
 ·subst h1; rfl
 ·by_cases h2:(45:UInt8)=c
  ·subst h2; rfl
  ·by_cases h3:(46:UInt8)=c
   ·subst h3; rfl
   ·by_cases h4:(47:UInt8)=c
    ·subst h4; rfl
    ·have e1:(c == 95)=false:=by simp; exact fun h=>h1 h.symm
     have e2:(c == 45)=false:=by simp; exact fun h=>h2 h.symm
     have e3:(c == 46)=false:=by simp; exact fun h=>h3 h.symm
     have e4:(c == 47)=false:=by simp; exact fun h=>h4 h.symm
     simp [h1,h2,h3,h4,e1,e2,e3,e4]
theorem letter_ok {c:UInt8} {k:Bool->Heap->Prop} {h:Heap} (H:k (letterU c) h):label_letter (c.toNat:Int) k h:=by
 unfold label_letter
 have j:∀ b,(b || (c == 95 || c == 45 || c == 46 || c == 47))=letterU c->label_letter_j1 (c.toNat:Int) b k h:=fun b hb=>by
  unfold label_letter_j1
  cases b with
  | true =>
   rw [if_pos rfl]
   rw [Bool.true_or] at hb
   rw [← hb] at H; exact H
  | false =>
   rw [if_neg (by simp)]
   unfold strings_IndexByte internal_stringslite_IndexByte
   refine ⟨_,rfl,?_⟩
   rw [u8_back]
   show k (decide (Lib.indexByte [95,45,46,47] c>=0)) h
   rw [ib4]
   rw [Bool.false_or] at hb
   rw [← hb] at H; exact H
 have e1:(decide ((c.toNat:Int)>=97) && decide ((c.toNat:Int)<=122))=(decide (97<=c.toNat) && decide (c.toNat<=122)):=by congr 1 <;> exact decide_eq_decide.2 (by omega)
 have e2:(decide ((c.toNat:Int)>=65) && decide ((c.toNat:Int)<=90))=(decide (65<=c.toNat) && decide (c.toNat<=90)):=by congr 1 <;> exact decide_eq_decide.2 (by omega)
 have e3:(decide ((c.toNat:Int)>=48) && decide ((c.toNat:Int)<=57))=(decide (48<=c.toNat) && decide (c.toNat<=57)):=by congr 1 <;> exact decide_eq_decide.2 (by omega)
 rw [e1,e2,e3]
 have le:letterU c=(((decide (97<=c.toNat) && decide (c.toNat<=122)) || (decide (65<=c.toNat) && decide (c.toNat<=90)) || (decide (48<=c.toNat) && decide (c.toNat<=57))) || (c == 95 || c == 45 || c == 46 || c == 47)):=by
  unfold letterU; simp only [Bool.or_assoc]
 generalize (decide (97<=c.toNat) && decide (c.toNat<=122))=x1 at *
 generalize (decide (65<=c.toNat) && decide (c.toNat<=90))=x2 at *
 generalize (decide (48<=c.toNat) && decide (c.toNat<=57))=x3 at *
 cases x1 with
 | true=>rw [if_pos rfl]; exact j _ (by rw [le]; simp)
 | false =>
  rw [if_neg (by simp)]
  cases x2 with
  | true=>rw [if_pos rfl]; exact j _ (by rw [le]; simp)
  | false=>rw [if_neg (by simp)]; exact j _ (by rw [le]; simp)
theorem word_ok {l:Tx} {k:Bool->Heap->Prop} {h:Heap} (hl:l.length<=9223372036854775807) (H:k (wordU l) h):label_word (ofL l) k h:=by
 unfold label_word
 rw [size_ofL]
 refine ⟨fun i h'=>0<=i/\i<=l.length/\(l.take i.toNat).all letterU=true/\h'=h,fun i _=>(l.length - i).toNat,⟨by omega,by omega,by simp,rfl⟩,?_⟩
 rintro i h' ⟨i0,i1,ha,e⟩
 subst e
 unfold label_word_l1b
 by_cases hi:i < l.length
 ·rw [if_pos (by rw [decide_eq_true_eq]; exact hi)]
  have hx:l[i.toNat]? = some (l[i.toNat]'(by omega)):=by simp
  generalize l[i.toNat]'(by omega)=c at *
  refine ⟨_,i0,strAt_ofL hx,letter_ok ?_⟩
  cases hc:letterU c with
  | true =>
   rw [if_neg (by simp),wrapI64 (by omega) (by omega)]
   refine ⟨⟨by omega,by omega,?_,rfl⟩,by dsimp only; omega⟩
   rw [show (i + 1).toNat=i.toNat + 1 from by omega,List.take_add_one,hx]
   simp [ha,hc]
  | false =>
   rw [if_pos (by simp)]
   have:wordU l=false:=by
    have:l.all letterU=false:=by
     cases hh:l.all letterU with
     | false=>rfl
     | true=>have:=List.all_eq_true.1 hh c (List.mem_of_getElem? hx); rw [hc] at this; cases this
    unfold wordU; rw [this]; rfl
   rw [this] at H; exact H
 ·rw [if_neg (by rw [decide_eq_true_eq]; exact hi)]
  rw [List.take_of_length_le (by omega)] at ha
  unfold wordU at H
  rw [ha,Bool.true_and] at H
  rw [size_ofL,show decide ((l.length:Int) > 0)=decide (0 < l.length) from decide_eq_decide.2 (by omega),show decide ((l.length:Int)<=24)=decide (l.length<=24) from decide_eq_decide.2 (by omega)]
  exact H
/-! ### a text is cut -/
theorem ib_spec (c:UInt8):∀ l:Tx,(c∈l/\Lib.indexByte l c=((l.takeWhile fun x=>x != c).length:Int))∨(c ∉ l/\Lib.indexByte l c = -1)
 | []=>.inr ⟨by simp,rfl⟩
 | b :: r=>by
  unfold Lib.indexByte
  by_cases hb:b=c
  ·subst hb; left; simp
  ·rcases ib_spec c r with ⟨h1,h2⟩ | ⟨h1,h2⟩
   ·left
    refine ⟨List.mem_cons_of_mem _ h1,?_⟩
    rw [if_neg (by simpa using hb),h2,if_neg (by simp),List.takeWhile_cons]
    rw [if_pos (by simpa using hb),List.length_cons]; omega
   ·right
    refine ⟨fun h=>?_,?_⟩
    ·rcases List.mem_cons.1 h with h | h
     ·exact hb h.symm
     ·exact h1 h
    ·rw [if_neg (by simpa using hb),h2]; rfl
def cutU (l:Tx) (c:UInt8):Tx × Tx × Bool:=if c∈l then (l.takeWhile (fun x=>x != c),(l.dropWhile (fun x=>x != c)).drop 1,true) else (l,[],false)
theorem tw_split (c:UInt8):∀ {l:Tx},c∈l->l=l.takeWhile (fun x=>x != c) ++ c :: (l.dropWhile (fun x=>x != c)).drop 1
 | [],h=>by simp at h
 | b :: r,h=>by
  by_cases hb:b=c
  ·subst hb; simp
  ·have hr:c∈r:=by
    rcases List.mem_cons.1 h with h | h
    ·exact absurd h.symm hb
    ·exact h
   rw [List.takeWhile_cons,if_pos (by simpa using hb),List.dropWhile_cons,if_pos (by simpa using hb),List.cons_append,← tw_split c hr]
theorem Cut_ok' {l:Tx} {c:UInt8} {k:ByteArray × ByteArray × Bool->Heap->Prop} {h:Heap} (hl:l.length<=1000000000) (H:k (ofL (cutU l c).1,ofL (cutU l c).2.1,(cutU l c).2.2) h):strings_Cut (ofL l) ⟨#[c]⟩ k h:=by
 unfold strings_Cut internal_stringslite_Cut internal_stringslite_Index
 have z1:(⟨#[c]⟩:ByteArray).size=1:=rfl
 have e1:(⟨#[c]⟩:ByteArray).toList=[c]:=ofL_toList [c]
 refine ⟨_,rfl,?_⟩
 rw [z1,e1,ofL_toList,size_ofL]
 by_cases h1:l=[c]
 ·rw [if_pos (by subst h1; simp)]
  dsimp only
  rw [if_pos (by decide)]
  subst h1
  refine ⟨_,by omega,by omega,by simp,rfl,?_⟩
  rw [wrapI64 (by simp) (by simp)]
  refine ⟨_,by simp,by simp,by omega,rfl,?_⟩
  rw [extract_ofL,extract_ofL]
  have:cutU [c] c=([],[],true):=by simp [cutU]
  rw [this] at H
  simpa using H
 ·rw [if_neg (by simp; exact fun h=>h1 h.symm),if_pos (by decide)]
  refine ⟨(c.toNat:Int),by omega,strAt_ofL (l:=[c]) rfl,?_⟩
  unfold internal_stringslite_IndexByte
  refine ⟨_,rfl,?_⟩
  rw [u8_back]
  have hU:(ofL l).data.toList=l:=U_ofL l
  rw [hU]
  dsimp only
  rcases ib_spec c l with ⟨hc,hi⟩ | ⟨hc,hi⟩
  ·have hs:=tw_split c hc
   have hlen:=congrArg List.length hs
   simp only [List.length_append,List.length_cons] at hlen
   obtain ⟨A,eA⟩:∃ A,A=l.takeWhile (fun x=>x != c):=⟨_,rfl⟩
   obtain ⟨B,eB⟩:∃ B,B=(l.dropWhile (fun x=>x != c)).drop 1:=⟨_,rfl⟩
   have hcut:cutU l c=(A,B,true):=by unfold cutU; rw [if_pos hc,eA,eB]
   rw [hcut] at H
   rw [← eA] at hs hlen hi
   rw [← eB] at hs hlen
   rw [hi,if_pos (by rw [decide_eq_true_eq]; omega)]
   refine ⟨_,by omega,by omega,by omega,rfl,?_⟩
   rw [wrapI64 (by omega) (by omega)]
   refine ⟨_,by omega,by omega,by omega,rfl,?_⟩
   rw [extract_ofL,extract_ofL]
   rw [show ((A.length:Int)).toNat - (0:Int).toNat=A.length from by simp,show (0:Int).toNat=0 from rfl,List.drop_zero,show ((A.length:Int) + ((1:Nat):Int)).toNat=A.length + 1 from by omega,show (l.length:Int).toNat=l.length from rfl]
   have t1:l.take A.length=A:=by rw [hs]; simp
   have t2:(l.drop (A.length + 1)).take (l.length - (A.length + 1))=B:=by
    have d:(A ++ c :: B).drop (A.length + 1)=B:=by rw [← List.drop_drop,List.drop_left]; rfl
    rw [hs,d,List.take_of_length_le (by simp; omega)]
   rw [t1,t2]; exact H
  ·rw [hi,if_neg (by decide)]
   have hcut:cutU l c=(l,[],false):=by unfold cutU; rw [if_neg hc]
   rw [hcut] at H; exact H
def prefU (l p:Tx):Bool:=decide (p.length<=l.length) && decide (l.take p.length=p)
theorem HasPrefix_ok {l p:Tx} {k:Bool->Heap->Prop} {h:Heap} (hl:l.length<=9223372036854775807) (H:k (prefU l p) h):strings_HasPrefix (ofL l) (ofL p) k h:=by
 unfold strings_HasPrefix internal_stringslite_HasPrefix internal_stringslite_HasPrefix_g1
 rw [size_ofL,size_ofL]
 unfold prefU at H
 by_cases hp:p.length<=l.length
 ·rw [if_pos (by rw [decide_eq_true_eq]; omega)]
  refine ⟨_,by omega,by omega,by omega,rfl,?_⟩
  rw [extract_ofL,ofL_toList,ofL_toList]
  rw [show (p.length:Int).toNat - (0:Int).toNat=p.length from by simp,show (0:Int).toNat=0 from rfl,List.drop_zero]
  rw [show decide (p.length<=l.length)=true from by simpa using hp,Bool.true_and] at H
  rw [show (l.take p.length == p)=decide (l.take p.length=p) from by by_cases h:l.take p.length=p <;> simp [h]]
  exact H
 ·rw [if_neg (by rw [decide_eq_true_eq]; omega)]
  rw [show decide (p.length<=l.length)=false from by simpa using hp,Bool.false_and] at H
  exact H
theorem CutPrefix_ok {l p:Tx} {k:ByteArray × Bool->Heap->Prop} {h:Heap} (hl:l.length<=9223372036854775807) (H:k (if prefU l p=true then (ofL (l.drop p.length),true) else (ofL l,false)) h):strings_CutPrefix (ofL l) (ofL p) k h:=by
 unfold strings_CutPrefix internal_stringslite_CutPrefix
 have:=HasPrefix_ok (l:=l) (p:=p) (k:=fun (r1:Bool) h2=>if (!r1) then k (ofL l,false) h2 else (∃ s3:ByteArray,(0:Int)<=((ofL p).size:Int)/\(((ofL p).size:Int):Int)<=((ofL l).size:Int)/\((ofL l).size:Int)<=((ofL l).size:Int)/\s3=(ofL l).extract ((ofL p).size:Int).toNat ((ofL l).size:Int).toNat/\(k (s3,true) h2))) (h:=h) hl (by
  cases hp:prefU l p with
  | false=>rw [hp,if_neg (by simp)] at H; rw [if_pos (by simp)]; exact H
  | true =>
   rw [hp,if_pos rfl] at H
   rw [if_neg (by simp)]
   unfold prefU at hp
   simp only [Bool.and_eq_true,decide_eq_true_eq] at hp
   rw [size_ofL,size_ofL]
   refine ⟨_,by omega,by omega,by omega,rfl,?_⟩
   rw [extract_ofL,show (p.length:Int).toNat=p.length from rfl,show (l.length:Int).toNat=l.length from rfl,List.take_of_length_le (by rw [List.length_drop]; exact Nat.le_refl _)]
   exact H)
 exact this
def sufU (l:Tx) (c:UInt8):Tx × Bool:=if l.getLast? = some c then (l.dropLast,true) else (l,false)
theorem CutSuffix_ok {l:Tx} {c:UInt8} {k:ByteArray × Bool->Heap->Prop} {h:Heap} (hl:l.length<=1000000000) (H:k (ofL (sufU l c).1,(sufU l c).2) h):strings_CutSuffix (ofL l) ⟨#[c]⟩ k h:=by
 unfold strings_CutSuffix internal_stringslite_CutSuffix internal_stringslite_HasSuffix internal_stringslite_HasSuffix_g1
 have z1:(⟨#[c]⟩:ByteArray).size=1:=rfl
 have e1:(⟨#[c]⟩:ByteArray).toList=[c]:=ofL_toList [c]
 rw [z1,e1,size_ofL]
 rcases List.eq_nil_or_concat l with rfl | ⟨ys,y,rfl⟩
 ·rw [if_neg (by simp)]
  dsimp only
  rw [if_pos (by simp)]
  have:sufU [] c=([],false):=by simp [sufU]
  rw [this] at H; exact H
 ·rw [List.concat_eq_append] at *
  simp only [List.length_append,List.length_cons,List.length_nil] at hl ⊢
  rw [if_pos (by rw [decide_eq_true_eq]; omega)]
  rw [wrapI64 (by omega) (by omega)]
  refine ⟨_,by omega,by omega,by omega,rfl,?_⟩
  rw [extract_ofL,ofL_toList]
  rw [show (((ys.length + (0 + 1):Nat):Int) - ((1:Nat):Int)).toNat=ys.length from by omega,show ((ys.length + (0 + 1):Nat):Int).toNat=ys.length + 1 from by omega]
  rw [List.drop_left,show ys.length + 1 - ys.length=1 from by omega]
  by_cases hy:y=c
  ·subst hy
   rw [if_neg (by simp)]
   refine ⟨_,by omega,by omega,by omega,rfl,?_⟩
   rw [extract_ofL]
   have:sufU (ys ++ [y]) y=(ys,true):=by simp [sufU]
   rw [this] at H
   simpa using H
  ·rw [if_pos (by simpa using hy)]
   have:sufU (ys ++ [y]) c=(ys ++ [y],false):=by simp [sufU,hy]
   rw [this] at H; exact H
end Go.Q.Yq
end
section
namespace Go.Q.Yq
/-! ### questions -/
abbrev QU:=Tx × Int × Tx
def qst (x:QU):S_api_Question:=⟨ofL x.1,x.2.1,ofL x.2.2⟩
def qcs (x:QU):List Value:=S_api_Question.cs (qst x)
theorem scs3_len (x:S_api_Question):(S_api_Question.cs x).length=3:=rfl
theorem scs_len (x:S_api_Selector):(S_api_Selector.cs x).length=2:=rfl
def sg:List Tx:=[[61],[33,61],[94,61]]
def qgo (n r:Tx):Int->List Tx->QU × Bool
 | _,[]=>((n,0,[]),false)
 | j,s :: ss=>if prefU r s=true then ((n,j,r.drop s.length),wordU n && wordU (r.drop s.length)) else qgo n r (j + 1) ss
def questionU (l:Tx):QU × Bool:=qgo (l.takeWhile letterU) (l.dropWhile letterU) 0 sg
theorem tw_take {p:UInt8->Bool}:∀ {l:Tx} {i:Nat},(l.take i).all p=true->(i=l.length∨∃ c,l[i]? = some c/\p c=false)->l.takeWhile p=l.take i/\l.dropWhile p=l.drop i
 | [],i,_,_=>by simp
 | b :: r,0,_,h=>by
  rcases h with h | ⟨c,hc,hp⟩
  ·simp at h
  ·simp at hc; subst hc; simp [hp]
 | b :: r,i + 1,ha,h=>by
  simp only [List.take_succ_cons,List.all_cons,Bool.and_eq_true] at ha
  have:=tw_take (l:=r) (i:=i) ha.2 (by
   rcases h with h | ⟨c,hc,hp⟩
   ·left; simpa using h
   ·right; exact ⟨c,by simpa using hc,hp⟩)
  rw [List.takeWhile_cons,if_pos ha.1,List.dropWhile_cons,if_pos ha.1,this.1,this.2]
  exact ⟨rfl,rfl⟩
theorem Question_ok {l:Tx} {k:S_api_Question × Bool->Heap->Prop} {h:Heap} (hl:l.length<=1000000000) (H:∀ h',Ext h.size h h'->k (qst (questionU l).1,(questionU l).2) h'):label_question (ofL l) k h:=by
 unfold label_question
 refine ⟨_,_,rfl,rfl,?_⟩
 have P:=Blk.push h (S_api_Question.cs ⟨ByteArray.empty,0,ByteArray.empty⟩) 174
 have W:=Ext.push h (.cells (S_api_Question.cs ⟨ByteArray.empty,0,ByteArray.empty⟩).toArray 174) (Nat.le_refl _)
 have pl:=P.lt
 generalize h.push (.cells (S_api_Question.cs ⟨ByteArray.empty,0,ByteArray.empty⟩).toArray 174)=h2 at *
 have z2:=W.size
 refine ⟨fun i h'=>0<=i/\i<=l.length/\(l.take i.toNat).all letterU=true/\h'=h2,fun i _=>(l.length - i).toNat,⟨by omega,by omega,by simp,rfl⟩,?_⟩
 rintro i h' ⟨i0,i1,ha,e⟩
 subst e
 have g2:(i.toNat=l.length∨∃ c,l[i.toNat]? = some c/\letterU c=false)->∀ nx,label_question_g2 (ofL l) ⟨h.size,0,none⟩ i false k nx h':=fun hs nx=>by
  obtain ⟨tw,dw⟩:=tw_take ha hs
  unfold label_question_g2
  rw [if_neg (by simp),size_ofL]
  refine ⟨_,by omega,i0,by omega,rfl,?_⟩
  rw [extract_ofL,show (0:Int).toNat=0 from rfl,List.drop_zero,Nat.sub_zero]
  obtain ⟨n,en⟩:∃ n,n=l.take i.toNat:=⟨_,rfl⟩
  obtain ⟨r,er⟩:∃ r,r=l.drop i.toNat:=⟨_,rfl⟩
  rw [← en] at tw ⊢
  rw [← er] at dw
  have nl:n.length<=1000000000:=by rw [en,List.length_take]; omega
  have rl:r.length<=1000000000:=by rw [er,List.length_drop]; omega
  refine ⟨_,_,rfl,rfl,?_⟩
  have Q:=Blk.push h' (S_api_Question.cs ⟨ByteArray.empty,0,ByteArray.empty⟩) 174
  have Q2:=Q.sets_all (vs:=S_api_Question.cs ⟨ofL n,0,ByteArray.empty⟩) rfl
  have W3:=(Ext.push h' (.cells (S_api_Question.cs ⟨ByteArray.empty,0,ByteArray.empty⟩).toArray 174) (Nat.le_refl _)).trans (Ext.sets _ (a:=⟨h'.size,0,none⟩) 0 (S_api_Question.cs ⟨ofL n,0,ByteArray.empty⟩) (Nat.le_refl _))
  refine ⟨_,WrsAt.of_blk Q (by rw [scs3_len]; omega),rfl,?_⟩
  generalize setsH (h'.push (.cells (S_api_Question.cs ⟨ByteArray.empty,0,ByteArray.empty⟩).toArray 174)) ⟨h'.size,0,none⟩ 0 (S_api_Question.cs ⟨ofL n,0,ByteArray.empty⟩)=h3 at *
  have z3:=W3.size
  have ql:=Q2.lt
  unfold label_signs
  refine ⟨_,_,rfl,rfl,?_⟩
  have S:=Blk.push h3 (sg.map fun s=>Value.string (ofL s)) 9
  have W4:=Ext.push h3 (.cells (sg.map fun s=>Value.string (ofL s)).toArray 9) (Nat.le_refl _)
  have es:h3.push (.cells ([.string (⟨#[61]⟩:ByteArray),.string (⟨#[33,61]⟩:ByteArray),.string (⟨#[94,61]⟩:ByteArray)]).toArray 9)=h3.push (.cells (sg.map fun s=>Value.string (ofL s)).toArray 9):=rfl
  rw [es]
  generalize h3.push (.cells (sg.map fun s=>Value.string (ofL s)).toArray 9)=h4 at *
  have z4:=W4.size
  have Q4:=Q2.ext W4 ql
  have P4:=(P.ext W3 pl).ext W4 (by omega)
  have X04:Ext h.size h h4:=W.trans ((W3.trans (W4.mono z3)).mono z2)
  have ans:∀ (x:S_api_Question) (b:Bool) (h5:Heap),Ext h.size h4 h5->Blk h5 h.size (S_api_Question.cs ⟨ByteArray.empty,0,ByteArray.empty⟩) 174->(qst (questionU l).1,(questionU l).2)=(x,b)->∃ h6:Heap,WrsAt h5 ⟨h.size,0,none⟩ 3/\h6=setsH h5 ⟨h.size,0,none⟩ 0 (S_api_Question.cs x)/\(∃ v17:S_api_Question,CellsAt h6 ⟨h.size,0,none⟩ (S_api_Question.cs v17)/\k (v17,b) h6):=fun x b h5 X5 P5 e=>by
   refine ⟨_,WrsAt.of_blk P5 (by rw [scs3_len]; omega),rfl,x,CellsAt.of_blk (P5.sets_all (vs:=S_api_Question.cs x) rfl),?_⟩
   rw [← e]
   exact H _ ((X04.trans X5).trans (Ext.sets _ _ _ (Nat.le_refl _)))
  refine ⟨fun j h5=>0<=j/\j<=3/\qgo n r j (sg.drop j.toNat)=questionU l/\h5=h4,fun j _=>(3 - j).toNat,⟨by omega,by omega,by show qgo n r 0 sg=_; unfold questionU; rw [tw,dw],rfl⟩,?_⟩
  rintro j h5 ⟨j0,j1,hq,e5⟩
  subst e5
  unfold label_question_l3b
  by_cases hj:j < 3
  ·rw [if_pos (by rw [decide_eq_true_eq]; exact hj)]
   have hsg:sg[j.toNat]? = some (sg[j.toNat]'(by show j.toNat < 3; omega)):=by simp
   have hdr:sg.drop j.toNat=(sg[j.toNat]'(by show j.toNat < 3; omega)) :: sg.drop (j.toNat + 1):=List.drop_eq_getElem_cons (by show j.toNat < 3; omega)
   generalize sg[j.toNat]'(by show j.toNat < 3; omega)=s at *
   refine ⟨_,rfl,j0,by simpa using hj,ofL s,?_,_,i0,by rw [size_ofL]; omega,by omega,rfl,?_⟩
   ·rw [Nat.mul_one,add_mk,S.cell,Nat.zero_add,List.getElem?_map,hsg]; rfl
   rw [extract_ofL,size_ofL,show (l.length:Int).toNat=l.length from rfl,List.take_of_length_le (by rw [List.length_drop]; exact Nat.le_refl _),← er]
   refine CutPrefix_ok (Nat.le_trans rl (by decide)) ?_
   rw [hdr] at hq
   unfold qgo at hq
   cases hp:prefU r s with
   | true =>
    rw [hp,if_pos rfl] at hq
    rw [if_pos rfl,if_pos rfl]
    refine ⟨_,by rw [add_mk]; exact Q4.wr (by rw [scs3_len]; omega),rfl,?_⟩
    rw [show (⟨h'.size,0,none⟩:Addr).add 1=⟨h'.size,1,none⟩ from by simp,show (⟨h'.size,0,none⟩:Addr).add 2=⟨h'.size,2,none⟩ from by simp]
    have Q5:Blk (setH h5 ⟨h'.size,1,none⟩ (.int .i64 j)) h'.size (S_api_Question.cs ⟨ofL n,j,ByteArray.empty⟩) 174:=Q4.set
    refine ⟨_,Q5.wr (by rw [scs3_len]; omega),rfl,?_⟩
    have Q6:Blk (setH (setH h5 ⟨h'.size,1,none⟩ (.int .i64 j)) ⟨h'.size,2,none⟩ (.string (ofL (r.drop s.length)))) h'.size (S_api_Question.cs ⟨ofL n,j,ofL (r.drop s.length)⟩) 174:=Q5.set
    have oth:∀ g,g≠h'.size->(setH (setH h5 ⟨h'.size,1,none⟩ (.int .i64 j)) ⟨h'.size,2,none⟩ (.string (ofL (r.drop s.length))))[g]? = h5[g]?:=fun g hg=>(setH_other hg).trans (setH_other hg)
    have z6:(setH (setH h5 ⟨h'.size,1,none⟩ (.int .i64 j)) ⟨h'.size,2,none⟩ (.string (ofL (r.drop s.length)))).size=h5.size:=setH_size.trans setH_size
    generalize setH (setH h5 ⟨h'.size,1,none⟩ (.int .i64 j)) ⟨h'.size,2,none⟩ (.string (ofL (r.drop s.length)))=h6 at *
    have P6:=P4.old (oth h.size (by omega))
    have X6:Ext h.size h5 h6:=⟨by omega,fun g hg=>oth g (by omega)⟩
    refine ⟨_,CellsAt.of_blk Q6,ofL n,by rw [Q6.cell]; rfl,word_ok (Nat.le_trans nl (by decide)) ⟨CellsAt.of_blk Q6,?_⟩⟩
    cases hn:wordU n with
    | true =>
     rw [hn,Bool.true_and] at hq
     rw [if_pos rfl]
     refine ⟨ofL (r.drop s.length),by rw [Q6.cell]; rfl,word_ok (by rw [List.length_drop]; omega) ⟨CellsAt.of_blk Q6,?_⟩⟩
     unfold label_question_j4
     exact ans _ _ h6 X6 P6 (by rw [← hq]; rfl)
    | false =>
     rw [hn,Bool.false_and] at hq
     rw [if_neg (by simp)]
     unfold label_question_j4
     exact ans _ _ h6 X6 P6 (by rw [← hq]; rfl)
   | false =>
    rw [hp,if_neg (by simp)] at hq
    rw [if_neg (by simp),wrapI64 (by omega) (by omega)]
    exact ⟨⟨by omega,by omega,by rw [show (j + 1).toNat=j.toNat + 1 from by omega]; exact hq,rfl⟩,by dsimp only; omega⟩
  ·rw [if_neg (by rw [decide_eq_true_eq]; exact hj)]
   have:j=3:=by omega
   subst this
   refine ⟨_,CellsAt.of_blk Q4,?_⟩
   exact ans _ _ h5 (Ext.refl _ _) P4 (by rw [← hq]; rfl)
 unfold label_question_l1b
 rw [size_ofL]
 by_cases hi:i < l.length
 ·rw [if_pos (by rw [decide_eq_true_eq]; exact hi)]
  have hx:l[i.toNat]? = some (l[i.toNat]'(by omega)):=by simp
  generalize l[i.toNat]'(by omega)=c at *
  refine ⟨_,i0,strAt_ofL hx,letter_ok ?_⟩
  cases hc:letterU c with
  | false=>exact g2 (.inr ⟨c,hx,hc⟩) _
  | true =>
   unfold label_question_g2
   rw [if_pos rfl,wrapI64 (by omega) (by omega)]
   refine ⟨_,rfl,⟨by omega,by omega,?_,rfl⟩,by dsimp only; omega⟩
   rw [show (i + 1).toNat=i.toNat + 1 from by omega,List.take_add_one,hx]
   simp [ha,hc]
 ·rw [if_neg (by rw [decide_eq_true_eq]; exact hi)]
  exact g2 (.inl (by omega)) _
/-! ### selectors -/
abbrev zSel:S_api_Selector:=⟨ByteArray.empty,⟨none,0,0⟩⟩
def selGo:Nat->Tx->List QU->Option (List QU)
 | 0,_,_=>none
 | f + 1,rest,qs =>
  if (questionU (cutU rest 44).1).2=false∨qs.length=8 then none
  else if (cutU rest 44).2.2=true then selGo f (cutU rest 44).2.1 (qs ++ [(questionU (cutU rest 44).1).1]) else some (qs ++ [(questionU (cutU rest 44).1).1])
def selU (l:Tx):Option (Tx × List QU) :=
 if (cutU l 123).1≠[]/\wordU (cutU l 123).1=false then none
 else if (cutU l 123).2.2=false then some ((cutU l 123).1,[])
 else if (sufU (cutU l 123).2.1 125).2=false then none
 else (selGo ((sufU (cutU l 123).2.1 125).1.length + 1) (sufU (cutU l 123).2.1 125).1 []).map fun qs=>((cutU l 123).1,qs)
theorem cut_len (l:Tx) (c:UInt8):(cutU l c).1.length<=l.length/\(cutU l c).2.1.length<=l.length/\((cutU l c).2.2=true->(cutU l c).2.1.length < l.length):=by
 unfold cutU
 by_cases hc:c∈l
 ·rw [if_pos hc]
  have:=congrArg List.length (tw_split c hc)
  rw [List.length_append,List.length_cons] at this
  dsimp only
  exact ⟨by omega,by omega,fun _=>by omega⟩
 ·rw [if_neg hc]; simp
theorem suf_len (l:Tx) (c:UInt8):(sufU l c).1.length<=l.length:=by
 unfold sufU; split <;> simp
theorem Selector_ok {l:Tx} {k:S_api_Selector × Int->Heap->Prop} {h:Heap} (hl:l.length<=100000000)
  (H0:∀ h',selU l=none->Ext h.size h h'->k (zSel,4) h')
  (H1:∀ name qs s h',selU l=some (name,qs)->Row h.size h' 174 3 s (qs.flatMap qcs)->s.len=qs.length->Ext h.size h h'->k (⟨ofL name,s⟩,0) h'):label_Selector (ofL l) k h:=by
 unfold label_Selector
 refine ⟨_,_,rfl,rfl,?_⟩
 have P:=Blk.push h (S_api_Selector.cs zSel) 139
 have W:=Ext.push h (.cells (S_api_Selector.cs zSel).toArray 139) (Nat.le_refl _)
 have pl:=P.lt
 generalize h.push (.cells (S_api_Selector.cs zSel).toArray 139)=h2 at *
 have z2:=W.size
 refine Cut_ok' (by omega) ?_
 obtain ⟨cl1,cl2,cl3⟩:=cut_len l 123
 obtain ⟨name,en⟩:∃ x,x=(cutU l 123).1:=⟨_,rfl⟩
 obtain ⟨rest,er⟩:∃ x,x=(cutU l 123).2.1:=⟨_,rfl⟩
 obtain ⟨some',es⟩:∃ x,x=(cutU l 123).2.2:=⟨_,rfl⟩
 have hsel:selU l=if name≠[]/\wordU name=false then none else if some'=false then some (name,[]) else if (sufU rest 125).2=false then none else (selGo ((sufU rest 125).1.length + 1) (sufU rest 125).1 []).map fun qs=>(name,qs):=by
  rw [en,er,es]; rfl
 rw [← en,← er,← es]
 rw [← en] at cl1
 rw [← er] at cl2
 dsimp only
 refine ⟨_,_,rfl,rfl,?_⟩
 have Q:=Blk.push h2 (S_api_Selector.cs zSel) 139
 have Q2:=Q.sets_all (vs:=S_api_Selector.cs ⟨ofL name,⟨none,0,0⟩⟩) rfl
 have W3:=(Ext.push h2 (.cells (S_api_Selector.cs zSel).toArray 139) (Nat.le_refl _)).trans (Ext.sets _ (a:=⟨h2.size,0,none⟩) 0 (S_api_Selector.cs ⟨ofL name,⟨none,0,0⟩⟩) (Nat.le_refl _))
 refine ⟨_,WrsAt.of_blk Q (by rw [scs_len]; omega),rfl,?_⟩
 generalize setsH (h2.push (.cells (S_api_Selector.cs zSel).toArray 139)) ⟨h2.size,0,none⟩ 0 (S_api_Selector.cs ⟨ofL name,⟨none,0,0⟩⟩)=h3 at *
 have z3:=W3.size
 have ql:=Q2.lt
 have P3:=P.ext W3 pl
 have X03:Ext h.size h h3:=W.trans (W3.mono z2)
 have bad:∀ h',Blk h' h.size (S_api_Selector.cs zSel) 139->Ext h.size h h'->selU l=none->∃ h8:Heap,WrsAt h' ⟨h.size,0,none⟩ 2/\h8=setsH h' ⟨h.size,0,none⟩ 0 (S_api_Selector.cs zSel)/\(∃ v9:S_api_Selector,CellsAt h8 ⟨h.size,0,none⟩ (S_api_Selector.cs v9)/\k (v9,4) h8):=fun h' P' X' hn =>
  ⟨_,WrsAt.of_blk P' (by rw [scs_len]; omega),rfl,_,CellsAt.of_blk (P'.sets_all (vs:=S_api_Selector.cs zSel) rfl),H0 _ hn (X'.trans (Ext.sets _ _ _ (Nat.le_refl _)))⟩
 have good:∀ h' s qs,Blk h' h.size (S_api_Selector.cs zSel) 139->Ext h.size h h'->Blk h' h2.size (S_api_Selector.cs ⟨ofL name,s⟩) 139->Row (h2.size + 1) h' 174 3 s (qs.flatMap qcs)->s.len=qs.length->selU l=some (name,qs) ->
   ∃ v10:S_api_Selector,CellsAt h' ⟨h2.size,0,none⟩ (S_api_Selector.cs v10)/\(∃ h11:Heap,WrsAt h' ⟨h.size,0,none⟩ 2/\h11=setsH h' ⟨h.size,0,none⟩ 0 (S_api_Selector.cs v10)/\(∃ v12:S_api_Selector,CellsAt h11 ⟨h.size,0,none⟩ (S_api_Selector.cs v12)/\k (v12,0) h11)):=fun h' s qs P' X' Q' R' sl hs=>by
  refine ⟨_,CellsAt.of_blk Q',_,WrsAt.of_blk P' (by rw [scs_len]; omega),rfl,_,CellsAt.of_blk (P'.sets_all (vs:=S_api_Selector.cs ⟨ofL name,s⟩) rfl),?_⟩
  exact H1 name qs s _ hs ((R'.keep fun g hg=>setsH_other _ _ (by have:=(R'.bd hg).1; dsimp only; omega)).mono (by omega)) sl (X'.trans (Ext.sets _ _ _ (Nat.le_refl _)))
 have g1:∀ b,b=decide (name≠[]/\wordU name=false)->label_Selector_g1 ⟨h.size,0,none⟩ (ofL rest) some' ⟨h2.size,0,none⟩ b k h3:=fun b hb=>by
  unfold label_Selector_g1
  by_cases hw:name≠[]/\wordU name=false
  ·rw [hb,if_pos (by simpa using hw)]
   exact bad h3 P3 X03 (by rw [hsel,if_pos hw])
  rw [hb,if_neg (by simpa using hw)]
  rw [if_neg hw] at hsel
  cases hs':some' with
  | false =>
   rw [if_pos (by simp)]
   rw [hs',if_pos rfl] at hsel
   exact good h3 ⟨none,0,0⟩ [] P3 X03 Q2 (Row.nil _ _ _ _) rfl hsel
  | true =>
   rw [if_neg (by simp)]
   rw [hs',if_neg (by simp)] at hsel
   refine CutSuffix_ok (by omega) ?_
   have sl:=suf_len rest 125
   obtain ⟨r0,er0⟩:∃ x,x=(sufU rest 125).1:=⟨_,rfl⟩
   obtain ⟨ok0,eok⟩:∃ x,x=(sufU rest 125).2:=⟨_,rfl⟩
   rw [← er0,← eok] at hsel
   rw [← er0] at sl
   rw [← er0,← eok]
   refine ⟨fun q h'=>∃ s qs rl,Blk h' h.size (S_api_Selector.cs zSel) 139/\Blk h' h2.size (S_api_Selector.cs ⟨ofL name,s⟩) 139/\Row (h2.size + 1) h' 174 3 s (qs.flatMap qcs)/\s.len=qs.length/\qs.length<=8/\q.1=ofL rl/\rl.length<=100000000/\Ext h.size h h' /\
     ((q.2.1=false/\selU l=none)∨(q.2.1=true/\q.2.2=true/\∃ f,rl.length < f/\(selGo f rl qs).map (fun qs=>(name,qs))=selU l)∨(q.2.1=true/\q.2.2=false/\selU l=some (name,qs))),
    fun q _=>if q.2.2=true then q.1.size + 1 else 0,⟨⟨none,0,0⟩,[],r0,P3,Q2,Row.nil _ _ _ _,rfl,by simp,rfl,by omega,X03,?_⟩,?_⟩
   ·cases hok:ok0 with
    | false=>rw [hok,if_pos rfl] at hsel; exact .inl ⟨rfl,hsel⟩
    | true=>rw [hok,if_neg (by simp)] at hsel; exact .inr (.inl ⟨rfl,rfl,r0.length + 1,by omega,hsel.symm⟩)
   rintro t5 t8 t9 h' ⟨s,qs,rl,P',Q',R',sl',q8,et,rl8,X',C⟩
   dsimp only at et C
   subst et
   have z':=X'.size
   have p':=P'.lt
   have q':=Q'.lt
   unfold label_Selector_l3b
   have j2f:label_Selector_j2 ⟨h.size,0,none⟩ ⟨h2.size,0,none⟩ false k h'∨selU l≠none:=by
    by_cases hn:selU l=none
    ·left; unfold label_Selector_j2; rw [if_pos (by simp)]; exact bad h' P' X' hn
    ·exact .inr hn
   rcases C with ⟨c1,c2⟩ | ⟨c1,c2,f,hf,hgo⟩ | ⟨c1,c2,hgo⟩
   ·subst c1
    rw [if_neg (by simp)]
    exact j2f.resolve_right fun hh=>hh c2
   ·subst c1; subst c2
    rw [if_pos (by simp)]
    obtain ⟨f,rfl⟩:∃ g,f=g + 1:=⟨f - 1,by omega⟩
    unfold selGo at hgo
    obtain ⟨d1,d2,d3⟩:=cut_len rl 44
    refine Cut_ok' (by omega) ?_
    dsimp only
    refine Question_ok (by omega) fun h4 X4=>?_
    obtain ⟨x,ex⟩:∃ x,x=(questionU (cutU rl 44).1).1:=⟨_,rfl⟩
    obtain ⟨fit,ef⟩:∃ x,x=(questionU (cutU rl 44).1).2:=⟨_,rfl⟩
    obtain ⟨r2,er2⟩:∃ x,x=(cutU rl 44).2.1:=⟨_,rfl⟩
    obtain ⟨more,em⟩:∃ x,x=(cutU rl 44).2.2:=⟨_,rfl⟩
    rw [← ex,← ef,← er2,← em] at hgo
    rw [← er2,← em] at d3
    rw [← er2] at d2
    rw [← ex,← ef,← er2,← em]
    have z4:=X4.size
    refine ⟨_,_,rfl,rfl,?_⟩
    have T:=Blk.push h4 (S_api_Question.cs ⟨ByteArray.empty,0,ByteArray.empty⟩) 174
    have T2:=T.sets_all (vs:=S_api_Question.cs (qst x)) rfl
    have W5:=(Ext.push h4 (.cells (S_api_Question.cs ⟨ByteArray.empty,0,ByteArray.empty⟩).toArray 174) (Nat.le_refl _)).trans (Ext.sets _ (a:=⟨h4.size,0,none⟩) 0 (S_api_Question.cs (qst x)) (Nat.le_refl _))
    refine ⟨_,WrsAt.of_blk T (by rw [scs3_len]; omega),rfl,?_⟩
    generalize setsH (h4.push (.cells (S_api_Question.cs ⟨ByteArray.empty,0,ByteArray.empty⟩).toArray 174)) ⟨h4.size,0,none⟩ 0 (S_api_Question.cs (qst x))=h5 at *
    have z5:=W5.size
    have X45:Ext h'.size h' h5:=X4.trans (W5.mono z4)
    have P5:=P'.ext X45 p'
    have Q5:=Q'.ext X45 q'
    have R5:=R'.ext X45 fun g hg=>(R'.bd hg).2
    have X05:Ext h.size h h5:=X'.trans (X45.mono z')
    have no:selU l=none->label_Selector_j2 ⟨h.size,0,none⟩ ⟨h2.size,0,none⟩ false k h5:=fun hn=>by
     unfold label_Selector_j2; rw [if_pos (by simp)]; exact bad h5 P5 X05 hn
    cases hfit:fit with
    | false =>
     rw [if_pos (by simp)]
     rw [hfit,if_pos (.inl rfl)] at hgo
     unfold label_Selector_g4
     rw [if_pos rfl]
     exact no (by rw [← hgo]; rfl)
    | true =>
     rw [if_neg (by simp)]
     have c5:cellH h5 ((⟨h2.size,0,none⟩:Addr).add 1)=some (Slc.v s):=by rw [add_mk,Q5.cell]; rfl
     refine ⟨s,c5,?_⟩
     unfold label_Selector_g4
     by_cases h8:qs.length=8
     ·rw [if_pos (by rw [beq_iff_eq]; omega)]
      rw [hfit,if_pos (.inr h8)] at hgo
      exact no (by rw [← hgo]; rfl)
     rw [if_neg (by rw [beq_iff_eq]; omega)]
     rw [hfit,if_neg (by simpa using h8)] at hgo
     refine ⟨s,c5,qst x,CellsAt.of_blk T2,_,_,rfl,rfl,?_⟩
     refine App.row (R5.pushed _) (by simp; omega) rfl rfl (oneC (by kernel_rfl)) (by omega) (by simp only [maxLen]; omega) fun s' h6 R6 l6 z6 F6 _=>?_
     simp at z6
     have F:∀ g,g < h5.size->s.blk≠some g->h6[g]? = h5[g]?:=fun g hg hs=>by rw [F6 g (by simp; omega) hs,Array.getElem?_push,if_neg (by omega)]
     have ns:∀ g,g<=h2.size->s.blk≠some g:=fun g hg e=>by have:=(R5.bd e).1; omega
     have P6:Blk h6 h.size (S_api_Selector.cs zSel) 139:=P5.old (F h.size (by omega) (ns _ (by omega)))
     have Q6:Blk h6 h2.size (S_api_Selector.cs ⟨ofL name,s⟩) 139:=Q5.old (F h2.size (by omega) (ns _ (Nat.le_refl _)))
     refine ⟨_,by rw [add_mk]; exact Q6.wr (by rw [scs_len]; omega),rfl,?_⟩
     rw [show (⟨h2.size,0,none⟩:Addr).add 1=⟨h2.size,1,none⟩ from by simp]
     have Q7:Blk (setH h6 ⟨h2.size,1,none⟩ (Slc.v s')) h2.size (S_api_Selector.cs ⟨ofL name,s'⟩) 139:=Q6.set
     have oth:∀ g,g≠h2.size->(setH h6 ⟨h2.size,1,none⟩ (Slc.v s'))[g]? = h6[g]?:=fun g hg=>setH_other hg
     have z7:(setH h6 ⟨h2.size,1,none⟩ (Slc.v s')).size=h6.size:=setH_size
     generalize setH h6 ⟨h2.size,1,none⟩ (Slc.v s')=h7 at *
     refine ⟨⟨s',qs ++ [x],r2,P6.old (oth _ (by omega)),Q7,?_,by rw [l6,List.length_append]; simp; omega,by rw [List.length_append]; simp; omega,rfl,by omega,X05.trans ⟨by omega,fun g hg=>by rw [oth g (by omega),F g (by omega) (ns g (by omega))]⟩,?_⟩,?_⟩
     ·have:=R6.keep fun g hg=>oth g (by have:=(R6.bd hg).1; omega)
      rw [List.flatMap_append]
      simpa [qcs] using this
     ·cases hm:more with
      | true =>
       rw [hm,if_pos rfl] at hgo
       exact .inr (.inl ⟨rfl,rfl,f,by have:=d3 hm; omega,hgo⟩)
      | false =>
       rw [hm,if_neg (by simp)] at hgo
       exact .inr (.inr ⟨rfl,rfl,hgo.symm⟩)
     ·dsimp only
      rw [size_ofL,size_ofL,if_pos rfl]
      cases hm:more with
      | true=>rw [if_pos rfl]; have:=d3 hm; omega
      | false=>rw [if_neg (by simp)]; omega
   ·subst c1; subst c2
    rw [if_neg (by simp)]
    unfold label_Selector_j2
    rw [if_neg (by simp)]
    exact good h' s qs P' X' Q' R' sl' hgo
 have nempty:(ofL name).toList == (⟨#[]⟩:ByteArray).toList ↔ name=[]:=by
  rw [ofL_toList,show (⟨#[]⟩:ByteArray).toList=[] from ofL_toList []]; simp
 by_cases hn:name=[]
 ·rw [if_neg (by rw [Bool.not_eq_true',Bool.not_eq_false]; exact nempty.2 hn)]
  exact g1 _ (by simp [hn])
 ·rw [if_pos (by
   rw [Bool.not_eq_true']
   cases hh:((ofL name).toList == (⟨#[]⟩:ByteArray).toList) with
   | false=>rfl
   | true=>exact absurd (nempty.1 hh) hn)]
  refine word_ok (by omega) (g1 _ ?_)
  cases hw:wordU name <;> simp [hn,hw]
end Go.Q.Yq
end

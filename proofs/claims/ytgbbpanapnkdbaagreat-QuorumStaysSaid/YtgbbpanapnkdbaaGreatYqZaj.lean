/- A part of the proof of statements of this seat: lemmas, no statement of their own. -/
import Derived.Test.YtgbbpanapnkdbaaGreatYqZad
import Derived.Test.YtgbbpanapnkdbaaGreatYqZae
set_option linter.unusedVariables false
set_option linter.unusedSimpArgs false
section
set_option maxRecDepth 100000
set_option maxHeartbeats 1000000
namespace Go.Q.Yq
open Go.Proofs.Tryz
/-- internal stringslite.IndexByte -/
def internal_stringslite_IndexByte (p0:ByteArray) (p1:Int) (k:(Int)->Heap->Prop) (h:Heap):Prop :=
  ∃ x1:Int,x1=(Lib.indexByte p0.data.toList p1.toNat.toUInt8)/\(k x1 h)
/-- strings.IndexByte -/
def strings_IndexByte (p0:ByteArray) (p1:Int) (k:(Int)->Heap->Prop) (h:Heap):Prop :=
  internal_stringslite_IndexByte p0 p1 (fun (r1:Int) h2=>k r1 h2) h
/-- quaestor label.letter -/
def label_letter_j1 (t0_1:Int) (t3_1:Bool) (k:(Bool)->Heap->Prop) (h_1:Heap):Prop :=
  if t3_1 then (k true h_1) else (strings_IndexByte (⟨#[95,45,46,47]⟩:ByteArray) t0_1 (fun (r1:Int) h2=>k (decide (r1>=0)) h2) h_1)
def label_letter (p0:Int) (k:(Bool)->Heap->Prop) (h:Heap):Prop :=
  if ((decide (p0>=97)) && (decide (p0<=122))) then (label_letter_j1 p0 ((decide (p0>=97)) && (decide (p0<=122))) k h) else (if ((decide (p0>=65)) && (decide (p0<=90))) then (label_letter_j1 p0 ((decide (p0>=65)) && (decide (p0<=90))) k h) else (label_letter_j1 p0 ((decide (p0>=48)) && (decide (p0<=57))) k h))
/-- quaestor label.word -/
def label_word_l1b (t0_1:ByteArray) (t5_1:Int) (t6_1:Int) (k:(Bool)->Heap->Prop) (nx1:(Int)->Heap->Prop) (h_1:Heap):Prop :=
  if (decide (t6_1 < t5_1)) then (∃ v1:Int,(0:Int)<=t6_1/\StrAt t0_1 t6_1 v1/\(label_letter v1 (fun (r2:Bool) h3=>if (!r2) then (k false h3) else (nx1 (IntKind.i64.wrap (t6_1 + 1)) h3)) h_1)) else (k ((decide ((t0_1.size:Int) > 0)) && (decide ((t0_1.size:Int)<=24))) h_1)
def label_word_l1 (t0_1:ByteArray) (t5_1:Int) (i6:Int) (k:(Bool)->Heap->Prop) (h:Heap):Prop :=
  ∃ (I:Int->Heap->Prop) (μ:Int->Heap->Nat),I i6 h/\∀ (t6_1:Int) (h:Heap),I t6_1 h->label_word_l1b t0_1 t5_1 t6_1 k (fun s h'=>I s h'/\μ s h' < μ t6_1 h) h
def label_word (p0:ByteArray) (k:(Bool)->Heap->Prop) (h:Heap):Prop :=
  label_word_l1 p0 (p0.size:Int) 0 k h
/-- internal stringslite.Index -/
def internal_stringslite_Index_g4 (t0_4:ByteArray) (t1_4:ByteArray) (t5_4:Int) (t6_4:Int) (t7_4:Int) (t8_4:Int) (t9_4:Int) (t10_4:Int) (t107_4:Bool) (k:(Int)->Heap->Prop) (nx1:(Int × Int)->Heap->Prop) (h_4:Heap):Prop :=
  if t107_4 then (∃ s14:ByteArray,(0:Int)<=t8_4/\(t8_4:Int)<=(t0_4.size:Int)/\(t0_4.size:Int)<=(t0_4.size:Int)/\s14=t0_4.extract t8_4.toNat (t0_4.size:Int).toNat/\(False)) else (∃ v15:Int,cellH h_4 (⟨0,0,none⟩:Addr)=some (.int .i64 v15)/\(if (((decide (t5_4 > v15)) && (decide (t10_4>=(IntKind.i64.wrap (4 + (shr .i64 t8_4 (4:Int).toNat)))))) && (decide (t8_4 < t9_4))) then (∃ s16:ByteArray,(0:Int)<=t8_4/\(t8_4:Int)<=(t0_4.size:Int)/\(t0_4.size:Int)<=(t0_4.size:Int)/\s16=t0_4.extract t8_4.toNat (t0_4.size:Int).toNat/\(False)) else (nx1 (t8_4,t10_4) h_4)))
def internal_stringslite_Index_g3 (t0_3:ByteArray) (t1_3:ByteArray) (t5_3:Int) (t6_3:Int) (t7_3:Int) (t8_3:Int) (t9_3:Int) (t10_3:Int) (t93_3:Bool) (k:(Int)->Heap->Prop) (nx1:(Int × Int)->Heap->Prop) (h_3:Heap):Prop :=
  if t93_3 then (k t8_3 h_3) else (∃ x11:Int,x11=(IntKind.i64.wrap (t8_3 + 1))/\(∃ x12:Int,x12=(IntKind.i64.wrap (t10_3 + 1))/\(∃ v13:Int,cellH h_3 (⟨0,0,none⟩:Addr)=some (.int .i64 v13)/\(if (decide (t5_3<=v13)) then (False) else (internal_stringslite_Index_g4 t0_3 t1_3 t5_3 t6_3 t7_3 x11 t9_3 x12 false k nx1 h_3)))))
def internal_stringslite_Index_j2 (t0_2:ByteArray) (t1_2:ByteArray) (t5_2:Int) (t6_2:Int) (t7_2:Int) (t9_2:Int) (t10_2:Int) (t8_2:Int) (k:(Int)->Heap->Prop) (nx1:(Int × Int)->Heap->Prop) (h_2:Heap):Prop :=
  ∃ v10:Int,(0:Int)<=(IntKind.i64.wrap (t8_2 + 1))/\StrAt t0_2 (IntKind.i64.wrap (t8_2 + 1)) v10/\(if (v10 == t7_2) then (∃ s17:ByteArray,(0:Int)<=t8_2/\(t8_2:Int)<=(IntKind.i64.wrap (t8_2 + t5_2))/\(IntKind.i64.wrap (t8_2 + t5_2))<=(t0_2.size:Int)/\s17=t0_2.extract t8_2.toNat (IntKind.i64.wrap (t8_2 + t5_2)).toNat/\(internal_stringslite_Index_g3 t0_2 t1_2 t5_2 t6_2 t7_2 t8_2 t9_2 t10_2 (s17.toList == t1_2.toList) k nx1 h_2)) else (internal_stringslite_Index_g3 t0_2 t1_2 t5_2 t6_2 t7_2 t8_2 t9_2 t10_2 false k nx1 h_2))
def internal_stringslite_Index_l1b (t0_1:ByteArray) (t1_1:ByteArray) (t5_1:Int) (t6_1:Int) (t7_1:Int) (t9_1:Int) (t8_1:Int) (t10_1:Int) (k:(Int)->Heap->Prop) (nx1:(Int × Int)->Heap->Prop) (h_1:Heap):Prop :=
  if (decide (t8_1 < t9_1)) then (∃ v18:Int,(0:Int)<=t8_1/\StrAt t0_1 t8_1 v18/\(if (v18 != t6_1) then (∃ s19:ByteArray,(0:Int)<=(IntKind.i64.wrap (t8_1 + 1))/\((IntKind.i64.wrap (t8_1 + 1)):Int)<=t9_1/\t9_1<=(t0_1.size:Int)/\s19=t0_1.extract (IntKind.i64.wrap (t8_1 + 1)).toNat t9_1.toNat/\(internal_stringslite_IndexByte s19 t6_1 (fun (r20:Int) h21=>if (decide (r20 < 0)) then (∃ x22:Int,x22=(-1)/\(k x22 h21)) else (∃ x23:Int,x23=(IntKind.i64.wrap (t8_1 + (IntKind.i64.wrap (r20 + 1))))/\(internal_stringslite_Index_j2 t0_1 t1_1 t5_1 t6_1 t7_1 t9_1 t10_1 x23 k nx1 h21))) h_1)) else (internal_stringslite_Index_j2 t0_1 t1_1 t5_1 t6_1 t7_1 t9_1 t10_1 t8_1 k nx1 h_1))) else (∃ x24:Int,x24=(-1)/\(k x24 h_1))
def internal_stringslite_Index_l1 (t0_1:ByteArray) (t1_1:ByteArray) (t5_1:Int) (t6_1:Int) (t7_1:Int) (t9_1:Int) (i8:Int) (i10:Int) (k:(Int)->Heap->Prop) (h:Heap):Prop :=
  ∃ (I:(Int × Int)->Heap->Prop) (μ:(Int × Int)->Heap->Nat),I (i8,i10) h/\∀ (t8_1:Int) (t10_1:Int) (h:Heap),I (t8_1,t10_1) h->internal_stringslite_Index_l1b t0_1 t1_1 t5_1 t6_1 t7_1 t9_1 t8_1 t10_1 k (fun s h'=>I s h'/\μ s h' < μ (t8_1,t10_1) h) h
def internal_stringslite_Index (p0:ByteArray) (p1:ByteArray) (k:(Int)->Heap->Prop) (h:Heap):Prop :=
  ∃ x1:Int,x1=(p1.size:Int)/\(if ((x1 == 0) || (p1.toList == p0.toList)) then (k 0 h) else (if (x1 == 1) then (∃ v2:Int,(0:Int)<=0/\StrAt p1 0 v2/\(internal_stringslite_IndexByte p0 v2 (fun (r3:Int) h4=>k r3 h4) h)) else (if (decide (x1>=(p0.size:Int))) then (∃ x5:Int,x5=(-1)/\(k x5 h)) else (∃ v6:Int,cellH h (⟨0,0,none⟩:Addr)=some (.int .i64 v6)/\(if ((decide (x1<=v6)) && (decide ((p0.size:Int)<=64))) then (False) else (∃ v7:Int,(0:Int)<=0/\StrAt p1 0 v7/\(∃ v8:Int,(0:Int)<=1/\StrAt p1 1 v8/\(∃ x9:Int,x9=(IntKind.i64.wrap ((IntKind.i64.wrap ((p0.size:Int) - x1)) + 1))/\(internal_stringslite_Index_l1 p0 p1 x1 v7 v8 x9 0 0 k h)))))))))
/-- internal stringslite.Cut -/
def internal_stringslite_Cut (p0:ByteArray) (p1:ByteArray) (k:(ByteArray × ByteArray × Bool)->Heap->Prop) (h:Heap):Prop :=
  internal_stringslite_Index p0 p1 (fun (r1:Int) h2=>if (decide (r1>=0)) then (∃ s3:ByteArray,(0:Int)<=0/\(0:Int)<=r1/\r1<=(p0.size:Int)/\s3=p0.extract (0:Int).toNat r1.toNat/\(∃ s4:ByteArray,(0:Int)<=(IntKind.i64.wrap (r1 + (p1.size:Int)))/\((IntKind.i64.wrap (r1 + (p1.size:Int))):Int)<=(p0.size:Int)/\(p0.size:Int)<=(p0.size:Int)/\s4=p0.extract (IntKind.i64.wrap (r1 + (p1.size:Int))).toNat (p0.size:Int).toNat/\(k (s3,s4,true) h2))) else (k (p0,(⟨#[]⟩:ByteArray),false) h2)) h
/-- strings.Cut -/
def strings_Cut (p0:ByteArray) (p1:ByteArray) (k:(ByteArray × ByteArray × Bool)->Heap->Prop) (h:Heap):Prop :=
  internal_stringslite_Cut p0 p1 (fun (r1:ByteArray × ByteArray × Bool) h2=>k (r1.1,r1.2.1,r1.2.2) h2) h
/-- internal stringslite.HasSuffix -/
def internal_stringslite_HasSuffix_g1 (t20_1:Bool) (k:(Bool)->Heap->Prop) (h_1:Heap):Prop :=
  k t20_1 h_1
def internal_stringslite_HasSuffix (p0:ByteArray) (p1:ByteArray) (k:(Bool)->Heap->Prop) (h:Heap):Prop :=
  if (decide ((p0.size:Int)>=(p1.size:Int))) then (∃ s1:ByteArray,(0:Int)<=(IntKind.i64.wrap ((p0.size:Int) - (p1.size:Int)))/\((IntKind.i64.wrap ((p0.size:Int) - (p1.size:Int))):Int)<=(p0.size:Int)/\(p0.size:Int)<=(p0.size:Int)/\s1=p0.extract (IntKind.i64.wrap ((p0.size:Int) - (p1.size:Int))).toNat (p0.size:Int).toNat/\(internal_stringslite_HasSuffix_g1 (s1.toList == p1.toList) k h)) else (internal_stringslite_HasSuffix_g1 false k h)
/-- internal stringslite.CutSuffix -/
def internal_stringslite_CutSuffix (p0:ByteArray) (p1:ByteArray) (k:(ByteArray × Bool)->Heap->Prop) (h:Heap):Prop :=
  internal_stringslite_HasSuffix p0 p1 (fun (r1:Bool) h2=>if (!r1) then (k (p0,false) h2) else (∃ s3:ByteArray,(0:Int)<=0/\(0:Int)<=(IntKind.i64.wrap ((p0.size:Int) - (p1.size:Int)))/\(IntKind.i64.wrap ((p0.size:Int) - (p1.size:Int)))<=(p0.size:Int)/\s3=p0.extract (0:Int).toNat (IntKind.i64.wrap ((p0.size:Int) - (p1.size:Int))).toNat/\(k (s3,true) h2))) h
/-- strings.CutSuffix -/
def strings_CutSuffix (p0:ByteArray) (p1:ByteArray) (k:(ByteArray × Bool)->Heap->Prop) (h:Heap):Prop :=
  internal_stringslite_CutSuffix p0 p1 (fun (r1:ByteArray × Bool) h2=>k (r1.1,r1.2) h2) h
/-- internal stringslite.HasPrefix -/
def internal_stringslite_HasPrefix_g1 (t17_1:Bool) (k:(Bool)->Heap->Prop) (h_1:Heap):Prop :=
  k t17_1 h_1
def internal_stringslite_HasPrefix (p0:ByteArray) (p1:ByteArray) (k:(Bool)->Heap->Prop) (h:Heap):Prop :=
  if (decide ((p0.size:Int)>=(p1.size:Int))) then (∃ s1:ByteArray,(0:Int)<=0/\(0:Int)<=(p1.size:Int)/\(p1.size:Int)<=(p0.size:Int)/\s1=p0.extract (0:Int).toNat (p1.size:Int).toNat/\(internal_stringslite_HasPrefix_g1 (s1.toList == p1.toList) k h)) else (internal_stringslite_HasPrefix_g1 false k h)
/-- strings.HasPrefix -/
def strings_HasPrefix (p0:ByteArray) (p1:ByteArray) (k:(Bool)->Heap->Prop) (h:Heap):Prop :=
  internal_stringslite_HasPrefix p0 p1 (fun (r1:Bool) h2=>k r1 h2) h
/-- internal stringslite.CutPrefix -/
def internal_stringslite_CutPrefix (p0:ByteArray) (p1:ByteArray) (k:(ByteArray × Bool)->Heap->Prop) (h:Heap):Prop :=
  internal_stringslite_HasPrefix p0 p1 (fun (r1:Bool) h2=>if (!r1) then (k (p0,false) h2) else (∃ s3:ByteArray,(0:Int)<=(p1.size:Int)/\((p1.size:Int):Int)<=(p0.size:Int)/\(p0.size:Int)<=(p0.size:Int)/\s3=p0.extract (p1.size:Int).toNat (p0.size:Int).toNat/\(k (s3,true) h2))) h
/-- strings.CutPrefix -/
def strings_CutPrefix (p0:ByteArray) (p1:ByteArray) (k:(ByteArray × Bool)->Heap->Prop) (h:Heap):Prop :=
  internal_stringslite_CutPrefix p0 p1 (fun (r1:ByteArray × Bool) h2=>k (r1.1,r1.2) h2) h
/-- quaestor label.signs -/
def label_signs (k:(Slc)->Heap->Prop) (h:Heap):Prop :=
  ∃ (b1:Nat) (h2:Heap),b1=h.size/\h2=h.push (.cells ([.string (⟨#[61]⟩:ByteArray),.string (⟨#[33,61]⟩:ByteArray),.string (⟨#[94,61]⟩:ByteArray)]).toArray 9)/\(k (⟨some ⟨b1,0,none⟩,3,3⟩:Slc) h2)
/-- quaestor label.question -/
def label_question_j4 (t2_4:Addr) (t3_4:Bool) (k:(S_api_Question × Bool)->Heap->Prop) (nx1:(Int)->Heap->Prop) (nx3:(Int)->Heap->Prop) (h_4:Heap):Prop :=
  ∃ v17:S_api_Question,CellsAt h_4 t2_4 (S_api_Question.cs v17)/\k (v17,t3_4) h_4
def label_question_l3b (t0_3:ByteArray) (t2_3:Addr) (t4_3:Int) (t5_3:Addr) (t26_3:Slc) (t27_3:Int) (t28_3:Int) (k:(S_api_Question × Bool)->Heap->Prop) (nx1:(Int)->Heap->Prop) (nx3:(Int)->Heap->Prop) (h_3:Heap):Prop :=
  if (decide (t28_3 < t27_3)) then (∃ a10:Addr,t26_3.a=some a10/\(0:Int)<=t28_3/\t28_3 < (t26_3.len:Int)/\(∃ v11:ByteArray,cellH h_3 (a10.add (t28_3.toNat * 1))=some (.string v11)/\(∃ s12:ByteArray,(0:Int)<=t4_3/\(t4_3:Int)<=(t0_3.size:Int)/\(t0_3.size:Int)<=(t0_3.size:Int)/\s12=t0_3.extract t4_3.toNat (t0_3.size:Int).toNat/\(strings_CutPrefix s12 v11 (fun (r13:ByteArray × Bool) h14=>if r13.2 then (∃ h15:Heap,WrH h14 (t5_3.add 1)/\h15=setH h14 (t5_3.add 1) (.int .i64 t28_3)/\(∃ h16:Heap,WrH h15 (t5_3.add 2)/\h16=setH h15 (t5_3.add 2) (.string r13.1)/\(∃ v18:S_api_Question,CellsAt h16 t5_3 (S_api_Question.cs v18)/\(∃ v19:ByteArray,cellH h16 t5_3=some (.string v19)/\(label_word v19 (fun (r20:Bool) h21=>CellsAt h21 t5_3 (S_api_Question.cs v18)/\(if r20 then (∃ v23:ByteArray,cellH h21 (t5_3.add 2)=some (.string v23)/\(label_word v23 (fun (r24:Bool) h25=>CellsAt h25 t5_3 (S_api_Question.cs v18)/\(∃ h27:Heap,WrsAt h25 t2_3 3/\h27=setsH h25 t2_3 0 (S_api_Question.cs v18)/\(label_question_j4 t2_3 r24 k nx1 nx3 h27))) h21)) else (∃ h28:Heap,WrsAt h21 t2_3 3/\h28=setsH h21 t2_3 0 (S_api_Question.cs v18)/\(label_question_j4 t2_3 false k nx1 nx3 h28)))) h16))))) else (nx3 (IntKind.i64.wrap (t28_3 + 1)) h14)) h_3)))) else (∃ v29:S_api_Question,CellsAt h_3 t5_3 (S_api_Question.cs v29)/\(∃ h30:Heap,WrsAt h_3 t2_3 3/\h30=setsH h_3 t2_3 0 (S_api_Question.cs v29)/\(∃ v31:S_api_Question,CellsAt h30 t2_3 (S_api_Question.cs v31)/\k (v31,false) h30)))
def label_question_l3 (t0_3:ByteArray) (t2_3:Addr) (t4_3:Int) (t5_3:Addr) (t26_3:Slc) (t27_3:Int) (i28:Int) (k:(S_api_Question × Bool)->Heap->Prop) (nx1:(Int)->Heap->Prop) (h:Heap):Prop :=
  ∃ (I:Int->Heap->Prop) (μ:Int->Heap->Nat),I i28 h/\∀ (t28_3:Int) (h:Heap),I t28_3 h->label_question_l3b t0_3 t2_3 t4_3 t5_3 t26_3 t27_3 t28_3 k nx1 (fun s h'=>I s h'/\μ s h' < μ t28_3 h) h
def label_question_g2 (t0_2:ByteArray) (t2_2:Addr) (t4_2:Int) (t19_2:Bool) (k:(S_api_Question × Bool)->Heap->Prop) (nx1:(Int)->Heap->Prop) (h_2:Heap):Prop :=
  if t19_2 then (∃ x3:Int,x3=(IntKind.i64.wrap (t4_2 + 1))/\(nx1 x3 h_2)) else (∃ s4:ByteArray,(0:Int)<=0/\(0:Int)<=t4_2/\t4_2<=(t0_2.size:Int)/\s4=t0_2.extract (0:Int).toNat t4_2.toNat/\(∃ (b5:Nat) (h6:Heap),b5=h_2.size/\h6=h_2.push (.cells (S_api_Question.cs (⟨ByteArray.empty,0,ByteArray.empty⟩:S_api_Question)).toArray 174)/\(∃ h7:Heap,WrsAt h6 (⟨b5,0,none⟩:Addr) 3/\h7=setsH h6 (⟨b5,0,none⟩:Addr) 0 (S_api_Question.cs (⟨s4,0,ByteArray.empty⟩:S_api_Question))/\(label_signs  (fun (r8:Slc) h9=>label_question_l3 t0_2 t2_2 t4_2 (⟨b5,0,none⟩:Addr) r8 (r8.len:Int) 0 k nx1 h9) h7))))
def label_question_l1b (t0_1:ByteArray) (t2_1:Addr) (t4_1:Int) (k:(S_api_Question × Bool)->Heap->Prop) (nx1:(Int)->Heap->Prop) (h_1:Heap):Prop :=
  if (decide (t4_1 < (t0_1.size:Int))) then (∃ v32:Int,(0:Int)<=t4_1/\StrAt t0_1 t4_1 v32/\(label_letter v32 (fun (r33:Bool) h34=>label_question_g2 t0_1 t2_1 t4_1 r33 k nx1 h34) h_1)) else (label_question_g2 t0_1 t2_1 t4_1 false k nx1 h_1)
def label_question_l1 (t0_1:ByteArray) (t2_1:Addr) (i4:Int) (k:(S_api_Question × Bool)->Heap->Prop) (h:Heap):Prop :=
  ∃ (I:Int->Heap->Prop) (μ:Int->Heap->Nat),I i4 h/\∀ (t4_1:Int) (h:Heap),I t4_1 h->label_question_l1b t0_1 t2_1 t4_1 k (fun s h'=>I s h'/\μ s h' < μ t4_1 h) h
def label_question (p0:ByteArray) (k:(S_api_Question × Bool)->Heap->Prop) (h:Heap):Prop :=
  ∃ (b1:Nat) (h2:Heap),b1=h.size/\h2=h.push (.cells (S_api_Question.cs (⟨ByteArray.empty,0,ByteArray.empty⟩:S_api_Question)).toArray 174)/\(label_question_l1 p0 (⟨b1,0,none⟩:Addr) 0 k h2)
/-- quaestor label.Selector -/
def label_Selector_j2 (t2_2:Addr) (t7_2:Addr) (t8_2:Bool) (k:(S_api_Selector × Int)->Heap->Prop) (h_2:Heap):Prop :=
  if (!t8_2) then (∃ h15:Heap,WrsAt h_2 t2_2 2/\h15=setsH h_2 t2_2 0 (S_api_Selector.cs (⟨ByteArray.empty,(⟨none,0,0⟩:Slc)⟩:S_api_Selector))/\(∃ v16:S_api_Selector,CellsAt h15 t2_2 (S_api_Selector.cs v16)/\k (v16,4) h15)) else (∃ v17:S_api_Selector,CellsAt h_2 t7_2 (S_api_Selector.cs v17)/\(∃ h18:Heap,WrsAt h_2 t2_2 2/\h18=setsH h_2 t2_2 0 (S_api_Selector.cs v17)/\(∃ v19:S_api_Selector,CellsAt h18 t2_2 (S_api_Selector.cs v19)/\k (v19,0) h18)))
def label_Selector_g4 (t2_4:Addr) (t5_4:ByteArray) (t7_4:Addr) (t8_4:Bool) (t9_4:Bool) (t11_4:Addr) (t59_4:Bool) (k:(S_api_Selector × Int)->Heap->Prop) (nx3:(ByteArray × Bool × Bool)->Heap->Prop) (h_4:Heap):Prop :=
  if t59_4 then (label_Selector_j2 t2_4 t7_4 false k h_4) else (∃ v27:Slc,cellH h_4 (t7_4.add 1)=some (Slc.v v27)/\(∃ v28:S_api_Question,CellsAt h_4 t11_4 (S_api_Question.cs v28)/\(∃ (b29:Nat) (h30:Heap),b29=h_4.size/\h30=h_4.push (.cells ((S_api_Question.cs v28)).toArray 174)/\(App 174 3 40 [.string ByteArray.empty,.int .i64 0,.string ByteArray.empty] h30 v27 1 ((S_api_Question.cs v28)) (fun s31 h32=>∃ h33:Heap,WrH h32 (t7_4.add 1)/\h33=setH h32 (t7_4.add 1) (Slc.v s31)/\(nx3 (t5_4,t8_4,t9_4) h33))))))
def label_Selector_l3b (t2_3:Addr) (t7_3:Addr) (t5_3:ByteArray) (t8_3:Bool) (t9_3:Bool) (k:(S_api_Selector × Int)->Heap->Prop) (nx3:(ByteArray × Bool × Bool)->Heap->Prop) (h_3:Heap):Prop :=
  if (t8_3 && t9_3) then (strings_Cut t5_3 (⟨#[44]⟩:ByteArray) (fun (r20:ByteArray × ByteArray × Bool) h21=>label_question r20.1 (fun (r22:S_api_Question × Bool) h23=>∃ (b24:Nat) (h25:Heap),b24=h23.size/\h25=h23.push (.cells (S_api_Question.cs (⟨ByteArray.empty,0,ByteArray.empty⟩:S_api_Question)).toArray 174)/\(∃ h26:Heap,WrsAt h25 (⟨b24,0,none⟩:Addr) 3/\h26=setsH h25 (⟨b24,0,none⟩:Addr) 0 (S_api_Question.cs r22.1)/\(if (!r22.2) then (label_Selector_g4 t2_3 r20.2.1 t7_3 t8_3 r20.2.2 (⟨b24,0,none⟩:Addr) true k nx3 h26) else (∃ v34:Slc,cellH h26 (t7_3.add 1)=some (Slc.v v34)/\(label_Selector_g4 t2_3 r20.2.1 t7_3 t8_3 r20.2.2 (⟨b24,0,none⟩:Addr) ((v34.len:Int) == 8) k nx3 h26))))) h21) h_3) else (label_Selector_j2 t2_3 t7_3 t8_3 k h_3)
def label_Selector_l3 (t2_3:Addr) (t7_3:Addr) (i5:ByteArray) (i8:Bool) (i9:Bool) (k:(S_api_Selector × Int)->Heap->Prop) (h:Heap):Prop :=
  ∃ (I:(ByteArray × Bool × Bool)->Heap->Prop) (μ:(ByteArray × Bool × Bool)->Heap->Nat),I (i5,i8,i9) h/\∀ (t5_3:ByteArray) (t8_3:Bool) (t9_3:Bool) (h:Heap),I (t5_3,t8_3,t9_3) h->label_Selector_l3b t2_3 t7_3 t5_3 t8_3 t9_3 k (fun s h'=>I s h'/\μ s h' < μ (t5_3,t8_3,t9_3) h) h
def label_Selector_g1 (t2_1:Addr) (t5_1:ByteArray) (t6_1:Bool) (t7_1:Addr) (t27_1:Bool) (k:(S_api_Selector × Int)->Heap->Prop) (h_1:Heap):Prop :=
  if t27_1 then (∃ h8:Heap,WrsAt h_1 t2_1 2/\h8=setsH h_1 t2_1 0 (S_api_Selector.cs (⟨ByteArray.empty,(⟨none,0,0⟩:Slc)⟩:S_api_Selector))/\(∃ v9:S_api_Selector,CellsAt h8 t2_1 (S_api_Selector.cs v9)/\k (v9,4) h8)) else (if (!t6_1) then (∃ v10:S_api_Selector,CellsAt h_1 t7_1 (S_api_Selector.cs v10)/\(∃ h11:Heap,WrsAt h_1 t2_1 2/\h11=setsH h_1 t2_1 0 (S_api_Selector.cs v10)/\(∃ v12:S_api_Selector,CellsAt h11 t2_1 (S_api_Selector.cs v12)/\k (v12,0) h11))) else (strings_CutSuffix t5_1 (⟨#[125]⟩:ByteArray) (fun (r13:ByteArray × Bool) h14=>label_Selector_l3 t2_1 t7_1 r13.1 r13.2 true k h14) h_1))
def label_Selector (p0:ByteArray) (k:(S_api_Selector × Int)->Heap->Prop) (h:Heap):Prop :=
  ∃ (b1:Nat) (h2:Heap),b1=h.size/\h2=h.push (.cells (S_api_Selector.cs (⟨ByteArray.empty,(⟨none,0,0⟩:Slc)⟩:S_api_Selector)).toArray 139)/\(strings_Cut p0 (⟨#[123]⟩:ByteArray) (fun (r3:ByteArray × ByteArray × Bool) h4=>∃ (b5:Nat) (h6:Heap),b5=h4.size/\h6=h4.push (.cells (S_api_Selector.cs (⟨ByteArray.empty,(⟨none,0,0⟩:Slc)⟩:S_api_Selector)).toArray 139)/\(∃ h7:Heap,WrsAt h6 (⟨b5,0,none⟩:Addr) 2/\h7=setsH h6 (⟨b5,0,none⟩:Addr) 0 (S_api_Selector.cs (⟨r3.1,(⟨none,0,0⟩:Slc)⟩:S_api_Selector))/\(if (!(r3.1.toList == (⟨#[]⟩:ByteArray).toList)) then (label_word r3.1 (fun (r35:Bool) h36=>label_Selector_g1 (⟨b1,0,none⟩:Addr) r3.2.1 r3.2.2 (⟨b5,0,none⟩:Addr) (!r35) k h36) h7) else (label_Selector_g1 (⟨b1,0,none⟩:Addr) r3.2.1 r3.2.2 (⟨b5,0,none⟩:Addr) false k h7)))) h2)
/-- quaestor label.Check -/
def label_Check_j3 (t1_3:Addr) (t16_3:Slc) (t17_3:Int) (t18_3:Int) (t48_3:Bool) (k:(Int)->Heap->Prop) (nx2:(Int)->Heap->Prop) (h_3:Heap):Prop :=
  if t48_3 then (k 1 h_3) else (nx2 (IntKind.i64.wrap (t18_3 + 1)) h_3)
def label_Check_l2b (t1_2:Addr) (t16_2:Slc) (t17_2:Int) (t18_2:Int) (k:(Int)->Heap->Prop) (nx2:(Int)->Heap->Prop) (h_2:Heap):Prop :=
  if (decide (t18_2 < t17_2)) then (∃ a7:Addr,t16_2.a=some a7/\(0:Int)<=t18_2/\t18_2 < (t16_2.len:Int)/\(∃ v8:S_api_Label,CellsAt h_2 (a7.add (t18_2.toNat * 2)) (S_api_Label.cs v8)/\(∃ (b9:Nat) (h10:Heap),b9=h_2.size/\h10=h_2.push (.cells (S_api_Label.cs (⟨ByteArray.empty,ByteArray.empty⟩:S_api_Label)).toArray 178)/\(∃ h11:Heap,WrsAt h10 (⟨b9,0,none⟩:Addr) 2/\h11=setsH h10 (⟨b9,0,none⟩:Addr) 0 (S_api_Label.cs v8)/\(∃ v12:ByteArray,cellH h11 (⟨b9,0,none⟩:Addr)=some (.string v12)/\(label_word v12 (fun (r13:Bool) h14=>if (!r13) then (if true then (label_Check_j3 t1_2 t16_2 t17_2 t18_2 true k nx2 h14) else (if (decide (t18_2 > 0)) then (∃ v15:Slc,cellH h14 (t1_2.add 1)=some (Slc.v v15)/\(∃ a16:Addr,v15.a=some a16/\(0:Int)<=(IntKind.i64.wrap (t18_2 - 1))/\(IntKind.i64.wrap (t18_2 - 1)) < (v15.len:Int)/\(∃ v17:ByteArray,cellH h14 (a16.add ((IntKind.i64.wrap (t18_2 - 1)).toNat * 2))=some (.string v17)/\(∃ v18:ByteArray,cellH h14 (⟨b9,0,none⟩:Addr)=some (.string v18)/\(label_Check_j3 t1_2 t16_2 t17_2 t18_2 (!(Op.bytesLess v17.toList v18.toList)) k nx2 h14))))) else (label_Check_j3 t1_2 t16_2 t17_2 t18_2 false k nx2 h14))) else (∃ v19:ByteArray,cellH h14 ((⟨b9,0,none⟩:Addr).add 1)=some (.string v19)/\(label_word v19 (fun (r20:Bool) h21=>if (!r20) then (label_Check_j3 t1_2 t16_2 t17_2 t18_2 true k nx2 h21) else (if (decide (t18_2 > 0)) then (∃ v22:Slc,cellH h21 (t1_2.add 1)=some (Slc.v v22)/\(∃ a23:Addr,v22.a=some a23/\(0:Int)<=(IntKind.i64.wrap (t18_2 - 1))/\(IntKind.i64.wrap (t18_2 - 1)) < (v22.len:Int)/\(∃ v24:ByteArray,cellH h21 (a23.add ((IntKind.i64.wrap (t18_2 - 1)).toNat * 2))=some (.string v24)/\(∃ v25:ByteArray,cellH h21 (⟨b9,0,none⟩:Addr)=some (.string v25)/\(label_Check_j3 t1_2 t16_2 t17_2 t18_2 (!(Op.bytesLess v24.toList v25.toList)) k nx2 h21))))) else (label_Check_j3 t1_2 t16_2 t17_2 t18_2 false k nx2 h21))) h14))) h11)))))) else (k 0 h_2)
def label_Check_l2 (t1_2:Addr) (t16_2:Slc) (t17_2:Int) (i18:Int) (k:(Int)->Heap->Prop) (h:Heap):Prop :=
  ∃ (I:Int->Heap->Prop) (μ:Int->Heap->Nat),I i18 h/\∀ (t18_2:Int) (h:Heap),I t18_2 h->label_Check_l2b t1_2 t16_2 t17_2 t18_2 k (fun s h'=>I s h'/\μ s h' < μ t18_2 h) h
def label_Check_g1 (t1_1:Addr) (t14_1:Bool) (k:(Int)->Heap->Prop) (h_1:Heap):Prop :=
  if t14_1 then (k 1 h_1) else (∃ v6:Slc,cellH h_1 (t1_1.add 1)=some (Slc.v v6)/\(label_Check_l2 t1_1 v6 (v6.len:Int) 0 k h_1))
def label_Check (p0:S_api_Series) (k:(Int)->Heap->Prop) (h:Heap):Prop :=
  ∃ (b1:Nat) (h2:Heap),b1=h.size/\h2=h.push (.cells (S_api_Series.cs p0).toArray 147)/\(∃ v3:ByteArray,cellH h2 (⟨b1,0,none⟩:Addr)=some (.string v3)/\(label_word v3 (fun (r4:Bool) h5=>if (!r4) then (label_Check_g1 (⟨b1,0,none⟩:Addr) true k h5) else (∃ v26:Slc,cellH h5 ((⟨b1,0,none⟩:Addr).add 1)=some (Slc.v v26)/\(label_Check_g1 (⟨b1,0,none⟩:Addr) (decide ((v26.len:Int) > 8)) k h5))) h2))
/-- quaestor label.Parse -/
def label_Parse_j2 (t2_2:Addr) (t6_2:Addr) (t8_2:Addr) (t18_2:Slc) (t19_2:Int) (t20_2:Int) (t5_2:Int) (k:(S_api_Series × Int)->Heap->Prop) (nx1:(Int × Int)->Heap->Prop) (h_2:Heap):Prop :=
  ∃ v18:Slc,cellH h_2 (t6_2.add 1)=some (Slc.v v18)/\(∃ v19:ByteArray,cellH h_2 t8_2=some (.string v19)/\(∃ v20:ByteArray,cellH h_2 (t8_2.add 2)=some (.string v20)/\(∃ (b21:Nat) (h22:Heap),b21=h_2.size/\h22=h_2.push (.cells ((S_api_Label.cs (⟨v19,v20⟩:S_api_Label))).toArray 178)/\(App 178 2 32 [.string ByteArray.empty,.string ByteArray.empty] h22 v18 1 ((S_api_Label.cs (⟨v19,v20⟩:S_api_Label))) (fun s23 h24=>∃ h25:Heap,WrH h24 (t6_2.add 1)/\h25=setH h24 (t6_2.add 1) (Slc.v s23)/\(nx1 (t5_2,(IntKind.i64.wrap (t20_2 + 1))) h25))))))
def label_Parse_g3 (t2_3:Addr) (t6_3:Addr) (t44_3:Bool) (k:(S_api_Series × Int)->Heap->Prop) (nx1:(Int × Int)->Heap->Prop) (h_3:Heap):Prop :=
  if t44_3 then (∃ h27:Heap,WrsAt h_3 t2_3 2/\h27=setsH h_3 t2_3 0 (S_api_Series.cs (⟨ByteArray.empty,(⟨none,0,0⟩:Slc)⟩:S_api_Series))/\(∃ v28:S_api_Series,CellsAt h27 t2_3 (S_api_Series.cs v28)/\k (v28,4) h27)) else (∃ v29:S_api_Series,CellsAt h_3 t6_3 (S_api_Series.cs v29)/\(∃ h30:Heap,WrsAt h_3 t2_3 2/\h30=setsH h_3 t2_3 0 (S_api_Series.cs v29)/\(∃ v31:S_api_Series,CellsAt h30 t2_3 (S_api_Series.cs v31)/\k (v31,0) h30)))
def label_Parse_l1b (t2_1:Addr) (t6_1:Addr) (t18_1:Slc) (t19_1:Int) (t5_1:Int) (t20_1:Int) (k:(S_api_Series × Int)->Heap->Prop) (nx1:(Int × Int)->Heap->Prop) (h_1:Heap):Prop :=
  if (decide (t20_1 < t19_1)) then (∃ a13:Addr,t18_1.a=some a13/\(0:Int)<=t20_1/\t20_1 < (t18_1.len:Int)/\(∃ v14:S_api_Question,CellsAt h_1 (a13.add (t20_1.toNat * 3)) (S_api_Question.cs v14)/\(∃ (b15:Nat) (h16:Heap),b15=h_1.size/\h16=h_1.push (.cells (S_api_Question.cs (⟨ByteArray.empty,0,ByteArray.empty⟩:S_api_Question)).toArray 174)/\(∃ h17:Heap,WrsAt h16 (⟨b15,0,none⟩:Addr) 3/\h17=setsH h16 (⟨b15,0,none⟩:Addr) 0 (S_api_Question.cs v14)/\(∃ v26:Int,cellH h17 ((⟨b15,0,none⟩:Addr).add 1)=some (.int .i64 v26)/\(if (v26 != 0) then (label_Parse_j2 t2_1 t6_1 (⟨b15,0,none⟩:Addr) t18_1 t19_1 t20_1 4 k nx1 h17) else (label_Parse_j2 t2_1 t6_1 (⟨b15,0,none⟩:Addr) t18_1 t19_1 t20_1 t5_1 k nx1 h17))))))) else (if (t5_1 != 0) then (label_Parse_g3 t2_1 t6_1 true k nx1 h_1) else (∃ v32:S_api_Series,CellsAt h_1 t6_1 (S_api_Series.cs v32)/\(label_Check v32 (fun (r33:Int) h34=>label_Parse_g3 t2_1 t6_1 (r33 != 0) k nx1 h34) h_1)))
def label_Parse_l1 (t2_1:Addr) (t6_1:Addr) (t18_1:Slc) (t19_1:Int) (i5:Int) (i20:Int) (k:(S_api_Series × Int)->Heap->Prop) (h:Heap):Prop :=
  ∃ (I:(Int × Int)->Heap->Prop) (μ:(Int × Int)->Heap->Nat),I (i5,i20) h/\∀ (t5_1:Int) (t20_1:Int) (h:Heap),I (t5_1,t20_1) h->label_Parse_l1b t2_1 t6_1 t18_1 t19_1 t5_1 t20_1 k (fun s h'=>I s h'/\μ s h' < μ (t5_1,t20_1) h) h
def label_Parse (p0:ByteArray) (k:(S_api_Series × Int)->Heap->Prop) (h:Heap):Prop :=
  ∃ (b1:Nat) (h2:Heap),b1=h.size/\h2=h.push (.cells (S_api_Series.cs (⟨ByteArray.empty,(⟨none,0,0⟩:Slc)⟩:S_api_Series)).toArray 147)/\(label_Selector p0 (fun (r3:S_api_Selector × Int) h4=>∃ (b5:Nat) (h6:Heap),b5=h4.size/\h6=h4.push (.cells (S_api_Selector.cs (⟨ByteArray.empty,(⟨none,0,0⟩:Slc)⟩:S_api_Selector)).toArray 139)/\(∃ h7:Heap,WrsAt h6 (⟨b5,0,none⟩:Addr) 2/\h7=setsH h6 (⟨b5,0,none⟩:Addr) 0 (S_api_Selector.cs r3.1)/\(∃ v8:ByteArray,cellH h7 (⟨b5,0,none⟩:Addr)=some (.string v8)/\(∃ (b9:Nat) (h10:Heap),b9=h7.size/\h10=h7.push (.cells (S_api_Series.cs (⟨ByteArray.empty,(⟨none,0,0⟩:Slc)⟩:S_api_Series)).toArray 147)/\(∃ h11:Heap,WrsAt h10 (⟨b9,0,none⟩:Addr) 2/\h11=setsH h10 (⟨b9,0,none⟩:Addr) 0 (S_api_Series.cs (⟨v8,(⟨none,0,0⟩:Slc)⟩:S_api_Series))/\(∃ v12:Slc,cellH h11 ((⟨b5,0,none⟩:Addr).add 1)=some (Slc.v v12)/\(label_Parse_l1 (⟨b1,0,none⟩:Addr) (⟨b9,0,none⟩:Addr) v12 (v12.len:Int) r3.2 0 k h11))))))) h2)
theorem O161:CallOk prog 161:=ck func161
theorem R161 (p0 p1 k h) (H:internal_stringslite_IndexByte p0 p1 k h):CallsH prog 161 #[.string p0,.int .u8 p1] h (fun v h'=>∃ r:Int,v = .int .i64 r/\k r h'):=by
 refine fE func161 fun w0=>?_
 refine zF [0,1] (zQ ?_)
 refine w1 tok (zE (zQ ?_))
 refine w2 tok ?_
 refine wY (y_ext (ibs_run p0 p1 func166 (by kernel_rfl) (by kernel_rfl) (by kernel_rfl) (by kernel_rfl)) rfl rfl) ?_
 obtain ⟨x1,ex1,H⟩:=H
 refine w_pe tok rfl (congrArg (fun z=>(.int .i64 z:Value)) ex1) rfl rfl ?_
 refine zE (zT ?_)
 exact x_ret _ rfl _ rfl ⟨x1,rfl,H⟩
theorem O151:CallOk prog 151:=ck func151
theorem R151 (p0 p1 k h) (H:strings_IndexByte p0 p1 k h):CallsH prog 151 #[.string p0,.int .u8 p1] h (fun v h'=>∃ r:Int,v = .int .i64 r/\k r h'):=by
 refine fE func151 fun w0=>?_
 refine zF [0,1] (zQ ?_)
 refine w1 tok (zE (zQ ?_))
 refine w2 tok ?_
 refine wC O161 (R161 _ _ _ _ H) fun r1 h2 H=>?_
 refine w1 tok (zE (zT ?_))
 exact x_ret _ rfl _ rfl ⟨r1,rfl,H⟩
theorem O125:CallOk prog 125:=ck func125
theorem R125 (p0 k h) (H:label_letter p0 k h):CallsH prog 125 #[.int .u8 p0] h (fun v h'=>∃ r:Bool,v = .bool r/\k r h'):=by
 refine fE func125 fun w0=>?_
 refine zF [0] (zQ ?_)
 refine w1 tok (zE (zS (zB ?_)))
 refine zJ (α:=Bool) [0] (fun (s:Bool)=>[(3,.bool s)]) (fun (s:Bool) h=>label_letter_j1 p0 s k h) ?_ ?_
 rintro t3_1 h_1 H
 refine zF [3,0] ?_
 refine zI H ?_ ?_ <;> intro H
 refine zQ (w1 tok (zE (zT (yB (yT ?_)))))
 exact x_ret _ rfl _ rfl ⟨true,rfl,H⟩
 refine zK (yL (zX (zQ (w1 tok ?_))))
 refine wC O151 (R151 _ _ _ _ H) fun r1 h2 H=>?_
 refine w2 tok (zE (zT ?_))
 exact x_ret _ rfl _ rfl ⟨(decide (r1>=0)),rfl,H⟩
 refine zQ (w3 tok ?_)
 refine vU 3 [0] [(9,.bool ((decide (p0>=97)) && (decide (p0<=122))))] ?_ ?_
 refine w1 tok (zE ?_)
 refine zI H ?_ ?_ <;> intro H
 refine zK ?_
 exact xJ ((decide (p0>=97)) && (decide (p0<=122))) H
 refine zQ (w3 tok ?_)
 refine vU 3 [0] [(15,.bool ((decide (p0>=65)) && (decide (p0<=90))))] ?_ ?_
 refine w1 tok (zE ?_)
 refine zI H ?_ ?_ <;> intro H
 refine zK ?_
 exact xJ ((decide (p0>=65)) && (decide (p0<=90))) H
 refine zR (w3 tok ?_)
 refine vU 3 [0] [(21,.bool ((decide (p0>=48)) && (decide (p0<=57))))] ?_ ?_
 refine w1 tok (zW ?_)
 exact xJ ((decide (p0>=48)) && (decide (p0<=57))) H
 refine vG (d:=18) (fun hb=>?_) (fun hb=>?_)
 refine w3 tok ?_
 refine vK ?_
 exact congrArg (fun b=>some (Value.bool b)) (and_t hb)
 refine wS (wS (w1 tok ?_))
 refine vK ?_
 exact congrArg (fun b=>some (Value.bool b)) (and_f hb)
 refine vG (d:=12) (fun hb=>?_) (fun hb=>?_)
 refine w3 tok ?_
 refine vK ?_
 exact congrArg (fun b=>some (Value.bool b)) (and_t hb)
 refine wS (wS (w1 tok ?_))
 refine vK ?_
 exact congrArg (fun b=>some (Value.bool b)) (and_f hb)
 refine vG (d:=6) (fun hb=>?_) (fun hb=>?_)
 refine w3 tok ?_
 refine vK ?_
 exact congrArg (fun b=>some (Value.bool b)) (and_t hb)
 refine wS (wS (w1 tok ?_))
 refine vK ?_
 exact congrArg (fun b=>some (Value.bool b)) (and_f hb)
theorem O99:CallOk prog 99:=ck func99
theorem R99 (p0 k h) (H:label_word p0 k h):CallsH prog 99 #[.string p0] h (fun v h'=>∃ r:Bool,v = .bool r/\k r h'):=by
 refine fE func99 fun w0=>?_
 refine zF [0] (zQ ?_)
 refine w1 tok (zE (zS (zQ ?_)))
 refine w3 tok (zE (zB ?_))
 obtain ⟨I1,μ1,H0,HI⟩:=H
 refine zO (σ:=Int) [0,5] (fun (s:Int)=>[(6,.int .i64 s)]) I1 μ1 0 H0 ?_
 rintro t6_1 h_1 H
 replace H:=HI t6_1 h_1 H
 refine zF [6,0,5] (zQ ?_)
 refine w1 tok (zE (zS ?_))
 refine zI H ?_ ?_ <;> intro H
 refine zK (zX (zS (zB (zQ (w2 tok (zE (zQ ?_)))))))
 refine w2 tok ?_
 obtain ⟨v1,lv1,hv1,H⟩:=H
 refine wY (y_ixs' tok rfl rfl rfl rfl lv1 hv1) ?_
 refine wC O125 (R125 _ _ _ H) fun r2 h3 H=>?_
 refine w1 tok (zE (zF [6,0,5,13] ?_))
 refine zI H ?_ ?_ <;> intro H
 refine zQ (w1 tok (zE (zT (yB (yT (yT (yB (yT ?_))))))))
 exact x_ret _ rfl _ rfl ⟨false,rfl,H⟩
 refine zK (yL (zX (zR (w2 tok (zW ?_)))))
 exact xJ (IntKind.i64.wrap (t6_1 + 1)) H
 refine zY (yE (yE (yH (zX (zQ (w4 tok ?_))))))
 refine vU 4 [] [(22,.bool ((decide ((p0.size:Int) > 0)) && (decide ((p0.size:Int)<=24))))] ?_ ?_
 refine w1 tok (zE (zT ?_))
 exact x_ret _ rfl _ rfl ⟨((decide ((p0.size:Int) > 0)) && (decide ((p0.size:Int)<=24))),rfl,H⟩
 refine vG (d:=18) (fun hb=>?_) (fun hb=>?_)
 refine w4 tok ?_
 refine vK ?_
 exact congrArg (fun b=>some (Value.bool b)) (and_t hb)
 refine wS (wS (wS (w1 tok ?_)))
 refine vK ?_
 exact congrArg (fun b=>some (Value.bool b)) (and_f hb)
theorem O150:CallOk prog 150:=ck func150
theorem R150 (p0 p1 k h) (H:internal_stringslite_Index p0 p1 k h):CallsH prog 150 #[.string p0,.string p1] h (fun v h'=>∃ r:Int,v = .int .i64 r/\k r h'):=by
 refine fE func150 fun w0=>?_
 refine zF [0,1] (zQ ?_)
 refine w1 tok (zE (zQ ?_))
 refine w2 tok ?_
 obtain ⟨x1,ex1,H⟩:=H
 refine w_pe tok rfl (congrArg (fun z=>(.int .i64 z:Value)) ex1) rfl rfl ?_
 refine zE (zS (zB (zQ (w3 tok ?_))))
 refine vU 4 [0,1,5] [(23,.bool ((x1 == 0) || (p1.toList == p0.toList)))] ?_ ?_
 refine w1 tok (zE ?_)
 refine zI H ?_ ?_ <;> intro H
 refine zQ (w1 tok (zE (zT (yB (yT ?_)))))
 exact x_ret _ rfl _ rfl ⟨0,rfl,H⟩
 refine zQ (w3 tok (zE ?_))
 refine zI H ?_ ?_ <;> intro H
 refine zQ (w2 tok ?_)
 obtain ⟨v2,lv2,hv2,H⟩:=H
 refine wY (y_ixs' tok rfl rfl rfl rfl lv2 hv2) ?_
 refine wC O161 (R161 _ _ _ _ H) fun r3 h4 H=>?_
 refine w1 tok (zE (zF [4] (zT (yB (yT ?_)))))
 exact x_ret _ rfl _ rfl ⟨r3,rfl,H⟩
 refine zQ (w5 tok (zE (zF [0,1,5,31] ?_)))
 refine zI H ?_ ?_ <;> intro H
 refine zQ ?_
 obtain ⟨x5,ex5,H⟩:=H
 refine w_pe tok rfl (congrArg (fun z=>(.int .i64 z:Value)) ex5) rfl rfl ?_
 refine zE (zT (yB (yT ?_)))
 exact x_ret _ rfl _ rfl ⟨x5,rfl,H⟩
 refine zQ (w1 tok ?_)
 refine wL tok H fun v6 H=>?_
 refine w2 tok ?_
 refine vU 4 [0,1,5] [(44,.bool ((decide (x1<=v6)) && (decide ((p0.size:Int)<=64))))] ?_ ?_
 refine w1 tok (zE ?_)
 refine zI H ?_ ?_ <;> intro H
 refine zQ (w2 tok ?_)
 exact H.elim
 refine zK (yL (zX (zQ (w1 tok ?_))))
 obtain ⟨v7,lv7,hv7,H⟩:=H
 refine wY (y_ixs' tok rfl rfl rfl rfl lv7 hv7) ?_
 refine w1 tok (zE (zQ ?_))
 refine w1 tok ?_
 obtain ⟨v8,lv8,hv8,H⟩:=H
 refine wY (y_ixs' tok rfl rfl rfl rfl lv8 hv8) ?_
 refine w1 tok (zE (zQ ?_))
 refine w1 tok (zE (zQ ?_))
 refine w5 tok ?_
 obtain ⟨x9,ex9,H⟩:=H
 refine w_pe tok rfl (congrArg (fun z=>(.int .i64 z:Value)) ex9) rfl rfl ?_
 refine zE (zF [0,1,5,6,7,8,9] (zQ ?_))
 refine w1 tok (zE (zS (zB ?_)))
 obtain ⟨I1,μ1,H0,HI⟩:=H
 refine zO (σ:=Int × Int) [0,1,5,6,7,9] (fun (s:Int × Int)=>[(8,.int .i64 s.1),(10,.int .i64 s.2)]) I1 μ1 (0,0) H0 ?_
 rintro ⟨t8_1,t10_1⟩ h_1 H
 replace H:=HI t8_1 t10_1 h_1 H
 refine zF [8,10,0,1,5,6,7,9] (zS (zQ ?_))
 refine w3 tok (zE ?_)
 refine zI H ?_ ?_ <;> intro H
 refine zK (zX (zB ?_))
 refine zJ (α:=Int) [0,1,5,6,7,9,10] (fun (s:Int)=>[(8,.int .i64 s)]) (fun (s:Int) h=>internal_stringslite_Index_j2 p0 p1 x1 v7 v8 x9 t10_1 s k (fun s h'=>I1 s h'/\μ1 s h' < μ1 (t8_1,t10_1) h_1) h) ?_ ?_
 rintro t8_2 h_2 H
 refine zF [8,0,1,5,6,7,9,10] (zS (zQ ?_))
 refine w3 tok ?_
 obtain ⟨v10,lv10,hv10,H⟩:=H
 refine wY (y_ixs' tok rfl rfl rfl rfl lv10 hv10) ?_
 refine w3 tok ?_
 refine vJ 9 (α:=Bool) [0,1,5,6,7,8,9,10] (fun (s:Bool)=>[(93,.bool s)]) (fun (s:Bool) h=>internal_stringslite_Index_g3 p0 p1 x1 v7 v8 t8_2 x9 t10_1 s k (fun s h'=>I1 s h'/\μ1 s h' < μ1 (t8_1,t10_1) h_1) h) ?_ ?_
 rintro t93_3 h_3 H
 refine vF [93,0,1,5,6,7,8,9,10] (zE ?_)
 refine zI H ?_ ?_ <;> intro H
 refine zQ (w2 tok (zE (zF [4] (zT (yT (yB (yT (yB (yT ?_)))))))))
 exact x_ret _ rfl _ rfl ⟨t8_2,rfl,H⟩
 refine zK (zX (zQ (w2 tok ?_)))
 obtain ⟨x11,ex11,H⟩:=H
 refine w_pe tok rfl (congrArg (fun z=>(.int .i64 z:Value)) ex11) rfl rfl ?_
 refine zE (zQ (w2 tok ?_))
 obtain ⟨x12,ex12,H⟩:=H
 refine w_pe tok rfl (congrArg (fun z=>(.int .i64 z:Value)) ex12) rfl rfl ?_
 refine zE (zQ (w1 tok ?_))
 refine wL tok H fun v13 H=>?_
 refine w2 tok ?_
 refine vJ 5 (α:=Bool) [0,1,5,6,7,8,9,10] (fun (s:Bool)=>[(107,.bool s)]) (fun (s:Bool) h=>internal_stringslite_Index_g4 p0 p1 x1 v7 v8 x11 x9 x12 s k (fun s h'=>I1 s h'/\μ1 s h' < μ1 (t8_1,t10_1) h_1) h) ?_ ?_
 rintro t107_4 h_4 H
 refine vF [107,0,1,5,6,7,8,9,10] (zE ?_)
 refine zI H ?_ ?_ <;> intro H
 refine zQ (w2 tok ?_)
 obtain ⟨s14,ps14,qs14,rs14,es14,H⟩:=H
 refine wYe (y_sls (s:=p0) (L:=x11) (H:=(p0.size:Int)) tok rfl rfl rfl rfl rfl ps14 qs14 rs14) (congrArg Value.string es14) ?_
 refine w1 tok ?_
 exact H.elim
 refine zQ (w1 tok ?_)
 refine wL tok H fun v15 H=>?_
 refine w2 tok ?_
 refine vU 6 [0,1,5,6,7,8,9,10] [(127,.bool ((decide (x1 > v15)) && (decide (x12>=(IntKind.i64.wrap (4 + (shr .i64 x11 (4:Int).toNat)))))))] ?_ ?_
 refine w1 tok ?_
 refine vU 4 [0,1,5,6,7,8,9,10] [(132,.bool (((decide (x1 > v15)) && (decide (x12>=(IntKind.i64.wrap (4 + (shr .i64 x11 (4:Int).toNat)))))) && (decide (x11 < x9))))] ?_ ?_
 refine zE ?_
 refine zI H ?_ ?_ <;> intro H
 refine zQ (w2 tok ?_)
 obtain ⟨s16,ps16,qs16,rs16,es16,H⟩:=H
 refine wYe (y_sls (s:=p0) (L:=x11) (H:=(p0.size:Int)) tok rfl rfl rfl rfl rfl ps16 qs16 rs16) (congrArg Value.string es16) ?_
 refine w1 tok ?_
 exact H.elim
 refine zK (yL ?_)
 exact xJ (x11,x12) H
 refine vG (d:=128) (fun hb=>?_) (fun hb=>?_)
 refine w4 tok ?_
 refine vK ?_
 exact congrArg (fun b=>some (Value.bool b)) (and_t hb)
 refine wS (wS (wS (w1 tok ?_)))
 refine vK ?_
 exact congrArg (fun b=>some (Value.bool b)) (and_f hb)
 refine vG (d:=121) (fun hb=>?_) (fun hb=>?_)
 refine w6 tok ?_
 refine vK ?_
 exact congrArg (fun b=>some (Value.bool b)) (and_t hb)
 refine wS (wS (wS (wS (wS (w1 tok ?_)))))
 refine vK ?_
 exact congrArg (fun b=>some (Value.bool b)) (and_f hb)
 refine vI 102 H ?_ ?_ <;> intro H
 refine w2 tok ?_
 exact H.elim
 refine wS (wS (wS (wS (w1 tok ?_))))
 exact wJ false H
 refine vI 84 H ?_ ?_ <;> intro H
 refine w5 tok ?_
 obtain ⟨s17,ps17,qs17,rs17,es17,H⟩:=H
 refine wYe (y_sls (s:=p0) (L:=t8_2) (H:=(IntKind.i64.wrap (t8_2 + x1))) tok rfl rfl rfl rfl rfl ps17 qs17 rs17) (congrArg Value.string es17) ?_
 refine w3 tok ?_
 exact wJ (s17.toList == p1.toList) H
 refine wS (wS (wS (wS (wS (wS (wS (wS (w1 tok ?_))))))))
 exact wJ false H
 refine zQ (w2 tok ?_)
 obtain ⟨v18,lv18,hv18,H⟩:=H
 refine wY (y_ixs' tok rfl rfl rfl rfl lv18 hv18) ?_
 refine w2 tok (zE (zF [8,10,0,1,5,6,7,9,64] ?_))
 refine zI H ?_ ?_ <;> intro H
 refine zQ (w4 tok ?_)
 obtain ⟨s19,ps19,qs19,rs19,es19,H⟩:=H
 refine wYe (y_sls (s:=p0) (L:=(IntKind.i64.wrap (t8_1 + 1))) (H:=x9) tok rfl rfl rfl rfl rfl ps19 qs19 rs19) (congrArg Value.string es19) ?_
 refine w1 tok ?_
 refine wC O161 (R161 _ _ _ _ H) fun r20 h21 H=>?_
 refine w1 tok (zE (zF [8,10,0,1,5,6,7,9,11] (zS (zQ ?_))))
 refine w2 tok (zE ?_)
 refine zI H ?_ ?_ <;> intro H
 refine zQ ?_
 obtain ⟨x22,ex22,H⟩:=H
 refine w_pe tok rfl (congrArg (fun z=>(.int .i64 z:Value)) ex22) rfl rfl ?_
 refine zE (zF [4] (zT (yT (yT (yB (yT (yB (yT ?_))))))))
 exact x_ret _ rfl _ rfl ⟨x22,rfl,H⟩
 refine zK (zX (zR (w4 tok ?_)))
 obtain ⟨x23,ex23,H⟩:=H
 refine w_pe tok rfl (congrArg (fun z=>(.int .i64 z:Value)) ex23) rfl rfl ?_
 refine zW ?_
 exact xJ x23 H
 refine zK ?_
 exact xJ t8_1 H
 refine zY (yE (yE (yH (zX (zF [] (zQ ?_))))))
 obtain ⟨x24,ex24,H⟩:=H
 refine w_pe tok rfl (congrArg (fun z=>(.int .i64 z:Value)) ex24) rfl rfl ?_
 refine zE (zT ?_)
 exact x_ret _ rfl _ rfl ⟨x24,rfl,H⟩
 refine vG (d:=40) (fun hb=>?_) (fun hb=>?_)
 refine w4 tok ?_
 refine vK ?_
 exact congrArg (fun b=>some (Value.bool b)) (and_t hb)
 refine wS (wS (wS (w1 tok ?_)))
 refine vK ?_
 exact congrArg (fun b=>some (Value.bool b)) (and_f hb)
 refine vG (d:=19) (fun hb=>?_) (fun hb=>?_)
 refine wS (wS (wS (w1 tok ?_)))
 refine vK ?_
 exact congrArg (fun b=>some (Value.bool b)) (or_t hb)
 refine w4 tok ?_
 refine vK ?_
 exact congrArg (fun b=>some (Value.bool b)) (or_f hb)
theorem O124:CallOk prog 124:=ck func124
theorem R124 (p0 p1 k h) (H:internal_stringslite_Cut p0 p1 k h):CallsH prog 124 #[.string p0,.string p1] h (fun v h'=>∃ r:ByteArray × ByteArray × Bool,v = .tuple #[.string r.1,.string r.2.1,.bool r.2.2]/\k r h'):=by
 refine fE func124 fun w0=>?_
 refine zF [0,1] (zQ ?_)
 refine w3 tok (zE (zS (zQ ?_)))
 refine w2 tok ?_
 refine wC O150 (R150 _ _ _ _ H) fun r1 h2 H=>?_
 refine w1 tok (zE (zQ ?_))
 refine w2 tok (zE (zF [0,1,7,12] ?_))
 refine zI H ?_ ?_ <;> intro H
 refine zS ?_
 refine c_draw (by kernel_rfl) (by kernel_rfl) ?_
 refine q_p tok rfl rfl rfl ?_
 refine q_p tok rfl rfl rfl ?_
 obtain ⟨s3,ps3,qs3,rs3,es3,H⟩:=H
 refine q_ye (y_sls (s:=p0) (L:=0) (H:=r1) tok rfl rfl rfl rfl rfl ps3 qs3 rs3) (congrArg Value.string es3) rfl rfl ?_
 refine q_p tok rfl rfl rfl ?_
 refine q_p tok rfl rfl rfl ?_
 refine q_p tok rfl rfl rfl ?_
 refine q_p tok rfl rfl rfl ?_
 refine q_p tok rfl rfl rfl ?_
 obtain ⟨s4,ps4,qs4,rs4,es4,H⟩:=H
 refine q_ye (y_sls (s:=p0) (L:=(IntKind.i64.wrap (r1 + (p1.size:Int)))) (H:=(p0.size:Int)) tok rfl rfl rfl rfl rfl ps4 qs4 rs4) (congrArg Value.string es4) rfl rfl ?_
 refine q_p tok rfl rfl rfl ?_
 refine q_p tok rfl rfl rfl ?_
 refine q_p tok rfl rfl rfl ?_
 refine q_end ?_
 refine zX (zF [4,5,6] (zT (yT ?_)))
 exact x_ret _ rfl _ rfl ⟨(s3,s4,true),rfl,H⟩
 refine zK (zX (zQ (w4 tok (zE (zT ?_)))))
 exact x_ret _ rfl _ rfl ⟨(p0,(⟨#[]⟩:ByteArray),false),rfl,H⟩
theorem O98:CallOk prog 98:=ck func98
theorem R98 (p0 p1 k h) (H:strings_Cut p0 p1 k h):CallsH prog 98 #[.string p0,.string p1] h (fun v h'=>∃ r:ByteArray × ByteArray × Bool,v = .tuple #[.string r.1,.string r.2.1,.bool r.2.2]/\k r h'):=by
 refine fE func98 fun w0=>?_
 refine zF [0,1] (zQ ?_)
 refine w3 tok (zE (zQ ?_))
 refine w2 tok ?_
 refine wC O124 (R124 _ _ _ _ H) fun r1 h2 H=>?_
 refine w6 tok (zE (zF [4,5,6] (zT ?_)))
 exact x_ret _ rfl _ rfl ⟨(r1.1,r1.2.1,r1.2.2),rfl,H⟩
theorem O152:CallOk prog 152:=ck func152
theorem R152 (p0 p1 k h) (H:internal_stringslite_HasSuffix p0 p1 k h):CallsH prog 152 #[.string p0,.string p1] h (fun v h'=>∃ r:Bool,v = .bool r/\k r h'):=by
 refine fE func152 fun w0=>?_
 refine zF [0,1] (zQ ?_)
 refine w1 tok (zE (zQ ?_))
 refine w6 tok ?_
 refine vJ 10 (α:=Bool) [] (fun (s:Bool)=>[(20,.bool s)]) (fun (s:Bool) h=>internal_stringslite_HasSuffix_g1 s k h) ?_ ?_
 rintro t20_1 h_1 H
 refine vF [20] ?_
 refine w1 tok (zE (zT ?_))
 exact x_ret _ rfl _ rfl ⟨t20_1,rfl,H⟩
 refine vI 10 H ?_ ?_ <;> intro H
 refine w6 tok ?_
 obtain ⟨s1,ps1,qs1,rs1,es1,H⟩:=H
 refine wYe (y_sls (s:=p0) (L:=(IntKind.i64.wrap ((p0.size:Int) - (p1.size:Int)))) (H:=(p0.size:Int)) tok rfl rfl rfl rfl rfl ps1 qs1 rs1) (congrArg Value.string es1) ?_
 refine w3 tok ?_
 exact wJ (s1.toList == p1.toList) H
 refine wS (wS (wS (wS (wS (wS (wS (wS (wS (w1 tok ?_)))))))))
 exact wJ false H
theorem O126:CallOk prog 126:=ck func126
theorem R126 (p0 p1 k h) (H:internal_stringslite_CutSuffix p0 p1 k h):CallsH prog 126 #[.string p0,.string p1] h (fun v h'=>∃ r:ByteArray × Bool,v = .tuple #[.string r.1,.bool r.2]/\k r h'):=by
 refine fE func126 fun w0=>?_
 refine zF [0,1] (zQ ?_)
 refine w2 tok (zE (zS (zQ ?_)))
 refine w2 tok ?_
 refine wC O152 (R152 _ _ _ _ H) fun r1 h2 H=>?_
 refine w1 tok (zE ?_)
 refine zI H ?_ ?_ <;> intro H
 refine zQ (w3 tok (zE (zF [4,5] (zT (yT ?_)))))
 exact x_ret _ rfl _ rfl ⟨(p0,false),rfl,H⟩
 refine zK (zX (zQ (w6 tok ?_)))
 obtain ⟨s3,ps3,qs3,rs3,es3,H⟩:=H
 refine wYe (y_sls (s:=p0) (L:=0) (H:=(IntKind.i64.wrap ((p0.size:Int) - (p1.size:Int)))) tok rfl rfl rfl rfl rfl ps3 qs3 rs3) (congrArg Value.string es3) ?_
 refine w2 tok (zE (zF [4,5] (zT ?_)))
 exact x_ret _ rfl _ rfl ⟨(s3,true),rfl,H⟩
theorem O100:CallOk prog 100:=ck func100
theorem R100 (p0 p1 k h) (H:strings_CutSuffix p0 p1 k h):CallsH prog 100 #[.string p0,.string p1] h (fun v h'=>∃ r:ByteArray × Bool,v = .tuple #[.string r.1,.bool r.2]/\k r h'):=by
 refine fE func100 fun w0=>?_
 refine zF [0,1] (zQ ?_)
 refine w2 tok (zE (zQ ?_))
 refine w2 tok ?_
 refine wC O126 (R126 _ _ _ _ H) fun r1 h2 H=>?_
 refine w4 tok (zE (zF [4,5] (zT ?_)))
 exact x_ret _ rfl _ rfl ⟨(r1.1,r1.2),rfl,H⟩
theorem O156:CallOk prog 156:=ck func156
theorem R156 (p0 p1 k h) (H:internal_stringslite_HasPrefix p0 p1 k h):CallsH prog 156 #[.string p0,.string p1] h (fun v h'=>∃ r:Bool,v = .bool r/\k r h'):=by
 refine fE func156 fun w0=>?_
 refine zF [0,1] (zQ ?_)
 refine w1 tok (zE (zQ ?_))
 refine w6 tok ?_
 refine vJ 7 (α:=Bool) [] (fun (s:Bool)=>[(17,.bool s)]) (fun (s:Bool) h=>internal_stringslite_HasPrefix_g1 s k h) ?_ ?_
 rintro t17_1 h_1 H
 refine vF [17] ?_
 refine w1 tok (zE (zT ?_))
 exact x_ret _ rfl _ rfl ⟨t17_1,rfl,H⟩
 refine vI 10 H ?_ ?_ <;> intro H
 refine w3 tok ?_
 obtain ⟨s1,ps1,qs1,rs1,es1,H⟩:=H
 refine wYe (y_sls (s:=p0) (L:=0) (H:=(p1.size:Int)) tok rfl rfl rfl rfl rfl ps1 qs1 rs1) (congrArg Value.string es1) ?_
 refine w3 tok ?_
 exact wJ (s1.toList == p1.toList) H
 refine wS (wS (wS (wS (wS (wS (w1 tok ?_))))))
 exact wJ false H
theorem O133:CallOk prog 133:=ck func133
theorem R133 (p0 p1 k h) (H:strings_HasPrefix p0 p1 k h):CallsH prog 133 #[.string p0,.string p1] h (fun v h'=>∃ r:Bool,v = .bool r/\k r h'):=by
 refine fE func133 fun w0=>?_
 refine zF [0,1] (zQ ?_)
 refine w1 tok (zE (zQ ?_))
 refine w2 tok ?_
 refine wC O156 (R156 _ _ _ _ H) fun r1 h2 H=>?_
 refine w1 tok (zE (zT ?_))
 exact x_ret _ rfl _ rfl ⟨r1,rfl,H⟩
theorem O153:CallOk prog 153:=ck func153
theorem R153 (p0 p1 k h) (H:internal_stringslite_CutPrefix p0 p1 k h):CallsH prog 153 #[.string p0,.string p1] h (fun v h'=>∃ r:ByteArray × Bool,v = .tuple #[.string r.1,.bool r.2]/\k r h'):=by
 refine fE func153 fun w0=>?_
 refine zF [0,1] (zQ ?_)
 refine w2 tok (zE (zS (zQ ?_)))
 refine w2 tok ?_
 refine wC O156 (R156 _ _ _ _ H) fun r1 h2 H=>?_
 refine w1 tok (zE ?_)
 refine zI H ?_ ?_ <;> intro H
 refine zQ (w3 tok (zE (zF [4,5] (zT (yT ?_)))))
 exact x_ret _ rfl _ rfl ⟨(p0,false),rfl,H⟩
 refine zK (zX (zQ (w3 tok ?_)))
 obtain ⟨s3,ps3,qs3,rs3,es3,H⟩:=H
 refine wYe (y_sls (s:=p0) (L:=(p1.size:Int)) (H:=(p0.size:Int)) tok rfl rfl rfl rfl rfl ps3 qs3 rs3) (congrArg Value.string es3) ?_
 refine w2 tok (zE (zF [4,5] (zT ?_)))
 exact x_ret _ rfl _ rfl ⟨(s3,true),rfl,H⟩
theorem O128:CallOk prog 128:=ck func128
theorem R128 (p0 p1 k h) (H:strings_CutPrefix p0 p1 k h):CallsH prog 128 #[.string p0,.string p1] h (fun v h'=>∃ r:ByteArray × Bool,v = .tuple #[.string r.1,.bool r.2]/\k r h'):=by
 refine fE func128 fun w0=>?_
 refine zF [0,1] (zQ ?_)
 refine w2 tok (zE (zQ ?_))
 refine w2 tok ?_
 refine wC O153 (R153 _ _ _ _ H) fun r1 h2 H=>?_
 refine w4 tok (zE (zF [4,5] (zT ?_)))
 exact x_ret _ rfl _ rfl ⟨(r1.1,r1.2),rfl,H⟩
theorem O127:CallOk prog 127:=ck func127
theorem R127 ( k h) (H:label_signs k h):CallsH prog 127 #[] h (fun v h'=>∃ r:Slc,v=Slc.v r/\k r h'):=by
 refine fE func127 fun w0=>?_
 refine zQ (w1 tok (zE (zQ ?_)))
 obtain ⟨b1,h2,eb1,eh2,H⟩:=H
 refine wH (h_bs tok rfl rfl rfl rfl rfl rfl rfl eb1 eh2) ?_
 refine w1 tok (zE (zT ?_))
 exact x_ret _ rfl _ rfl ⟨(⟨some ⟨b1,0,none⟩,3,3⟩:Slc),rfl,H⟩
theorem O101:CallOk prog 101:=ck func101
theorem R101 (p0 k h) (H:label_question p0 k h):CallsH prog 101 #[.string p0] h (fun v h'=>∃ r:S_api_Question × Bool,v = .tuple #[.agg (S_api_Question.cs r.1).toArray,.bool r.2]/\k r h'):=by
 refine fE func101 fun w0=>?_
 refine zF [0] (zQ ?_)
 refine wB tok H fun b1 h2 H=>?_
 refine w1 tok (zE (zQ ?_))
 refine w1 tok (zE (zS (zB ?_)))
 obtain ⟨I1,μ1,H0,HI⟩:=H
 refine zO (σ:=Int) [0,2] (fun (s:Int)=>[(4,.int .i64 s)]) I1 μ1 0 H0 ?_
 rintro t4_1 h_1 H
 replace H:=HI t4_1 h_1 H
 refine zF [4,0,2] (zS (zQ ?_))
 refine w5 tok ?_
 refine vJ 5 (α:=Bool) [0,2,4] (fun (s:Bool)=>[(19,.bool s)]) (fun (s:Bool) h=>label_question_g2 p0 (ad b1) t4_1 s k (fun s h'=>I1 s h'/\μ1 s h' < μ1 t4_1 h_1) h) ?_ ?_
 rintro t19_2 h_2 H
 refine vF [19,0,2,4] (zE ?_)
 refine zI H ?_ ?_ <;> intro H
 refine zK (zX (zB (zR (w2 tok ?_))))
 obtain ⟨x3,ex3,H⟩:=H
 refine w_pe tok rfl (congrArg (fun z=>(.int .i64 z:Value)) ex3) rfl rfl ?_
 refine zL ?_
 exact xJ x3 H
 refine zY (yE (yE (yH (zX (zQ (w2 tok ?_))))))
 obtain ⟨s4,ps4,qs4,rs4,es4,H⟩:=H
 refine wYe (y_sls (s:=p0) (L:=0) (H:=t4_1) tok rfl rfl rfl rfl rfl ps4 qs4 rs4) (congrArg Value.string es4) ?_
 refine wY (y_build tok rfl rfl rfl rfl rfl) ?_
 refine wB tok H fun b5 h6 H=>?_
 refine wTa tok H fun h7 H=>?_
 refine zE (zS (zQ ?_))
 refine wC O127 (R127  _ _ H) fun r8 h9 H=>?_
 refine w2 tok (zE (zB ?_))
 obtain ⟨I3,μ3,H0,HI⟩:=H
 refine zO (σ:=Int) [0,2,4,5,26,27] (fun (s:Int)=>[(28,.int .i64 s)]) I3 μ3 0 H0 ?_
 rintro t28_3 h_3 H
 replace H:=HI t28_3 h_3 H
 refine zF [28,0,2,4,5,26,27] (zQ ?_)
 refine w1 tok (zE (zS ?_))
 refine zI H ?_ ?_ <;> intro H
 refine zK (zX (zS (zB (zQ (w1 tok ?_)))))
 refine wD tok H fun a10 _ H=>?_
 refine wL tok H fun v11 H=>?_
 refine w2 tok (zE (zQ ?_))
 refine w2 tok ?_
 obtain ⟨s12,ps12,qs12,rs12,es12,H⟩:=H
 refine wYe (y_sls (s:=p0) (L:=t4_1) (H:=(p0.size:Int)) tok rfl rfl rfl rfl rfl ps12 qs12 rs12) (congrArg Value.string es12) ?_
 refine w1 tok ?_
 refine wC O128 (R128 _ _ _ _ H) fun r13 h14 H=>?_
 refine w5 tok (zE (zF [28,0,2,4,5,26,27,6,8,9] (zQ ?_)))
 refine w1 tok (zE ?_)
 refine zI H ?_ ?_ <;> intro H
 refine zQ (w3 tok ?_)
 refine wT tok H fun h15 H=>?_
 refine w1 tok ?_
 refine wT tok H fun h16 H=>?_
 refine zE (zF [2,5] ?_)
 refine zJ (α:=Bool) [2] (fun (s:Bool)=>[(3,.bool s)]) (fun (s:Bool) h=>label_question_j4 (ad b1) s k (fun s h'=>I1 s h'/\μ1 s h' < μ1 t4_1 h_1) (fun s h'=>I3 s h'/\μ3 s h' < μ3 t28_3 h_3) h) ?_ ?_
 rintro t3_4 h_4 H
 refine zF [3,2] (zT (yB (yT (yT (yB (yT ?_))))))
 obtain ⟨v17,hv17,H⟩:=H
 exact x_retc tok _ rfl [.agg (S_api_Question.cs v17).toArray,.bool t3_4] ⟨⟨_,_,rfl,rfl,.inr ⟨rfl,_,rfl,rfl,hv17⟩⟩,rfl,trivial⟩ ⟨(v17,t3_4),rfl,H⟩
 refine gB [2,5] ?_
 obtain ⟨v18,hv18,H⟩:=H
 refine gL 0 [5] rfl (y_lda tok rfl rfl rfl rfl rfl hv18) ?_
 refine gT 1 [5] tok ?_
 obtain ⟨v19,hv19,H⟩:=H
 refine gL 2 [47] rfl (y_ld tok rfl rfl rfl rfl hv19) ?_
 refine gCr 3 [48] O99 (R99 _ _ _ H) fun r20 h21 H=>?_
 obtain ⟨hy22,H⟩:=H
 refine gR rfl (y_lda tok rfl rfl rfl rfl rfl hy22) ?_
 refine gZ0 ?_
 refine gT 4 [49] tok ?_
 refine gI 50 H (fun hb H=>?_) (fun hb H=>?_)
 refine gT 5 [5,50] tok ?_
 obtain ⟨v23,hv23,H⟩:=H
 refine gL 6 [50,51] rfl (y_ld tok rfl rfl rfl rfl hv23) ?_
 refine gCr 7 [50,52] O99 (R99 _ _ _ H) fun r24 h25 H=>?_
 obtain ⟨hy26,H⟩:=H
 refine gR rfl (y_lda tok rfl rfl rfl rfl rfl hy26) ?_
 refine gZ0 ?_
 refine gT 8 [50,53] tok ?_
 obtain ⟨h27,wh27,eh27,H⟩:=H
 refine gH 9 [2,46] rfl (h_sts tok rfl rfl rfl rfl rfl (oneC (by kernel_rfl)) wh27 eh27) ?_
 refine gT 10 [54] tok ?_
 refine gZ ?_
 exact xJ r24 H
 refine gS 5 [5,50] ?_
 refine gS 6 [50,51] ?_
 refine gS 7 [50,52] ?_
 refine gT 8 [50,53] tok ?_
 obtain ⟨h28,wh28,eh28,H⟩:=H
 refine gH 9 [2,46] rfl (h_sts tok rfl rfl rfl rfl rfl (oneC (by kernel_rfl)) wh28 eh28) ?_
 refine gT 10 [54] tok ?_
 refine gZ ?_
 exact xJ false H
 refine zK (yL (zX (zR (w2 tok (zW ?_)))))
 exact xJ (IntKind.i64.wrap (t28_3 + 1)) H
 refine zY (yE (yE (yH (zX (zQ ?_)))))
 refine wLa tok H fun v29 H=>?_
 refine wTa tok H fun h30 H=>?_
 refine w1 tok (zE (zF [2,3] (zT ?_)))
 obtain ⟨v31,hv31,H⟩:=H
 exact x_retc tok _ rfl [.agg (S_api_Question.cs v31).toArray,.bool false] ⟨⟨_,_,rfl,rfl,.inr ⟨rfl,_,rfl,rfl,hv31⟩⟩,rfl,trivial⟩ ⟨(v31,false),rfl,H⟩
 refine vI 14 H ?_ ?_ <;> intro H
 refine w2 tok ?_
 obtain ⟨v32,lv32,hv32,H⟩:=H
 refine wY (y_ixs' tok rfl rfl rfl rfl lv32 hv32) ?_
 refine wC O125 (R125 _ _ _ H) fun r33 h34 H=>?_
 refine w1 tok ?_
 exact wJ r33 H
 refine wS (wS (wS (wS (w1 tok ?_))))
 exact wJ false H
theorem O74:CallOk prog 74:=ck func74
theorem R74 (p0 k h) (H:label_Selector p0 k h):CallsH prog 74 #[.string p0] h (fun v h'=>∃ r:S_api_Selector × Int,v = .tuple #[.agg (S_api_Selector.cs r.1).toArray,.int .i64 r.2]/\k r h'):=by
 refine fE func74 fun w0=>?_
 refine zF [0] (zQ ?_)
 refine wB tok H fun b1 h2 H=>?_
 refine w1 tok (zE (zC (zQ ?_)))
 refine w1 tok ?_
 refine wC O98 (R98 _ _ _ _ H) fun r3 h4 H=>?_
 refine w6 tok ?_
 refine w1 tok (zE (zF [2,4,5,6] (zQ ?_)))
 refine w1 tok ?_
 refine wY (y_build tok rfl rfl rfl rfl rfl) ?_
 refine wB tok H fun b5 h6 H=>?_
 refine wTa tok H fun h7 H=>?_
 refine zE (zS (zQ (w3 tok ?_)))
 refine vJ 4 (α:=Bool) [2,5,6,7] (fun (s:Bool)=>[(27,.bool s)]) (fun (s:Bool) h=>label_Selector_g1 (ad b1) r3.2.1 r3.2.2 (ad b5) s k h) ?_ ?_
 rintro t27_1 h_1 H
 refine vF [27,2,5,6,7] (zE ?_)
 refine zI H ?_ ?_ <;> intro H
 refine zQ ?_
 refine wY (y_build tok rfl rfl rfl rfl rfl) ?_
 refine wTa tok H fun h8 H=>?_
 refine w1 tok (zE (zT (yT (yR ?_))))
 obtain ⟨v9,hv9,H⟩:=H
 exact x_retc tok _ rfl [.agg (S_api_Selector.cs v9).toArray,.int .i64 4] ⟨⟨_,_,rfl,rfl,.inr ⟨rfl,_,rfl,rfl,hv9⟩⟩,rfl,trivial⟩ ⟨(v9,4),rfl,H⟩
 refine zK (zX (zS (zQ (w2 tok (zE ?_)))))
 refine zI H ?_ ?_ <;> intro H
 refine zQ ?_
 refine wLa tok H fun v10 H=>?_
 refine wTa tok H fun h11 H=>?_
 refine w1 tok (zE (zF [2,3] (zT (yT (yR ?_)))))
 obtain ⟨v12,hv12,H⟩:=H
 exact x_retc tok _ rfl [.agg (S_api_Selector.cs v12).toArray,.int .i64 0] ⟨⟨_,_,rfl,rfl,.inr ⟨rfl,_,rfl,rfl,hv12⟩⟩,rfl,trivial⟩ ⟨(v12,0),rfl,H⟩
 refine zK (zX (zQ (w1 tok ?_)))
 refine wC O100 (R100 _ _ _ _ H) fun r13 h14 H=>?_
 refine w5 tok (zE (zF [2,5,7,8] (zS (zA (zX ?_)))))
 refine zJ (α:=Bool) [2,7] (fun (s:Bool)=>[(8,.bool s)]) (fun (s:Bool) h=>label_Selector_j2 (ad b1) (ad b5) s k h) ?_ ?_
 rintro t8_2 h_2 H
 refine zF [8,2,7] (zS (zQ ?_))
 refine w2 tok (zE ?_)
 refine zI H ?_ ?_ <;> intro H
 refine zQ ?_
 refine wY (y_build tok rfl rfl rfl rfl rfl) ?_
 refine wTa tok H fun h15 H=>?_
 refine w1 tok (zE (zT (yT (yR ?_))))
 obtain ⟨v16,hv16,H⟩:=H
 exact x_retc tok _ rfl [.agg (S_api_Selector.cs v16).toArray,.int .i64 4] ⟨⟨_,_,rfl,rfl,.inr ⟨rfl,_,rfl,rfl,hv16⟩⟩,rfl,trivial⟩ ⟨(v16,4),rfl,H⟩
 refine zK (zX (zQ ?_))
 refine wLa tok H fun v17 H=>?_
 refine wTa tok H fun h18 H=>?_
 refine w1 tok (zE (zT (yR ?_)))
 obtain ⟨v19,hv19,H⟩:=H
 exact x_retc tok _ rfl [.agg (S_api_Selector.cs v19).toArray,.int .i64 0] ⟨⟨_,_,rfl,rfl,.inr ⟨rfl,_,rfl,rfl,hv19⟩⟩,rfl,trivial⟩ ⟨(v19,0),rfl,H⟩
 refine zQ (w1 tok (zE (zB ?_)))
 obtain ⟨I3,μ3,H0,HI⟩:=H
 refine zO (σ:=ByteArray × Bool × Bool) [2,7] (fun (s:ByteArray × Bool × Bool)=>[(5,.string s.1),(8,.bool s.2.1),(9,.bool s.2.2)]) I3 μ3 (r13.1,r13.2,true) H0 ?_
 rintro ⟨t5_3,t8_3,t9_3⟩ h_3 H
 replace H:=HI t5_3 t8_3 t9_3 h_3 H
 refine zF [5,8,9,2,7] (zS (zQ ?_))
 refine w2 tok ?_
 refine vU 2 [2,5,7,8] [(40,.bool (t8_3 && t9_3))] ?_ ?_
 refine zE ?_
 refine zI H ?_ ?_ <;> intro H
 refine zK (zX (zB (zQ (w1 tok (zE (zQ ?_))))))
 refine w1 tok ?_
 refine wC O98 (R98 _ _ _ _ H) fun r20 h21 H=>?_
 refine w6 tok ?_
 refine w1 tok (zE (zF [2,5,7,8,10,9] (zQ ?_)))
 refine w1 tok ?_
 refine wC O101 (R101 _ _ _ H) fun r22 h23 H=>?_
 refine w3 tok ?_
 refine wB tok H fun b24 h25 H=>?_
 refine wTa tok H fun h26 H=>?_
 refine w1 tok (zE (zS (zQ ?_)))
 refine w3 tok ?_
 refine vJ 5 (α:=Bool) [2,5,7,8,9,11] (fun (s:Bool)=>[(59,.bool s)]) (fun (s:Bool) h=>label_Selector_g4 (ad b1) r20.2.1 (ad b5) t8_3 r20.2.2 (ad b24) s k (fun s h'=>I3 s h'/\μ3 s h' < μ3 (t5_3,t8_3,t9_3) h_3) h) ?_ ?_
 rintro t59_4 h_4 H
 refine vF [59,2,5,7,8,9,11] (zE ?_)
 refine zI H ?_ ?_ <;> intro H
 refine zQ (w1 tok (zE (zY (yE (zM (yE (yH ?_)))))))
 exact xJ false H
 refine zK (zX (zR (w1 tok ?_)))
 refine wL tok H fun v27 H=>?_
 refine wLa tok H fun v28 H=>?_
 obtain ⟨b29,h30,eb29,eh30,H⟩:=H
 refine wH (h_bs tok rfl rfl rfl rfl rfl rfl rfl eb29 eh30) ?_
 refine wA (a_app (s:=v27) (r:=(⟨some ⟨b29,0,none⟩,1,1⟩:Slc)) tok rfl rfl rfl rfl rfl (slcAt_push eb29 eh30) H) ?_
 rintro _ h32 ⟨s31,rfl,H⟩
 refine w1 tok ?_
 refine wT tok H fun h33 H=>?_
 refine zL ?_
 exact xJ (r20.2.1,t8_3,r20.2.2) H
 refine vI 54 H ?_ ?_ <;> intro H
 refine wS (wS (wS (wS (w1 tok ?_))))
 exact wJ true H
 refine w1 tok ?_
 refine wL tok H fun v34 H=>?_
 refine w3 tok ?_
 exact wJ ((v34.len:Int) == 8) H
 refine zY (yE (yE (yH ?_)))
 exact xJ t8_3 H
 refine vG (d:=38) (fun hb=>?_) (fun hb=>?_)
 refine w2 tok ?_
 refine vK ?_
 exact congrArg (fun b=>some (Value.bool b)) (and_t hb)
 refine wS (w1 tok ?_)
 refine vK ?_
 exact congrArg (fun b=>some (Value.bool b)) (and_f hb)
 refine vI 23 H ?_ ?_ <;> intro H
 refine w1 tok ?_
 refine wC O99 (R99 _ _ _ H) fun r35 h36 H=>?_
 refine w2 tok ?_
 exact wJ (!r35) H
 refine wS (wS (wS (w1 tok ?_)))
 exact wJ false H
theorem O102:CallOk prog 102:=ck func102
theorem R102 (p0 k h) (H:label_Check p0 k h):CallsH prog 102 #[.agg (S_api_Series.cs p0).toArray] h (fun v h'=>∃ r:Int,v = .int .i64 r/\k r h'):=by
 refine fE func102 fun w0=>?_
 refine zF [0] (zQ ?_)
 refine wX H fun b1 h2 H=>?_
 refine w1 tok (zE (zS (zQ ?_)))
 refine w1 tok ?_
 refine wL tok H fun v3 H=>?_
 refine wC O99 (R99 _ _ _ H) fun r4 h5 H=>?_
 refine w2 tok ?_
 refine vJ 5 (α:=Bool) [1] (fun (s:Bool)=>[(14,.bool s)]) (fun (s:Bool) h=>label_Check_g1 (ad b1) s k h) ?_ ?_
 rintro t14_1 h_1 H
 refine vF [14,1] (zE ?_)
 refine zI H ?_ ?_ <;> intro H
 refine zQ (w1 tok (zE (zT (yT ?_))))
 exact x_ret _ rfl _ rfl ⟨1,rfl,H⟩
 refine zK (zX (zS (zQ (w1 tok ?_))))
 refine wL tok H fun v6 H=>?_
 refine w2 tok (zE (zB ?_))
 obtain ⟨I2,μ2,H0,HI⟩:=H
 refine zO (σ:=Int) [1,16,17] (fun (s:Int)=>[(18,.int .i64 s)]) I2 μ2 0 H0 ?_
 rintro t18_2 h_2 H
 replace H:=HI t18_2 h_2 H
 refine zF [18,1,16,17] (zQ ?_)
 refine w1 tok (zE (zS ?_))
 refine zI H ?_ ?_ <;> intro H
 refine zK (zX (zS (zB (zQ (w1 tok ?_)))))
 refine wD tok H fun a7 _ H=>?_
 refine wLa tok H fun v8 H=>?_
 refine wB tok H fun b9 h10 H=>?_
 refine w1 tok ?_
 refine wTa tok H fun h11 H=>?_
 refine zE ?_
 refine zJ (α:=Bool) [1,16,17,18] (fun (s:Bool)=>[(48,.bool s)]) (fun (s:Bool) h=>label_Check_j3 (ad b1) v6 (v6.len:Int) t18_2 s k (fun s h'=>I2 s h'/\μ2 s h' < μ2 t18_2 h_2) h) ?_ ?_
 rintro t48_3 h_3 H
 refine zF [48,1,16,17,18] ?_
 refine zI H ?_ ?_ <;> intro H
 refine zQ (w1 tok (zE (zT (yB (yT (yT (yB (yT ?_))))))))
 exact x_ret _ rfl _ rfl ⟨1,rfl,H⟩
 refine zK (yL (zX (zR (w2 tok (zW ?_)))))
 exact xJ (IntKind.i64.wrap (t18_2 + 1)) H
 refine gB [1,3,4,16,17,18] ?_
 refine gT 0 [4] tok ?_
 obtain ⟨v12,hv12,H⟩:=H
 refine gL 1 [23] rfl (y_ld tok rfl rfl rfl rfl hv12) ?_
 refine gC 2 [24] O99 (R99 _ _ _ H) fun r13 h14 H=>?_
 refine gT 3 [25] tok ?_
 refine gT 4 [26] tok ?_
 refine gI 27 H (fun hb H=>?_) (fun hb H=>?_)
 refine gS 5 [4,27] ?_
 refine gS 6 [27,28] ?_
 refine gS 7 [27,29] ?_
 refine gS 8 [27,30] ?_
 refine gT 9 [27,31] tok ?_
 refine gT 10 [32] tok ?_
 refine gI 33 H (fun hb H=>?_) (fun hb H=>?_)
 refine gS 11 [3,33] ?_
 refine gS 12 [33,34] ?_
 refine gS 13 [33,35] ?_
 refine gS 14 [1,36] ?_
 refine gS 15 [36,37] ?_
 refine gS 16 [3,36] ?_
 refine gS 17 [36,39] ?_
 refine gS 18 [36,38,40] ?_
 refine gS 19 [36,41] ?_
 refine gS 20 [36,42] ?_
 refine gS 21 [4,36] ?_
 refine gS 22 [36,44] ?_
 refine gS 23 [36,43,45] ?_
 refine gS 24 [33,36,46] ?_
 refine gT 25 [33,47] tok ?_
 refine gZ ?_
 exact xJ true H
 refine gT 11 [3,33] tok ?_
 refine gT 12 [33,34] tok ?_
 refine gT 13 [33,35] tok ?_
 refine gI 36 H (fun hb H=>?_) (fun hb H=>?_)
 refine gT 14 [1,36] tok ?_
 obtain ⟨v15,hv15,H⟩:=H
 refine gL 15 [36,37] rfl (y_ld tok rfl rfl rfl rfl hv15) ?_
 refine gT 16 [3,36] tok ?_
 refine gT 17 [36,39] tok ?_
 obtain ⟨a16,ha16,la16,ua16,H⟩:=H
 refine gY 18 [36,38,40] rfl (fun _=>y_ixa' tok rfl rfl ha16 rfl rfl rfl la16 ua16) ?_
 refine gT 19 [36,41] tok ?_
 obtain ⟨v17,hv17,H⟩:=H
 refine gL 20 [36,42] rfl (y_ld tok rfl rfl rfl rfl hv17) ?_
 refine gT 21 [4,36] tok ?_
 obtain ⟨v18,hv18,H⟩:=H
 refine gL 22 [36,44] rfl (y_ld tok rfl rfl rfl rfl hv18) ?_
 refine gT 23 [36,43,45] tok ?_
 refine gT 24 [33,36,46] tok ?_
 refine gT 25 [33,47] tok ?_
 refine gZ ?_
 exact xJ (!(Op.bytesLess v17.toList v18.toList)) H
 refine gS 14 [1,36] ?_
 refine gS 15 [36,37] ?_
 refine gS 16 [3,36] ?_
 refine gS 17 [36,39] ?_
 refine gS 18 [36,38,40] ?_
 refine gS 19 [36,41] ?_
 refine gS 20 [36,42] ?_
 refine gS 21 [4,36] ?_
 refine gS 22 [36,44] ?_
 refine gS 23 [36,43,45] ?_
 refine gT 24 [33,36,46] tok ?_
 refine gT 25 [33,47] tok ?_
 refine gZ ?_
 exact xJ false H
 refine gT 5 [4,27] tok ?_
 obtain ⟨v19,hv19,H⟩:=H
 refine gL 6 [27,28] rfl (y_ld tok rfl rfl rfl rfl hv19) ?_
 refine gC 7 [27,29] O99 (R99 _ _ _ H) fun r20 h21 H=>?_
 refine gT 8 [27,30] tok ?_
 refine gT 9 [27,31] tok ?_
 refine gT 10 [32] tok ?_
 refine gI 33 H (fun hb H=>?_) (fun hb H=>?_)
 refine gS 11 [3,33] ?_
 refine gS 12 [33,34] ?_
 refine gS 13 [33,35] ?_
 refine gS 14 [1,36] ?_
 refine gS 15 [36,37] ?_
 refine gS 16 [3,36] ?_
 refine gS 17 [36,39] ?_
 refine gS 18 [36,38,40] ?_
 refine gS 19 [36,41] ?_
 refine gS 20 [36,42] ?_
 refine gS 21 [4,36] ?_
 refine gS 22 [36,44] ?_
 refine gS 23 [36,43,45] ?_
 refine gS 24 [33,36,46] ?_
 refine gT 25 [33,47] tok ?_
 refine gZ ?_
 exact xJ true H
 refine gT 11 [3,33] tok ?_
 refine gT 12 [33,34] tok ?_
 refine gT 13 [33,35] tok ?_
 refine gI 36 H (fun hb H=>?_) (fun hb H=>?_)
 refine gT 14 [1,36] tok ?_
 obtain ⟨v22,hv22,H⟩:=H
 refine gL 15 [36,37] rfl (y_ld tok rfl rfl rfl rfl hv22) ?_
 refine gT 16 [3,36] tok ?_
 refine gT 17 [36,39] tok ?_
 obtain ⟨a23,ha23,la23,ua23,H⟩:=H
 refine gY 18 [36,38,40] rfl (fun _=>y_ixa' tok rfl rfl ha23 rfl rfl rfl la23 ua23) ?_
 refine gT 19 [36,41] tok ?_
 obtain ⟨v24,hv24,H⟩:=H
 refine gL 20 [36,42] rfl (y_ld tok rfl rfl rfl rfl hv24) ?_
 refine gT 21 [4,36] tok ?_
 obtain ⟨v25,hv25,H⟩:=H
 refine gL 22 [36,44] rfl (y_ld tok rfl rfl rfl rfl hv25) ?_
 refine gT 23 [36,43,45] tok ?_
 refine gT 24 [33,36,46] tok ?_
 refine gT 25 [33,47] tok ?_
 refine gZ ?_
 exact xJ (!(Op.bytesLess v24.toList v25.toList)) H
 refine gS 14 [1,36] ?_
 refine gS 15 [36,37] ?_
 refine gS 16 [3,36] ?_
 refine gS 17 [36,39] ?_
 refine gS 18 [36,38,40] ?_
 refine gS 19 [36,41] ?_
 refine gS 20 [36,42] ?_
 refine gS 21 [4,36] ?_
 refine gS 22 [36,44] ?_
 refine gS 23 [36,43,45] ?_
 refine gT 24 [33,36,46] tok ?_
 refine gT 25 [33,47] tok ?_
 refine gZ ?_
 exact xJ false H
 refine zY (yE (yE (yH (zX (zQ (w1 tok (zE (zT ?_))))))))
 exact x_ret _ rfl _ rfl ⟨0,rfl,H⟩
 refine vI 9 H ?_ ?_ <;> intro H
 refine wS (wS (wS (wS (w1 tok ?_))))
 exact wJ true H
 refine w1 tok ?_
 refine wL tok H fun v26 H=>?_
 refine w3 tok ?_
 exact wJ (decide ((v26.len:Int) > 8)) H
theorem O76:CallOk prog 76:=ck func76
theorem R76 (p0 k h) (H:label_Parse p0 k h):CallsH prog 76 #[.string p0] h (fun v h'=>∃ r:S_api_Series × Int,v = .tuple #[.agg (S_api_Series.cs r.1).toArray,.int .i64 r.2]/\k r h'):=by
 refine fE func76 fun w0=>?_
 refine zF [0] (zQ ?_)
 refine wB tok H fun b1 h2 H=>?_
 refine w1 tok (zE (zQ ?_))
 refine w1 tok ?_
 refine wC O74 (R74 _ _ _ H) fun r3 h4 H=>?_
 refine w3 tok ?_
 refine wB tok H fun b5 h6 H=>?_
 refine wTa tok H fun h7 H=>?_
 refine w1 tok (zE (zF [2,4,5] (zQ ?_)))
 refine w1 tok ?_
 refine wL tok H fun v8 H=>?_
 refine wY (y_build tok rfl rfl rfl rfl rfl) ?_
 refine wB tok H fun b9 h10 H=>?_
 refine wTa tok H fun h11 H=>?_
 refine zE (zS (zQ (w1 tok ?_)))
 refine wL tok H fun v12 H=>?_
 refine w2 tok (zE (zB ?_))
 obtain ⟨I1,μ1,H0,HI⟩:=H
 refine zO (σ:=Int × Int) [2,6,18,19] (fun (s:Int × Int)=>[(5,.int .i64 s.1),(20,.int .i64 s.2)]) I1 μ1 (r3.2,0) H0 ?_
 rintro ⟨t5_1,t20_1⟩ h_1 H
 replace H:=HI t5_1 t20_1 h_1 H
 refine zF [5,20,2,6,18,19] (zQ ?_)
 refine w1 tok (zE (zS ?_))
 refine zI H ?_ ?_ <;> intro H
 refine zK (zX (zS (zB (zQ ?_))))
 refine wD tok H fun a13 _ H=>?_
 refine wLa tok H fun v14 H=>?_
 refine wB tok H fun b15 h16 H=>?_
 refine wTa tok H fun h17 H=>?_
 refine zE ?_
 refine zJ (α:=Int) [2,6,8,18,19,20] (fun (s:Int)=>[(5,.int .i64 s)]) (fun (s:Int) h=>label_Parse_j2 (ad b1) (ad b9) (ad b15) v12 (v12.len:Int) t20_1 s k (fun s h'=>I1 s h'/\μ1 s h' < μ1 (t5_1,t20_1) h_1) h) ?_ ?_
 rintro t5_2 h_2 H
 refine zF [5,2,6,8,18,19,20] (zR ?_)
 refine w1 tok ?_
 refine wL tok H fun v18 H=>?_
 refine w1 tok ?_
 refine wL tok H fun v19 H=>?_
 refine w1 tok ?_
 refine wL tok H fun v20 H=>?_
 refine wY (y_build tok rfl rfl rfl rfl rfl) ?_
 obtain ⟨b21,h22,eb21,eh22,H⟩:=H
 refine wH (h_bs tok rfl rfl rfl rfl rfl rfl rfl eb21 eh22) ?_
 refine wA (a_app (s:=v18) (r:=(⟨some ⟨b21,0,none⟩,1,1⟩:Slc)) tok rfl rfl rfl rfl rfl (slcAt_push eb21 eh22) H) ?_
 rintro _ h24 ⟨s23,rfl,H⟩
 refine w1 tok ?_
 refine wT tok H fun h25 H=>?_
 refine zL (zX (zF [5,2,6,18,19,20] (zR ?_)))
 refine w2 tok (zW ?_)
 exact xJ (t5_2,(IntKind.i64.wrap (t20_1 + 1))) H
 refine zQ (w1 tok ?_)
 refine wL tok H fun v26 H=>?_
 refine w1 tok (zE ?_)
 refine zI H ?_ ?_ <;> intro H
 refine zR (w1 tok (zW ?_))
 exact xJ 4 H
 refine zK ?_
 exact xJ t5_1 H
 refine zY (yE (yE (yH (zX (zS (zQ (w3 tok ?_)))))))
 refine vJ 4 (α:=Bool) [2,6] (fun (s:Bool)=>[(44,.bool s)]) (fun (s:Bool) h=>label_Parse_g3 (ad b1) (ad b9) s k (fun s h'=>I1 s h'/\μ1 s h' < μ1 (t5_1,t20_1) h_1) h) ?_ ?_
 rintro t44_3 h_3 H
 refine vF [44,2,6] (zE ?_)
 refine zI H ?_ ?_ <;> intro H
 refine zQ ?_
 refine wY (y_build tok rfl rfl rfl rfl rfl) ?_
 refine wTa tok H fun h27 H=>?_
 refine w1 tok (zE (zT (yT ?_)))
 obtain ⟨v28,hv28,H⟩:=H
 exact x_retc tok _ rfl [.agg (S_api_Series.cs v28).toArray,.int .i64 4] ⟨⟨_,_,rfl,rfl,.inr ⟨rfl,_,rfl,rfl,hv28⟩⟩,rfl,trivial⟩ ⟨(v28,4),rfl,H⟩
 refine zK (zX (zQ ?_))
 refine wLa tok H fun v29 H=>?_
 refine wTa tok H fun h30 H=>?_
 refine w1 tok (zE (zT ?_))
 obtain ⟨v31,hv31,H⟩:=H
 exact x_retc tok _ rfl [.agg (S_api_Series.cs v31).toArray,.int .i64 0] ⟨⟨_,_,rfl,rfl,.inr ⟨rfl,_,rfl,rfl,hv31⟩⟩,rfl,trivial⟩ ⟨(v31,0),rfl,H⟩
 refine vI 40 H ?_ ?_ <;> intro H
 refine wS (wS (wS (w1 tok ?_)))
 exact wJ true H
 refine wLa tok H fun v32 H=>?_
 refine wC O102 (R102 _ _ _ H) fun r33 h34 H=>?_
 refine w2 tok ?_
 exact wJ (r33 != 0) H
end Go.Q.Yq
end

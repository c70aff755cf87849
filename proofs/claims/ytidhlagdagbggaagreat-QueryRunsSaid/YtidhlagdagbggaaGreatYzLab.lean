/- A part of the proof of statements of this seat: lemmas, no statement of their own. -/
import Derived.Test.YtidhlagdagbggaaGreatYzTab
import Derived.Test.YtidhlagdagbggaaGreatQDraw2
import Derived.Test.YtidhlagdagbggaaGreatQEq
import Derived.Test.YtidhlagdagbggaaGreatQShort
-- squeezed
set_option linter.unusedVariables false
set_option linter.unusedSimpArgs false
set_option maxRecDepth 100000
set_option maxHeartbeats 1000000
namespace Go.Q.Yz
/-- internal stringslite.IndexByte -/
def internal_stringslite_IndexByte (p0 : ByteArray) (p1 : Int) (k : (Int) → Heap → Prop) (h : Heap) : Prop :=
 ∃ x1 : Int, x1 = (Lib.indexByte p0.data.toList p1.toNat.toUInt8) ∧ (k x1 h)

/-- strings.IndexByte -/
def strings_IndexByte (p0 : ByteArray) (p1 : Int) (k : (Int) → Heap → Prop) (h : Heap) : Prop :=
 internal_stringslite_IndexByte p0 p1 (fun (r1 : Int) h2 => k r1 h2) h

/-- quaestor label.letter -/
def label_letter_j1 (t0_1 : Int) (t3_1 : Bool) (k : (Bool) → Heap → Prop) (h_1 : Heap) : Prop :=
 if t3_1 then (k true h_1) else (strings_IndexByte (⟨#[95, 45, 46, 47]⟩ : ByteArray) t0_1 (fun (r1 : Int) h2 => k (decide (r1 ≥ 0)) h2) h_1)
def label_letter (p0 : Int) (k : (Bool) → Heap → Prop) (h : Heap) : Prop :=
 if ((decide (p0 ≥ 97)) && (decide (p0 ≤ 122))) then (label_letter_j1 p0 ((decide (p0 ≥ 97)) && (decide (p0 ≤ 122))) k h) else (if ((decide (p0 ≥ 65)) && (decide (p0 ≤ 90))) then (label_letter_j1 p0 ((decide (p0 ≥ 65)) && (decide (p0 ≤ 90))) k h) else (label_letter_j1 p0 ((decide (p0 ≥ 48)) && (decide (p0 ≤ 57))) k h))

/-- quaestor label.word -/
def label_word_l1b (t0_1 : ByteArray) (t5_1 : Int) (t6_1 : Int) (k : (Bool) → Heap → Prop) (nx1 : (Int) → Heap → Prop) (h_1 : Heap) : Prop :=
 if (decide (t6_1 < t5_1)) then (∃ v1 : Int, (0 : Int) ≤ t6_1 ∧ StrAt t0_1 t6_1 v1 ∧ (label_letter v1 (fun (r2 : Bool) h3 => if (!r2) then (k false h3) else (nx1 (IntKind.i64.wrap (t6_1 + 1)) h3)) h_1)) else (k ((decide ((t0_1.size : Int) > 0)) && (decide ((t0_1.size : Int) ≤ 24))) h_1)
def label_word_l1 (t0_1 : ByteArray) (t5_1 : Int) (i6 : Int) (k : (Bool) → Heap → Prop) (h : Heap) : Prop :=
 ∃ (I : Int → Heap → Prop) (μ : Int → Heap → Nat), I i6 h ∧ ∀ (t6_1 : Int) (h : Heap), I t6_1 h → label_word_l1b t0_1 t5_1 t6_1 k (fun s h' => I s h' ∧ μ s h' < μ t6_1 h) h
def label_word (p0 : ByteArray) (k : (Bool) → Heap → Prop) (h : Heap) : Prop :=
 label_word_l1 p0 (p0.size : Int) 0 k h

/-- internal stringslite.Index -/
def internal_stringslite_Index_g4 (t0_4 : ByteArray) (t1_4 : ByteArray) (t5_4 : Int) (t6_4 : Int) (t7_4 : Int) (t8_4 : Int) (t9_4 : Int) (t10_4 : Int) (t107_4 : Bool) (k : (Int) → Heap → Prop) (nx1 : (Int × Int) → Heap → Prop) (h_4 : Heap) : Prop :=
 if t107_4 then (∃ s14 : ByteArray, (0 : Int) ≤ t8_4 ∧ (t8_4 : Int) ≤ (t0_4.size : Int) ∧ (t0_4.size : Int) ≤ (t0_4.size : Int) ∧ s14 = t0_4.extract t8_4.toNat (t0_4.size : Int).toNat ∧ (False)) else (∃ v15 : Int, cellH h_4 (⟨0, 0, none⟩ : Addr) = some (.int .i64 v15) ∧ (if (((decide (t5_4 > v15)) && (decide (t10_4 ≥ (IntKind.i64.wrap (4 + (shr .i64 t8_4 (4 : Int).toNat)))))) && (decide (t8_4 < t9_4))) then (∃ s16 : ByteArray, (0 : Int) ≤ t8_4 ∧ (t8_4 : Int) ≤ (t0_4.size : Int) ∧ (t0_4.size : Int) ≤ (t0_4.size : Int) ∧ s16 = t0_4.extract t8_4.toNat (t0_4.size : Int).toNat ∧ (False)) else (nx1 (t8_4, t10_4) h_4)))
def internal_stringslite_Index_g3 (t0_3 : ByteArray) (t1_3 : ByteArray) (t5_3 : Int) (t6_3 : Int) (t7_3 : Int) (t8_3 : Int) (t9_3 : Int) (t10_3 : Int) (t93_3 : Bool) (k : (Int) → Heap → Prop) (nx1 : (Int × Int) → Heap → Prop) (h_3 : Heap) : Prop :=
 if t93_3 then (k t8_3 h_3) else (∃ x11 : Int, x11 = (IntKind.i64.wrap (t8_3 + 1)) ∧ (∃ x12 : Int, x12 = (IntKind.i64.wrap (t10_3 + 1)) ∧ (∃ v13 : Int, cellH h_3 (⟨0, 0, none⟩ : Addr) = some (.int .i64 v13) ∧ (if (decide (t5_3 ≤ v13)) then (False) else (internal_stringslite_Index_g4 t0_3 t1_3 t5_3 t6_3 t7_3 x11 t9_3 x12 false k nx1 h_3)))))
def internal_stringslite_Index_j2 (t0_2 : ByteArray) (t1_2 : ByteArray) (t5_2 : Int) (t6_2 : Int) (t7_2 : Int) (t9_2 : Int) (t10_2 : Int) (t8_2 : Int) (k : (Int) → Heap → Prop) (nx1 : (Int × Int) → Heap → Prop) (h_2 : Heap) : Prop :=
 ∃ v10 : Int, (0 : Int) ≤ (IntKind.i64.wrap (t8_2 + 1)) ∧ StrAt t0_2 (IntKind.i64.wrap (t8_2 + 1)) v10 ∧ (if (v10 == t7_2) then (∃ s17 : ByteArray, (0 : Int) ≤ t8_2 ∧ (t8_2 : Int) ≤ (IntKind.i64.wrap (t8_2 + t5_2)) ∧ (IntKind.i64.wrap (t8_2 + t5_2)) ≤ (t0_2.size : Int) ∧ s17 = t0_2.extract t8_2.toNat (IntKind.i64.wrap (t8_2 + t5_2)).toNat ∧ (internal_stringslite_Index_g3 t0_2 t1_2 t5_2 t6_2 t7_2 t8_2 t9_2 t10_2 (s17.toList == t1_2.toList) k nx1 h_2)) else (internal_stringslite_Index_g3 t0_2 t1_2 t5_2 t6_2 t7_2 t8_2 t9_2 t10_2 false k nx1 h_2))
def internal_stringslite_Index_l1b (t0_1 : ByteArray) (t1_1 : ByteArray) (t5_1 : Int) (t6_1 : Int) (t7_1 : Int) (t9_1 : Int) (t8_1 : Int) (t10_1 : Int) (k : (Int) → Heap → Prop) (nx1 : (Int × Int) → Heap → Prop) (h_1 : Heap) : Prop :=
 if (decide (t8_1 < t9_1)) then (∃ v18 : Int, (0 : Int) ≤ t8_1 ∧ StrAt t0_1 t8_1 v18 ∧ (if (v18 != t6_1) then (∃ s19 : ByteArray, (0 : Int) ≤ (IntKind.i64.wrap (t8_1 + 1)) ∧ ((IntKind.i64.wrap (t8_1 + 1)) : Int) ≤ t9_1 ∧ t9_1 ≤ (t0_1.size : Int) ∧ s19 = t0_1.extract (IntKind.i64.wrap (t8_1 + 1)).toNat t9_1.toNat ∧ (internal_stringslite_IndexByte s19 t6_1 (fun (r20 : Int) h21 => if (decide (r20 < 0)) then (∃ x22 : Int, x22 = (-1) ∧ (k x22 h21)) else (∃ x23 : Int, x23 = (IntKind.i64.wrap (t8_1 + (IntKind.i64.wrap (r20 + 1)))) ∧ (internal_stringslite_Index_j2 t0_1 t1_1 t5_1 t6_1 t7_1 t9_1 t10_1 x23 k nx1 h21))) h_1)) else (internal_stringslite_Index_j2 t0_1 t1_1 t5_1 t6_1 t7_1 t9_1 t10_1 t8_1 k nx1 h_1))) else (∃ x24 : Int, x24 = (-1) ∧ (k x24 h_1))
def internal_stringslite_Index_l1 (t0_1 : ByteArray) (t1_1 : ByteArray) (t5_1 : Int) (t6_1 : Int) (t7_1 : Int) (t9_1 : Int) (i8 : Int) (i10 : Int) (k : (Int) → Heap → Prop) (h : Heap) : Prop :=
 ∃ (I : (Int × Int) → Heap → Prop) (μ : (Int × Int) → Heap → Nat), I (i8, i10) h ∧ ∀ (t8_1 : Int) (t10_1 : Int) (h : Heap), I (t8_1, t10_1) h → internal_stringslite_Index_l1b t0_1 t1_1 t5_1 t6_1 t7_1 t9_1 t8_1 t10_1 k (fun s h' => I s h' ∧ μ s h' < μ (t8_1, t10_1) h) h
def internal_stringslite_Index (p0 : ByteArray) (p1 : ByteArray) (k : (Int) → Heap → Prop) (h : Heap) : Prop :=
 ∃ x1 : Int, x1 = (p1.size : Int) ∧ (if ((x1 == 0) || (p1.toList == p0.toList)) then (k 0 h) else (if (x1 == 1) then (∃ v2 : Int, (0 : Int) ≤ 0 ∧ StrAt p1 0 v2 ∧ (internal_stringslite_IndexByte p0 v2 (fun (r3 : Int) h4 => k r3 h4) h)) else (if (decide (x1 ≥ (p0.size : Int))) then (∃ x5 : Int, x5 = (-1) ∧ (k x5 h)) else (∃ v6 : Int, cellH h (⟨0, 0, none⟩ : Addr) = some (.int .i64 v6) ∧ (if ((decide (x1 ≤ v6)) && (decide ((p0.size : Int) ≤ 64))) then (False) else (∃ v7 : Int, (0 : Int) ≤ 0 ∧ StrAt p1 0 v7 ∧ (∃ v8 : Int, (0 : Int) ≤ 1 ∧ StrAt p1 1 v8 ∧ (∃ x9 : Int, x9 = (IntKind.i64.wrap ((IntKind.i64.wrap ((p0.size : Int) - x1)) + 1)) ∧ (internal_stringslite_Index_l1 p0 p1 x1 v7 v8 x9 0 0 k h)))))))))

/-- internal stringslite.Cut -/
def internal_stringslite_Cut (p0 : ByteArray) (p1 : ByteArray) (k : (ByteArray × ByteArray × Bool) → Heap → Prop) (h : Heap) : Prop :=
 internal_stringslite_Index p0 p1 (fun (r1 : Int) h2 => if (decide (r1 ≥ 0)) then (∃ s3 : ByteArray, (0 : Int) ≤ 0 ∧ (0 : Int) ≤ r1 ∧ r1 ≤ (p0.size : Int) ∧ s3 = p0.extract (0 : Int).toNat r1.toNat ∧ (∃ s4 : ByteArray, (0 : Int) ≤ (IntKind.i64.wrap (r1 + (p1.size : Int))) ∧ ((IntKind.i64.wrap (r1 + (p1.size : Int))) : Int) ≤ (p0.size : Int) ∧ (p0.size : Int) ≤ (p0.size : Int) ∧ s4 = p0.extract (IntKind.i64.wrap (r1 + (p1.size : Int))).toNat (p0.size : Int).toNat ∧ (k (s3, s4, true) h2))) else (k (p0, (⟨#[]⟩ : ByteArray), false) h2)) h

/-- strings.Cut -/
def strings_Cut (p0 : ByteArray) (p1 : ByteArray) (k : (ByteArray × ByteArray × Bool) → Heap → Prop) (h : Heap) : Prop :=
 internal_stringslite_Cut p0 p1 (fun (r1 : ByteArray × ByteArray × Bool) h2 => k (r1.1, r1.2.1, r1.2.2) h2) h

/-- internal stringslite.HasSuffix -/
def internal_stringslite_HasSuffix_g1 (t20_1 : Bool) (k : (Bool) → Heap → Prop) (h_1 : Heap) : Prop :=
 k t20_1 h_1
def internal_stringslite_HasSuffix (p0 : ByteArray) (p1 : ByteArray) (k : (Bool) → Heap → Prop) (h : Heap) : Prop :=
 if (decide ((p0.size : Int) ≥ (p1.size : Int))) then (∃ s1 : ByteArray, (0 : Int) ≤ (IntKind.i64.wrap ((p0.size : Int) - (p1.size : Int))) ∧ ((IntKind.i64.wrap ((p0.size : Int) - (p1.size : Int))) : Int) ≤ (p0.size : Int) ∧ (p0.size : Int) ≤ (p0.size : Int) ∧ s1 = p0.extract (IntKind.i64.wrap ((p0.size : Int) - (p1.size : Int))).toNat (p0.size : Int).toNat ∧ (internal_stringslite_HasSuffix_g1 (s1.toList == p1.toList) k h)) else (internal_stringslite_HasSuffix_g1 false k h)

/-- internal stringslite.CutSuffix -/
def internal_stringslite_CutSuffix (p0 : ByteArray) (p1 : ByteArray) (k : (ByteArray × Bool) → Heap → Prop) (h : Heap) : Prop :=
 internal_stringslite_HasSuffix p0 p1 (fun (r1 : Bool) h2 => if (!r1) then (k (p0, false) h2) else (∃ s3 : ByteArray, (0 : Int) ≤ 0 ∧ (0 : Int) ≤ (IntKind.i64.wrap ((p0.size : Int) - (p1.size : Int))) ∧ (IntKind.i64.wrap ((p0.size : Int) - (p1.size : Int))) ≤ (p0.size : Int) ∧ s3 = p0.extract (0 : Int).toNat (IntKind.i64.wrap ((p0.size : Int) - (p1.size : Int))).toNat ∧ (k (s3, true) h2))) h

/-- strings.CutSuffix -/
def strings_CutSuffix (p0 : ByteArray) (p1 : ByteArray) (k : (ByteArray × Bool) → Heap → Prop) (h : Heap) : Prop :=
 internal_stringslite_CutSuffix p0 p1 (fun (r1 : ByteArray × Bool) h2 => k (r1.1, r1.2) h2) h

/-- internal stringslite.HasPrefix -/
def internal_stringslite_HasPrefix_g1 (t17_1 : Bool) (k : (Bool) → Heap → Prop) (h_1 : Heap) : Prop :=
 k t17_1 h_1
def internal_stringslite_HasPrefix (p0 : ByteArray) (p1 : ByteArray) (k : (Bool) → Heap → Prop) (h : Heap) : Prop :=
 if (decide ((p0.size : Int) ≥ (p1.size : Int))) then (∃ s1 : ByteArray, (0 : Int) ≤ 0 ∧ (0 : Int) ≤ (p1.size : Int) ∧ (p1.size : Int) ≤ (p0.size : Int) ∧ s1 = p0.extract (0 : Int).toNat (p1.size : Int).toNat ∧ (internal_stringslite_HasPrefix_g1 (s1.toList == p1.toList) k h)) else (internal_stringslite_HasPrefix_g1 false k h)

/-- strings.HasPrefix -/
def strings_HasPrefix (p0 : ByteArray) (p1 : ByteArray) (k : (Bool) → Heap → Prop) (h : Heap) : Prop :=
 internal_stringslite_HasPrefix p0 p1 (fun (r1 : Bool) h2 => k r1 h2) h

/-- internal stringslite.CutPrefix -/
def internal_stringslite_CutPrefix (p0 : ByteArray) (p1 : ByteArray) (k : (ByteArray × Bool) → Heap → Prop) (h : Heap) : Prop :=
 internal_stringslite_HasPrefix p0 p1 (fun (r1 : Bool) h2 => if (!r1) then (k (p0, false) h2) else (∃ s3 : ByteArray, (0 : Int) ≤ (p1.size : Int) ∧ ((p1.size : Int) : Int) ≤ (p0.size : Int) ∧ (p0.size : Int) ≤ (p0.size : Int) ∧ s3 = p0.extract (p1.size : Int).toNat (p0.size : Int).toNat ∧ (k (s3, true) h2))) h

/-- strings.CutPrefix -/
def strings_CutPrefix (p0 : ByteArray) (p1 : ByteArray) (k : (ByteArray × Bool) → Heap → Prop) (h : Heap) : Prop :=
 internal_stringslite_CutPrefix p0 p1 (fun (r1 : ByteArray × Bool) h2 => k (r1.1, r1.2) h2) h

/-- quaestor label.signs -/
def label_signs (k : (Slc) → Heap → Prop) (h : Heap) : Prop :=
 ∃ (b1 : Nat) (h2 : Heap), b1 = h.size ∧ h2 = h.push (.cells ([.string (⟨#[61]⟩ : ByteArray), .string (⟨#[33, 61]⟩ : ByteArray), .string (⟨#[94, 61]⟩ : ByteArray)]).toArray 9) ∧ (k (⟨some ⟨b1, 0, none⟩, 3, 3⟩ : Slc) h2)

/-- quaestor label.question -/
def label_question_j4 (t2_4 : Addr) (t3_4 : Bool) (k : (S_api_Question × Bool) → Heap → Prop) (nx1 : (Int) → Heap → Prop) (nx3 : (Int) → Heap → Prop) (h_4 : Heap) : Prop :=
 ∃ v17 : S_api_Question, CellsAt h_4 t2_4 (S_api_Question.cs v17) ∧ k (v17, t3_4) h_4
def label_question_l3b (t0_3 : ByteArray) (t2_3 : Addr) (t4_3 : Int) (t5_3 : Addr) (t26_3 : Slc) (t27_3 : Int) (t28_3 : Int) (k : (S_api_Question × Bool) → Heap → Prop) (nx1 : (Int) → Heap → Prop) (nx3 : (Int) → Heap → Prop) (h_3 : Heap) : Prop :=
 if (decide (t28_3 < t27_3)) then (∃ a10 : Addr, t26_3.a = some a10 ∧ (0 : Int) ≤ t28_3 ∧ t28_3 < (t26_3.len : Int) ∧ (∃ v11 : ByteArray, cellH h_3 (a10.add (t28_3.toNat * 1)) = some (.string v11) ∧ (∃ s12 : ByteArray, (0 : Int) ≤ t4_3 ∧ (t4_3 : Int) ≤ (t0_3.size : Int) ∧ (t0_3.size : Int) ≤ (t0_3.size : Int) ∧ s12 = t0_3.extract t4_3.toNat (t0_3.size : Int).toNat ∧ (strings_CutPrefix s12 v11 (fun (r13 : ByteArray × Bool) h14 => if r13.2 then (∃ h15 : Heap, WrH h14 (t5_3.add 1) ∧ h15 = setH h14 (t5_3.add 1) (.int .i64 t28_3) ∧ (∃ h16 : Heap, WrH h15 (t5_3.add 2) ∧ h16 = setH h15 (t5_3.add 2) (.string r13.1) ∧ (∃ v18 : S_api_Question, CellsAt h16 t5_3 (S_api_Question.cs v18) ∧ (∃ v19 : ByteArray, cellH h16 t5_3 = some (.string v19) ∧ (label_word v19 (fun (r20 : Bool) h21 => CellsAt h21 t5_3 (S_api_Question.cs v18) ∧ (if r20 then (∃ v23 : ByteArray, cellH h21 (t5_3.add 2) = some (.string v23) ∧ (label_word v23 (fun (r24 : Bool) h25 => CellsAt h25 t5_3 (S_api_Question.cs v18) ∧ (∃ h27 : Heap, WrsAt h25 t2_3 3 ∧ h27 = setsH h25 t2_3 0 (S_api_Question.cs v18) ∧ (label_question_j4 t2_3 r24 k nx1 nx3 h27))) h21)) else (∃ h28 : Heap, WrsAt h21 t2_3 3 ∧ h28 = setsH h21 t2_3 0 (S_api_Question.cs v18) ∧ (label_question_j4 t2_3 false k nx1 nx3 h28)))) h16))))) else (nx3 (IntKind.i64.wrap (t28_3 + 1)) h14)) h_3)))) else (∃ v29 : S_api_Question, CellsAt h_3 t5_3 (S_api_Question.cs v29) ∧ (∃ h30 : Heap, WrsAt h_3 t2_3 3 ∧ h30 = setsH h_3 t2_3 0 (S_api_Question.cs v29) ∧ (∃ v31 : S_api_Question, CellsAt h30 t2_3 (S_api_Question.cs v31) ∧ k (v31, false) h30)))
def label_question_l3 (t0_3 : ByteArray) (t2_3 : Addr) (t4_3 : Int) (t5_3 : Addr) (t26_3 : Slc) (t27_3 : Int) (i28 : Int) (k : (S_api_Question × Bool) → Heap → Prop) (nx1 : (Int) → Heap → Prop) (h : Heap) : Prop :=
 ∃ (I : Int → Heap → Prop) (μ : Int → Heap → Nat), I i28 h ∧ ∀ (t28_3 : Int) (h : Heap), I t28_3 h → label_question_l3b t0_3 t2_3 t4_3 t5_3 t26_3 t27_3 t28_3 k nx1 (fun s h' => I s h' ∧ μ s h' < μ t28_3 h) h
def label_question_g2 (t0_2 : ByteArray) (t2_2 : Addr) (t4_2 : Int) (t19_2 : Bool) (k : (S_api_Question × Bool) → Heap → Prop) (nx1 : (Int) → Heap → Prop) (h_2 : Heap) : Prop :=
 if t19_2 then (∃ x3 : Int, x3 = (IntKind.i64.wrap (t4_2 + 1)) ∧ (nx1 x3 h_2)) else (∃ s4 : ByteArray, (0 : Int) ≤ 0 ∧ (0 : Int) ≤ t4_2 ∧ t4_2 ≤ (t0_2.size : Int) ∧ s4 = t0_2.extract (0 : Int).toNat t4_2.toNat ∧ (∃ (b5 : Nat) (h6 : Heap), b5 = h_2.size ∧ h6 = h_2.push (.cells (S_api_Question.cs (⟨ByteArray.empty, 0, ByteArray.empty⟩ : S_api_Question)).toArray 86) ∧ (∃ h7 : Heap, WrsAt h6 (⟨b5, 0, none⟩ : Addr) 3 ∧ h7 = setsH h6 (⟨b5, 0, none⟩ : Addr) 0 (S_api_Question.cs (⟨s4, 0, ByteArray.empty⟩ : S_api_Question)) ∧ (label_signs  (fun (r8 : Slc) h9 => label_question_l3 t0_2 t2_2 t4_2 (⟨b5, 0, none⟩ : Addr) r8 (r8.len : Int) 0 k nx1 h9) h7))))
def label_question_l1b (t0_1 : ByteArray) (t2_1 : Addr) (t4_1 : Int) (k : (S_api_Question × Bool) → Heap → Prop) (nx1 : (Int) → Heap → Prop) (h_1 : Heap) : Prop :=
 if (decide (t4_1 < (t0_1.size : Int))) then (∃ v32 : Int, (0 : Int) ≤ t4_1 ∧ StrAt t0_1 t4_1 v32 ∧ (label_letter v32 (fun (r33 : Bool) h34 => label_question_g2 t0_1 t2_1 t4_1 r33 k nx1 h34) h_1)) else (label_question_g2 t0_1 t2_1 t4_1 false k nx1 h_1)
def label_question_l1 (t0_1 : ByteArray) (t2_1 : Addr) (i4 : Int) (k : (S_api_Question × Bool) → Heap → Prop) (h : Heap) : Prop :=
 ∃ (I : Int → Heap → Prop) (μ : Int → Heap → Nat), I i4 h ∧ ∀ (t4_1 : Int) (h : Heap), I t4_1 h → label_question_l1b t0_1 t2_1 t4_1 k (fun s h' => I s h' ∧ μ s h' < μ t4_1 h) h
def label_question (p0 : ByteArray) (k : (S_api_Question × Bool) → Heap → Prop) (h : Heap) : Prop :=
 ∃ (b1 : Nat) (h2 : Heap), b1 = h.size ∧ h2 = h.push (.cells (S_api_Question.cs (⟨ByteArray.empty, 0, ByteArray.empty⟩ : S_api_Question)).toArray 86) ∧ (label_question_l1 p0 (⟨b1, 0, none⟩ : Addr) 0 k h2)

/-- quaestor label.Selector -/
def label_Selector_j2 (t2_2 : Addr) (t7_2 : Addr) (t8_2 : Bool) (k : (S_api_Selector × Int) → Heap → Prop) (h_2 : Heap) : Prop :=
 if (!t8_2) then (∃ h15 : Heap, WrsAt h_2 t2_2 2 ∧ h15 = setsH h_2 t2_2 0 (S_api_Selector.cs (⟨ByteArray.empty, (⟨none, 0, 0⟩ : Slc)⟩ : S_api_Selector)) ∧ (∃ v16 : S_api_Selector, CellsAt h15 t2_2 (S_api_Selector.cs v16) ∧ k (v16, 4) h15)) else (∃ v17 : S_api_Selector, CellsAt h_2 t7_2 (S_api_Selector.cs v17) ∧ (∃ h18 : Heap, WrsAt h_2 t2_2 2 ∧ h18 = setsH h_2 t2_2 0 (S_api_Selector.cs v17) ∧ (∃ v19 : S_api_Selector, CellsAt h18 t2_2 (S_api_Selector.cs v19) ∧ k (v19, 0) h18)))
def label_Selector_g4 (t2_4 : Addr) (t5_4 : ByteArray) (t7_4 : Addr) (t8_4 : Bool) (t9_4 : Bool) (t11_4 : Addr) (t59_4 : Bool) (k : (S_api_Selector × Int) → Heap → Prop) (nx3 : (ByteArray × Bool × Bool) → Heap → Prop) (h_4 : Heap) : Prop :=
 if t59_4 then (label_Selector_j2 t2_4 t7_4 false k h_4) else (∃ v27 : Slc, cellH h_4 (t7_4.add 1) = some (Slc.v v27) ∧ (∃ v28 : S_api_Question, CellsAt h_4 t11_4 (S_api_Question.cs v28) ∧ (∃ (b29 : Nat) (h30 : Heap), b29 = h_4.size ∧ h30 = h_4.push (.cells ((S_api_Question.cs v28)).toArray 86) ∧ (App 86 3 40 [.string ByteArray.empty, .int .i64 0, .string ByteArray.empty] h30 v27 1 ((S_api_Question.cs v28)) (fun s31 h32 => ∃ h33 : Heap, WrH h32 (t7_4.add 1) ∧ h33 = setH h32 (t7_4.add 1) (Slc.v s31) ∧ (nx3 (t5_4, t8_4, t9_4) h33))))))
def label_Selector_l3b (t2_3 : Addr) (t7_3 : Addr) (t5_3 : ByteArray) (t8_3 : Bool) (t9_3 : Bool) (k : (S_api_Selector × Int) → Heap → Prop) (nx3 : (ByteArray × Bool × Bool) → Heap → Prop) (h_3 : Heap) : Prop :=
 if (t8_3 && t9_3) then (strings_Cut t5_3 (⟨#[44]⟩ : ByteArray) (fun (r20 : ByteArray × ByteArray × Bool) h21 => label_question r20.1 (fun (r22 : S_api_Question × Bool) h23 => ∃ (b24 : Nat) (h25 : Heap), b24 = h23.size ∧ h25 = h23.push (.cells (S_api_Question.cs (⟨ByteArray.empty, 0, ByteArray.empty⟩ : S_api_Question)).toArray 86) ∧ (∃ h26 : Heap, WrsAt h25 (⟨b24, 0, none⟩ : Addr) 3 ∧ h26 = setsH h25 (⟨b24, 0, none⟩ : Addr) 0 (S_api_Question.cs r22.1) ∧ (if (!r22.2) then (label_Selector_g4 t2_3 r20.2.1 t7_3 t8_3 r20.2.2 (⟨b24, 0, none⟩ : Addr) true k nx3 h26) else (∃ v34 : Slc, cellH h26 (t7_3.add 1) = some (Slc.v v34) ∧ (label_Selector_g4 t2_3 r20.2.1 t7_3 t8_3 r20.2.2 (⟨b24, 0, none⟩ : Addr) ((v34.len : Int) == 8) k nx3 h26))))) h21) h_3) else (label_Selector_j2 t2_3 t7_3 t8_3 k h_3)
def label_Selector_l3 (t2_3 : Addr) (t7_3 : Addr) (i5 : ByteArray) (i8 : Bool) (i9 : Bool) (k : (S_api_Selector × Int) → Heap → Prop) (h : Heap) : Prop :=
 ∃ (I : (ByteArray × Bool × Bool) → Heap → Prop) (μ : (ByteArray × Bool × Bool) → Heap → Nat), I (i5, i8, i9) h ∧ ∀ (t5_3 : ByteArray) (t8_3 : Bool) (t9_3 : Bool) (h : Heap), I (t5_3, t8_3, t9_3) h → label_Selector_l3b t2_3 t7_3 t5_3 t8_3 t9_3 k (fun s h' => I s h' ∧ μ s h' < μ (t5_3, t8_3, t9_3) h) h
def label_Selector_g1 (t2_1 : Addr) (t5_1 : ByteArray) (t6_1 : Bool) (t7_1 : Addr) (t27_1 : Bool) (k : (S_api_Selector × Int) → Heap → Prop) (h_1 : Heap) : Prop :=
 if t27_1 then (∃ h8 : Heap, WrsAt h_1 t2_1 2 ∧ h8 = setsH h_1 t2_1 0 (S_api_Selector.cs (⟨ByteArray.empty, (⟨none, 0, 0⟩ : Slc)⟩ : S_api_Selector)) ∧ (∃ v9 : S_api_Selector, CellsAt h8 t2_1 (S_api_Selector.cs v9) ∧ k (v9, 4) h8)) else (if (!t6_1) then (∃ v10 : S_api_Selector, CellsAt h_1 t7_1 (S_api_Selector.cs v10) ∧ (∃ h11 : Heap, WrsAt h_1 t2_1 2 ∧ h11 = setsH h_1 t2_1 0 (S_api_Selector.cs v10) ∧ (∃ v12 : S_api_Selector, CellsAt h11 t2_1 (S_api_Selector.cs v12) ∧ k (v12, 0) h11))) else (strings_CutSuffix t5_1 (⟨#[125]⟩ : ByteArray) (fun (r13 : ByteArray × Bool) h14 => label_Selector_l3 t2_1 t7_1 r13.1 r13.2 true k h14) h_1))
def label_Selector (p0 : ByteArray) (k : (S_api_Selector × Int) → Heap → Prop) (h : Heap) : Prop :=
 ∃ (b1 : Nat) (h2 : Heap), b1 = h.size ∧ h2 = h.push (.cells (S_api_Selector.cs (⟨ByteArray.empty, (⟨none, 0, 0⟩ : Slc)⟩ : S_api_Selector)).toArray 53) ∧ (strings_Cut p0 (⟨#[123]⟩ : ByteArray) (fun (r3 : ByteArray × ByteArray × Bool) h4 => ∃ (b5 : Nat) (h6 : Heap), b5 = h4.size ∧ h6 = h4.push (.cells (S_api_Selector.cs (⟨ByteArray.empty, (⟨none, 0, 0⟩ : Slc)⟩ : S_api_Selector)).toArray 53) ∧ (∃ h7 : Heap, WrsAt h6 (⟨b5, 0, none⟩ : Addr) 2 ∧ h7 = setsH h6 (⟨b5, 0, none⟩ : Addr) 0 (S_api_Selector.cs (⟨r3.1, (⟨none, 0, 0⟩ : Slc)⟩ : S_api_Selector)) ∧ (if (!(r3.1.toList == (⟨#[]⟩ : ByteArray).toList)) then (label_word r3.1 (fun (r35 : Bool) h36 => label_Selector_g1 (⟨b1, 0, none⟩ : Addr) r3.2.1 r3.2.2 (⟨b5, 0, none⟩ : Addr) (!r35) k h36) h7) else (label_Selector_g1 (⟨b1, 0, none⟩ : Addr) r3.2.1 r3.2.2 (⟨b5, 0, none⟩ : Addr) false k h7)))) h2)

/-- quaestor label.Check -/
def label_Check_j3 (t1_3 : Addr) (t16_3 : Slc) (t17_3 : Int) (t18_3 : Int) (t48_3 : Bool) (k : (Int) → Heap → Prop) (nx2 : (Int) → Heap → Prop) (h_3 : Heap) : Prop :=
 if t48_3 then (k 1 h_3) else (nx2 (IntKind.i64.wrap (t18_3 + 1)) h_3)
def label_Check_l2b (t1_2 : Addr) (t16_2 : Slc) (t17_2 : Int) (t18_2 : Int) (k : (Int) → Heap → Prop) (nx2 : (Int) → Heap → Prop) (h_2 : Heap) : Prop :=
 if (decide (t18_2 < t17_2)) then (∃ a7 : Addr, t16_2.a = some a7 ∧ (0 : Int) ≤ t18_2 ∧ t18_2 < (t16_2.len : Int) ∧ (∃ v8 : S_api_Label, CellsAt h_2 (a7.add (t18_2.toNat * 2)) (S_api_Label.cs v8) ∧ (∃ (b9 : Nat) (h10 : Heap), b9 = h_2.size ∧ h10 = h_2.push (.cells (S_api_Label.cs (⟨ByteArray.empty, ByteArray.empty⟩ : S_api_Label)).toArray 103) ∧ (∃ h11 : Heap, WrsAt h10 (⟨b9, 0, none⟩ : Addr) 2 ∧ h11 = setsH h10 (⟨b9, 0, none⟩ : Addr) 0 (S_api_Label.cs v8) ∧ (∃ v12 : ByteArray, cellH h11 (⟨b9, 0, none⟩ : Addr) = some (.string v12) ∧ (label_word v12 (fun (r13 : Bool) h14 => if (!r13) then (if true then (label_Check_j3 t1_2 t16_2 t17_2 t18_2 true k nx2 h14) else (if (decide (t18_2 > 0)) then (∃ v15 : Slc, cellH h14 (t1_2.add 1) = some (Slc.v v15) ∧ (∃ a16 : Addr, v15.a = some a16 ∧ (0 : Int) ≤ (IntKind.i64.wrap (t18_2 - 1)) ∧ (IntKind.i64.wrap (t18_2 - 1)) < (v15.len : Int) ∧ (∃ v17 : ByteArray, cellH h14 (a16.add ((IntKind.i64.wrap (t18_2 - 1)).toNat * 2)) = some (.string v17) ∧ (∃ v18 : ByteArray, cellH h14 (⟨b9, 0, none⟩ : Addr) = some (.string v18) ∧ (label_Check_j3 t1_2 t16_2 t17_2 t18_2 (!(Op.bytesLess v17.toList v18.toList)) k nx2 h14))))) else (label_Check_j3 t1_2 t16_2 t17_2 t18_2 false k nx2 h14))) else (∃ v19 : ByteArray, cellH h14 ((⟨b9, 0, none⟩ : Addr).add 1) = some (.string v19) ∧ (label_word v19 (fun (r20 : Bool) h21 => if (!r20) then (label_Check_j3 t1_2 t16_2 t17_2 t18_2 true k nx2 h21) else (if (decide (t18_2 > 0)) then (∃ v22 : Slc, cellH h21 (t1_2.add 1) = some (Slc.v v22) ∧ (∃ a23 : Addr, v22.a = some a23 ∧ (0 : Int) ≤ (IntKind.i64.wrap (t18_2 - 1)) ∧ (IntKind.i64.wrap (t18_2 - 1)) < (v22.len : Int) ∧ (∃ v24 : ByteArray, cellH h21 (a23.add ((IntKind.i64.wrap (t18_2 - 1)).toNat * 2)) = some (.string v24) ∧ (∃ v25 : ByteArray, cellH h21 (⟨b9, 0, none⟩ : Addr) = some (.string v25) ∧ (label_Check_j3 t1_2 t16_2 t17_2 t18_2 (!(Op.bytesLess v24.toList v25.toList)) k nx2 h21))))) else (label_Check_j3 t1_2 t16_2 t17_2 t18_2 false k nx2 h21))) h14))) h11)))))) else (k 0 h_2)
def label_Check_l2 (t1_2 : Addr) (t16_2 : Slc) (t17_2 : Int) (i18 : Int) (k : (Int) → Heap → Prop) (h : Heap) : Prop :=
 ∃ (I : Int → Heap → Prop) (μ : Int → Heap → Nat), I i18 h ∧ ∀ (t18_2 : Int) (h : Heap), I t18_2 h → label_Check_l2b t1_2 t16_2 t17_2 t18_2 k (fun s h' => I s h' ∧ μ s h' < μ t18_2 h) h
def label_Check_g1 (t1_1 : Addr) (t14_1 : Bool) (k : (Int) → Heap → Prop) (h_1 : Heap) : Prop :=
 if t14_1 then (k 1 h_1) else (∃ v6 : Slc, cellH h_1 (t1_1.add 1) = some (Slc.v v6) ∧ (label_Check_l2 t1_1 v6 (v6.len : Int) 0 k h_1))
def label_Check (p0 : S_api_Series) (k : (Int) → Heap → Prop) (h : Heap) : Prop :=
 ∃ (b1 : Nat) (h2 : Heap), b1 = h.size ∧ h2 = h.push (.cells (S_api_Series.cs p0).toArray 62) ∧ (∃ v3 : ByteArray, cellH h2 (⟨b1, 0, none⟩ : Addr) = some (.string v3) ∧ (label_word v3 (fun (r4 : Bool) h5 => if (!r4) then (label_Check_g1 (⟨b1, 0, none⟩ : Addr) true k h5) else (∃ v26 : Slc, cellH h5 ((⟨b1, 0, none⟩ : Addr).add 1) = some (Slc.v v26) ∧ (label_Check_g1 (⟨b1, 0, none⟩ : Addr) (decide ((v26.len : Int) > 8)) k h5))) h2))

/-- quaestor label.Parse -/
def label_Parse_j2 (t2_2 : Addr) (t6_2 : Addr) (t8_2 : Addr) (t18_2 : Slc) (t19_2 : Int) (t20_2 : Int) (t5_2 : Int) (k : (S_api_Series × Int) → Heap → Prop) (nx1 : (Int × Int) → Heap → Prop) (h_2 : Heap) : Prop :=
 ∃ v18 : Slc, cellH h_2 (t6_2.add 1) = some (Slc.v v18) ∧ (∃ v19 : ByteArray, cellH h_2 t8_2 = some (.string v19) ∧ (∃ v20 : ByteArray, cellH h_2 (t8_2.add 2) = some (.string v20) ∧ (∃ (b21 : Nat) (h22 : Heap), b21 = h_2.size ∧ h22 = h_2.push (.cells ((S_api_Label.cs (⟨v19, v20⟩ : S_api_Label))).toArray 103) ∧ (App 103 2 32 [.string ByteArray.empty, .string ByteArray.empty] h22 v18 1 ((S_api_Label.cs (⟨v19, v20⟩ : S_api_Label))) (fun s23 h24 => ∃ h25 : Heap, WrH h24 (t6_2.add 1) ∧ h25 = setH h24 (t6_2.add 1) (Slc.v s23) ∧ (nx1 (t5_2, (IntKind.i64.wrap (t20_2 + 1))) h25))))))
def label_Parse_g3 (t2_3 : Addr) (t6_3 : Addr) (t44_3 : Bool) (k : (S_api_Series × Int) → Heap → Prop) (nx1 : (Int × Int) → Heap → Prop) (h_3 : Heap) : Prop :=
 if t44_3 then (∃ h27 : Heap, WrsAt h_3 t2_3 2 ∧ h27 = setsH h_3 t2_3 0 (S_api_Series.cs (⟨ByteArray.empty, (⟨none, 0, 0⟩ : Slc)⟩ : S_api_Series)) ∧ (∃ v28 : S_api_Series, CellsAt h27 t2_3 (S_api_Series.cs v28) ∧ k (v28, 4) h27)) else (∃ v29 : S_api_Series, CellsAt h_3 t6_3 (S_api_Series.cs v29) ∧ (∃ h30 : Heap, WrsAt h_3 t2_3 2 ∧ h30 = setsH h_3 t2_3 0 (S_api_Series.cs v29) ∧ (∃ v31 : S_api_Series, CellsAt h30 t2_3 (S_api_Series.cs v31) ∧ k (v31, 0) h30)))
def label_Parse_l1b (t2_1 : Addr) (t6_1 : Addr) (t18_1 : Slc) (t19_1 : Int) (t5_1 : Int) (t20_1 : Int) (k : (S_api_Series × Int) → Heap → Prop) (nx1 : (Int × Int) → Heap → Prop) (h_1 : Heap) : Prop :=
 if (decide (t20_1 < t19_1)) then (∃ a13 : Addr, t18_1.a = some a13 ∧ (0 : Int) ≤ t20_1 ∧ t20_1 < (t18_1.len : Int) ∧ (∃ v14 : S_api_Question, CellsAt h_1 (a13.add (t20_1.toNat * 3)) (S_api_Question.cs v14) ∧ (∃ (b15 : Nat) (h16 : Heap), b15 = h_1.size ∧ h16 = h_1.push (.cells (S_api_Question.cs (⟨ByteArray.empty, 0, ByteArray.empty⟩ : S_api_Question)).toArray 86) ∧ (∃ h17 : Heap, WrsAt h16 (⟨b15, 0, none⟩ : Addr) 3 ∧ h17 = setsH h16 (⟨b15, 0, none⟩ : Addr) 0 (S_api_Question.cs v14) ∧ (∃ v26 : Int, cellH h17 ((⟨b15, 0, none⟩ : Addr).add 1) = some (.int .i64 v26) ∧ (if (v26 != 0) then (label_Parse_j2 t2_1 t6_1 (⟨b15, 0, none⟩ : Addr) t18_1 t19_1 t20_1 4 k nx1 h17) else (label_Parse_j2 t2_1 t6_1 (⟨b15, 0, none⟩ : Addr) t18_1 t19_1 t20_1 t5_1 k nx1 h17))))))) else (if (t5_1 != 0) then (label_Parse_g3 t2_1 t6_1 true k nx1 h_1) else (∃ v32 : S_api_Series, CellsAt h_1 t6_1 (S_api_Series.cs v32) ∧ (label_Check v32 (fun (r33 : Int) h34 => label_Parse_g3 t2_1 t6_1 (r33 != 0) k nx1 h34) h_1)))
def label_Parse_l1 (t2_1 : Addr) (t6_1 : Addr) (t18_1 : Slc) (t19_1 : Int) (i5 : Int) (i20 : Int) (k : (S_api_Series × Int) → Heap → Prop) (h : Heap) : Prop :=
 ∃ (I : (Int × Int) → Heap → Prop) (μ : (Int × Int) → Heap → Nat), I (i5, i20) h ∧ ∀ (t5_1 : Int) (t20_1 : Int) (h : Heap), I (t5_1, t20_1) h → label_Parse_l1b t2_1 t6_1 t18_1 t19_1 t5_1 t20_1 k (fun s h' => I s h' ∧ μ s h' < μ (t5_1, t20_1) h) h
def label_Parse (p0 : ByteArray) (k : (S_api_Series × Int) → Heap → Prop) (h : Heap) : Prop :=
 ∃ (b1 : Nat) (h2 : Heap), b1 = h.size ∧ h2 = h.push (.cells (S_api_Series.cs (⟨ByteArray.empty, (⟨none, 0, 0⟩ : Slc)⟩ : S_api_Series)).toArray 62) ∧ (label_Selector p0 (fun (r3 : S_api_Selector × Int) h4 => ∃ (b5 : Nat) (h6 : Heap), b5 = h4.size ∧ h6 = h4.push (.cells (S_api_Selector.cs (⟨ByteArray.empty, (⟨none, 0, 0⟩ : Slc)⟩ : S_api_Selector)).toArray 53) ∧ (∃ h7 : Heap, WrsAt h6 (⟨b5, 0, none⟩ : Addr) 2 ∧ h7 = setsH h6 (⟨b5, 0, none⟩ : Addr) 0 (S_api_Selector.cs r3.1) ∧ (∃ v8 : ByteArray, cellH h7 (⟨b5, 0, none⟩ : Addr) = some (.string v8) ∧ (∃ (b9 : Nat) (h10 : Heap), b9 = h7.size ∧ h10 = h7.push (.cells (S_api_Series.cs (⟨ByteArray.empty, (⟨none, 0, 0⟩ : Slc)⟩ : S_api_Series)).toArray 62) ∧ (∃ h11 : Heap, WrsAt h10 (⟨b9, 0, none⟩ : Addr) 2 ∧ h11 = setsH h10 (⟨b9, 0, none⟩ : Addr) 0 (S_api_Series.cs (⟨v8, (⟨none, 0, 0⟩ : Slc)⟩ : S_api_Series)) ∧ (∃ v12 : Slc, cellH h11 ((⟨b5, 0, none⟩ : Addr).add 1) = some (Slc.v v12) ∧ (label_Parse_l1 (⟨b1, 0, none⟩ : Addr) (⟨b9, 0, none⟩ : Addr) v12 (v12.len : Int) r3.2 0 k h11))))))) h2)

theorem internal_stringslite_IndexByte_ok : CallOk Go.Proofs.Tryz.prog 92 := ⟨_, Go.Proofs.Tryz.func92, by kernel_rfl, by kernel_rfl⟩
theorem internal_stringslite_IndexByte_ref (p0 : ByteArray) (p1 : Int) (k : (Int) → Heap → Prop) (h : Heap) (H : internal_stringslite_IndexByte p0 p1 k h) : CallsH Go.Proofs.Tryz.prog 92 #[.string p0, .int .u8 p1] h (fun v h' => ∃ r : Int, v = .int .i64 r ∧ k r h') := by
 refine f_enter (N := 8) Go.Proofs.Tryz.func92 rfl rfl rfl (fun w0 => ?_)
 unfold internal_stringslite_IndexByte at H
 refine cW [(0, .string p0), (1, .int .u8 p1)] ?_
 refine c_seq (c_region ?_)
 refine wP tok ?_
 refine w_end (x_seq ?_)
 refine c_seq (c_region ?_)
 iterate 2 refine wP tok ?_
 refine w_y (y_ext (ibs_run p0 p1 Go.Proofs.Tryz.func106 (by kernel_rfl) (by kernel_rfl) (by kernel_rfl) (by kernel_rfl)) rfl rfl) rfl rfl ?_
 obtain ⟨x1, ex1, H⟩ := H
 refine w_pe tok rfl (congrArg (fun z => (.int .i64 z : Value)) ex1) rfl rfl ?_
 refine w_end (x_seq (c_ret ?_))
 exact x_ret _ rfl _ rfl ⟨x1, rfl, H⟩

theorem strings_IndexByte_ok : CallOk Go.Proofs.Tryz.prog 79 := ⟨_, Go.Proofs.Tryz.func79, by kernel_rfl, by kernel_rfl⟩
theorem strings_IndexByte_ref (p0 : ByteArray) (p1 : Int) (k : (Int) → Heap → Prop) (h : Heap) (H : strings_IndexByte p0 p1 k h) : CallsH Go.Proofs.Tryz.prog 79 #[.string p0, .int .u8 p1] h (fun v h' => ∃ r : Int, v = .int .i64 r ∧ k r h') := by
 refine f_enter (N := 8) Go.Proofs.Tryz.func79 rfl rfl rfl (fun w0 => ?_)
 unfold strings_IndexByte at H
 refine cW [(0, .string p0), (1, .int .u8 p1)] ?_
 refine c_seq (c_region ?_)
 refine wP tok ?_
 refine w_end (x_seq ?_)
 refine c_seq (c_region ?_)
 iterate 2 refine wP tok ?_
 refine w_call internal_stringslite_IndexByte_ok (internal_stringslite_IndexByte_ref _ _ _ _ H) rfl rfl rfl rfl ?_
 rintro _ h2 ⟨r1, rfl, H⟩
 refine wP tok ?_
 refine w_end (x_seq (c_ret ?_))
 exact x_ret _ rfl _ rfl ⟨r1, rfl, H⟩

theorem label_letter_ok : CallOk Go.Proofs.Tryz.prog 58 := ⟨_, Go.Proofs.Tryz.func58, by kernel_rfl, by kernel_rfl⟩
theorem label_letter_ref (p0 : Int) (k : (Bool) → Heap → Prop) (h : Heap) (H : label_letter p0 k h) : CallsH Go.Proofs.Tryz.prog 58 #[.int .u8 p0] h (fun v h' => ∃ r : Bool, v = .bool r ∧ k r h') := by
 refine f_enter (N := 25) Go.Proofs.Tryz.func58 rfl rfl rfl (fun w0 => ?_)
 unfold label_letter at H
 refine cW [(0, .int .u8 p0)] ?_
 refine c_seq (c_region ?_)
 refine wP tok ?_
 refine w_end (x_seq ?_)
 refine c_seq (c_block ?_)
 refine c_seqJ (α := Bool) (fun (s : Bool) => [(3, .bool s), (0, .int .u8 p0)]) (fun (s : Bool) h => label_letter_j1 p0 s k h) ?_ ?_
 ·
  rintro t3_1 h_1 H
  unfold label_letter_j1 at H
  refine cW [(3, .bool t3_1), (0, .int .u8 p0)] ?_
  refine c_if H rfl (fun H => ?_) (fun H => ?_)
  ·
   refine c_seq (c_region ?_)
   refine wP tok ?_
   refine w_end (x_seq (c_ret ?_))
   refine x_br ?_
   refine x_tr ?_
   exact x_ret _ rfl _ rfl ⟨true, rfl, H⟩
  ·
   refine c_skip ?_
   refine x_blk ?_
   refine x_seq (c_seq (c_region ?_))
   refine wP tok ?_
   refine w_call strings_IndexByte_ok (strings_IndexByte_ref _ _ _ _ H) rfl rfl rfl rfl ?_
   rintro _ h2 ⟨r1, rfl, H⟩
   iterate 2 refine wP tok ?_
   refine w_end (x_seq (c_ret ?_))
   exact x_ret _ rfl _ rfl ⟨(decide (r1 ≥ 0)), rfl, H⟩
 ·
  refine c_seq (c_region ?_)
  iterate 3 refine wP tok ?_
  refine w_cutU 3 [(9, .bool ((decide (p0 ≥ 97)) && (decide (p0 ≤ 122)))), (0, .int .u8 p0)] ?_ ?_
  ·
   refine wP tok ?_
   refine w_end (x_seq ?_)
   refine c_if H rfl (fun H => ?_) (fun H => ?_)
   ·
    refine c_skip ?_
    exact xJ ((decide (p0 ≥ 97)) && (decide (p0 ≤ 122))) H
   ·
    refine c_seq (c_region ?_)
    iterate 3 refine wP tok ?_
    refine w_cutU 3 [(15, .bool ((decide (p0 ≥ 65)) && (decide (p0 ≤ 90)))), (0, .int .u8 p0)] ?_ ?_
    ·
     refine wP tok ?_
     refine w_end (x_seq ?_)
     refine c_if H rfl (fun H => ?_) (fun H => ?_)
     ·
      refine c_skip ?_
      exact xJ ((decide (p0 ≥ 65)) && (decide (p0 ≤ 90))) H
     ·
      refine c_region ?_
      iterate 3 refine wP tok ?_
      refine w_cutU 3 [(21, .bool ((decide (p0 ≥ 48)) && (decide (p0 ≤ 57)))), (0, .int .u8 p0)] ?_ ?_
      ·
       refine wP tok ?_
       refine w_end ?_
       exact xJ ((decide (p0 ≥ 48)) && (decide (p0 ≤ 57))) H
      ·
       refine w_gs (d := 18) rfl (fun hb => ?_) (fun hb => ?_)
       ·
        iterate 3 refine wP tok ?_
        refine w_jn () rfl ⟨?_, rfl, trivial⟩
        exact congrArg (fun b => some (Value.bool b)) (and_t hb)
       ·
        iterate 2 refine w_skip rfl rfl ?_
        refine wP tok ?_
        refine w_jn () rfl ⟨?_, rfl, trivial⟩
        exact congrArg (fun b => some (Value.bool b)) (and_f hb)
    ·
     refine w_gs (d := 12) rfl (fun hb => ?_) (fun hb => ?_)
     ·
      iterate 3 refine wP tok ?_
      refine w_jn () rfl ⟨?_, rfl, trivial⟩
      exact congrArg (fun b => some (Value.bool b)) (and_t hb)
     ·
      iterate 2 refine w_skip rfl rfl ?_
      refine wP tok ?_
      refine w_jn () rfl ⟨?_, rfl, trivial⟩
      exact congrArg (fun b => some (Value.bool b)) (and_f hb)
  ·
   refine w_gs (d := 6) rfl (fun hb => ?_) (fun hb => ?_)
   ·
    iterate 3 refine wP tok ?_
    refine w_jn () rfl ⟨?_, rfl, trivial⟩
    exact congrArg (fun b => some (Value.bool b)) (and_t hb)
   ·
    iterate 2 refine w_skip rfl rfl ?_
    refine wP tok ?_
    refine w_jn () rfl ⟨?_, rfl, trivial⟩
    exact congrArg (fun b => some (Value.bool b)) (and_f hb)

theorem label_word_ok : CallOk Go.Proofs.Tryz.prog 30 := ⟨_, Go.Proofs.Tryz.func30, by kernel_rfl, by kernel_rfl⟩
theorem label_word_ref (p0 : ByteArray) (k : (Bool) → Heap → Prop) (h : Heap) (H : label_word p0 k h) : CallsH Go.Proofs.Tryz.prog 30 #[.string p0] h (fun v h' => ∃ r : Bool, v = .bool r ∧ k r h') := by
 refine f_enter (N := 23) Go.Proofs.Tryz.func30 rfl rfl rfl (fun w0 => ?_)
 unfold label_word at H
 refine cW [(0, .string p0)] ?_
 refine c_seq (c_region ?_)
 refine wP tok ?_
 refine w_end (x_seq ?_)
 refine c_seq (c_seq (c_region ?_))
 iterate 3 refine wP tok ?_
 refine w_end (x_seq (c_block ?_))
 obtain ⟨I1, μ1, H0, HI⟩ := H
 refine c_loop (σ := Int) (fun (s : Int) => [(6, .int .i64 s), (0, .string p0), (5, .int .i64 (p0.size : Int))]) I1 μ1 0 H0 ⟨rfl, rfl, rfl, trivial⟩ ?_
 rintro t6_1 h_1 H
 replace H := HI t6_1 h_1 H
 unfold label_word_l1b at H
 refine cW [(6, .int .i64 t6_1), (0, .string p0), (5, .int .i64 (p0.size : Int))] ?_
 refine c_seq (c_region ?_)
 refine wP tok ?_
 refine w_end (x_seq (c_seq ?_))
 refine c_if H rfl (fun H => ?_) (fun H => ?_)
 ·
  refine c_skip (x_seq ?_)
  refine c_seq (c_block ?_)
  refine c_seq (c_region ?_)
  iterate 2 refine wP tok ?_
  refine w_end (x_seq ?_)
  refine c_seq (c_region ?_)
  iterate 2 refine wP tok ?_
  obtain ⟨v1, lv1, hv1, H⟩ := H
  refine w_y (y_ixs' tok rfl rfl rfl rfl lv1 hv1) rfl rfl ?_
  refine w_call label_letter_ok (label_letter_ref _ _ _ H) rfl rfl rfl rfl ?_
  rintro _ h3 ⟨r2, rfl, H⟩
  refine wP tok ?_
  refine w_end (x_seq ?_)
  refine cW [(6, .int .i64 t6_1), (0, .string p0), (5, .int .i64 (p0.size : Int)), (13, .bool (!r2))] ?_
  refine c_if H rfl (fun H => ?_) (fun H => ?_)
  ·
   refine c_seq (c_region ?_)
   refine wP tok ?_
   refine w_end (x_seq (c_ret ?_))
   refine x_br ?_
   refine x_tr (x_tr ?_)
   refine x_br ?_
   refine x_tr ?_
   exact x_ret _ rfl _ rfl ⟨false, rfl, H⟩
  ·
   refine c_skip ?_
   refine x_blk ?_
   refine x_seq (c_region ?_)
   iterate 2 refine wP tok ?_
   refine w_end ?_
   exact xJ (IntKind.i64.wrap (t6_1 + 1)) H
 ·
  refine c_exit ?_
  refine x_te (x_te ?_)
  refine x_bh ?_
  refine x_seq (c_seq (c_region ?_))
  iterate 4 refine wP tok ?_
  refine w_cutU 4 [(22, .bool ((decide ((p0.size : Int) > 0)) && (decide ((p0.size : Int) ≤ 24))))] ?_ ?_
  ·
   refine wP tok ?_
   refine w_end (x_seq (c_ret ?_))
   exact x_ret _ rfl _ rfl ⟨((decide ((p0.size : Int) > 0)) && (decide ((p0.size : Int) ≤ 24))), rfl, H⟩
  ·
   refine w_gs (d := 18) rfl (fun hb => ?_) (fun hb => ?_)
   ·
    iterate 4 refine wP tok ?_
    refine w_jn () rfl ⟨?_, trivial⟩
    exact congrArg (fun b => some (Value.bool b)) (and_t hb)
   ·
    iterate 3 refine w_skip rfl rfl ?_
    refine wP tok ?_
    refine w_jn () rfl ⟨?_, trivial⟩
    exact congrArg (fun b => some (Value.bool b)) (and_f hb)

theorem internal_stringslite_Index_ok : CallOk Go.Proofs.Tryz.prog 78 := ⟨_, Go.Proofs.Tryz.func78, by kernel_rfl, by kernel_rfl⟩
theorem internal_stringslite_Index_ref (p0 : ByteArray) (p1 : ByteArray) (k : (Int) → Heap → Prop) (h : Heap) (H : internal_stringslite_Index p0 p1 k h) : CallsH Go.Proofs.Tryz.prog 78 #[.string p0, .string p1] h (fun v h' => ∃ r : Int, v = .int .i64 r ∧ k r h') := by
 refine f_enter (N := 143) Go.Proofs.Tryz.func78 rfl rfl rfl (fun w0 => ?_)
 unfold internal_stringslite_Index at H
 refine cW [(0, .string p0), (1, .string p1)] ?_
 refine c_seq (c_region ?_)
 refine wP tok ?_
 refine w_end (x_seq ?_)
 refine c_seq (c_region ?_)
 iterate 2 refine wP tok ?_
 obtain ⟨x1, ex1, H⟩ := H
 refine w_pe tok rfl (congrArg (fun z => (.int .i64 z : Value)) ex1) rfl rfl ?_
 refine w_end (x_seq ?_)
 refine c_seq (c_block ?_)
 refine c_seq (c_region ?_)
 iterate 3 refine wP tok ?_
 refine w_cutU 4 [(23, .bool ((x1 == 0) || (p1.toList == p0.toList))), (0, .string p0), (1, .string p1), (5, .int .i64 x1)] ?_ ?_
 ·
  refine wP tok ?_
  refine w_end (x_seq ?_)
  refine c_if H rfl (fun H => ?_) (fun H => ?_)
  ·
   refine c_seq (c_region ?_)
   refine wP tok ?_
   refine w_end (x_seq (c_ret ?_))
   refine x_br ?_
   refine x_tr ?_
   exact x_ret _ rfl _ rfl ⟨0, rfl, H⟩
  ·
   refine c_seq (c_region ?_)
   iterate 3 refine wP tok ?_
   refine w_end (x_seq ?_)
   refine c_if H rfl (fun H => ?_) (fun H => ?_)
   ·
    refine c_seq (c_region ?_)
    iterate 2 refine wP tok ?_
    obtain ⟨v2, lv2, hv2, H⟩ := H
    refine w_y (y_ixs' tok rfl rfl rfl rfl lv2 hv2) rfl rfl ?_
    refine w_call internal_stringslite_IndexByte_ok (internal_stringslite_IndexByte_ref _ _ _ _ H) rfl rfl rfl rfl ?_
    rintro _ h4 ⟨r3, rfl, H⟩
    refine wP tok ?_
    refine w_end (x_seq ?_)
    refine cW [(4, .int .i64 r3)] ?_
    refine c_ret ?_
    refine x_br ?_
    refine x_tr ?_
    exact x_ret _ rfl _ rfl ⟨r3, rfl, H⟩
   ·
    refine c_seq (c_region ?_)
    iterate 5 refine wP tok ?_
    refine w_end (x_seq ?_)
    refine cW [(0, .string p0), (1, .string p1), (5, .int .i64 x1), (31, .bool (decide (x1 ≥ (p0.size : Int))))] ?_
    refine c_if H rfl (fun H => ?_) (fun H => ?_)
    ·
     refine c_seq (c_region ?_)
     obtain ⟨x5, ex5, H⟩ := H
     refine w_pe tok rfl (congrArg (fun z => (.int .i64 z : Value)) ex5) rfl rfl ?_
     refine w_end (x_seq (c_ret ?_))
     refine x_br ?_
     refine x_tr ?_
     exact x_ret _ rfl _ rfl ⟨x5, rfl, H⟩
    ·
     refine c_seq (c_region ?_)
     refine wP tok ?_
     obtain ⟨v6, hv6, H⟩ := H
     refine w_y (y_ld tok rfl rfl rfl rfl hv6) rfl rfl ?_
     iterate 2 refine wP tok ?_
     refine w_cutU 4 [(44, .bool ((decide (x1 ≤ v6)) && (decide ((p0.size : Int) ≤ 64)))), (0, .string p0), (1, .string p1), (5, .int .i64 x1)] ?_ ?_
     ·
      refine wP tok ?_
      refine w_end (x_seq ?_)
      refine c_if H rfl (fun H => ?_) (fun H => ?_)
      ·
       refine c_seq (c_region ?_)
       iterate 2 refine wP tok ?_
       exact H.elim
      ·
       refine c_skip ?_
       refine x_blk ?_
       refine x_seq (c_seq (c_region ?_))
       refine wP tok ?_
       obtain ⟨v7, lv7, hv7, H⟩ := H
       refine w_y (y_ixs' tok rfl rfl rfl rfl lv7 hv7) rfl rfl ?_
       refine wP tok ?_
       refine w_end (x_seq ?_)
       refine c_seq (c_region ?_)
       refine wP tok ?_
       obtain ⟨v8, lv8, hv8, H⟩ := H
       refine w_y (y_ixs' tok rfl rfl rfl rfl lv8 hv8) rfl rfl ?_
       refine wP tok ?_
       refine w_end (x_seq ?_)
       refine c_seq (c_region ?_)
       refine wP tok ?_
       refine w_end (x_seq ?_)
       refine c_seq (c_region ?_)
       iterate 5 refine wP tok ?_
       obtain ⟨x9, ex9, H⟩ := H
       refine w_pe tok rfl (congrArg (fun z => (.int .i64 z : Value)) ex9) rfl rfl ?_
       refine w_end (x_seq ?_)
       refine cW [(0, .string p0), (1, .string p1), (5, .int .i64 x1), (6, .int .u8 v7), (7, .int .u8 v8), (8, .int .i64 0), (9, .int .i64 x9)] ?_
       refine c_seq (c_region ?_)
       refine wP tok ?_
       refine w_end (x_seq ?_)
       refine c_seq (c_block ?_)
       obtain ⟨I1, μ1, H0, HI⟩ := H
       refine c_loop (σ := Int × Int) (fun (s : Int × Int) => [(8, .int .i64 s.1), (10, .int .i64 s.2), (0, .string p0), (1, .string p1), (5, .int .i64 x1), (6, .int .u8 v7), (7, .int .u8 v8), (9, .int .i64 x9)]) I1 μ1 (0, 0) H0 ⟨rfl, rfl, rfl, rfl, rfl, rfl, rfl, rfl, trivial⟩ ?_
       rintro ⟨t8_1, t10_1⟩ h_1 H
       replace H := HI t8_1 t10_1 h_1 H
       unfold internal_stringslite_Index_l1b at H
       refine cW [(8, .int .i64 t8_1), (10, .int .i64 t10_1), (0, .string p0), (1, .string p1), (5, .int .i64 x1), (6, .int .u8 v7), (7, .int .u8 v8), (9, .int .i64 x9)] ?_
       refine c_seq (c_seq (c_region ?_))
       iterate 3 refine wP tok ?_
       refine w_end (x_seq ?_)
       refine c_if H rfl (fun H => ?_) (fun H => ?_)
       ·
        refine c_skip (x_seq (c_block ?_))
        refine c_seqJ (α := Int) (fun (s : Int) => [(8, .int .i64 s), (0, .string p0), (1, .string p1), (5, .int .i64 x1), (6, .int .u8 v7), (7, .int .u8 v8), (9, .int .i64 x9), (10, .int .i64 t10_1)]) (fun (s : Int) h => internal_stringslite_Index_j2 p0 p1 x1 v7 v8 x9 t10_1 s k (fun s h' => I1 s h' ∧ μ1 s h' < μ1 (t8_1, t10_1) h_1) h) ?_ ?_
        ·
         rintro t8_2 h_2 H
         unfold internal_stringslite_Index_j2 at H
         refine cW [(8, .int .i64 t8_2), (0, .string p0), (1, .string p1), (5, .int .i64 x1), (6, .int .u8 v7), (7, .int .u8 v8), (9, .int .i64 x9), (10, .int .i64 t10_1)] ?_
         refine c_seq (c_seq (c_region ?_))
         iterate 3 refine wP tok ?_
         obtain ⟨v10, lv10, hv10, H⟩ := H
         refine w_y (y_ixs' tok rfl rfl rfl rfl lv10 hv10) rfl rfl ?_
         iterate 3 refine wP tok ?_
         refine w_cut 9 (α := Bool) (fun (s : Bool) => [(93, .bool s), (0, .string p0), (1, .string p1), (5, .int .i64 x1), (6, .int .u8 v7), (7, .int .u8 v8), (8, .int .i64 t8_2), (9, .int .i64 x9), (10, .int .i64 t10_1)]) (fun (s : Bool) h => internal_stringslite_Index_g3 p0 p1 x1 v7 v8 t8_2 x9 t10_1 s k (fun s h' => I1 s h' ∧ μ1 s h' < μ1 (t8_1, t10_1) h_1) h) ?_ ?_
         ·
          rintro t93_3 h_3 H
          unfold internal_stringslite_Index_g3 at H
          refine wW [(93, .bool t93_3), (0, .string p0), (1, .string p1), (5, .int .i64 x1), (6, .int .u8 v7), (7, .int .u8 v8), (8, .int .i64 t8_2), (9, .int .i64 x9), (10, .int .i64 t10_1)] ?_
          refine w_end (x_seq ?_)
          refine c_if H rfl (fun H => ?_) (fun H => ?_)
          ·
           refine c_seq (c_region ?_)
           iterate 2 refine wP tok ?_
           refine w_end (x_seq ?_)
           refine cW [(4, .int .i64 t8_2)] ?_
           refine c_ret (x_tr ?_)
           refine x_br ?_
           refine x_tr ?_
           refine x_br ?_
           refine x_tr ?_
           exact x_ret _ rfl _ rfl ⟨t8_2, rfl, H⟩
          ·
           refine c_skip (x_seq ?_)
           refine c_seq (c_region ?_)
           iterate 2 refine wP tok ?_
           obtain ⟨x11, ex11, H⟩ := H
           refine w_pe tok rfl (congrArg (fun z => (.int .i64 z : Value)) ex11) rfl rfl ?_
           refine w_end (x_seq ?_)
           refine c_seq (c_region ?_)
           iterate 2 refine wP tok ?_
           obtain ⟨x12, ex12, H⟩ := H
           refine w_pe tok rfl (congrArg (fun z => (.int .i64 z : Value)) ex12) rfl rfl ?_
           refine w_end (x_seq ?_)
           refine c_seq (c_region ?_)
           refine wP tok ?_
           obtain ⟨v13, hv13, H⟩ := H
           refine w_y (y_ld tok rfl rfl rfl rfl hv13) rfl rfl ?_
           iterate 2 refine wP tok ?_
           refine w_cut 5 (α := Bool) (fun (s : Bool) => [(107, .bool s), (0, .string p0), (1, .string p1), (5, .int .i64 x1), (6, .int .u8 v7), (7, .int .u8 v8), (8, .int .i64 x11), (9, .int .i64 x9), (10, .int .i64 x12)]) (fun (s : Bool) h => internal_stringslite_Index_g4 p0 p1 x1 v7 v8 x11 x9 x12 s k (fun s h' => I1 s h' ∧ μ1 s h' < μ1 (t8_1, t10_1) h_1) h) ?_ ?_
           ·
            rintro t107_4 h_4 H
            unfold internal_stringslite_Index_g4 at H
            refine wW [(107, .bool t107_4), (0, .string p0), (1, .string p1), (5, .int .i64 x1), (6, .int .u8 v7), (7, .int .u8 v8), (8, .int .i64 x11), (9, .int .i64 x9), (10, .int .i64 x12)] ?_
            refine w_end (x_seq ?_)
            refine c_if H rfl (fun H => ?_) (fun H => ?_)
            ·
             refine c_seq (c_region ?_)
             iterate 2 refine wP tok ?_
             obtain ⟨s14, ps14, qs14, rs14, es14, H⟩ := H
             refine w_ye (y_sls (s := p0) (L := x11) (H := (p0.size : Int)) tok rfl rfl rfl rfl rfl ps14 qs14 rs14) (congrArg Value.string es14) rfl rfl ?_
             refine wP tok ?_
             exact H.elim
            ·
             refine c_seq (c_region ?_)
             refine wP tok ?_
             obtain ⟨v15, hv15, H⟩ := H
             refine w_y (y_ld tok rfl rfl rfl rfl hv15) rfl rfl ?_
             iterate 2 refine wP tok ?_
             refine w_cutU 6 [(127, .bool ((decide (x1 > v15)) && (decide (x12 ≥ (IntKind.i64.wrap (4 + (shr .i64 x11 (4 : Int).toNat))))))), (0, .string p0), (1, .string p1), (5, .int .i64 x1), (6, .int .u8 v7), (7, .int .u8 v8), (8, .int .i64 x11), (9, .int .i64 x9), (10, .int .i64 x12)] ?_ ?_
             ·
              refine wP tok ?_
              refine w_cutU 4 [(132, .bool (((decide (x1 > v15)) && (decide (x12 ≥ (IntKind.i64.wrap (4 + (shr .i64 x11 (4 : Int).toNat)))))) && (decide (x11 < x9)))), (0, .string p0), (1, .string p1), (5, .int .i64 x1), (6, .int .u8 v7), (7, .int .u8 v8), (8, .int .i64 x11), (9, .int .i64 x9), (10, .int .i64 x12)] ?_ ?_
              ·
               refine w_end (x_seq ?_)
               refine c_if H rfl (fun H => ?_) (fun H => ?_)
               ·
                refine c_seq (c_region ?_)
                iterate 2 refine wP tok ?_
                obtain ⟨s16, ps16, qs16, rs16, es16, H⟩ := H
                refine w_ye (y_sls (s := p0) (L := x11) (H := (p0.size : Int)) tok rfl rfl rfl rfl rfl ps16 qs16 rs16) (congrArg Value.string es16) rfl rfl ?_
                refine wP tok ?_
                exact H.elim
               ·
                refine c_skip ?_
                refine x_blk ?_
                exact xJ (x11, x12) H
              ·
               refine w_gs (d := 128) rfl (fun hb => ?_) (fun hb => ?_)
               ·
                iterate 4 refine wP tok ?_
                refine w_jn () rfl ⟨?_, rfl, rfl, rfl, rfl, rfl, rfl, rfl, rfl, trivial⟩
                exact congrArg (fun b => some (Value.bool b)) (and_t hb)
               ·
                iterate 3 refine w_skip rfl rfl ?_
                refine wP tok ?_
                refine w_jn () rfl ⟨?_, rfl, rfl, rfl, rfl, rfl, rfl, rfl, rfl, trivial⟩
                exact congrArg (fun b => some (Value.bool b)) (and_f hb)
             ·
              refine w_gs (d := 121) rfl (fun hb => ?_) (fun hb => ?_)
              ·
               iterate 6 refine wP tok ?_
               refine w_jn () rfl ⟨?_, rfl, rfl, rfl, rfl, rfl, rfl, rfl, rfl, trivial⟩
               exact congrArg (fun b => some (Value.bool b)) (and_t hb)
              ·
               iterate 5 refine w_skip rfl rfl ?_
               refine wP tok ?_
               refine w_jn () rfl ⟨?_, rfl, rfl, rfl, rfl, rfl, rfl, rfl, rfl, trivial⟩
               exact congrArg (fun b => some (Value.bool b)) (and_f hb)
           ·
            refine w_gif (d := 102) H rfl (fun H => ?_) (fun H => ?_)
            ·
             iterate 2 refine wP tok ?_
             exact H.elim
            ·
             iterate 4 refine w_skip rfl rfl ?_
             refine wP tok ?_
             exact wJ false H
         ·
          refine w_gif (d := 84) H rfl (fun H => ?_) (fun H => ?_)
          ·
           iterate 5 refine wP tok ?_
           obtain ⟨s17, ps17, qs17, rs17, es17, H⟩ := H
           refine w_ye (y_sls (s := p0) (L := t8_2) (H := (IntKind.i64.wrap (t8_2 + x1))) tok rfl rfl rfl rfl rfl ps17 qs17 rs17) (congrArg Value.string es17) rfl rfl ?_
           iterate 3 refine wP tok ?_
           exact wJ (s17.toList == p1.toList) H
          ·
           iterate 8 refine w_skip rfl rfl ?_
           refine wP tok ?_
           exact wJ false H
        ·
         refine c_seq (c_region ?_)
         iterate 2 refine wP tok ?_
         obtain ⟨v18, lv18, hv18, H⟩ := H
         refine w_y (y_ixs' tok rfl rfl rfl rfl lv18 hv18) rfl rfl ?_
         iterate 2 refine wP tok ?_
         refine w_end (x_seq ?_)
         refine cW [(8, .int .i64 t8_1), (10, .int .i64 t10_1), (0, .string p0), (1, .string p1), (5, .int .i64 x1), (6, .int .u8 v7), (7, .int .u8 v8), (9, .int .i64 x9), (64, .bool (v18 != v7))] ?_
         refine c_if H rfl (fun H => ?_) (fun H => ?_)
         ·
          refine c_seq (c_region ?_)
          iterate 4 refine wP tok ?_
          obtain ⟨s19, ps19, qs19, rs19, es19, H⟩ := H
          refine w_ye (y_sls (s := p0) (L := (IntKind.i64.wrap (t8_1 + 1))) (H := x9) tok rfl rfl rfl rfl rfl ps19 qs19 rs19) (congrArg Value.string es19) rfl rfl ?_
          refine wP tok ?_
          refine w_call internal_stringslite_IndexByte_ok (internal_stringslite_IndexByte_ref _ _ _ _ H) rfl rfl rfl rfl ?_
          rintro _ h21 ⟨r20, rfl, H⟩
          refine wP tok ?_
          refine w_end (x_seq ?_)
          refine cW [(8, .int .i64 t8_1), (10, .int .i64 t10_1), (0, .string p0), (1, .string p1), (5, .int .i64 x1), (6, .int .u8 v7), (7, .int .u8 v8), (9, .int .i64 x9), (11, .int .i64 r20)] ?_
          refine c_seq (c_seq (c_region ?_))
          iterate 2 refine wP tok ?_
          refine w_end (x_seq ?_)
          refine c_if H rfl (fun H => ?_) (fun H => ?_)
          ·
           refine c_seq (c_region ?_)
           obtain ⟨x22, ex22, H⟩ := H
           refine w_pe tok rfl (congrArg (fun z => (.int .i64 z : Value)) ex22) rfl rfl ?_
           refine w_end (x_seq ?_)
           refine cW [(4, .int .i64 x22)] ?_
           refine c_ret (x_tr (x_tr ?_))
           refine x_br ?_
           refine x_tr ?_
           refine x_br ?_
           refine x_tr ?_
           exact x_ret _ rfl _ rfl ⟨x22, rfl, H⟩
          ·
           refine c_skip (x_seq (c_region ?_))
           iterate 4 refine wP tok ?_
           obtain ⟨x23, ex23, H⟩ := H
           refine w_pe tok rfl (congrArg (fun z => (.int .i64 z : Value)) ex23) rfl rfl ?_
           refine w_end ?_
           exact xJ x23 H
         ·
          refine c_skip ?_
          exact xJ t8_1 H
       ·
        refine c_exit ?_
        refine x_te (x_te ?_)
        refine x_bh ?_
        refine x_seq ?_
        refine cW [] ?_
        refine c_seq (c_region ?_)
        obtain ⟨x24, ex24, H⟩ := H
        refine w_pe tok rfl (congrArg (fun z => (.int .i64 z : Value)) ex24) rfl rfl ?_
        refine w_end (x_seq (c_ret ?_))
        exact x_ret _ rfl _ rfl ⟨x24, rfl, H⟩
     ·
      refine w_gs (d := 40) rfl (fun hb => ?_) (fun hb => ?_)
      ·
       iterate 4 refine wP tok ?_
       refine w_jn () rfl ⟨?_, rfl, rfl, rfl, trivial⟩
       exact congrArg (fun b => some (Value.bool b)) (and_t hb)
      ·
       iterate 3 refine w_skip rfl rfl ?_
       refine wP tok ?_
       refine w_jn () rfl ⟨?_, rfl, rfl, rfl, trivial⟩
       exact congrArg (fun b => some (Value.bool b)) (and_f hb)
 ·
  refine w_gs (d := 19) rfl (fun hb => ?_) (fun hb => ?_)
  ·
   iterate 3 refine w_skip rfl rfl ?_
   refine wP tok ?_
   refine w_jn () rfl ⟨?_, rfl, rfl, rfl, trivial⟩
   exact congrArg (fun b => some (Value.bool b)) (or_t hb)
  ·
   iterate 4 refine wP tok ?_
   refine w_jn () rfl ⟨?_, rfl, rfl, rfl, trivial⟩
   exact congrArg (fun b => some (Value.bool b)) (or_f hb)

theorem internal_stringslite_Cut_ok : CallOk Go.Proofs.Tryz.prog 57 := ⟨_, Go.Proofs.Tryz.func57, by kernel_rfl, by kernel_rfl⟩
theorem internal_stringslite_Cut_ref (p0 : ByteArray) (p1 : ByteArray) (k : (ByteArray × ByteArray × Bool) → Heap → Prop) (h : Heap) (H : internal_stringslite_Cut p0 p1 k h) : CallsH Go.Proofs.Tryz.prog 57 #[.string p0, .string p1] h (fun v h' => ∃ r : ByteArray × ByteArray × Bool, v = .tuple #[.string r.1, .string r.2.1, .bool r.2.2] ∧ k r h') := by
 refine f_enter (N := 23) Go.Proofs.Tryz.func57 rfl rfl rfl (fun w0 => ?_)
 unfold internal_stringslite_Cut at H
 refine cW [(0, .string p0), (1, .string p1)] ?_
 refine c_seq (c_region ?_)
 iterate 3 refine wP tok ?_
 refine w_end (x_seq ?_)
 refine c_seq (c_seq (c_region ?_))
 iterate 2 refine wP tok ?_
 refine w_call internal_stringslite_Index_ok (internal_stringslite_Index_ref _ _ _ _ H) rfl rfl rfl rfl ?_
 rintro _ h2 ⟨r1, rfl, H⟩
 refine wP tok ?_
 refine w_end (x_seq ?_)
 refine c_seq (c_region ?_)
 iterate 2 refine wP tok ?_
 refine w_end (x_seq ?_)
 refine cW [(0, .string p0), (1, .string p1), (7, .int .i64 r1), (12, .bool (decide (r1 ≥ 0)))] ?_
 refine c_if H rfl (fun H => ?_) (fun H => ?_)
 ·
  refine c_seq ?_
  refine c_draw (by kernel_rfl) (by kernel_rfl) ?_
  iterate 2 refine q_p tok rfl rfl rfl ?_
  obtain ⟨s3, ps3, qs3, rs3, es3, H⟩ := H
  refine q_ye (y_sls (s := p0) (L := 0) (H := r1) tok rfl rfl rfl rfl rfl ps3 qs3 rs3) (congrArg Value.string es3) rfl rfl ?_
  iterate 5 refine q_p tok rfl rfl rfl ?_
  obtain ⟨s4, ps4, qs4, rs4, es4, H⟩ := H
  refine q_ye (y_sls (s := p0) (L := (IntKind.i64.wrap (r1 + (p1.size : Int)))) (H := (p0.size : Int)) tok rfl rfl rfl rfl rfl ps4 qs4 rs4) (congrArg Value.string es4) rfl rfl ?_
  iterate 3 refine q_p tok rfl rfl rfl ?_
  refine q_end ?_
  refine x_seq ?_
  refine cW [(4, .string s3), (5, .string s4), (6, .bool true)] ?_
  refine c_ret (x_tr ?_)
  exact x_ret _ rfl _ rfl ⟨(s3, s4, true), rfl, H⟩
 ·
  refine c_skip (x_seq ?_)
  refine c_seq (c_region ?_)
  iterate 4 refine wP tok ?_
  refine w_end (x_seq (c_ret ?_))
  exact x_ret _ rfl _ rfl ⟨(p0, (⟨#[]⟩ : ByteArray), false), rfl, H⟩

theorem strings_Cut_ok : CallOk Go.Proofs.Tryz.prog 29 := ⟨_, Go.Proofs.Tryz.func29, by kernel_rfl, by kernel_rfl⟩
theorem strings_Cut_ref (p0 : ByteArray) (p1 : ByteArray) (k : (ByteArray × ByteArray × Bool) → Heap → Prop) (h : Heap) (H : strings_Cut p0 p1 k h) : CallsH Go.Proofs.Tryz.prog 29 #[.string p0, .string p1] h (fun v h' => ∃ r : ByteArray × ByteArray × Bool, v = .tuple #[.string r.1, .string r.2.1, .bool r.2.2] ∧ k r h') := by
 refine f_enter (N := 13) Go.Proofs.Tryz.func29 rfl rfl rfl (fun w0 => ?_)
 unfold strings_Cut at H
 refine cW [(0, .string p0), (1, .string p1)] ?_
 refine c_seq (c_region ?_)
 iterate 3 refine wP tok ?_
 refine w_end (x_seq ?_)
 refine c_seq (c_region ?_)
 iterate 2 refine wP tok ?_
 refine w_call internal_stringslite_Cut_ok (internal_stringslite_Cut_ref _ _ _ _ H) rfl rfl rfl rfl ?_
 rintro _ h2 ⟨r1, rfl, H⟩
 iterate 6 refine wP tok ?_
 refine w_end (x_seq ?_)
 refine cW [(4, .string r1.1), (5, .string r1.2.1), (6, .bool r1.2.2)] ?_
 refine c_ret ?_
 exact x_ret _ rfl _ rfl ⟨(r1.1, r1.2.1, r1.2.2), rfl, H⟩

theorem internal_stringslite_HasSuffix_ok : CallOk Go.Proofs.Tryz.prog 80 := ⟨_, Go.Proofs.Tryz.func80, by kernel_rfl, by kernel_rfl⟩
theorem internal_stringslite_HasSuffix_ref (p0 : ByteArray) (p1 : ByteArray) (k : (Bool) → Heap → Prop) (h : Heap) (H : internal_stringslite_HasSuffix p0 p1 k h) : CallsH Go.Proofs.Tryz.prog 80 #[.string p0, .string p1] h (fun v h' => ∃ r : Bool, v = .bool r ∧ k r h') := by
 refine f_enter (N := 21) Go.Proofs.Tryz.func80 rfl rfl rfl (fun w0 => ?_)
 unfold internal_stringslite_HasSuffix at H
 refine cW [(0, .string p0), (1, .string p1)] ?_
 refine c_seq (c_region ?_)
 refine wP tok ?_
 refine w_end (x_seq ?_)
 refine c_seq (c_region ?_)
 iterate 6 refine wP tok ?_
 refine w_cut 10 (α := Bool) (fun (s : Bool) => [(20, .bool s)]) (fun (s : Bool) h => internal_stringslite_HasSuffix_g1 s k h) ?_ ?_
 ·
  rintro t20_1 h_1 H
  unfold internal_stringslite_HasSuffix_g1 at H
  refine wW [(20, .bool t20_1)] ?_
  refine wP tok ?_
  refine w_end (x_seq (c_ret ?_))
  exact x_ret _ rfl _ rfl ⟨t20_1, rfl, H⟩
 ·
  refine w_gif (d := 10) H rfl (fun H => ?_) (fun H => ?_)
  ·
   iterate 6 refine wP tok ?_
   obtain ⟨s1, ps1, qs1, rs1, es1, H⟩ := H
   refine w_ye (y_sls (s := p0) (L := (IntKind.i64.wrap ((p0.size : Int) - (p1.size : Int)))) (H := (p0.size : Int)) tok rfl rfl rfl rfl rfl ps1 qs1 rs1) (congrArg Value.string es1) rfl rfl ?_
   iterate 3 refine wP tok ?_
   exact wJ (s1.toList == p1.toList) H
  ·
   iterate 9 refine w_skip rfl rfl ?_
   refine wP tok ?_
   exact wJ false H

theorem internal_stringslite_CutSuffix_ok : CallOk Go.Proofs.Tryz.prog 59 := ⟨_, Go.Proofs.Tryz.func59, by kernel_rfl, by kernel_rfl⟩
theorem internal_stringslite_CutSuffix_ref (p0 : ByteArray) (p1 : ByteArray) (k : (ByteArray × Bool) → Heap → Prop) (h : Heap) (H : internal_stringslite_CutSuffix p0 p1 k h) : CallsH Go.Proofs.Tryz.prog 59 #[.string p0, .string p1] h (fun v h' => ∃ r : ByteArray × Bool, v = .tuple #[.string r.1, .bool r.2] ∧ k r h') := by
 refine f_enter (N := 18) Go.Proofs.Tryz.func59 rfl rfl rfl (fun w0 => ?_)
 unfold internal_stringslite_CutSuffix at H
 refine cW [(0, .string p0), (1, .string p1)] ?_
 refine c_seq (c_region ?_)
 iterate 2 refine wP tok ?_
 refine w_end (x_seq ?_)
 refine c_seq (c_seq (c_region ?_))
 iterate 2 refine wP tok ?_
 refine w_call internal_stringslite_HasSuffix_ok (internal_stringslite_HasSuffix_ref _ _ _ _ H) rfl rfl rfl rfl ?_
 rintro _ h2 ⟨r1, rfl, H⟩
 refine wP tok ?_
 refine w_end (x_seq ?_)
 refine c_if H rfl (fun H => ?_) (fun H => ?_)
 ·
  refine c_seq (c_region ?_)
  iterate 3 refine wP tok ?_
  refine w_end (x_seq ?_)
  refine cW [(4, .string p0), (5, .bool false)] ?_
  refine c_ret (x_tr ?_)
  exact x_ret _ rfl _ rfl ⟨(p0, false), rfl, H⟩
 ·
  refine c_skip (x_seq ?_)
  refine c_seq (c_region ?_)
  iterate 6 refine wP tok ?_
  obtain ⟨s3, ps3, qs3, rs3, es3, H⟩ := H
  refine w_ye (y_sls (s := p0) (L := 0) (H := (IntKind.i64.wrap ((p0.size : Int) - (p1.size : Int)))) tok rfl rfl rfl rfl rfl ps3 qs3 rs3) (congrArg Value.string es3) rfl rfl ?_
  iterate 2 refine wP tok ?_
  refine w_end (x_seq ?_)
  refine cW [(4, .string s3), (5, .bool true)] ?_
  refine c_ret ?_
  exact x_ret _ rfl _ rfl ⟨(s3, true), rfl, H⟩

theorem strings_CutSuffix_ok : CallOk Go.Proofs.Tryz.prog 31 := ⟨_, Go.Proofs.Tryz.func31, by kernel_rfl, by kernel_rfl⟩
theorem strings_CutSuffix_ref (p0 : ByteArray) (p1 : ByteArray) (k : (ByteArray × Bool) → Heap → Prop) (h : Heap) (H : strings_CutSuffix p0 p1 k h) : CallsH Go.Proofs.Tryz.prog 31 #[.string p0, .string p1] h (fun v h' => ∃ r : ByteArray × Bool, v = .tuple #[.string r.1, .bool r.2] ∧ k r h') := by
 refine f_enter (N := 11) Go.Proofs.Tryz.func31 rfl rfl rfl (fun w0 => ?_)
 unfold strings_CutSuffix at H
 refine cW [(0, .string p0), (1, .string p1)] ?_
 refine c_seq (c_region ?_)
 iterate 2 refine wP tok ?_
 refine w_end (x_seq ?_)
 refine c_seq (c_region ?_)
 iterate 2 refine wP tok ?_
 refine w_call internal_stringslite_CutSuffix_ok (internal_stringslite_CutSuffix_ref _ _ _ _ H) rfl rfl rfl rfl ?_
 rintro _ h2 ⟨r1, rfl, H⟩
 iterate 4 refine wP tok ?_
 refine w_end (x_seq ?_)
 refine cW [(4, .string r1.1), (5, .bool r1.2)] ?_
 refine c_ret ?_
 exact x_ret _ rfl _ rfl ⟨(r1.1, r1.2), rfl, H⟩

theorem internal_stringslite_HasPrefix_ok : CallOk Go.Proofs.Tryz.prog 90 := ⟨_, Go.Proofs.Tryz.func90, by kernel_rfl, by kernel_rfl⟩
theorem internal_stringslite_HasPrefix_ref (p0 : ByteArray) (p1 : ByteArray) (k : (Bool) → Heap → Prop) (h : Heap) (H : internal_stringslite_HasPrefix p0 p1 k h) : CallsH Go.Proofs.Tryz.prog 90 #[.string p0, .string p1] h (fun v h' => ∃ r : Bool, v = .bool r ∧ k r h') := by
 refine f_enter (N := 18) Go.Proofs.Tryz.func90 rfl rfl rfl (fun w0 => ?_)
 unfold internal_stringslite_HasPrefix at H
 refine cW [(0, .string p0), (1, .string p1)] ?_
 refine c_seq (c_region ?_)
 refine wP tok ?_
 refine w_end (x_seq ?_)
 refine c_seq (c_region ?_)
 iterate 6 refine wP tok ?_
 refine w_cut 7 (α := Bool) (fun (s : Bool) => [(17, .bool s)]) (fun (s : Bool) h => internal_stringslite_HasPrefix_g1 s k h) ?_ ?_
 ·
  rintro t17_1 h_1 H
  unfold internal_stringslite_HasPrefix_g1 at H
  refine wW [(17, .bool t17_1)] ?_
  refine wP tok ?_
  refine w_end (x_seq (c_ret ?_))
  exact x_ret _ rfl _ rfl ⟨t17_1, rfl, H⟩
 ·
  refine w_gif (d := 10) H rfl (fun H => ?_) (fun H => ?_)
  ·
   iterate 3 refine wP tok ?_
   obtain ⟨s1, ps1, qs1, rs1, es1, H⟩ := H
   refine w_ye (y_sls (s := p0) (L := 0) (H := (p1.size : Int)) tok rfl rfl rfl rfl rfl ps1 qs1 rs1) (congrArg Value.string es1) rfl rfl ?_
   iterate 3 refine wP tok ?_
   exact wJ (s1.toList == p1.toList) H
  ·
   iterate 6 refine w_skip rfl rfl ?_
   refine wP tok ?_
   exact wJ false H

theorem strings_HasPrefix_ok : CallOk Go.Proofs.Tryz.prog 73 := ⟨_, Go.Proofs.Tryz.func73, by kernel_rfl, by kernel_rfl⟩
theorem strings_HasPrefix_ref (p0 : ByteArray) (p1 : ByteArray) (k : (Bool) → Heap → Prop) (h : Heap) (H : strings_HasPrefix p0 p1 k h) : CallsH Go.Proofs.Tryz.prog 73 #[.string p0, .string p1] h (fun v h' => ∃ r : Bool, v = .bool r ∧ k r h') := by
 refine f_enter (N := 8) Go.Proofs.Tryz.func73 rfl rfl rfl (fun w0 => ?_)
 unfold strings_HasPrefix at H
 refine cW [(0, .string p0), (1, .string p1)] ?_
 refine c_seq (c_region ?_)
 refine wP tok ?_
 refine w_end (x_seq ?_)
 refine c_seq (c_region ?_)
 iterate 2 refine wP tok ?_
 refine w_call internal_stringslite_HasPrefix_ok (internal_stringslite_HasPrefix_ref _ _ _ _ H) rfl rfl rfl rfl ?_
 rintro _ h2 ⟨r1, rfl, H⟩
 refine wP tok ?_
 refine w_end (x_seq (c_ret ?_))
 exact x_ret _ rfl _ rfl ⟨r1, rfl, H⟩

theorem internal_stringslite_CutPrefix_ok : CallOk Go.Proofs.Tryz.prog 81 := ⟨_, Go.Proofs.Tryz.func81, by kernel_rfl, by kernel_rfl⟩
theorem internal_stringslite_CutPrefix_ref (p0 : ByteArray) (p1 : ByteArray) (k : (ByteArray × Bool) → Heap → Prop) (h : Heap) (H : internal_stringslite_CutPrefix p0 p1 k h) : CallsH Go.Proofs.Tryz.prog 81 #[.string p0, .string p1] h (fun v h' => ∃ r : ByteArray × Bool, v = .tuple #[.string r.1, .bool r.2] ∧ k r h') := by
 refine f_enter (N := 15) Go.Proofs.Tryz.func81 rfl rfl rfl (fun w0 => ?_)
 unfold internal_stringslite_CutPrefix at H
 refine cW [(0, .string p0), (1, .string p1)] ?_
 refine c_seq (c_region ?_)
 iterate 2 refine wP tok ?_
 refine w_end (x_seq ?_)
 refine c_seq (c_seq (c_region ?_))
 iterate 2 refine wP tok ?_
 refine w_call internal_stringslite_HasPrefix_ok (internal_stringslite_HasPrefix_ref _ _ _ _ H) rfl rfl rfl rfl ?_
 rintro _ h2 ⟨r1, rfl, H⟩
 refine wP tok ?_
 refine w_end (x_seq ?_)
 refine c_if H rfl (fun H => ?_) (fun H => ?_)
 ·
  refine c_seq (c_region ?_)
  iterate 3 refine wP tok ?_
  refine w_end (x_seq ?_)
  refine cW [(4, .string p0), (5, .bool false)] ?_
  refine c_ret (x_tr ?_)
  exact x_ret _ rfl _ rfl ⟨(p0, false), rfl, H⟩
 ·
  refine c_skip (x_seq ?_)
  refine c_seq (c_region ?_)
  iterate 3 refine wP tok ?_
  obtain ⟨s3, ps3, qs3, rs3, es3, H⟩ := H
  refine w_ye (y_sls (s := p0) (L := (p1.size : Int)) (H := (p0.size : Int)) tok rfl rfl rfl rfl rfl ps3 qs3 rs3) (congrArg Value.string es3) rfl rfl ?_
  iterate 2 refine wP tok ?_
  refine w_end (x_seq ?_)
  refine cW [(4, .string s3), (5, .bool true)] ?_
  refine c_ret ?_
  exact x_ret _ rfl _ rfl ⟨(s3, true), rfl, H⟩

theorem strings_CutPrefix_ok : CallOk Go.Proofs.Tryz.prog 61 := ⟨_, Go.Proofs.Tryz.func61, by kernel_rfl, by kernel_rfl⟩
theorem strings_CutPrefix_ref (p0 : ByteArray) (p1 : ByteArray) (k : (ByteArray × Bool) → Heap → Prop) (h : Heap) (H : strings_CutPrefix p0 p1 k h) : CallsH Go.Proofs.Tryz.prog 61 #[.string p0, .string p1] h (fun v h' => ∃ r : ByteArray × Bool, v = .tuple #[.string r.1, .bool r.2] ∧ k r h') := by
 refine f_enter (N := 11) Go.Proofs.Tryz.func61 rfl rfl rfl (fun w0 => ?_)
 unfold strings_CutPrefix at H
 refine cW [(0, .string p0), (1, .string p1)] ?_
 refine c_seq (c_region ?_)
 iterate 2 refine wP tok ?_
 refine w_end (x_seq ?_)
 refine c_seq (c_region ?_)
 iterate 2 refine wP tok ?_
 refine w_call internal_stringslite_CutPrefix_ok (internal_stringslite_CutPrefix_ref _ _ _ _ H) rfl rfl rfl rfl ?_
 rintro _ h2 ⟨r1, rfl, H⟩
 iterate 4 refine wP tok ?_
 refine w_end (x_seq ?_)
 refine cW [(4, .string r1.1), (5, .bool r1.2)] ?_
 refine c_ret ?_
 exact x_ret _ rfl _ rfl ⟨(r1.1, r1.2), rfl, H⟩

theorem label_signs_ok : CallOk Go.Proofs.Tryz.prog 60 := ⟨_, Go.Proofs.Tryz.func60, by kernel_rfl, by kernel_rfl⟩
theorem label_signs_ref (k : (Slc) → Heap → Prop) (h : Heap) (H : label_signs k h) : CallsH Go.Proofs.Tryz.prog 60 #[] h (fun v h' => ∃ r : Slc, v = Slc.v r ∧ k r h') := by
 refine f_enter (N := 2) Go.Proofs.Tryz.func60 rfl rfl rfl (fun w0 => ?_)
 unfold label_signs at H
 refine c_seq (c_region ?_)
 refine wP tok ?_
 refine w_end (x_seq ?_)
 refine c_seq (c_region ?_)
 obtain ⟨b1, h2, eb1, eh2, H⟩ := H
 refine w_h (h_bs tok rfl rfl rfl rfl rfl rfl rfl eb1 eh2) rfl rfl ?_
 refine wP tok ?_
 refine w_end (x_seq (c_ret ?_))
 exact x_ret _ rfl _ rfl ⟨(⟨some ⟨b1, 0, none⟩, 3, 3⟩ : Slc), rfl, H⟩

theorem label_question_ok : CallOk Go.Proofs.Tryz.prog 32 := ⟨_, Go.Proofs.Tryz.func32, by kernel_rfl, by kernel_rfl⟩
theorem label_question_ref (p0 : ByteArray) (k : (S_api_Question × Bool) → Heap → Prop) (h : Heap) (H : label_question p0 k h) : CallsH Go.Proofs.Tryz.prog 32 #[.string p0] h (fun v h' => ∃ r : S_api_Question × Bool, v = .tuple #[.agg (S_api_Question.cs r.1).toArray, .bool r.2] ∧ k r h') := by
 refine f_enter (N := 57) Go.Proofs.Tryz.func32 rfl rfl rfl (fun w0 => ?_)
 unfold label_question at H
 refine cW [(0, .string p0)] ?_
 refine c_seq (c_region ?_)
 obtain ⟨b1, h2, eb1, eh2, H⟩ := H
 refine w_h (h_alloc tok rfl rfl eb1 eh2) rfl rfl ?_
 refine wP tok ?_
 refine w_end (x_seq ?_)
 refine c_seq (c_region ?_)
 refine wP tok ?_
 refine w_end (x_seq ?_)
 refine c_seq (c_block ?_)
 obtain ⟨I1, μ1, H0, HI⟩ := H
 refine c_loop (σ := Int) (fun (s : Int) => [(4, .int .i64 s), (0, .string p0), (2, pt b1)]) I1 μ1 0 H0 ⟨rfl, rfl, rfl, trivial⟩ ?_
 rintro t4_1 h_1 H
 replace H := HI t4_1 h_1 H
 unfold label_question_l1b at H
 refine cW [(4, .int .i64 t4_1), (0, .string p0), (2, pt b1)] ?_
 refine c_seq (c_seq (c_region ?_))
 iterate 5 refine wP tok ?_
 refine w_cut 5 (α := Bool) (fun (s : Bool) => [(19, .bool s), (0, .string p0), (2, pt b1), (4, .int .i64 t4_1)]) (fun (s : Bool) h => label_question_g2 p0 (ad b1) t4_1 s k (fun s h' => I1 s h' ∧ μ1 s h' < μ1 t4_1 h_1) h) ?_ ?_
 ·
  rintro t19_2 h_2 H
  unfold label_question_g2 at H
  refine wW [(19, .bool t19_2), (0, .string p0), (2, pt b1), (4, .int .i64 t4_1)] ?_
  refine w_end (x_seq ?_)
  refine c_if H rfl (fun H => ?_) (fun H => ?_)
  ·
   refine c_skip (x_seq ?_)
   refine c_block (c_region ?_)
   iterate 2 refine wP tok ?_
   obtain ⟨x3, ex3, H⟩ := H
   refine w_pe tok rfl (congrArg (fun z => (.int .i64 z : Value)) ex3) rfl rfl ?_
   refine w_end ?_
   refine x_blk ?_
   exact xJ x3 H
  ·
   refine c_exit ?_
   refine x_te (x_te ?_)
   refine x_bh ?_
   refine x_seq (c_seq (c_region ?_))
   iterate 2 refine wP tok ?_
   obtain ⟨s4, ps4, qs4, rs4, es4, H⟩ := H
   refine w_ye (y_sls (s := p0) (L := 0) (H := t4_1) tok rfl rfl rfl rfl rfl ps4 qs4 rs4) (congrArg Value.string es4) rfl rfl ?_
   refine w_y (y_build tok rfl rfl rfl rfl rfl) rfl rfl ?_
   obtain ⟨b5, h6, eb5, eh6, H⟩ := H
   refine w_h (h_alloc tok rfl rfl eb5 eh6) rfl rfl ?_
   obtain ⟨h7, wh7, eh7, H⟩ := H
   refine w_h (h_sts tok rfl rfl rfl rfl rfl (oneC (by kernel_rfl)) wh7 eh7) rfl rfl ?_
   refine w_end (x_seq ?_)
   refine c_seq (c_seq (c_region ?_))
   refine w_call label_signs_ok (label_signs_ref  _ _ H) rfl rfl rfl rfl ?_
   rintro _ h9 ⟨r8, rfl, H⟩
   iterate 2 refine wP tok ?_
   refine w_end (x_seq (c_block ?_))
   obtain ⟨I3, μ3, H0, HI⟩ := H
   refine c_loop (σ := Int) (fun (s : Int) => [(28, .int .i64 s), (0, .string p0), (2, pt b1), (4, .int .i64 t4_1), (5, pt b5), (26, Slc.v r8), (27, .int .i64 (r8.len : Int))]) I3 μ3 0 H0 ⟨rfl, rfl, rfl, rfl, rfl, rfl, rfl, trivial⟩ ?_
   rintro t28_3 h_3 H
   replace H := HI t28_3 h_3 H
   unfold label_question_l3b at H
   refine cW [(28, .int .i64 t28_3), (0, .string p0), (2, pt b1), (4, .int .i64 t4_1), (5, pt b5), (26, Slc.v r8), (27, .int .i64 (r8.len : Int))] ?_
   refine c_seq (c_region ?_)
   refine wP tok ?_
   refine w_end (x_seq (c_seq ?_))
   refine c_if H rfl (fun H => ?_) (fun H => ?_)
   ·
    refine c_skip (x_seq ?_)
    refine c_seq (c_block ?_)
    refine c_seq (c_region ?_)
    refine wP tok ?_
    obtain ⟨a10, ha10, la10, ua10, H⟩ := H
    refine w_y (y_ixa' tok rfl rfl ha10 rfl rfl rfl la10 ua10) rfl rfl ?_
    obtain ⟨v11, hv11, H⟩ := H
    refine w_y (y_ld tok rfl rfl rfl rfl hv11) rfl rfl ?_
    iterate 2 refine wP tok ?_
    refine w_end (x_seq ?_)
    refine c_seq (c_region ?_)
    iterate 2 refine wP tok ?_
    obtain ⟨s12, ps12, qs12, rs12, es12, H⟩ := H
    refine w_ye (y_sls (s := p0) (L := t4_1) (H := (p0.size : Int)) tok rfl rfl rfl rfl rfl ps12 qs12 rs12) (congrArg Value.string es12) rfl rfl ?_
    refine wP tok ?_
    refine w_call strings_CutPrefix_ok (strings_CutPrefix_ref _ _ _ _ H) rfl rfl rfl rfl ?_
    rintro _ h14 ⟨r13, rfl, H⟩
    iterate 5 refine wP tok ?_
    refine w_end (x_seq ?_)
    refine cW [(28, .int .i64 t28_3), (0, .string p0), (2, pt b1), (4, .int .i64 t4_1), (5, pt b5), (26, Slc.v r8), (27, .int .i64 (r8.len : Int)), (6, .int .i64 t28_3), (8, .string r13.1), (9, .bool r13.2)] ?_
    refine c_seq (c_region ?_)
    refine wP tok ?_
    refine w_end (x_seq ?_)
    refine c_if H rfl (fun H => ?_) (fun H => ?_)
    ·
     refine c_seq (c_region ?_)
     iterate 3 refine wP tok ?_
     obtain ⟨h15, wh15, eh15, H⟩ := H
     refine w_h (h_st tok rfl rfl rfl rfl rfl rfl wh15 eh15) rfl rfl ?_
     refine wP tok ?_
     obtain ⟨h16, wh16, eh16, H⟩ := H
     refine w_h (h_st tok rfl rfl rfl rfl rfl rfl wh16 eh16) rfl rfl ?_
     refine w_end (x_seq ?_)
     refine cW [(2, pt b1), (5, pt b5)] ?_
     refine c_seqJ (α := Bool) (fun (s : Bool) => [(3, .bool s), (2, pt b1)]) (fun (s : Bool) h => label_question_j4 (ad b1) s k (fun s h' => I1 s h' ∧ μ1 s h' < μ1 t4_1 h_1) (fun s h' => I3 s h' ∧ μ3 s h' < μ3 t28_3 h_3) h) ?_ ?_
     ·
      rintro t3_4 h_4 H
      unfold label_question_j4 at H
      refine cW [(3, .bool t3_4), (2, pt b1)] ?_
      refine c_ret ?_
      refine x_br ?_
      refine x_tr (x_tr ?_)
      refine x_br ?_
      refine x_tr ?_
      obtain ⟨v17, hv17, H⟩ := H
      exact x_retc tok _ rfl [.agg (S_api_Question.cs v17).toArray, .bool t3_4] ⟨⟨_, _, rfl, rfl, .inr ⟨rfl, _, rfl, rfl, hv17⟩⟩, rfl, trivial⟩ ⟨(v17, t3_4), rfl, H⟩
     ·
      refine c_sim [(2, pt b1), (5, pt b5)] (by kernel_rfl) (by kernel_rfl) ⟨rfl, rfl, trivial⟩ (fun wf => ?_)
      obtain ⟨v18, hv18, H⟩ := H
      refine sim_l 0 (ei := [(5, pt b5)]) (d := (some 46)) wf (by kernel_rfl) ⟨rfl, trivial⟩ (by kernel_rfl) (by kernel_rfl) (pf_y rfl rfl rfl (y_lda tok rfl rfl rfl rfl rfl hv18)) (fun P_0 => ?_)
      refine sim_p 1 (ei := [(5, pt b5)]) (d := (some 47)) wf (by kernel_rfl) ⟨rfl, trivial⟩ (by kernel_rfl) (by kernel_rfl) (fun _ => pf_p tok rfl rfl rfl rfl) (fun P_1 => ?_)
      obtain ⟨v19, hv19, H⟩ := H
      refine sim_l 2 (ei := [(47, pt b5)]) (d := (some 48)) wf (by kernel_rfl) ⟨rfl, trivial⟩ (by kernel_rfl) (by kernel_rfl) (pf_y rfl rfl rfl (y_ld tok rfl rfl rfl rfl hv19)) (fun P_2 => ?_)
      refine sim_c 3 [1, 2] [1, 2] (ei := [(48, .string v19)]) label_word_ok (label_word_ref _ _ _ H) wf ⟨P_2, P_1 _, P_0, trivial⟩ (by kernel_rfl) ⟨rfl, trivial⟩ (by kernel_rfl) rfl rfl rfl rfl rfl ?_
      rintro _ h21 ⟨r20, rfl, H⟩
      obtain ⟨hy22, H⟩ := H
      refine sim_re (x := ⟨0, .agg (S_api_Question.cs v18).toArray, [(5, pt b5)]⟩) (pf_y rfl rfl rfl (y_lda tok rfl rfl rfl rfl rfl hy22)) (fun P_0 => ?_)
      refine sim_p 4 (ei := [(49, .bool r20)]) (d := (some 50)) wf (by kernel_rfl) ⟨rfl, trivial⟩ (by kernel_rfl) (by kernel_rfl) (fun _ => pf_p tok rfl rfl rfl rfl) (fun P_4 => ?_)
      refine sim_gif 50 H rfl (fun hb H => ?_) (fun hb H => ?_)
      ·
       refine sim_p 5 (ei := [(5, pt b5), (50, .bool true)]) (d := (some 51)) wf (by kernel_rfl) ⟨rfl, rfl, trivial⟩ (by kernel_rfl) (by kernel_rfl) (fun _ => pf_p tok rfl rfl rfl rfl) (fun P_5 => ?_)
       obtain ⟨v23, hv23, H⟩ := H
       refine sim_l 6 (ei := [(50, .bool true), (51, .pointer (some ((ad b5).add 2)))]) (d := (some 52)) wf (by kernel_rfl) ⟨rfl, rfl, trivial⟩ (by kernel_rfl) (by kernel_rfl) (pf_y rfl rfl rfl (y_ld tok rfl rfl rfl rfl hv23)) (fun P_6 => ?_)
       refine sim_c 7 [1, 2, 3, 4, 5, 6] [1, 2, 4, 5, 6] (ei := [(50, .bool true), (52, .string v23)]) label_word_ok (label_word_ref _ _ _ H) wf ⟨P_6, P_5 _, P_4 _, trivial, trivial, P_0, trivial⟩ (by kernel_rfl) ⟨rfl, rfl, trivial⟩ (by kernel_rfl) rfl rfl rfl rfl rfl ?_
       rintro _ h25 ⟨r24, rfl, H⟩
       obtain ⟨hy26, H⟩ := H
       refine sim_re (x := ⟨0, .agg (S_api_Question.cs v18).toArray, [(5, pt b5)]⟩) (pf_y rfl rfl rfl (y_lda tok rfl rfl rfl rfl rfl hy26)) (fun P_0 => ?_)
       refine sim_p 8 (ei := [(50, .bool true), (53, .bool r24)]) (d := (some 54)) wf (by kernel_rfl) ⟨rfl, rfl, trivial⟩ (by kernel_rfl) (by kernel_rfl) (fun _ => pf_p tok rfl rfl rfl rfl) (fun P_8 => ?_)
       obtain ⟨h27, wh27, eh27, H⟩ := H
       refine sim_h 9 [0, 1, 2, 3, 4, 5, 6, 7] [0, 1, 2, 4, 5, 6] (ei := [(2, pt b1), (46, .agg (S_api_Question.cs v18).toArray)]) wf ⟨P_8 _, trivial, trivial, trivial, trivial, trivial, P_0, trivial⟩ (by kernel_rfl) ⟨rfl, rfl, trivial⟩ (by kernel_rfl) rfl rfl rfl (h_sts tok rfl rfl rfl rfl rfl (oneC (by kernel_rfl)) wh27 eh27) ?_
       refine sim_p 10 (ei := [(54, .bool r24)]) (d := (some 3)) wf (by kernel_rfl) ⟨rfl, trivial⟩ (by kernel_rfl) (by kernel_rfl) (fun _ => pf_p tok rfl rfl rfl rfl) (fun P_10 => ?_)
       refine sim_end wf ⟨P_10 _, P_8 _, trivial, trivial, trivial, trivial, trivial, trivial, trivial⟩ (by kernel_rfl) ?_
       clear wf P_0 P_1 P_10 P_2 P_4 P_5 P_6 P_8
       exact xJ r24 H
      ·
       refine sS 5 [(5, pt b5), (50, .bool false)] (some 51) wf (fun P_5 => ?_)
       refine sS 6 [(50, .bool false), (51, undef)] (some 52) wf (fun P_6 => ?_)
       refine sS 7 [(50, .bool false), (52, undef)] (some 53) wf (fun P_7 => ?_)
       refine sim_p 8 (ei := [(50, .bool false), (53, undef)]) (d := (some 54)) wf (by kernel_rfl) ⟨rfl, rfl, trivial⟩ (by kernel_rfl) (by kernel_rfl) (fun _ => pf_p tok rfl rfl rfl rfl) (fun P_8 => ?_)
       obtain ⟨h28, wh28, eh28, H⟩ := H
       refine sim_h 9 [0, 1, 2, 3, 4, 5, 6, 7] [0, 1, 2, 4, 5, 6, 7] (ei := [(2, pt b1), (46, .agg (S_api_Question.cs v18).toArray)]) wf ⟨P_8 _, P_7 _, P_6 _, P_5 _, P_4 _, trivial, trivial, P_0, trivial⟩ (by kernel_rfl) ⟨rfl, rfl, trivial⟩ (by kernel_rfl) rfl rfl rfl (h_sts tok rfl rfl rfl rfl rfl (oneC (by kernel_rfl)) wh28 eh28) ?_
       refine sim_p 10 (ei := [(54, .bool false)]) (d := (some 3)) wf (by kernel_rfl) ⟨rfl, trivial⟩ (by kernel_rfl) (by kernel_rfl) (fun _ => pf_p tok rfl rfl rfl rfl) (fun P_10 => ?_)
       refine sim_end wf ⟨P_10 _, P_8 _, trivial, trivial, trivial, trivial, trivial, trivial, trivial, trivial⟩ (by kernel_rfl) ?_
       clear wf P_0 P_1 P_10 P_2 P_4 P_5 P_6 P_7 P_8
       exact xJ false H
    ·
     refine c_skip ?_
     refine x_blk ?_
     refine x_seq (c_region ?_)
     iterate 2 refine wP tok ?_
     refine w_end ?_
     exact xJ (IntKind.i64.wrap (t28_3 + 1)) H
   ·
    refine c_exit ?_
    refine x_te (x_te ?_)
    refine x_bh ?_
    refine x_seq (c_seq (c_region ?_))
    obtain ⟨v29, hv29, H⟩ := H
    refine w_y (y_lda tok rfl rfl rfl rfl rfl hv29) rfl rfl ?_
    obtain ⟨h30, wh30, eh30, H⟩ := H
    refine w_h (h_sts tok rfl rfl rfl rfl rfl (oneC (by kernel_rfl)) wh30 eh30) rfl rfl ?_
    refine wP tok ?_
    refine w_end (x_seq ?_)
    refine cW [(2, pt b1), (3, .bool false)] ?_
    refine c_ret ?_
    obtain ⟨v31, hv31, H⟩ := H
    exact x_retc tok _ rfl [.agg (S_api_Question.cs v31).toArray, .bool false] ⟨⟨_, _, rfl, rfl, .inr ⟨rfl, _, rfl, rfl, hv31⟩⟩, rfl, trivial⟩ ⟨(v31, false), rfl, H⟩
 ·
  refine w_gif (d := 14) H rfl (fun H => ?_) (fun H => ?_)
  ·
   iterate 2 refine wP tok ?_
   obtain ⟨v32, lv32, hv32, H⟩ := H
   refine w_y (y_ixs' tok rfl rfl rfl rfl lv32 hv32) rfl rfl ?_
   refine w_call label_letter_ok (label_letter_ref _ _ _ H) rfl rfl rfl rfl ?_
   rintro _ h34 ⟨r33, rfl, H⟩
   refine wP tok ?_
   exact wJ r33 H
  ·
   iterate 4 refine w_skip rfl rfl ?_
   refine wP tok ?_
   exact wJ false H

theorem label_Selector_ok : CallOk Go.Proofs.Tryz.prog 14 := ⟨_, Go.Proofs.Tryz.func14, by kernel_rfl, by kernel_rfl⟩
theorem label_Selector_ref (p0 : ByteArray) (k : (S_api_Selector × Int) → Heap → Prop) (h : Heap) (H : label_Selector p0 k h) : CallsH Go.Proofs.Tryz.prog 14 #[.string p0] h (fun v h' => ∃ r : S_api_Selector × Int, v = .tuple #[.agg (S_api_Selector.cs r.1).toArray, .int .i64 r.2] ∧ k r h') := by
 refine f_enter (N := 70) Go.Proofs.Tryz.func14 rfl rfl rfl (fun w0 => ?_)
 unfold label_Selector at H
 refine cW [(0, .string p0)] ?_
 refine c_seq (c_region ?_)
 obtain ⟨b1, h2, eb1, eh2, H⟩ := H
 refine w_h (h_alloc tok rfl rfl eb1 eh2) rfl rfl ?_
 refine wP tok ?_
 refine w_end (x_seq ?_)
 refine c_scope ?_
 refine c_seq (c_region ?_)
 refine wP tok ?_
 refine w_call strings_Cut_ok (strings_Cut_ref _ _ _ _ H) rfl rfl rfl rfl ?_
 rintro _ h4 ⟨r3, rfl, H⟩
 iterate 7 refine wP tok ?_
 refine w_end (x_seq ?_)
 refine cW [(2, pt b1), (4, .string r3.1), (5, .string r3.2.1), (6, .bool r3.2.2)] ?_
 refine c_seq (c_region ?_)
 refine wP tok ?_
 refine w_y (y_build tok rfl rfl rfl rfl rfl) rfl rfl ?_
 obtain ⟨b5, h6, eb5, eh6, H⟩ := H
 refine w_h (h_alloc tok rfl rfl eb5 eh6) rfl rfl ?_
 obtain ⟨h7, wh7, eh7, H⟩ := H
 refine w_h (h_sts tok rfl rfl rfl rfl rfl (oneC (by kernel_rfl)) wh7 eh7) rfl rfl ?_
 refine w_end (x_seq ?_)
 refine c_seq (c_seq (c_region ?_))
 iterate 3 refine wP tok ?_
 refine w_cut 4 (α := Bool) (fun (s : Bool) => [(27, .bool s), (2, pt b1), (5, .string r3.2.1), (6, .bool r3.2.2), (7, pt b5)]) (fun (s : Bool) h => label_Selector_g1 (ad b1) r3.2.1 r3.2.2 (ad b5) s k h) ?_ ?_
 ·
  rintro t27_1 h_1 H
  unfold label_Selector_g1 at H
  refine wW [(27, .bool t27_1), (2, pt b1), (5, .string r3.2.1), (6, .bool r3.2.2), (7, pt b5)] ?_
  refine w_end (x_seq ?_)
  refine c_if H rfl (fun H => ?_) (fun H => ?_)
  ·
   refine c_seq (c_region ?_)
   refine w_y (y_build tok rfl rfl rfl rfl rfl) rfl rfl ?_
   obtain ⟨h8, wh8, eh8, H⟩ := H
   refine w_h (h_sts tok rfl rfl rfl rfl rfl (oneC (by kernel_rfl)) wh8 eh8) rfl rfl ?_
   refine wP tok ?_
   refine w_end (x_seq ?_)
   refine c_ret (x_tr ?_)
   refine x_sr ?_
   obtain ⟨v9, hv9, H⟩ := H
   exact x_retc tok _ rfl [.agg (S_api_Selector.cs v9).toArray, .int .i64 4] ⟨⟨_, _, rfl, rfl, .inr ⟨rfl, _, rfl, rfl, hv9⟩⟩, rfl, trivial⟩ ⟨(v9, 4), rfl, H⟩
  ·
   refine c_skip (x_seq ?_)
   refine c_seq (c_seq (c_region ?_))
   iterate 2 refine wP tok ?_
   refine w_end (x_seq ?_)
   refine c_if H rfl (fun H => ?_) (fun H => ?_)
   ·
    refine c_seq (c_region ?_)
    obtain ⟨v10, hv10, H⟩ := H
    refine w_y (y_lda tok rfl rfl rfl rfl rfl hv10) rfl rfl ?_
    obtain ⟨h11, wh11, eh11, H⟩ := H
    refine w_h (h_sts tok rfl rfl rfl rfl rfl (oneC (by kernel_rfl)) wh11 eh11) rfl rfl ?_
    refine wP tok ?_
    refine w_end (x_seq ?_)
    refine cW [(2, pt b1), (3, .int .i64 0)] ?_
    refine c_ret (x_tr ?_)
    refine x_sr ?_
    obtain ⟨v12, hv12, H⟩ := H
    exact x_retc tok _ rfl [.agg (S_api_Selector.cs v12).toArray, .int .i64 0] ⟨⟨_, _, rfl, rfl, .inr ⟨rfl, _, rfl, rfl, hv12⟩⟩, rfl, trivial⟩ ⟨(v12, 0), rfl, H⟩
   ·
    refine c_skip (x_seq ?_)
    refine c_seq (c_region ?_)
    refine wP tok ?_
    refine w_call strings_CutSuffix_ok (strings_CutSuffix_ref _ _ _ _ H) rfl rfl rfl rfl ?_
    rintro _ h14 ⟨r13, rfl, H⟩
    iterate 5 refine wP tok ?_
    refine w_end (x_seq ?_)
    refine cW [(2, pt b1), (5, .string r13.1), (7, pt b5), (8, .bool r13.2)] ?_
    refine c_seq ?_
    refine c_label ?_
    refine x_seq ?_
    refine c_seqJ (α := Bool) (fun (s : Bool) => [(8, .bool s), (2, pt b1), (7, pt b5)]) (fun (s : Bool) h => label_Selector_j2 (ad b1) (ad b5) s k h) ?_ ?_
    ·
     rintro t8_2 h_2 H
     unfold label_Selector_j2 at H
     refine cW [(8, .bool t8_2), (2, pt b1), (7, pt b5)] ?_
     refine c_seq (c_seq (c_region ?_))
     iterate 2 refine wP tok ?_
     refine w_end (x_seq ?_)
     refine c_if H rfl (fun H => ?_) (fun H => ?_)
     ·
      refine c_seq (c_region ?_)
      refine w_y (y_build tok rfl rfl rfl rfl rfl) rfl rfl ?_
      obtain ⟨h15, wh15, eh15, H⟩ := H
      refine w_h (h_sts tok rfl rfl rfl rfl rfl (oneC (by kernel_rfl)) wh15 eh15) rfl rfl ?_
      refine wP tok ?_
      refine w_end (x_seq ?_)
      refine c_ret (x_tr ?_)
      refine x_sr ?_
      obtain ⟨v16, hv16, H⟩ := H
      exact x_retc tok _ rfl [.agg (S_api_Selector.cs v16).toArray, .int .i64 4] ⟨⟨_, _, rfl, rfl, .inr ⟨rfl, _, rfl, rfl, hv16⟩⟩, rfl, trivial⟩ ⟨(v16, 4), rfl, H⟩
     ·
      refine c_skip (x_seq ?_)
      refine c_seq (c_region ?_)
      obtain ⟨v17, hv17, H⟩ := H
      refine w_y (y_lda tok rfl rfl rfl rfl rfl hv17) rfl rfl ?_
      obtain ⟨h18, wh18, eh18, H⟩ := H
      refine w_h (h_sts tok rfl rfl rfl rfl rfl (oneC (by kernel_rfl)) wh18 eh18) rfl rfl ?_
      refine wP tok ?_
      refine w_end (x_seq (c_ret ?_))
      refine x_sr ?_
      obtain ⟨v19, hv19, H⟩ := H
      exact x_retc tok _ rfl [.agg (S_api_Selector.cs v19).toArray, .int .i64 0] ⟨⟨_, _, rfl, rfl, .inr ⟨rfl, _, rfl, rfl, hv19⟩⟩, rfl, trivial⟩ ⟨(v19, 0), rfl, H⟩
    ·
     refine c_seq (c_region ?_)
     refine wP tok ?_
     refine w_end (x_seq (c_block ?_))
     obtain ⟨I3, μ3, H0, HI⟩ := H
     refine c_loop (σ := ByteArray × Bool × Bool) (fun (s : ByteArray × Bool × Bool) => [(5, .string s.1), (8, .bool s.2.1), (9, .bool s.2.2), (2, pt b1), (7, pt b5)]) I3 μ3 (r13.1, r13.2, true) H0 ⟨rfl, rfl, rfl, rfl, rfl, trivial⟩ ?_
     rintro ⟨t5_3, t8_3, t9_3⟩ h_3 H
     replace H := HI t5_3 t8_3 t9_3 h_3 H
     unfold label_Selector_l3b at H
     refine cW [(5, .string t5_3), (8, .bool t8_3), (9, .bool t9_3), (2, pt b1), (7, pt b5)] ?_
     refine c_seq (c_seq (c_region ?_))
     iterate 2 refine wP tok ?_
     refine w_cutU 2 [(40, .bool (t8_3 && t9_3)), (2, pt b1), (5, .string t5_3), (7, pt b5), (8, .bool t8_3)] ?_ ?_
     ·
      refine w_end (x_seq ?_)
      refine c_if H rfl (fun H => ?_) (fun H => ?_)
      ·
       refine c_skip (x_seq ?_)
       refine c_block (c_seq (c_region ?_))
       refine wP tok ?_
       refine w_end (x_seq ?_)
       refine c_seq (c_region ?_)
       refine wP tok ?_
       refine w_call strings_Cut_ok (strings_Cut_ref _ _ _ _ H) rfl rfl rfl rfl ?_
       rintro _ h21 ⟨r20, rfl, H⟩
       iterate 7 refine wP tok ?_
       refine w_end (x_seq ?_)
       refine cW [(2, pt b1), (5, .string r20.2.1), (7, pt b5), (8, .bool t8_3), (10, .string r20.1), (9, .bool r20.2.2)] ?_
       refine c_seq (c_region ?_)
       refine wP tok ?_
       refine w_call label_question_ok (label_question_ref _ _ _ H) rfl rfl rfl rfl ?_
       rintro _ h23 ⟨r22, rfl, H⟩
       iterate 3 refine wP tok ?_
       obtain ⟨b24, h25, eb24, eh25, H⟩ := H
       refine w_h (h_alloc tok rfl rfl eb24 eh25) rfl rfl ?_
       obtain ⟨h26, wh26, eh26, H⟩ := H
       refine w_h (h_sts tok rfl rfl rfl rfl rfl (oneC (by kernel_rfl)) wh26 eh26) rfl rfl ?_
       refine wP tok ?_
       refine w_end (x_seq ?_)
       refine c_seq (c_seq (c_region ?_))
       iterate 3 refine wP tok ?_
       refine w_cut 5 (α := Bool) (fun (s : Bool) => [(59, .bool s), (2, pt b1), (5, .string r20.2.1), (7, pt b5), (8, .bool t8_3), (9, .bool r20.2.2), (11, pt b24)]) (fun (s : Bool) h => label_Selector_g4 (ad b1) r20.2.1 (ad b5) t8_3 r20.2.2 (ad b24) s k (fun s h' => I3 s h' ∧ μ3 s h' < μ3 (t5_3, t8_3, t9_3) h_3) h) ?_ ?_
       ·
        rintro t59_4 h_4 H
        unfold label_Selector_g4 at H
        refine wW [(59, .bool t59_4), (2, pt b1), (5, .string r20.2.1), (7, pt b5), (8, .bool t8_3), (9, .bool r20.2.2), (11, pt b24)] ?_
        refine w_end (x_seq ?_)
        refine c_if H rfl (fun H => ?_) (fun H => ?_)
        ·
         refine c_seq (c_region ?_)
         refine wP tok ?_
         refine w_end (x_seq ?_)
         refine c_exit ?_
         refine x_te ?_
         refine x_bm rfl ?_
         refine x_te ?_
         refine x_bh ?_
         exact xJ false H
        ·
         refine c_skip (x_seq (c_region ?_))
         refine wP tok ?_
         obtain ⟨v27, hv27, H⟩ := H
         refine w_y (y_ld tok rfl rfl rfl rfl hv27) rfl rfl ?_
         obtain ⟨v28, hv28, H⟩ := H
         refine w_y (y_lda tok rfl rfl rfl rfl rfl hv28) rfl rfl ?_
         obtain ⟨b29, h30, eb29, eh30, H⟩ := H
         refine w_h (h_bs tok rfl rfl rfl rfl rfl rfl rfl eb29 eh30) rfl rfl ?_
         refine w_a (a_app (s := v27) (r := (⟨some ⟨b29, 0, none⟩, 1, 1⟩ : Slc)) tok rfl rfl rfl rfl rfl (slcAt_push eb29 eh30) H) rfl rfl ?_
         rintro _ h32 ⟨s31, rfl, H⟩
         refine wP tok ?_
         obtain ⟨h33, wh33, eh33, H⟩ := H
         refine w_h (h_st tok rfl rfl rfl rfl rfl rfl wh33 eh33) rfl rfl ?_
         refine w_end ?_
         refine x_blk ?_
         exact xJ (r20.2.1, t8_3, r20.2.2) H
       ·
        refine w_gif (d := 54) H rfl (fun H => ?_) (fun H => ?_)
        ·
         iterate 4 refine w_skip rfl rfl ?_
         refine wP tok ?_
         exact wJ true H
        ·
         refine wP tok ?_
         obtain ⟨v34, hv34, H⟩ := H
         refine w_y (y_ld tok rfl rfl rfl rfl hv34) rfl rfl ?_
         iterate 3 refine wP tok ?_
         exact wJ ((v34.len : Int) == 8) H
      ·
       refine c_exit ?_
       refine x_te (x_te ?_)
       refine x_bh ?_
       exact xJ t8_3 H
     ·
      refine w_gs (d := 38) rfl (fun hb => ?_) (fun hb => ?_)
      ·
       iterate 2 refine wP tok ?_
       refine w_jn () rfl ⟨?_, rfl, rfl, rfl, rfl, trivial⟩
       exact congrArg (fun b => some (Value.bool b)) (and_t hb)
      ·
       refine w_skip rfl rfl ?_
       refine wP tok ?_
       refine w_jn () rfl ⟨?_, rfl, rfl, rfl, rfl, trivial⟩
       exact congrArg (fun b => some (Value.bool b)) (and_f hb)
 ·
  refine w_gif (d := 23) H rfl (fun H => ?_) (fun H => ?_)
  ·
   refine wP tok ?_
   refine w_call label_word_ok (label_word_ref _ _ _ H) rfl rfl rfl rfl ?_
   rintro _ h36 ⟨r35, rfl, H⟩
   iterate 2 refine wP tok ?_
   exact wJ (!r35) H
  ·
   iterate 3 refine w_skip rfl rfl ?_
   refine wP tok ?_
   exact wJ false H

theorem label_Check_ok : CallOk Go.Proofs.Tryz.prog 40 := ⟨_, Go.Proofs.Tryz.func40, by kernel_rfl, by kernel_rfl⟩
theorem label_Check_ref (p0 : S_api_Series) (k : (Int) → Heap → Prop) (h : Heap) (H : label_Check p0 k h) : CallsH Go.Proofs.Tryz.prog 40 #[.agg (S_api_Series.cs p0).toArray] h (fun v h' => ∃ r : Int, v = .int .i64 r ∧ k r h') := by
 refine f_enter (N := 50) Go.Proofs.Tryz.func40 rfl rfl rfl (fun w0 => ?_)
 unfold label_Check at H
 refine cW [(0, .agg (S_api_Series.cs p0).toArray)] ?_
 refine c_seq (c_region ?_)
 obtain ⟨b1, h2, eb1, eh2, H⟩ := H
 refine w_h (h_box rfl rfl eb1 eh2) rfl rfl ?_
 refine wP tok ?_
 refine w_end (x_seq ?_)
 refine c_seq (c_seq (c_region ?_))
 refine wP tok ?_
 obtain ⟨v3, hv3, H⟩ := H
 refine w_y (y_ld tok rfl rfl rfl rfl hv3) rfl rfl ?_
 refine w_call label_word_ok (label_word_ref _ _ _ H) rfl rfl rfl rfl ?_
 rintro _ h5 ⟨r4, rfl, H⟩
 iterate 2 refine wP tok ?_
 refine w_cut 5 (α := Bool) (fun (s : Bool) => [(14, .bool s), (1, pt b1)]) (fun (s : Bool) h => label_Check_g1 (ad b1) s k h) ?_ ?_
 ·
  rintro t14_1 h_1 H
  unfold label_Check_g1 at H
  refine wW [(14, .bool t14_1), (1, pt b1)] ?_
  refine w_end (x_seq ?_)
  refine c_if H rfl (fun H => ?_) (fun H => ?_)
  ·
   refine c_seq (c_region ?_)
   refine wP tok ?_
   refine w_end (x_seq ?_)
   refine c_ret (x_tr ?_)
   exact x_ret _ rfl _ rfl ⟨1, rfl, H⟩
  ·
   refine c_skip (x_seq ?_)
   refine c_seq (c_seq (c_region ?_))
   refine wP tok ?_
   obtain ⟨v6, hv6, H⟩ := H
   refine w_y (y_ld tok rfl rfl rfl rfl hv6) rfl rfl ?_
   iterate 2 refine wP tok ?_
   refine w_end (x_seq (c_block ?_))
   obtain ⟨I2, μ2, H0, HI⟩ := H
   refine c_loop (σ := Int) (fun (s : Int) => [(18, .int .i64 s), (1, pt b1), (16, Slc.v v6), (17, .int .i64 (v6.len : Int))]) I2 μ2 0 H0 ⟨rfl, rfl, rfl, rfl, trivial⟩ ?_
   rintro t18_2 h_2 H
   replace H := HI t18_2 h_2 H
   unfold label_Check_l2b at H
   refine cW [(18, .int .i64 t18_2), (1, pt b1), (16, Slc.v v6), (17, .int .i64 (v6.len : Int))] ?_
   refine c_seq (c_region ?_)
   refine wP tok ?_
   refine w_end (x_seq (c_seq ?_))
   refine c_if H rfl (fun H => ?_) (fun H => ?_)
   ·
    refine c_skip (x_seq ?_)
    refine c_seq (c_block ?_)
    refine c_seq (c_region ?_)
    refine wP tok ?_
    obtain ⟨a7, ha7, la7, ua7, H⟩ := H
    refine w_y (y_ixa' tok rfl rfl ha7 rfl rfl rfl la7 ua7) rfl rfl ?_
    obtain ⟨v8, hv8, H⟩ := H
    refine w_y (y_lda tok rfl rfl rfl rfl rfl hv8) rfl rfl ?_
    obtain ⟨b9, h10, eb9, eh10, H⟩ := H
    refine w_h (h_alloc tok rfl rfl eb9 eh10) rfl rfl ?_
    refine wP tok ?_
    obtain ⟨h11, wh11, eh11, H⟩ := H
    refine w_h (h_sts tok rfl rfl rfl rfl rfl (oneC (by kernel_rfl)) wh11 eh11) rfl rfl ?_
    refine w_end (x_seq ?_)
    refine c_seqJ (α := Bool) (fun (s : Bool) => [(48, .bool s), (1, pt b1), (16, Slc.v v6), (17, .int .i64 (v6.len : Int)), (18, .int .i64 t18_2)]) (fun (s : Bool) h => label_Check_j3 (ad b1) v6 (v6.len : Int) t18_2 s k (fun s h' => I2 s h' ∧ μ2 s h' < μ2 t18_2 h_2) h) ?_ ?_
    ·
     rintro t48_3 h_3 H
     unfold label_Check_j3 at H
     refine cW [(48, .bool t48_3), (1, pt b1), (16, Slc.v v6), (17, .int .i64 (v6.len : Int)), (18, .int .i64 t18_2)] ?_
     refine c_if H rfl (fun H => ?_) (fun H => ?_)
     ·
      refine c_seq (c_region ?_)
      refine wP tok ?_
      refine w_end (x_seq (c_ret ?_))
      refine x_br ?_
      refine x_tr (x_tr ?_)
      refine x_br ?_
      refine x_tr ?_
      exact x_ret _ rfl _ rfl ⟨1, rfl, H⟩
     ·
      refine c_skip ?_
      refine x_blk ?_
      refine x_seq (c_region ?_)
      iterate 2 refine wP tok ?_
      refine w_end ?_
      exact xJ (IntKind.i64.wrap (t18_2 + 1)) H
    ·
     refine c_sim [(1, pt b1), (3, .int .i64 t18_2), (4, pt b9), (16, Slc.v v6), (17, .int .i64 (v6.len : Int)), (18, .int .i64 t18_2)] (by kernel_rfl) (by kernel_rfl) ⟨rfl, rfl, rfl, rfl, rfl, rfl, trivial⟩ (fun wf => ?_)
     refine sim_p 0 (ei := [(4, pt b9)]) (d := (some 23)) wf (by kernel_rfl) ⟨rfl, trivial⟩ (by kernel_rfl) (by kernel_rfl) (fun _ => pf_p tok rfl rfl rfl rfl) (fun P_0 => ?_)
     obtain ⟨v12, hv12, H⟩ := H
     refine sim_l 1 (ei := [(23, pt b9)]) (d := (some 24)) wf (by kernel_rfl) ⟨rfl, trivial⟩ (by kernel_rfl) (by kernel_rfl) (pf_y rfl rfl rfl (y_ld tok rfl rfl rfl rfl hv12)) (fun P_1 => ?_)
     refine sim_c 2 [0, 1] [0, 1] (ei := [(24, .string v12)]) label_word_ok (label_word_ref _ _ _ H) wf ⟨P_1, P_0 _, trivial⟩ (by kernel_rfl) ⟨rfl, trivial⟩ (by kernel_rfl) rfl rfl rfl rfl rfl ?_
     rintro _ h14 ⟨r13, rfl, H⟩
     refine sim_p 3 (ei := [(25, .bool r13)]) (d := (some 26)) wf (by kernel_rfl) ⟨rfl, trivial⟩ (by kernel_rfl) (by kernel_rfl) (fun _ => pf_p tok rfl rfl rfl rfl) (fun P_3 => ?_)
     refine sim_p 4 (ei := [(26, .bool (!r13))]) (d := (some 27)) wf (by kernel_rfl) ⟨rfl, trivial⟩ (by kernel_rfl) (by kernel_rfl) (fun _ => pf_p tok rfl rfl rfl rfl) (fun P_4 => ?_)
     refine sim_gif 27 H rfl (fun hb H => ?_) (fun hb H => ?_)
     ·
      refine sS 5 [(4, pt b9), (27, .bool true)] (some 28) wf (fun P_5 => ?_)
      refine sS 6 [(27, .bool true), (28, undef)] (some 29) wf (fun P_6 => ?_)
      refine sS 7 [(27, .bool true), (29, undef)] (some 30) wf (fun P_7 => ?_)
      refine sS 8 [(27, .bool true), (30, undef)] (some 31) wf (fun P_8 => ?_)
      refine sim_p 9 (ei := [(27, .bool true), (31, undef)]) (d := (some 32)) wf (by kernel_rfl) ⟨rfl, rfl, trivial⟩ (by kernel_rfl) (by kernel_rfl) (fun _ => pf_p tok rfl rfl rfl rfl) (fun P_9 => ?_)
      refine sim_p 10 (ei := [(32, .bool true)]) (d := (some 33)) wf (by kernel_rfl) ⟨rfl, trivial⟩ (by kernel_rfl) (by kernel_rfl) (fun _ => pf_p tok rfl rfl rfl rfl) (fun P_10 => ?_)
      refine sim_gif 33 H rfl (fun hb H => ?_) (fun hb H => ?_)
      ·
       refine sS 11 [(3, .int .i64 t18_2), (33, .bool true)] (some 34) wf (fun P_11 => ?_)
       refine sS 12 [(33, .bool true), (34, undef)] (some 35) wf (fun P_12 => ?_)
       refine sS 13 [(33, .bool true), (35, undef)] (some 36) wf (fun P_13 => ?_)
       refine sS 14 [(1, pt b1), (36, undef)] (some 37) wf (fun P_14 => ?_)
       refine sS 15 [(36, undef), (37, undef)] (some 38) wf (fun P_15 => ?_)
       refine sS 16 [(3, .int .i64 t18_2), (36, undef)] (some 39) wf (fun P_16 => ?_)
       refine sS 17 [(36, undef), (39, undef)] (some 40) wf (fun P_17 => ?_)
       refine sS 18 [(36, undef), (38, undef), (40, undef)] (some 41) wf (fun P_18 => ?_)
       refine sS 19 [(36, undef), (41, undef)] (some 42) wf (fun P_19 => ?_)
       refine sS 20 [(36, undef), (42, undef)] (some 43) wf (fun P_20 => ?_)
       refine sS 21 [(4, pt b9), (36, undef)] (some 44) wf (fun P_21 => ?_)
       refine sS 22 [(36, undef), (44, undef)] (some 45) wf (fun P_22 => ?_)
       refine sS 23 [(36, undef), (43, undef), (45, undef)] (some 46) wf (fun P_23 => ?_)
       refine sS 24 [(33, .bool true), (36, undef), (46, undef)] (some 47) wf (fun P_24 => ?_)
       refine sim_p 25 (ei := [(33, .bool true), (47, undef)]) (d := (some 48)) wf (by kernel_rfl) ⟨rfl, rfl, trivial⟩ (by kernel_rfl) (by kernel_rfl) (fun _ => pf_p tok rfl rfl rfl rfl) (fun P_25 => ?_)
       refine sim_end wf ⟨P_25 _, P_24 _, P_23 _, P_22 _, P_21 _, P_20 _, P_19 _, P_18 _, P_17 _, P_16 _, P_15 _, P_14 _, P_13 _, P_12 _, P_11 _, P_10 _, P_9 _, P_8 _, P_7 _, P_6 _, P_5 _, P_4 _, P_3 _, trivial, trivial, trivial⟩ (by kernel_rfl) ?_
       clear wf P_0 P_1 P_10 P_11 P_12 P_13 P_14 P_15 P_16 P_17 P_18 P_19 P_20 P_21 P_22 P_23 P_24 P_25 P_3 P_4 P_5 P_6 P_7 P_8 P_9
       exact xJ true H
      ·
       refine sim_p 11 (ei := [(3, .int .i64 t18_2), (33, .bool false)]) (d := (some 34)) wf (by kernel_rfl) ⟨rfl, rfl, trivial⟩ (by kernel_rfl) (by kernel_rfl) (fun _ => pf_p tok rfl rfl rfl rfl) (fun P_11 => ?_)
       refine sim_p 12 (ei := [(33, .bool false), (34, .int .i64 t18_2)]) (d := (some 35)) wf (by kernel_rfl) ⟨rfl, rfl, trivial⟩ (by kernel_rfl) (by kernel_rfl) (fun _ => pf_p tok rfl rfl rfl rfl) (fun P_12 => ?_)
       refine sim_p 13 (ei := [(33, .bool false), (35, .bool (decide (t18_2 > 0)))]) (d := (some 36)) wf (by kernel_rfl) ⟨rfl, rfl, trivial⟩ (by kernel_rfl) (by kernel_rfl) (fun _ => pf_p tok rfl rfl rfl rfl) (fun P_13 => ?_)
       refine sim_gif 36 H rfl (fun hb H => ?_) (fun hb H => ?_)
       ·
        refine sim_p 14 (ei := [(1, pt b1), (36, .bool true)]) (d := (some 37)) wf (by kernel_rfl) ⟨rfl, rfl, trivial⟩ (by kernel_rfl) (by kernel_rfl) (fun _ => pf_p tok rfl rfl rfl rfl) (fun P_14 => ?_)
        obtain ⟨v15, hv15, H⟩ := H
        refine sim_l 15 (ei := [(36, .bool true), (37, .pointer (some ((ad b1).add 1)))]) (d := (some 38)) wf (by kernel_rfl) ⟨rfl, rfl, trivial⟩ (by kernel_rfl) (by kernel_rfl) (pf_y rfl rfl rfl (y_ld tok rfl rfl rfl rfl hv15)) (fun P_15 => ?_)
        refine sim_p 16 (ei := [(3, .int .i64 t18_2), (36, .bool true)]) (d := (some 39)) wf (by kernel_rfl) ⟨rfl, rfl, trivial⟩ (by kernel_rfl) (by kernel_rfl) (fun _ => pf_p tok rfl rfl rfl rfl) (fun P_16 => ?_)
        refine sim_p 17 (ei := [(36, .bool true), (39, .int .i64 t18_2)]) (d := (some 40)) wf (by kernel_rfl) ⟨rfl, rfl, trivial⟩ (by kernel_rfl) (by kernel_rfl) (fun _ => pf_p tok rfl rfl rfl rfl) (fun P_17 => ?_)
        obtain ⟨a16, ha16, la16, ua16, H⟩ := H
        refine sim_p 18 (ei := [(36, .bool true), (38, Slc.v v15), (40, .int .i64 (IntKind.i64.wrap (t18_2 - 1)))]) (d := (some 41)) wf (by kernel_rfl) ⟨rfl, rfl, rfl, trivial⟩ (by kernel_rfl) (by kernel_rfl) (fun _ => pf_y rfl rfl rfl (y_ixa' tok rfl rfl ha16 rfl rfl rfl la16 ua16)) (fun P_18 => ?_)
        refine sim_p 19 (ei := [(36, .bool true), (41, .pointer (some (a16.add ((IntKind.i64.wrap (t18_2 - 1)).toNat * 2))))]) (d := (some 42)) wf (by kernel_rfl) ⟨rfl, rfl, trivial⟩ (by kernel_rfl) (by kernel_rfl) (fun _ => pf_p tok rfl rfl rfl rfl) (fun P_19 => ?_)
        obtain ⟨v17, hv17, H⟩ := H
        refine sim_l 20 (ei := [(36, .bool true), (42, .pointer (some (a16.add ((IntKind.i64.wrap (t18_2 - 1)).toNat * 2))))]) (d := (some 43)) wf (by kernel_rfl) ⟨rfl, rfl, trivial⟩ (by kernel_rfl) (by kernel_rfl) (pf_y rfl rfl rfl (y_ld tok rfl rfl rfl rfl hv17)) (fun P_20 => ?_)
        refine sim_p 21 (ei := [(4, pt b9), (36, .bool true)]) (d := (some 44)) wf (by kernel_rfl) ⟨rfl, rfl, trivial⟩ (by kernel_rfl) (by kernel_rfl) (fun _ => pf_p tok rfl rfl rfl rfl) (fun P_21 => ?_)
        obtain ⟨v18, hv18, H⟩ := H
        refine sim_l 22 (ei := [(36, .bool true), (44, pt b9)]) (d := (some 45)) wf (by kernel_rfl) ⟨rfl, rfl, trivial⟩ (by kernel_rfl) (by kernel_rfl) (pf_y rfl rfl rfl (y_ld tok rfl rfl rfl rfl hv18)) (fun P_22 => ?_)
        refine sim_p 23 (ei := [(36, .bool true), (43, .string v17), (45, .string v18)]) (d := (some 46)) wf (by kernel_rfl) ⟨rfl, rfl, rfl, trivial⟩ (by kernel_rfl) (by kernel_rfl) (fun _ => pf_p tok rfl rfl rfl rfl) (fun P_23 => ?_)
        refine sim_p 24 (ei := [(33, .bool false), (36, .bool true), (46, .bool (!(Op.bytesLess v17.toList v18.toList)))]) (d := (some 47)) wf (by kernel_rfl) ⟨rfl, rfl, rfl, trivial⟩ (by kernel_rfl) (by kernel_rfl) (fun _ => pf_p tok rfl rfl rfl rfl) (fun P_24 => ?_)
        refine sim_p 25 (ei := [(33, .bool false), (47, .bool (!(Op.bytesLess v17.toList v18.toList)))]) (d := (some 48)) wf (by kernel_rfl) ⟨rfl, rfl, trivial⟩ (by kernel_rfl) (by kernel_rfl) (fun _ => pf_p tok rfl rfl rfl rfl) (fun P_25 => ?_)
        refine sim_end wf ⟨P_25 _, P_24 _, P_23 _, P_22, P_21 _, P_20, P_19 _, P_18 _, P_17 _, P_16 _, P_15, P_14 _, P_13 _, P_12 _, P_11 _, P_10 _, P_9 _, P_8 _, P_7 _, P_6 _, P_5 _, P_4 _, P_3 _, trivial, trivial, trivial⟩ (by kernel_rfl) ?_
        clear wf P_0 P_1 P_10 P_11 P_12 P_13 P_14 P_15 P_16 P_17 P_18 P_19 P_20 P_21 P_22 P_23 P_24 P_25 P_3 P_4 P_5 P_6 P_7 P_8 P_9
        exact xJ (!(Op.bytesLess v17.toList v18.toList)) H
       ·
        refine sS 14 [(1, pt b1), (36, .bool false)] (some 37) wf (fun P_14 => ?_)
        refine sS 15 [(36, .bool false), (37, undef)] (some 38) wf (fun P_15 => ?_)
        refine sS 16 [(3, .int .i64 t18_2), (36, .bool false)] (some 39) wf (fun P_16 => ?_)
        refine sS 17 [(36, .bool false), (39, undef)] (some 40) wf (fun P_17 => ?_)
        refine sS 18 [(36, .bool false), (38, undef), (40, undef)] (some 41) wf (fun P_18 => ?_)
        refine sS 19 [(36, .bool false), (41, undef)] (some 42) wf (fun P_19 => ?_)
        refine sS 20 [(36, .bool false), (42, undef)] (some 43) wf (fun P_20 => ?_)
        refine sS 21 [(4, pt b9), (36, .bool false)] (some 44) wf (fun P_21 => ?_)
        refine sS 22 [(36, .bool false), (44, undef)] (some 45) wf (fun P_22 => ?_)
        refine sS 23 [(36, .bool false), (43, undef), (45, undef)] (some 46) wf (fun P_23 => ?_)
        refine sim_p 24 (ei := [(33, .bool false), (36, .bool false), (46, undef)]) (d := (some 47)) wf (by kernel_rfl) ⟨rfl, rfl, rfl, trivial⟩ (by kernel_rfl) (by kernel_rfl) (fun _ => pf_p tok rfl rfl rfl rfl) (fun P_24 => ?_)
        refine sim_p 25 (ei := [(33, .bool false), (47, .bool false)]) (d := (some 48)) wf (by kernel_rfl) ⟨rfl, rfl, trivial⟩ (by kernel_rfl) (by kernel_rfl) (fun _ => pf_p tok rfl rfl rfl rfl) (fun P_25 => ?_)
        refine sim_end wf ⟨P_25 _, P_24 _, P_23 _, P_22 _, P_21 _, P_20 _, P_19 _, P_18 _, P_17 _, P_16 _, P_15 _, P_14 _, P_13 _, P_12 _, P_11 _, P_10 _, P_9 _, P_8 _, P_7 _, P_6 _, P_5 _, P_4 _, P_3 _, trivial, trivial, trivial⟩ (by kernel_rfl) ?_
        clear wf P_0 P_1 P_10 P_11 P_12 P_13 P_14 P_15 P_16 P_17 P_18 P_19 P_20 P_21 P_22 P_23 P_24 P_25 P_3 P_4 P_5 P_6 P_7 P_8 P_9
        exact xJ false H
     ·
      refine sim_p 5 (ei := [(4, pt b9), (27, .bool false)]) (d := (some 28)) wf (by kernel_rfl) ⟨rfl, rfl, trivial⟩ (by kernel_rfl) (by kernel_rfl) (fun _ => pf_p tok rfl rfl rfl rfl) (fun P_5 => ?_)
      obtain ⟨v19, hv19, H⟩ := H
      refine sim_l 6 (ei := [(27, .bool false), (28, .pointer (some ((ad b9).add 1)))]) (d := (some 29)) wf (by kernel_rfl) ⟨rfl, rfl, trivial⟩ (by kernel_rfl) (by kernel_rfl) (pf_y rfl rfl rfl (y_ld tok rfl rfl rfl rfl hv19)) (fun P_6 => ?_)
      refine sim_c 7 [0, 1, 2, 3, 4, 5, 6] [0, 1, 3, 4, 5, 6] (ei := [(27, .bool false), (29, .string v19)]) label_word_ok (label_word_ref _ _ _ H) wf ⟨P_6, P_5 _, P_4 _, P_3 _, trivial, trivial, trivial⟩ (by kernel_rfl) ⟨rfl, rfl, trivial⟩ (by kernel_rfl) rfl rfl rfl rfl rfl ?_
      rintro _ h21 ⟨r20, rfl, H⟩
      refine sim_p 8 (ei := [(27, .bool false), (30, .bool r20)]) (d := (some 31)) wf (by kernel_rfl) ⟨rfl, rfl, trivial⟩ (by kernel_rfl) (by kernel_rfl) (fun _ => pf_p tok rfl rfl rfl rfl) (fun P_8 => ?_)
      refine sim_p 9 (ei := [(27, .bool false), (31, .bool (!r20))]) (d := (some 32)) wf (by kernel_rfl) ⟨rfl, rfl, trivial⟩ (by kernel_rfl) (by kernel_rfl) (fun _ => pf_p tok rfl rfl rfl rfl) (fun P_9 => ?_)
      refine sim_p 10 (ei := [(32, .bool (!r20))]) (d := (some 33)) wf (by kernel_rfl) ⟨rfl, trivial⟩ (by kernel_rfl) (by kernel_rfl) (fun _ => pf_p tok rfl rfl rfl rfl) (fun P_10 => ?_)
      refine sim_gif 33 H rfl (fun hb H => ?_) (fun hb H => ?_)
      ·
       refine sS 11 [(3, .int .i64 t18_2), (33, .bool true)] (some 34) wf (fun P_11 => ?_)
       refine sS 12 [(33, .bool true), (34, undef)] (some 35) wf (fun P_12 => ?_)
       refine sS 13 [(33, .bool true), (35, undef)] (some 36) wf (fun P_13 => ?_)
       refine sS 14 [(1, pt b1), (36, undef)] (some 37) wf (fun P_14 => ?_)
       refine sS 15 [(36, undef), (37, undef)] (some 38) wf (fun P_15 => ?_)
       refine sS 16 [(3, .int .i64 t18_2), (36, undef)] (some 39) wf (fun P_16 => ?_)
       refine sS 17 [(36, undef), (39, undef)] (some 40) wf (fun P_17 => ?_)
       refine sS 18 [(36, undef), (38, undef), (40, undef)] (some 41) wf (fun P_18 => ?_)
       refine sS 19 [(36, undef), (41, undef)] (some 42) wf (fun P_19 => ?_)
       refine sS 20 [(36, undef), (42, undef)] (some 43) wf (fun P_20 => ?_)
       refine sS 21 [(4, pt b9), (36, undef)] (some 44) wf (fun P_21 => ?_)
       refine sS 22 [(36, undef), (44, undef)] (some 45) wf (fun P_22 => ?_)
       refine sS 23 [(36, undef), (43, undef), (45, undef)] (some 46) wf (fun P_23 => ?_)
       refine sS 24 [(33, .bool true), (36, undef), (46, undef)] (some 47) wf (fun P_24 => ?_)
       refine sim_p 25 (ei := [(33, .bool true), (47, undef)]) (d := (some 48)) wf (by kernel_rfl) ⟨rfl, rfl, trivial⟩ (by kernel_rfl) (by kernel_rfl) (fun _ => pf_p tok rfl rfl rfl rfl) (fun P_25 => ?_)
       refine sim_end wf ⟨P_25 _, P_24 _, P_23 _, P_22 _, P_21 _, P_20 _, P_19 _, P_18 _, P_17 _, P_16 _, P_15 _, P_14 _, P_13 _, P_12 _, P_11 _, P_10 _, P_9 _, P_8 _, trivial, trivial, trivial, trivial, trivial, trivial, trivial⟩ (by kernel_rfl) ?_
       clear wf P_0 P_1 P_10 P_11 P_12 P_13 P_14 P_15 P_16 P_17 P_18 P_19 P_20 P_21 P_22 P_23 P_24 P_25 P_3 P_4 P_5 P_6 P_8 P_9
       exact xJ true H
      ·
       refine sim_p 11 (ei := [(3, .int .i64 t18_2), (33, .bool false)]) (d := (some 34)) wf (by kernel_rfl) ⟨rfl, rfl, trivial⟩ (by kernel_rfl) (by kernel_rfl) (fun _ => pf_p tok rfl rfl rfl rfl) (fun P_11 => ?_)
       refine sim_p 12 (ei := [(33, .bool false), (34, .int .i64 t18_2)]) (d := (some 35)) wf (by kernel_rfl) ⟨rfl, rfl, trivial⟩ (by kernel_rfl) (by kernel_rfl) (fun _ => pf_p tok rfl rfl rfl rfl) (fun P_12 => ?_)
       refine sim_p 13 (ei := [(33, .bool false), (35, .bool (decide (t18_2 > 0)))]) (d := (some 36)) wf (by kernel_rfl) ⟨rfl, rfl, trivial⟩ (by kernel_rfl) (by kernel_rfl) (fun _ => pf_p tok rfl rfl rfl rfl) (fun P_13 => ?_)
       refine sim_gif 36 H rfl (fun hb H => ?_) (fun hb H => ?_)
       ·
        refine sim_p 14 (ei := [(1, pt b1), (36, .bool true)]) (d := (some 37)) wf (by kernel_rfl) ⟨rfl, rfl, trivial⟩ (by kernel_rfl) (by kernel_rfl) (fun _ => pf_p tok rfl rfl rfl rfl) (fun P_14 => ?_)
        obtain ⟨v22, hv22, H⟩ := H
        refine sim_l 15 (ei := [(36, .bool true), (37, .pointer (some ((ad b1).add 1)))]) (d := (some 38)) wf (by kernel_rfl) ⟨rfl, rfl, trivial⟩ (by kernel_rfl) (by kernel_rfl) (pf_y rfl rfl rfl (y_ld tok rfl rfl rfl rfl hv22)) (fun P_15 => ?_)
        refine sim_p 16 (ei := [(3, .int .i64 t18_2), (36, .bool true)]) (d := (some 39)) wf (by kernel_rfl) ⟨rfl, rfl, trivial⟩ (by kernel_rfl) (by kernel_rfl) (fun _ => pf_p tok rfl rfl rfl rfl) (fun P_16 => ?_)
        refine sim_p 17 (ei := [(36, .bool true), (39, .int .i64 t18_2)]) (d := (some 40)) wf (by kernel_rfl) ⟨rfl, rfl, trivial⟩ (by kernel_rfl) (by kernel_rfl) (fun _ => pf_p tok rfl rfl rfl rfl) (fun P_17 => ?_)
        obtain ⟨a23, ha23, la23, ua23, H⟩ := H
        refine sim_p 18 (ei := [(36, .bool true), (38, Slc.v v22), (40, .int .i64 (IntKind.i64.wrap (t18_2 - 1)))]) (d := (some 41)) wf (by kernel_rfl) ⟨rfl, rfl, rfl, trivial⟩ (by kernel_rfl) (by kernel_rfl) (fun _ => pf_y rfl rfl rfl (y_ixa' tok rfl rfl ha23 rfl rfl rfl la23 ua23)) (fun P_18 => ?_)
        refine sim_p 19 (ei := [(36, .bool true), (41, .pointer (some (a23.add ((IntKind.i64.wrap (t18_2 - 1)).toNat * 2))))]) (d := (some 42)) wf (by kernel_rfl) ⟨rfl, rfl, trivial⟩ (by kernel_rfl) (by kernel_rfl) (fun _ => pf_p tok rfl rfl rfl rfl) (fun P_19 => ?_)
        obtain ⟨v24, hv24, H⟩ := H
        refine sim_l 20 (ei := [(36, .bool true), (42, .pointer (some (a23.add ((IntKind.i64.wrap (t18_2 - 1)).toNat * 2))))]) (d := (some 43)) wf (by kernel_rfl) ⟨rfl, rfl, trivial⟩ (by kernel_rfl) (by kernel_rfl) (pf_y rfl rfl rfl (y_ld tok rfl rfl rfl rfl hv24)) (fun P_20 => ?_)
        refine sim_p 21 (ei := [(4, pt b9), (36, .bool true)]) (d := (some 44)) wf (by kernel_rfl) ⟨rfl, rfl, trivial⟩ (by kernel_rfl) (by kernel_rfl) (fun _ => pf_p tok rfl rfl rfl rfl) (fun P_21 => ?_)
        obtain ⟨v25, hv25, H⟩ := H
        refine sim_l 22 (ei := [(36, .bool true), (44, pt b9)]) (d := (some 45)) wf (by kernel_rfl) ⟨rfl, rfl, trivial⟩ (by kernel_rfl) (by kernel_rfl) (pf_y rfl rfl rfl (y_ld tok rfl rfl rfl rfl hv25)) (fun P_22 => ?_)
        refine sim_p 23 (ei := [(36, .bool true), (43, .string v24), (45, .string v25)]) (d := (some 46)) wf (by kernel_rfl) ⟨rfl, rfl, rfl, trivial⟩ (by kernel_rfl) (by kernel_rfl) (fun _ => pf_p tok rfl rfl rfl rfl) (fun P_23 => ?_)
        refine sim_p 24 (ei := [(33, .bool false), (36, .bool true), (46, .bool (!(Op.bytesLess v24.toList v25.toList)))]) (d := (some 47)) wf (by kernel_rfl) ⟨rfl, rfl, rfl, trivial⟩ (by kernel_rfl) (by kernel_rfl) (fun _ => pf_p tok rfl rfl rfl rfl) (fun P_24 => ?_)
        refine sim_p 25 (ei := [(33, .bool false), (47, .bool (!(Op.bytesLess v24.toList v25.toList)))]) (d := (some 48)) wf (by kernel_rfl) ⟨rfl, rfl, trivial⟩ (by kernel_rfl) (by kernel_rfl) (fun _ => pf_p tok rfl rfl rfl rfl) (fun P_25 => ?_)
        refine sim_end wf ⟨P_25 _, P_24 _, P_23 _, P_22, P_21 _, P_20, P_19 _, P_18 _, P_17 _, P_16 _, P_15, P_14 _, P_13 _, P_12 _, P_11 _, P_10 _, P_9 _, P_8 _, trivial, trivial, trivial, trivial, trivial, trivial, trivial⟩ (by kernel_rfl) ?_
        clear wf P_0 P_1 P_10 P_11 P_12 P_13 P_14 P_15 P_16 P_17 P_18 P_19 P_20 P_21 P_22 P_23 P_24 P_25 P_3 P_4 P_5 P_6 P_8 P_9
        exact xJ (!(Op.bytesLess v24.toList v25.toList)) H
       ·
        refine sS 14 [(1, pt b1), (36, .bool false)] (some 37) wf (fun P_14 => ?_)
        refine sS 15 [(36, .bool false), (37, undef)] (some 38) wf (fun P_15 => ?_)
        refine sS 16 [(3, .int .i64 t18_2), (36, .bool false)] (some 39) wf (fun P_16 => ?_)
        refine sS 17 [(36, .bool false), (39, undef)] (some 40) wf (fun P_17 => ?_)
        refine sS 18 [(36, .bool false), (38, undef), (40, undef)] (some 41) wf (fun P_18 => ?_)
        refine sS 19 [(36, .bool false), (41, undef)] (some 42) wf (fun P_19 => ?_)
        refine sS 20 [(36, .bool false), (42, undef)] (some 43) wf (fun P_20 => ?_)
        refine sS 21 [(4, pt b9), (36, .bool false)] (some 44) wf (fun P_21 => ?_)
        refine sS 22 [(36, .bool false), (44, undef)] (some 45) wf (fun P_22 => ?_)
        refine sS 23 [(36, .bool false), (43, undef), (45, undef)] (some 46) wf (fun P_23 => ?_)
        refine sim_p 24 (ei := [(33, .bool false), (36, .bool false), (46, undef)]) (d := (some 47)) wf (by kernel_rfl) ⟨rfl, rfl, rfl, trivial⟩ (by kernel_rfl) (by kernel_rfl) (fun _ => pf_p tok rfl rfl rfl rfl) (fun P_24 => ?_)
        refine sim_p 25 (ei := [(33, .bool false), (47, .bool false)]) (d := (some 48)) wf (by kernel_rfl) ⟨rfl, rfl, trivial⟩ (by kernel_rfl) (by kernel_rfl) (fun _ => pf_p tok rfl rfl rfl rfl) (fun P_25 => ?_)
        refine sim_end wf ⟨P_25 _, P_24 _, P_23 _, P_22 _, P_21 _, P_20 _, P_19 _, P_18 _, P_17 _, P_16 _, P_15 _, P_14 _, P_13 _, P_12 _, P_11 _, P_10 _, P_9 _, P_8 _, trivial, trivial, trivial, trivial, trivial, trivial, trivial⟩ (by kernel_rfl) ?_
        clear wf P_0 P_1 P_10 P_11 P_12 P_13 P_14 P_15 P_16 P_17 P_18 P_19 P_20 P_21 P_22 P_23 P_24 P_25 P_3 P_4 P_5 P_6 P_8 P_9
        exact xJ false H
   ·
    refine c_exit ?_
    refine x_te (x_te ?_)
    refine x_bh ?_
    refine x_seq (c_seq (c_region ?_))
    refine wP tok ?_
    refine w_end (x_seq (c_ret ?_))
    exact x_ret _ rfl _ rfl ⟨0, rfl, H⟩
 ·
  refine w_gif (d := 9) H rfl (fun H => ?_) (fun H => ?_)
  ·
   iterate 4 refine w_skip rfl rfl ?_
   refine wP tok ?_
   exact wJ true H
  ·
   refine wP tok ?_
   obtain ⟨v26, hv26, H⟩ := H
   refine w_y (y_ld tok rfl rfl rfl rfl hv26) rfl rfl ?_
   iterate 3 refine wP tok ?_
   exact wJ (decide ((v26.len : Int) > 8)) H

theorem label_Parse_ok : CallOk Go.Proofs.Tryz.prog 17 := ⟨_, Go.Proofs.Tryz.func17, by kernel_rfl, by kernel_rfl⟩
theorem label_Parse_ref (p0 : ByteArray) (k : (S_api_Series × Int) → Heap → Prop) (h : Heap) (H : label_Parse p0 k h) : CallsH Go.Proofs.Tryz.prog 17 #[.string p0] h (fun v h' => ∃ r : S_api_Series × Int, v = .tuple #[.agg (S_api_Series.cs r.1).toArray, .int .i64 r.2] ∧ k r h') := by
 refine f_enter (N := 47) Go.Proofs.Tryz.func17 rfl rfl rfl (fun w0 => ?_)
 unfold label_Parse at H
 refine cW [(0, .string p0)] ?_
 refine c_seq (c_region ?_)
 obtain ⟨b1, h2, eb1, eh2, H⟩ := H
 refine w_h (h_alloc tok rfl rfl eb1 eh2) rfl rfl ?_
 refine wP tok ?_
 refine w_end (x_seq ?_)
 refine c_seq (c_region ?_)
 refine wP tok ?_
 refine w_call label_Selector_ok (label_Selector_ref _ _ _ H) rfl rfl rfl rfl ?_
 rintro _ h4 ⟨r3, rfl, H⟩
 iterate 3 refine wP tok ?_
 obtain ⟨b5, h6, eb5, eh6, H⟩ := H
 refine w_h (h_alloc tok rfl rfl eb5 eh6) rfl rfl ?_
 obtain ⟨h7, wh7, eh7, H⟩ := H
 refine w_h (h_sts tok rfl rfl rfl rfl rfl (oneC (by kernel_rfl)) wh7 eh7) rfl rfl ?_
 refine wP tok ?_
 refine w_end (x_seq ?_)
 refine cW [(2, pt b1), (4, pt b5), (5, .int .i64 r3.2)] ?_
 refine c_seq (c_region ?_)
 refine wP tok ?_
 obtain ⟨v8, hv8, H⟩ := H
 refine w_y (y_ld tok rfl rfl rfl rfl hv8) rfl rfl ?_
 refine w_y (y_build tok rfl rfl rfl rfl rfl) rfl rfl ?_
 obtain ⟨b9, h10, eb9, eh10, H⟩ := H
 refine w_h (h_alloc tok rfl rfl eb9 eh10) rfl rfl ?_
 obtain ⟨h11, wh11, eh11, H⟩ := H
 refine w_h (h_sts tok rfl rfl rfl rfl rfl (oneC (by kernel_rfl)) wh11 eh11) rfl rfl ?_
 refine w_end (x_seq ?_)
 refine c_seq (c_seq (c_region ?_))
 refine wP tok ?_
 obtain ⟨v12, hv12, H⟩ := H
 refine w_y (y_ld tok rfl rfl rfl rfl hv12) rfl rfl ?_
 iterate 2 refine wP tok ?_
 refine w_end (x_seq (c_block ?_))
 obtain ⟨I1, μ1, H0, HI⟩ := H
 refine c_loop (σ := Int × Int) (fun (s : Int × Int) => [(5, .int .i64 s.1), (20, .int .i64 s.2), (2, pt b1), (6, pt b9), (18, Slc.v v12), (19, .int .i64 (v12.len : Int))]) I1 μ1 (r3.2, 0) H0 ⟨rfl, rfl, rfl, rfl, rfl, rfl, trivial⟩ ?_
 rintro ⟨t5_1, t20_1⟩ h_1 H
 replace H := HI t5_1 t20_1 h_1 H
 unfold label_Parse_l1b at H
 refine cW [(5, .int .i64 t5_1), (20, .int .i64 t20_1), (2, pt b1), (6, pt b9), (18, Slc.v v12), (19, .int .i64 (v12.len : Int))] ?_
 refine c_seq (c_region ?_)
 refine wP tok ?_
 refine w_end (x_seq (c_seq ?_))
 refine c_if H rfl (fun H => ?_) (fun H => ?_)
 ·
  refine c_skip (x_seq ?_)
  refine c_seq (c_block ?_)
  refine c_seq (c_region ?_)
  obtain ⟨a13, ha13, la13, ua13, H⟩ := H
  refine w_y (y_ixa' tok rfl rfl ha13 rfl rfl rfl la13 ua13) rfl rfl ?_
  obtain ⟨v14, hv14, H⟩ := H
  refine w_y (y_lda tok rfl rfl rfl rfl rfl hv14) rfl rfl ?_
  obtain ⟨b15, h16, eb15, eh16, H⟩ := H
  refine w_h (h_alloc tok rfl rfl eb15 eh16) rfl rfl ?_
  obtain ⟨h17, wh17, eh17, H⟩ := H
  refine w_h (h_sts tok rfl rfl rfl rfl rfl (oneC (by kernel_rfl)) wh17 eh17) rfl rfl ?_
  refine w_end (x_seq ?_)
  refine c_seqJ (α := Int) (fun (s : Int) => [(5, .int .i64 s), (2, pt b1), (6, pt b9), (8, pt b15), (18, Slc.v v12), (19, .int .i64 (v12.len : Int)), (20, .int .i64 t20_1)]) (fun (s : Int) h => label_Parse_j2 (ad b1) (ad b9) (ad b15) v12 (v12.len : Int) t20_1 s k (fun s h' => I1 s h' ∧ μ1 s h' < μ1 (t5_1, t20_1) h_1) h) ?_ ?_
  ·
   rintro t5_2 h_2 H
   unfold label_Parse_j2 at H
   refine cW [(5, .int .i64 t5_2), (2, pt b1), (6, pt b9), (8, pt b15), (18, Slc.v v12), (19, .int .i64 (v12.len : Int)), (20, .int .i64 t20_1)] ?_
   refine c_region ?_
   refine wP tok ?_
   obtain ⟨v18, hv18, H⟩ := H
   refine w_y (y_ld tok rfl rfl rfl rfl hv18) rfl rfl ?_
   refine wP tok ?_
   obtain ⟨v19, hv19, H⟩ := H
   refine w_y (y_ld tok rfl rfl rfl rfl hv19) rfl rfl ?_
   refine wP tok ?_
   obtain ⟨v20, hv20, H⟩ := H
   refine w_y (y_ld tok rfl rfl rfl rfl hv20) rfl rfl ?_
   refine w_y (y_build tok rfl rfl rfl rfl rfl) rfl rfl ?_
   obtain ⟨b21, h22, eb21, eh22, H⟩ := H
   refine w_h (h_bs tok rfl rfl rfl rfl rfl rfl rfl eb21 eh22) rfl rfl ?_
   refine w_a (a_app (s := v18) (r := (⟨some ⟨b21, 0, none⟩, 1, 1⟩ : Slc)) tok rfl rfl rfl rfl rfl (slcAt_push eb21 eh22) H) rfl rfl ?_
   rintro _ h24 ⟨s23, rfl, H⟩
   refine wP tok ?_
   obtain ⟨h25, wh25, eh25, H⟩ := H
   refine w_h (h_st tok rfl rfl rfl rfl rfl rfl wh25 eh25) rfl rfl ?_
   refine w_end ?_
   refine x_blk ?_
   refine x_seq ?_
   refine cW [(5, .int .i64 t5_2), (2, pt b1), (6, pt b9), (18, Slc.v v12), (19, .int .i64 (v12.len : Int)), (20, .int .i64 t20_1)] ?_
   refine c_region ?_
   iterate 2 refine wP tok ?_
   refine w_end ?_
   exact xJ (t5_2, (IntKind.i64.wrap (t20_1 + 1))) H
  ·
   refine c_seq (c_region ?_)
   refine wP tok ?_
   obtain ⟨v26, hv26, H⟩ := H
   refine w_y (y_ld tok rfl rfl rfl rfl hv26) rfl rfl ?_
   refine wP tok ?_
   refine w_end (x_seq ?_)
   refine c_if H rfl (fun H => ?_) (fun H => ?_)
   ·
    refine c_region ?_
    refine wP tok ?_
    refine w_end ?_
    exact xJ 4 H
   ·
    refine c_skip ?_
    exact xJ t5_1 H
 ·
  refine c_exit ?_
  refine x_te (x_te ?_)
  refine x_bh ?_
  refine x_seq (c_seq ?_)
  refine c_seq (c_region ?_)
  iterate 3 refine wP tok ?_
  refine w_cut 4 (α := Bool) (fun (s : Bool) => [(44, .bool s), (2, pt b1), (6, pt b9)]) (fun (s : Bool) h => label_Parse_g3 (ad b1) (ad b9) s k (fun s h' => I1 s h' ∧ μ1 s h' < μ1 (t5_1, t20_1) h_1) h) ?_ ?_
  ·
   rintro t44_3 h_3 H
   unfold label_Parse_g3 at H
   refine wW [(44, .bool t44_3), (2, pt b1), (6, pt b9)] ?_
   refine w_end (x_seq ?_)
   refine c_if H rfl (fun H => ?_) (fun H => ?_)
   ·
    refine c_seq (c_region ?_)
    refine w_y (y_build tok rfl rfl rfl rfl rfl) rfl rfl ?_
    obtain ⟨h27, wh27, eh27, H⟩ := H
    refine w_h (h_sts tok rfl rfl rfl rfl rfl (oneC (by kernel_rfl)) wh27 eh27) rfl rfl ?_
    refine wP tok ?_
    refine w_end (x_seq ?_)
    refine c_ret (x_tr ?_)
    obtain ⟨v28, hv28, H⟩ := H
    exact x_retc tok _ rfl [.agg (S_api_Series.cs v28).toArray, .int .i64 4] ⟨⟨_, _, rfl, rfl, .inr ⟨rfl, _, rfl, rfl, hv28⟩⟩, rfl, trivial⟩ ⟨(v28, 4), rfl, H⟩
   ·
    refine c_skip (x_seq ?_)
    refine c_seq (c_region ?_)
    obtain ⟨v29, hv29, H⟩ := H
    refine w_y (y_lda tok rfl rfl rfl rfl rfl hv29) rfl rfl ?_
    obtain ⟨h30, wh30, eh30, H⟩ := H
    refine w_h (h_sts tok rfl rfl rfl rfl rfl (oneC (by kernel_rfl)) wh30 eh30) rfl rfl ?_
    refine wP tok ?_
    refine w_end (x_seq (c_ret ?_))
    obtain ⟨v31, hv31, H⟩ := H
    exact x_retc tok _ rfl [.agg (S_api_Series.cs v31).toArray, .int .i64 0] ⟨⟨_, _, rfl, rfl, .inr ⟨rfl, _, rfl, rfl, hv31⟩⟩, rfl, trivial⟩ ⟨(v31, 0), rfl, H⟩
  ·
   refine w_gif (d := 40) H rfl (fun H => ?_) (fun H => ?_)
   ·
    iterate 3 refine w_skip rfl rfl ?_
    refine wP tok ?_
    exact wJ true H
   ·
    obtain ⟨v32, hv32, H⟩ := H
    refine w_y (y_lda tok rfl rfl rfl rfl rfl hv32) rfl rfl ?_
    refine w_call label_Check_ok (label_Check_ref _ _ _ H) rfl rfl rfl rfl ?_
    rintro _ h34 ⟨r33, rfl, H⟩
    iterate 2 refine wP tok ?_
    exact wJ (r33 != 0) H
end Go.Q.Yz

/- A part of the proof of statements of this seat: lemmas, no statement of their own. -/
import Derived.Test.YtcmbgfmbmbgbiaaYbTab
import Derived.Test.YtcmbgfmbmbgbiaaYbLab
import Derived.Test.YtcmbgfmbmbgbiaaQEq
set_option linter.unusedVariables false
set_option maxRecDepth 100000
set_option maxHeartbeats 1000000
namespace Go.Q.Yb
open Go.RowKit in
theorem eqv163_S_api_Label (a b : S_api_Label) (w : World) : (Op.equal 163 (.agg (S_api_Label.cs a).toArray) (.agg (S_api_Label.cs b).toArray)).run Go.Proofs.Try.prog w = .ok ((a.f_Name.toList == b.f_Name.toList) && (a.f_Value.toList == b.f_Value.toList)) w := by
  have hS : Go.Proofs.Try.prog.underlying 163 = some (.struct (Go.Proofs.Try.prog.fieldsOf 163)) := by kernel_rfl
  have hp : Go.Proofs.Try.prog.stoodInHeld 163 = false := by kernel_rfl
  have u9 := Go.Proofs.Try.underlying9
  have a9 : ∀ w, (isAgg 9).run Go.Proofs.Try.prog w = .ok false w := Go.Proofs.Try.isAgg9
  unfold Op.equal Op.maxDepth
  rw [show (10000 : Nat) = 9999 + 1 from rfl, run_equalIn_struct w 9999 163 _ _ hS hp]
  simp only [Program.fieldsOf, Go.Proofs.Try.underlying163, S_api_Label.cs]
  go_simp
  by_cases h0 : (a.f_Name.toList = b.f_Name.toList) <;> by_cases h1 : (a.f_Value.toList = b.f_Value.toList) <;> simp [h0, h1]
/-- slices.Index   quaestor api.Label quaestor api.Label  -/
def slices_Index_api_Label_api_Label_l1b (t0_1 : Slc) (t3_1 : Addr) (t7_1 : Int) (t8_1 : Int) (k : (Int) → Heap → Prop) (nx1 : (Int) → Heap → Prop) (h_1 : Heap) : Prop :=
  if (decide (t8_1 < t7_1)) then (∃ v3 : S_api_Label, CellsAt h_1 t3_1 (S_api_Label.cs v3) ∧ (∃ a4 : Addr, t0_1.a = some a4 ∧ (0 : Int) ≤ t8_1 ∧ t8_1 < (t0_1.len : Int) ∧ (∃ v5 : S_api_Label, CellsAt h_1 (a4.add (t8_1.toNat * 2)) (S_api_Label.cs v5) ∧ (if (if BinOp.eql = .eql then ((v3.f_Name.toList == v5.f_Name.toList) && (v3.f_Value.toList == v5.f_Value.toList)) else !((v3.f_Name.toList == v5.f_Name.toList) && (v3.f_Value.toList == v5.f_Value.toList))) then (k t8_1 h_1) else (nx1 (IntKind.i64.wrap (t8_1 + 1)) h_1))))) else (∃ x6 : Int, x6 = (-1) ∧ (k x6 h_1))
def slices_Index_api_Label_api_Label_l1 (t0_1 : Slc) (t3_1 : Addr) (t7_1 : Int) (i8 : Int) (k : (Int) → Heap → Prop) (h : Heap) : Prop :=
  ∃ (I : Int → Heap → Prop) (μ : Int → Heap → Nat), I i8 h ∧ ∀ (t8_1 : Int) (h : Heap), I t8_1 h → slices_Index_api_Label_api_Label_l1b t0_1 t3_1 t7_1 t8_1 k (fun s h' => I s h' ∧ μ s h' < μ t8_1 h) h
def slices_Index_api_Label_api_Label (p0 : Slc) (p1 : S_api_Label) (k : (Int) → Heap → Prop) (h : Heap) : Prop :=
  ∃ (b1 : Nat) (h2 : Heap), b1 = h.size ∧ h2 = h.push (.cells (S_api_Label.cs p1).toArray 163) ∧ (slices_Index_api_Label_api_Label_l1 p0 (⟨b1, 0, none⟩ : Addr) (p0.len : Int) 0 k h2)

/-- slices.Contains   quaestor api.Label quaestor api.Label  -/
def slices_Contains_api_Label_api_Label (p0 : Slc) (p1 : S_api_Label) (k : (Bool) → Heap → Prop) (h : Heap) : Prop :=
  ∃ (b1 : Nat) (h2 : Heap), b1 = h.size ∧ h2 = h.push (.cells (S_api_Label.cs p1).toArray 163) ∧ (∃ v3 : S_api_Label, CellsAt h2 (⟨b1, 0, none⟩ : Addr) (S_api_Label.cs v3) ∧ (slices_Index_api_Label_api_Label p0 v3 (fun (r4 : Int) h5 => k (decide (r4 ≥ 0)) h5) h2))

/-- quaestor label.answers 1 -/
def label_answers_1_g1 (t15_1 : Bool) (k : (Bool) → Heap → Prop) (h_1 : Heap) : Prop :=
  k t15_1 h_1
def label_answers_1 (p0 : S_api_Label) (p1 : Addr) (k : (Bool) → Heap → Prop) (h : Heap) : Prop :=
  ∃ (b1 : Nat) (h2 : Heap), b1 = h.size ∧ h2 = h.push (.cells (S_api_Label.cs p0).toArray 163) ∧ (∃ v3 : ByteArray, cellH h2 (⟨b1, 0, none⟩ : Addr) = some (.string v3) ∧ (∃ v4 : ByteArray, cellH h2 p1 = some (.string v4) ∧ (if (v3.toList == v4.toList) then (∃ v5 : ByteArray, cellH h2 ((⟨b1, 0, none⟩ : Addr).add 1) = some (.string v5) ∧ (∃ v6 : ByteArray, cellH h2 (p1.add 2) = some (.string v6) ∧ (strings_HasPrefix v5 v6 (fun (r7 : Bool) h8 => label_answers_1_g1 r7 k h8) h2))) else (label_answers_1_g1 false k h2))))

/-- slices.IndexFunc   quaestor api.Label quaestor api.Label  -/
def slices_IndexFunc_api_Label_api_Label__label_answers_1_l1b (t0_1 : Slc) (t1c0_1 : Addr) (t7_1 : Int) (t8_1 : Int) (k : (Int) → Heap → Prop) (nx1 : (Int) → Heap → Prop) (h_1 : Heap) : Prop :=
  if (decide (t8_1 < t7_1)) then (∃ a1 : Addr, t0_1.a = some a1 ∧ (0 : Int) ≤ t8_1 ∧ t8_1 < (t0_1.len : Int) ∧ (∃ v2 : S_api_Label, CellsAt h_1 (a1.add (t8_1.toNat * 2)) (S_api_Label.cs v2) ∧ (label_answers_1 v2 t1c0_1 (fun (r3 : Bool) h4 => if r3 then (k t8_1 h4) else (nx1 (IntKind.i64.wrap (t8_1 + 1)) h4)) h_1))) else (∃ x5 : Int, x5 = (-1) ∧ (k x5 h_1))
def slices_IndexFunc_api_Label_api_Label__label_answers_1_l1 (t0_1 : Slc) (t1c0_1 : Addr) (t7_1 : Int) (i8 : Int) (k : (Int) → Heap → Prop) (h : Heap) : Prop :=
  ∃ (I : Int → Heap → Prop) (μ : Int → Heap → Nat), I i8 h ∧ ∀ (t8_1 : Int) (h : Heap), I t8_1 h → slices_IndexFunc_api_Label_api_Label__label_answers_1_l1b t0_1 t1c0_1 t7_1 t8_1 k (fun s h' => I s h' ∧ μ s h' < μ t8_1 h) h
def slices_IndexFunc_api_Label_api_Label__label_answers_1 (p0 : Slc) (p1c0 : Addr) (k : (Int) → Heap → Prop) (h : Heap) : Prop :=
  slices_IndexFunc_api_Label_api_Label__label_answers_1_l1 p0 p1c0 (p0.len : Int) 0 k h

/-- slices.ContainsFunc   quaestor api.Label quaestor api.Label  -/
def slices_ContainsFunc_api_Label_api_Label__label_answers_1 (p0 : Slc) (p1c0 : Addr) (k : (Bool) → Heap → Prop) (h : Heap) : Prop :=
  slices_IndexFunc_api_Label_api_Label__label_answers_1 p0 p1c0 (fun (r1 : Int) h2 => k (decide (r1 ≥ 0)) h2) h

/-- quaestor label.answers -/
def label_answers (p0 : S_api_Question) (p1 : S_api_Series) (k : (Bool) → Heap → Prop) (h : Heap) : Prop :=
  ∃ (b1 : Nat) (h2 : Heap), b1 = h.size ∧ h2 = h.push (.cells (S_api_Question.cs p0).toArray 165) ∧ (∃ (b3 : Nat) (h4 : Heap), b3 = h2.size ∧ h4 = h2.push (.cells (S_api_Series.cs p1).toArray 66) ∧ (∃ v5 : Int, cellH h4 ((⟨b1, 0, none⟩ : Addr).add 1) = some (.int .i64 v5) ∧ (if (v5 == 0) then (∃ v6 : Slc, cellH h4 ((⟨b3, 0, none⟩ : Addr).add 1) = some (Slc.v v6) ∧ (∃ v7 : ByteArray, cellH h4 (⟨b1, 0, none⟩ : Addr) = some (.string v7) ∧ (∃ v8 : ByteArray, cellH h4 ((⟨b1, 0, none⟩ : Addr).add 2) = some (.string v8) ∧ (slices_Contains_api_Label_api_Label v6 (⟨v7, v8⟩ : S_api_Label) (fun (r9 : Bool) h10 => k r9 h10) h4)))) else (if (v5 == 1) then (∃ v11 : Slc, cellH h4 ((⟨b3, 0, none⟩ : Addr).add 1) = some (Slc.v v11) ∧ (∃ v12 : ByteArray, cellH h4 (⟨b1, 0, none⟩ : Addr) = some (.string v12) ∧ (∃ v13 : ByteArray, cellH h4 ((⟨b1, 0, none⟩ : Addr).add 2) = some (.string v13) ∧ (slices_Contains_api_Label_api_Label v11 (⟨v12, v13⟩ : S_api_Label) (fun (r14 : Bool) h15 => k (!r14) h15) h4)))) else (if (v5 == 2) then (∃ v16 : Slc, cellH h4 ((⟨b3, 0, none⟩ : Addr).add 1) = some (Slc.v v16) ∧ (slices_ContainsFunc_api_Label_api_Label__label_answers_1 v16 (⟨b1, 0, none⟩ : Addr) (fun (r17 : Bool) h18 => k r17 h18) h4)) else (k false h4))))))

/-- quaestor label.Chooses 1 -/
def label_Chooses_1 (p0 : S_api_Question) (p1 : Addr) (k : (Bool) → Heap → Prop) (h : Heap) : Prop :=
  ∃ (b1 : Nat) (h2 : Heap), b1 = h.size ∧ h2 = h.push (.cells (S_api_Question.cs p0).toArray 165) ∧ (∃ v3 : S_api_Question, CellsAt h2 (⟨b1, 0, none⟩ : Addr) (S_api_Question.cs v3) ∧ (∃ v4 : S_api_Series, CellsAt h2 p1 (S_api_Series.cs v4) ∧ (label_answers v3 v4 (fun (r5 : Bool) h6 => k (!r5) h6) h2)))

/-- slices.IndexFunc   quaestor api.Question quaestor api.Question  -/
def slices_IndexFunc_api_Question_api_Question__label_Chooses_1_l1b (t0_1 : Slc) (t1c0_1 : Addr) (t7_1 : Int) (t8_1 : Int) (k : (Int) → Heap → Prop) (nx1 : (Int) → Heap → Prop) (h_1 : Heap) : Prop :=
  if (decide (t8_1 < t7_1)) then (∃ a1 : Addr, t0_1.a = some a1 ∧ (0 : Int) ≤ t8_1 ∧ t8_1 < (t0_1.len : Int) ∧ (∃ v2 : S_api_Question, CellsAt h_1 (a1.add (t8_1.toNat * 3)) (S_api_Question.cs v2) ∧ (label_Chooses_1 v2 t1c0_1 (fun (r3 : Bool) h4 => if r3 then (k t8_1 h4) else (nx1 (IntKind.i64.wrap (t8_1 + 1)) h4)) h_1))) else (∃ x5 : Int, x5 = (-1) ∧ (k x5 h_1))
def slices_IndexFunc_api_Question_api_Question__label_Chooses_1_l1 (t0_1 : Slc) (t1c0_1 : Addr) (t7_1 : Int) (i8 : Int) (k : (Int) → Heap → Prop) (h : Heap) : Prop :=
  ∃ (I : Int → Heap → Prop) (μ : Int → Heap → Nat), I i8 h ∧ ∀ (t8_1 : Int) (h : Heap), I t8_1 h → slices_IndexFunc_api_Question_api_Question__label_Chooses_1_l1b t0_1 t1c0_1 t7_1 t8_1 k (fun s h' => I s h' ∧ μ s h' < μ t8_1 h) h
def slices_IndexFunc_api_Question_api_Question__label_Chooses_1 (p0 : Slc) (p1c0 : Addr) (k : (Int) → Heap → Prop) (h : Heap) : Prop :=
  slices_IndexFunc_api_Question_api_Question__label_Chooses_1_l1 p0 p1c0 (p0.len : Int) 0 k h

/-- slices.ContainsFunc   quaestor api.Question quaestor api.Question  -/
def slices_ContainsFunc_api_Question_api_Question__label_Chooses_1 (p0 : Slc) (p1c0 : Addr) (k : (Bool) → Heap → Prop) (h : Heap) : Prop :=
  slices_IndexFunc_api_Question_api_Question__label_Chooses_1 p0 p1c0 (fun (r1 : Int) h2 => k (decide (r1 ≥ 0)) h2) h

/-- quaestor label.Chooses -/
def label_Chooses_g1 (t2_1 : Addr) (t3_1 : Addr) (t14_1 : Bool) (k : (Bool) → Heap → Prop) (h_1 : Heap) : Prop :=
  if t14_1 then (k false h_1) else (∃ v6 : Slc, cellH h_1 (t2_1.add 1) = some (Slc.v v6) ∧ (slices_ContainsFunc_api_Question_api_Question__label_Chooses_1 v6 t3_1 (fun (r7 : Bool) h8 => k (!r7) h8) h_1))
def label_Chooses (p0 : S_api_Selector) (p1 : S_api_Series) (k : (Bool) → Heap → Prop) (h : Heap) : Prop :=
  ∃ (b1 : Nat) (h2 : Heap), b1 = h.size ∧ h2 = h.push (.cells (S_api_Selector.cs p0).toArray 63) ∧ (∃ (b3 : Nat) (h4 : Heap), b3 = h2.size ∧ h4 = h2.push (.cells (S_api_Series.cs p1).toArray 66) ∧ (∃ v5 : ByteArray, cellH h4 (⟨b1, 0, none⟩ : Addr) = some (.string v5) ∧ (if (!(v5.toList == (⟨#[]⟩ : ByteArray).toList)) then (∃ v9 : ByteArray, cellH h4 (⟨b1, 0, none⟩ : Addr) = some (.string v9) ∧ (∃ v10 : ByteArray, cellH h4 (⟨b3, 0, none⟩ : Addr) = some (.string v10) ∧ (label_Chooses_g1 (⟨b1, 0, none⟩ : Addr) (⟨b3, 0, none⟩ : Addr) (!(v9.toList == v10.toList)) k h4))) else (label_Chooses_g1 (⟨b1, 0, none⟩ : Addr) (⟨b3, 0, none⟩ : Addr) false k h4))))

/-- quaestor quaestorref15.Chooses -/
def ref15_Chooses_j4 (t2_4 : Addr) (t3_4 : Addr) (t5_4 : Int) (t6_4 : Addr) (t9_4 : Int) (t7_4 : Bool) (t8_4 : Bool) (k : (Bool) → Heap → Prop) (nx2 : (Int) → Heap → Prop) (nx3 : (Bool × Bool × Int) → Heap → Prop) (h_4 : Heap) : Prop :=
  ∃ x14 : Int, x14 = (IntKind.i64.wrap (t9_4 + 1)) ∧ (nx3 (t7_4, t8_4, x14) h_4)
def ref15_Chooses_g6 (t2_6 : Addr) (t3_6 : Addr) (t5_6 : Int) (t6_6 : Addr) (t7_6 : Bool) (t9_6 : Int) (t78_6 : Bool) (k : (Bool) → Heap → Prop) (nx2 : (Int) → Heap → Prop) (nx3 : (Bool × Bool × Int) → Heap → Prop) (h_6 : Heap) : Prop :=
  ref15_Chooses_j4 t2_6 t3_6 t5_6 t6_6 t9_6 t7_6 t78_6 k nx2 nx3 h_6
def ref15_Chooses_g7 (t2_7 : Addr) (t3_7 : Addr) (t5_7 : Int) (t6_7 : Addr) (t7_7 : Bool) (t9_7 : Int) (t59_7 : Bool) (t77_7 : Bool) (k : (Bool) → Heap → Prop) (nx2 : (Int) → Heap → Prop) (nx3 : (Bool × Bool × Int) → Heap → Prop) (h_7 : Heap) : Prop :=
  ref15_Chooses_g6 t2_7 t3_7 t5_7 t6_7 t7_7 t9_7 t77_7 k nx2 nx3 h_7
def ref15_Chooses_g5 (t2_5 : Addr) (t3_5 : Addr) (t5_5 : Int) (t6_5 : Addr) (t8_5 : Bool) (t9_5 : Int) (t10_5 : Addr) (t57_5 : Bool) (k : (Bool) → Heap → Prop) (nx2 : (Int) → Heap → Prop) (nx3 : (Bool × Bool × Int) → Heap → Prop) (h_5 : Heap) : Prop :=
  if t8_5 then (ref15_Chooses_g6 t2_5 t3_5 t5_5 t6_5 t57_5 t9_5 true k nx2 nx3 h_5) else (∃ v23 : ByteArray, cellH h_5 (t10_5.add 1) = some (.string v23) ∧ (∃ v24 : ByteArray, cellH h_5 (t6_5.add 2) = some (.string v24) ∧ (if (decide ((v23.size : Int) ≥ (v24.size : Int))) then (∃ v25 : ByteArray, cellH h_5 (t10_5.add 1) = some (.string v25) ∧ (∃ v26 : ByteArray, cellH h_5 (t6_5.add 2) = some (.string v26) ∧ (∃ s27 : ByteArray, (0 : Int) ≤ 0 ∧ (0 : Int) ≤ (v26.size : Int) ∧ (v26.size : Int) ≤ (v25.size : Int) ∧ s27 = v25.extract (0 : Int).toNat (v26.size : Int).toNat ∧ (∃ v28 : ByteArray, cellH h_5 (t6_5.add 2) = some (.string v28) ∧ (ref15_Chooses_g7 t2_5 t3_5 t5_5 t6_5 t57_5 t9_5 false (s27.toList == v28.toList) k nx2 nx3 h_5))))) else (ref15_Chooses_g7 t2_5 t3_5 t5_5 t6_5 t57_5 t9_5 false false k nx2 nx3 h_5))))
def ref15_Chooses_g11 (t2_11 : Addr) (t3_11 : Addr) (t5_11 : Int) (t112_11 : Bool) (k : (Bool) → Heap → Prop) (nx2 : (Int) → Heap → Prop) (nx3 : (Bool × Bool × Int) → Heap → Prop) (h_11 : Heap) : Prop :=
  if t112_11 then (k false h_11) else (∃ x32 : Int, x32 = (IntKind.i64.wrap (t5_11 + 1)) ∧ (nx2 x32 h_11))
def ref15_Chooses_g10 (t2_10 : Addr) (t3_10 : Addr) (t5_10 : Int) (t6_10 : Addr) (t107_10 : Bool) (k : (Bool) → Heap → Prop) (nx2 : (Int) → Heap → Prop) (nx3 : (Bool × Bool × Int) → Heap → Prop) (h_10 : Heap) : Prop :=
  if t107_10 then (ref15_Chooses_g11 t2_10 t3_10 t5_10 true k nx2 nx3 h_10) else (∃ v33 : Int, cellH h_10 (t6_10.add 1) = some (.int .i64 v33) ∧ (ref15_Chooses_g11 t2_10 t3_10 t5_10 (decide (v33 > 2)) k nx2 nx3 h_10))
def ref15_Chooses_g9 (t2_9 : Addr) (t3_9 : Addr) (t5_9 : Int) (t6_9 : Addr) (t102_9 : Bool) (k : (Bool) → Heap → Prop) (nx2 : (Int) → Heap → Prop) (nx3 : (Bool × Bool × Int) → Heap → Prop) (h_9 : Heap) : Prop :=
  if t102_9 then (ref15_Chooses_g10 t2_9 t3_9 t5_9 t6_9 true k nx2 nx3 h_9) else (∃ v34 : Int, cellH h_9 (t6_9.add 1) = some (.int .i64 v34) ∧ (ref15_Chooses_g10 t2_9 t3_9 t5_9 t6_9 (decide (v34 < 0)) k nx2 nx3 h_9))
def ref15_Chooses_g8 (t2_8 : Addr) (t3_8 : Addr) (t5_8 : Int) (t6_8 : Addr) (t8_8 : Bool) (t93_8 : Bool) (k : (Bool) → Heap → Prop) (nx2 : (Int) → Heap → Prop) (nx3 : (Bool × Bool × Int) → Heap → Prop) (h_8 : Heap) : Prop :=
  if t93_8 then (ref15_Chooses_g9 t2_8 t3_8 t5_8 t6_8 true k nx2 nx3 h_8) else (∃ v35 : Int, cellH h_8 (t6_8.add 1) = some (.int .i64 v35) ∧ (ref15_Chooses_g9 t2_8 t3_8 t5_8 t6_8 ((v35 == 2) && (!t8_8)) k nx2 nx3 h_8))
def ref15_Chooses_l3b (t2_3 : Addr) (t3_3 : Addr) (t5_3 : Int) (t6_3 : Addr) (t7_3 : Bool) (t8_3 : Bool) (t9_3 : Int) (k : (Bool) → Heap → Prop) (nx2 : (Int) → Heap → Prop) (nx3 : (Bool × Bool × Int) → Heap → Prop) (h_3 : Heap) : Prop :=
  ∃ v13 : Slc, cellH h_3 (t3_3.add 1) = some (Slc.v v13) ∧ (if (decide (t9_3 < (v13.len : Int))) then (∃ v15 : Slc, cellH h_3 (t3_3.add 1) = some (Slc.v v15) ∧ (∃ a16 : Addr, v15.a = some a16 ∧ (0 : Int) ≤ t9_3 ∧ t9_3 < (v15.len : Int) ∧ (∃ v17 : S_api_Label, CellsAt h_3 (a16.add (t9_3.toNat * 2)) (S_api_Label.cs v17) ∧ (∃ (b18 : Nat) (h19 : Heap), b18 = h_3.size ∧ h19 = h_3.push (.cells (S_api_Label.cs (⟨ByteArray.empty, ByteArray.empty⟩ : S_api_Label)).toArray 163) ∧ (∃ h20 : Heap, WrsAt h19 (⟨b18, 0, none⟩ : Addr) 2 ∧ h20 = setsH h19 (⟨b18, 0, none⟩ : Addr) 0 (S_api_Label.cs v17) ∧ (∃ v21 : ByteArray, cellH h20 (⟨b18, 0, none⟩ : Addr) = some (.string v21) ∧ (∃ v22 : ByteArray, cellH h20 t6_3 = some (.string v22) ∧ (if (!(v21.toList == v22.toList)) then (ref15_Chooses_j4 t2_3 t3_3 t5_3 t6_3 t9_3 t7_3 t8_3 k nx2 nx3 h20) else (if t7_3 then (ref15_Chooses_g5 t2_3 t3_3 t5_3 t6_3 t8_3 t9_3 (⟨b18, 0, none⟩ : Addr) true k nx2 nx3 h20) else (∃ v29 : ByteArray, cellH h20 ((⟨b18, 0, none⟩ : Addr).add 1) = some (.string v29) ∧ (∃ v30 : ByteArray, cellH h20 (t6_3.add 2) = some (.string v30) ∧ (ref15_Chooses_g5 t2_3 t3_3 t5_3 t6_3 t8_3 t9_3 (⟨b18, 0, none⟩ : Addr) (v29.toList == v30.toList) k nx2 nx3 h20)))))))))))) else (∃ v31 : Int, cellH h_3 (t6_3.add 1) = some (.int .i64 v31) ∧ (if ((v31 == 0) && (!t7_3)) then (ref15_Chooses_g8 t2_3 t3_3 t5_3 t6_3 t8_3 true k nx2 nx3 h_3) else (∃ v36 : Int, cellH h_3 (t6_3.add 1) = some (.int .i64 v36) ∧ (ref15_Chooses_g8 t2_3 t3_3 t5_3 t6_3 t8_3 ((v36 == 1) && t7_3) k nx2 nx3 h_3)))))
def ref15_Chooses_l3 (t2_3 : Addr) (t3_3 : Addr) (t5_3 : Int) (t6_3 : Addr) (i7 : Bool) (i8 : Bool) (i9 : Int) (k : (Bool) → Heap → Prop) (nx2 : (Int) → Heap → Prop) (h : Heap) : Prop :=
  ∃ (I : (Bool × Bool × Int) → Heap → Prop) (μ : (Bool × Bool × Int) → Heap → Nat), I (i7, i8, i9) h ∧ ∀ (t7_3 : Bool) (t8_3 : Bool) (t9_3 : Int) (h : Heap), I (t7_3, t8_3, t9_3) h → ref15_Chooses_l3b t2_3 t3_3 t5_3 t6_3 t7_3 t8_3 t9_3 k nx2 (fun s h' => I s h' ∧ μ s h' < μ (t7_3, t8_3, t9_3) h) h
def ref15_Chooses_l2b (t2_2 : Addr) (t3_2 : Addr) (t5_2 : Int) (k : (Bool) → Heap → Prop) (nx2 : (Int) → Heap → Prop) (h_2 : Heap) : Prop :=
  ∃ v6 : Slc, cellH h_2 (t2_2.add 1) = some (Slc.v v6) ∧ (if (decide (t5_2 < (v6.len : Int))) then (∃ v7 : Slc, cellH h_2 (t2_2.add 1) = some (Slc.v v7) ∧ (∃ a8 : Addr, v7.a = some a8 ∧ (0 : Int) ≤ t5_2 ∧ t5_2 < (v7.len : Int) ∧ (∃ v9 : S_api_Question, CellsAt h_2 (a8.add (t5_2.toNat * 3)) (S_api_Question.cs v9) ∧ (∃ (b10 : Nat) (h11 : Heap), b10 = h_2.size ∧ h11 = h_2.push (.cells (S_api_Question.cs (⟨ByteArray.empty, 0, ByteArray.empty⟩ : S_api_Question)).toArray 165) ∧ (∃ h12 : Heap, WrsAt h11 (⟨b10, 0, none⟩ : Addr) 3 ∧ h12 = setsH h11 (⟨b10, 0, none⟩ : Addr) 0 (S_api_Question.cs v9) ∧ (ref15_Chooses_l3 t2_2 t3_2 t5_2 (⟨b10, 0, none⟩ : Addr) false false 0 k nx2 h12)))))) else (k true h_2))
def ref15_Chooses_l2 (t2_2 : Addr) (t3_2 : Addr) (i5 : Int) (k : (Bool) → Heap → Prop) (h : Heap) : Prop :=
  ∃ (I : Int → Heap → Prop) (μ : Int → Heap → Nat), I i5 h ∧ ∀ (t5_2 : Int) (h : Heap), I t5_2 h → ref15_Chooses_l2b t2_2 t3_2 t5_2 k (fun s h' => I s h' ∧ μ s h' < μ t5_2 h) h
def ref15_Chooses_g1 (t2_1 : Addr) (t3_1 : Addr) (t20_1 : Bool) (k : (Bool) → Heap → Prop) (h_1 : Heap) : Prop :=
  if t20_1 then (k false h_1) else (ref15_Chooses_l2 t2_1 t3_1 0 k h_1)
def ref15_Chooses (p0 : S_api_Selector) (p1 : S_api_Series) (k : (Bool) → Heap → Prop) (h : Heap) : Prop :=
  ∃ (b1 : Nat) (h2 : Heap), b1 = h.size ∧ h2 = h.push (.cells (S_api_Selector.cs p0).toArray 63) ∧ (∃ (b3 : Nat) (h4 : Heap), b3 = h2.size ∧ h4 = h2.push (.cells (S_api_Series.cs p1).toArray 66) ∧ (∃ v5 : ByteArray, cellH h4 (⟨b1, 0, none⟩ : Addr) = some (.string v5) ∧ (if (!(v5.toList == (⟨#[]⟩ : ByteArray).toList)) then (∃ v37 : ByteArray, cellH h4 (⟨b1, 0, none⟩ : Addr) = some (.string v37) ∧ (∃ v38 : ByteArray, cellH h4 (⟨b3, 0, none⟩ : Addr) = some (.string v38) ∧ (ref15_Chooses_g1 (⟨b1, 0, none⟩ : Addr) (⟨b3, 0, none⟩ : Addr) (!(v37.toList == v38.toList)) k h4))) else (ref15_Chooses_g1 (⟨b1, 0, none⟩ : Addr) (⟨b3, 0, none⟩ : Addr) false k h4))))

/-- quaestor quaestorref15.Great -/
def ref15_Great_l5b (t3_5 : Addr) (t6_5 : Int) (k : (Bool) → Heap → Prop) (nx4 : (Int) → Heap → Prop) (nx5 : (Int) → Heap → Prop) (h_5 : Heap) : Prop :=
  ∃ v14 : Slc, cellH h_5 (t3_5.add 1) = some (Slc.v v14) ∧ (if (decide (t6_5 < (v14.len : Int))) then (∃ v15 : Slc, cellH h_5 (t3_5.add 1) = some (Slc.v v15) ∧ (∃ a16 : Addr, v15.a = some a16 ∧ (0 : Int) ≤ t6_5 ∧ t6_5 < (v15.len : Int) ∧ (∃ v17 : ByteArray, cellH h_5 (a16.add (t6_5.toNat * 3)) = some (.string v17) ∧ (∃ v18 : Slc, cellH h_5 (t3_5.add 1) = some (Slc.v v18) ∧ (∃ a19 : Addr, v18.a = some a19 ∧ (0 : Int) ≤ t6_5 ∧ t6_5 < (v18.len : Int) ∧ (∃ v20 : ByteArray, cellH h_5 ((a19.add (t6_5.toNat * 3)).add 2) = some (.string v20) ∧ (if (decide ((IntKind.i64.wrap ((v17.size : Int) + (v20.size : Int))) > 200)) then (k true h_5) else (∃ x21 : Int, x21 = (IntKind.i64.wrap (t6_5 + 1)) ∧ (nx5 x21 h_5))))))))) else (k false h_5))
def ref15_Great_l5 (t3_5 : Addr) (i6 : Int) (k : (Bool) → Heap → Prop) (nx4 : (Int) → Heap → Prop) (h : Heap) : Prop :=
  ∃ (I : Int → Heap → Prop) (μ : Int → Heap → Nat), I i6 h ∧ ∀ (t6_5 : Int) (h : Heap), I t6_5 h → ref15_Great_l5b t3_5 t6_5 k nx4 (fun s h' => I s h' ∧ μ s h' < μ t6_5 h) h
def ref15_Great_l4b (t2_4 : Addr) (t3_4 : Addr) (t5_4 : Int) (k : (Bool) → Heap → Prop) (nx4 : (Int) → Heap → Prop) (h_4 : Heap) : Prop :=
  ∃ v6 : Slc, cellH h_4 (t2_4.add 1) = some (Slc.v v6) ∧ (if (decide (t5_4 < (v6.len : Int))) then (∃ v7 : Slc, cellH h_4 (t2_4.add 1) = some (Slc.v v7) ∧ (∃ a8 : Addr, v7.a = some a8 ∧ (0 : Int) ≤ t5_4 ∧ t5_4 < (v7.len : Int) ∧ (∃ v9 : ByteArray, cellH h_4 (a8.add (t5_4.toNat * 2)) = some (.string v9) ∧ (∃ v10 : Slc, cellH h_4 (t2_4.add 1) = some (Slc.v v10) ∧ (∃ a11 : Addr, v10.a = some a11 ∧ (0 : Int) ≤ t5_4 ∧ t5_4 < (v10.len : Int) ∧ (∃ v12 : ByteArray, cellH h_4 ((a11.add (t5_4.toNat * 2)).add 1) = some (.string v12) ∧ (if (decide ((IntKind.i64.wrap ((v9.size : Int) + (v12.size : Int))) > 200)) then (k true h_4) else (∃ x13 : Int, x13 = (IntKind.i64.wrap (t5_4 + 1)) ∧ (nx4 x13 h_4))))))))) else (ref15_Great_l5 t3_4 0 k nx4 h_4))
def ref15_Great_l4 (t2_4 : Addr) (t3_4 : Addr) (i5 : Int) (k : (Bool) → Heap → Prop) (h : Heap) : Prop :=
  ∃ (I : Int → Heap → Prop) (μ : Int → Heap → Nat), I i5 h ∧ ∀ (t5_4 : Int) (h : Heap), I t5_4 h → ref15_Great_l4b t2_4 t3_4 t5_4 k (fun s h' => I s h' ∧ μ s h' < μ t5_4 h) h
def ref15_Great_g3 (t2_3 : Addr) (t3_3 : Addr) (t28_3 : Bool) (k : (Bool) → Heap → Prop) (h_3 : Heap) : Prop :=
  if t28_3 then (k true h_3) else (ref15_Great_l4 t2_3 t3_3 0 k h_3)
def ref15_Great_g2 (t2_2 : Addr) (t3_2 : Addr) (t22_2 : Bool) (k : (Bool) → Heap → Prop) (h_2 : Heap) : Prop :=
  if t22_2 then (ref15_Great_g3 t2_2 t3_2 true k h_2) else (∃ v22 : Slc, cellH h_2 (t3_2.add 1) = some (Slc.v v22) ∧ (ref15_Great_g3 t2_2 t3_2 (decide ((v22.len : Int) > 20)) k h_2))
def ref15_Great_g1 (t2_1 : Addr) (t3_1 : Addr) (t16_1 : Bool) (k : (Bool) → Heap → Prop) (h_1 : Heap) : Prop :=
  if t16_1 then (ref15_Great_g2 t2_1 t3_1 true k h_1) else (∃ v23 : Slc, cellH h_1 (t2_1.add 1) = some (Slc.v v23) ∧ (ref15_Great_g2 t2_1 t3_1 (decide ((v23.len : Int) > 20)) k h_1))
def ref15_Great (p0 : S_api_Series) (p1 : S_api_Selector) (k : (Bool) → Heap → Prop) (h : Heap) : Prop :=
  ∃ (b1 : Nat) (h2 : Heap), b1 = h.size ∧ h2 = h.push (.cells (S_api_Series.cs p0).toArray 66) ∧ (∃ (b3 : Nat) (h4 : Heap), b3 = h2.size ∧ h4 = h2.push (.cells (S_api_Selector.cs p1).toArray 63) ∧ (∃ v5 : ByteArray, cellH h4 (⟨b1, 0, none⟩ : Addr) = some (.string v5) ∧ (if (decide ((v5.size : Int) > 100)) then (ref15_Great_g1 (⟨b1, 0, none⟩ : Addr) (⟨b3, 0, none⟩ : Addr) true k h4) else (∃ v24 : ByteArray, cellH h4 (⟨b3, 0, none⟩ : Addr) = some (.string v24) ∧ (ref15_Great_g1 (⟨b1, 0, none⟩ : Addr) (⟨b3, 0, none⟩ : Addr) (decide ((v24.size : Int) > 100)) k h4)))))

/-- quaestor quaestorlaw15.awake -/
def law15_awake_g3 (t35_3 : Bool) (k : (Bool) → Heap → Prop) (h_3 : Heap) : Prop :=
  k t35_3 h_3
def law15_awake_g2 (t1_2 : Addr) (t3_2 : Addr) (t30_2 : Bool) (k : (Bool) → Heap → Prop) (h_2 : Heap) : Prop :=
  if t30_2 then (∃ v11 : S_api_Selector, CellsAt h_2 t3_2 (S_api_Selector.cs v11) ∧ (∃ v12 : S_api_Series, CellsAt h_2 t1_2 (S_api_Series.cs v12) ∧ (label_Chooses v11 v12 (fun (r13 : Bool) h14 => law15_awake_g3 r13 k h14) h_2))) else (law15_awake_g3 false k h_2)
def law15_awake_g1 (t1_1 : Addr) (t3_1 : Addr) (t24_1 : Bool) (k : (Bool) → Heap → Prop) (h_1 : Heap) : Prop :=
  if t24_1 then (∃ v15 : Slc, cellH h_1 (t3_1.add 1) = some (Slc.v v15) ∧ (law15_awake_g2 t1_1 t3_1 ((v15.len : Int) == 2) k h_1)) else (law15_awake_g2 t1_1 t3_1 false k h_1)
def law15_awake (k : (Bool) → Heap → Prop) (h : Heap) : Prop :=
  label_Parse (⟨#[99, 112, 117, 123, 104, 111, 115, 116, 61, 97, 44, 122, 111, 110, 101, 61, 49, 125]⟩ : ByteArray) (fun (r1 : S_api_Series × Int) h2 => ∃ (b3 : Nat) (h4 : Heap), b3 = h2.size ∧ h4 = h2.push (.cells (S_api_Series.cs (⟨ByteArray.empty, (⟨none, 0, 0⟩ : Slc)⟩ : S_api_Series)).toArray 66) ∧ (∃ h5 : Heap, WrsAt h4 (⟨b3, 0, none⟩ : Addr) 2 ∧ h5 = setsH h4 (⟨b3, 0, none⟩ : Addr) 0 (S_api_Series.cs r1.1) ∧ (label_Selector (⟨#[123, 122, 111, 110, 101, 33, 61, 50, 44, 104, 111, 115, 116, 94, 61, 97, 125]⟩ : ByteArray) (fun (r6 : S_api_Selector × Int) h7 => ∃ (b8 : Nat) (h9 : Heap), b8 = h7.size ∧ h9 = h7.push (.cells (S_api_Selector.cs (⟨ByteArray.empty, (⟨none, 0, 0⟩ : Slc)⟩ : S_api_Selector)).toArray 63) ∧ (∃ h10 : Heap, WrsAt h9 (⟨b8, 0, none⟩ : Addr) 2 ∧ h10 = setsH h9 (⟨b8, 0, none⟩ : Addr) 0 (S_api_Selector.cs r6.1) ∧ (if ((r1.2 == 0) && (r6.2 == 0)) then (∃ v16 : Slc, cellH h10 ((⟨b3, 0, none⟩ : Addr).add 1) = some (Slc.v v16) ∧ (law15_awake_g1 (⟨b3, 0, none⟩ : Addr) (⟨b8, 0, none⟩ : Addr) ((v16.len : Int) == 2) k h10)) else (law15_awake_g1 (⟨b3, 0, none⟩ : Addr) (⟨b8, 0, none⟩ : Addr) false k h10)))) h5))) h

/-- quaestor quaestorlaw15.LabelChooses -/
def law15_LabelChooses_j1 (t4_1 : Bool) (k : (Bool) → Heap → Prop) (h_1 : Heap) : Prop :=
  k t4_1 h_1
def law15_LabelChooses (p0 : S_api_Selector) (p1 : S_api_Series) (k : (Bool) → Heap → Prop) (h : Heap) : Prop :=
  ∃ (b1 : Nat) (h2 : Heap), b1 = h.size ∧ h2 = h.push (.cells (S_api_Selector.cs p0).toArray 63) ∧ (∃ (b3 : Nat) (h4 : Heap), b3 = h2.size ∧ h4 = h2.push (.cells (S_api_Series.cs p1).toArray 66) ∧ (∃ v5 : S_api_Series, CellsAt h4 (⟨b3, 0, none⟩ : Addr) (S_api_Series.cs v5) ∧ (∃ v6 : S_api_Selector, CellsAt h4 (⟨b1, 0, none⟩ : Addr) (S_api_Selector.cs v6) ∧ (ref15_Great v5 v6 (fun (r7 : Bool) h8 => if r7 then (law15_awake  (fun (r9 : Bool) h10 => k r9 h10) h8) else (∃ v11 : S_api_Selector, CellsAt h8 (⟨b1, 0, none⟩ : Addr) (S_api_Selector.cs v11) ∧ (∃ v12 : S_api_Series, CellsAt h8 (⟨b3, 0, none⟩ : Addr) (S_api_Series.cs v12) ∧ (∃ v13 : S_api_Selector, CellsAt h8 (⟨b1, 0, none⟩ : Addr) (S_api_Selector.cs v13) ∧ (∃ v14 : S_api_Series, CellsAt h8 (⟨b3, 0, none⟩ : Addr) (S_api_Series.cs v14) ∧ (label_Chooses v11 v12 (fun (r15 : Bool) h16 => CellsAt h16 (⟨b3, 0, none⟩ : Addr) (S_api_Series.cs v14) ∧ CellsAt h16 (⟨b1, 0, none⟩ : Addr) (S_api_Selector.cs v13) ∧ (ref15_Chooses v13 v14 (fun (r19 : Bool) h20 => if ((r15 == r19)) then (∃ v21 : S_api_Series, CellsAt h20 (⟨b3, 0, none⟩ : Addr) (S_api_Series.cs v21) ∧ (label_Chooses (⟨ByteArray.empty, (⟨none, 0, 0⟩ : Slc)⟩ : S_api_Selector) v21 (fun (r22 : Bool) h23 => if r22 then (law15_awake  (fun (r24 : Bool) h25 => law15_LabelChooses_j1 r24 k h25) h23) else (law15_LabelChooses_j1 false k h23)) h20)) else (if false then (law15_awake  (fun (r26 : Bool) h27 => law15_LabelChooses_j1 r26 k h27) h20) else (law15_LabelChooses_j1 false k h20))) h16)) h8)))))) h4))))

theorem slices_Index_api_Label_api_Label_ok : CallOk Go.Proofs.Try.prog 199 := ⟨_, Go.Proofs.Try.func199, by kernel_rfl, by kernel_rfl⟩
theorem slices_Index_api_Label_api_Label_ref (p0 : Slc) (p1 : S_api_Label) (k : (Int) → Heap → Prop) (h : Heap) (H : slices_Index_api_Label_api_Label p0 p1 k h) : CallsH Go.Proofs.Try.prog 199 #[Slc.v p0, .agg (S_api_Label.cs p1).toArray] h (fun v h' => ∃ r : Int, v = .int .i64 r ∧ k r h') := by
  refine f_enter (N := 19) Go.Proofs.Try.func199 rfl rfl rfl (fun w0 => ?_)
  unfold slices_Index_api_Label_api_Label at H
  refine c_weak [(0, Slc.v p0), (1, .agg (S_api_Label.cs p1).toArray)] ⟨rfl, rfl, trivial⟩ ?_
  refine c_seq ?_
  refine c_region ?_
  obtain ⟨b1, h2, eb1, eh2, H⟩ := H
  refine w_h (h_box rfl rfl eb1 eh2) rfl rfl ?_
  refine w_p tok rfl rfl rfl ?_
  refine w_end ?_
  refine x_seq ?_
  refine c_seq ?_
  refine c_seq ?_
  refine c_region ?_
  refine w_p tok rfl rfl rfl ?_
  refine w_p tok rfl rfl rfl ?_
  refine w_p tok rfl rfl rfl ?_
  refine w_end ?_
  refine x_seq ?_
  refine c_block ?_
  obtain ⟨I1, μ1, H0, HI⟩ := H
  refine c_loop (σ := Int) (fun (s : Int) => [(8, .int .i64 s), (0, Slc.v p0), (3, .pointer (some (⟨b1, 0, none⟩ : Addr))), (7, .int .i64 (p0.len : Int))]) I1 μ1 0 H0 ⟨rfl, rfl, rfl, rfl, trivial⟩ ?_
  rintro t8_1 h_1 H
  replace H := HI t8_1 h_1 H
  unfold slices_Index_api_Label_api_Label_l1b at H
  refine c_weak [(8, .int .i64 t8_1), (0, Slc.v p0), (3, .pointer (some (⟨b1, 0, none⟩ : Addr))), (7, .int .i64 (p0.len : Int))] ⟨rfl, rfl, rfl, rfl, trivial⟩ ?_
  refine c_seq ?_
  refine c_region ?_
  refine w_p tok rfl rfl rfl ?_
  refine w_end ?_
  refine x_seq ?_
  refine c_seq ?_
  refine c_if H rfl (fun H => ?_) (fun H => ?_)
  ·
    refine c_skip ?_
    refine x_seq ?_
    refine c_seq ?_
    refine c_block ?_
    refine c_seq ?_
    refine c_region ?_
    refine w_p tok rfl rfl rfl ?_
    refine w_p tok rfl rfl rfl ?_
    refine w_end ?_
    refine x_seq ?_
    refine c_seq ?_
    refine c_draw (by kernel_rfl) (by kernel_rfl) ?_
    obtain ⟨v3, hv3, H⟩ := H
    refine q_y (y_lda tok rfl rfl rfl rfl rfl hv3) rfl rfl ?_
    refine q_p tok rfl rfl rfl ?_
    refine q_p tok rfl rfl rfl ?_
    obtain ⟨a4, ha4, la4, ua4, H⟩ := H
    refine q_y (y_ixa' tok rfl rfl ha4 rfl rfl rfl la4 ua4) rfl rfl ?_
    obtain ⟨v5, hv5, H⟩ := H
    refine q_y (y_lda tok rfl rfl rfl rfl rfl hv5) rfl rfl ?_
    refine q_y (y_eqs (op := .eql) (xs := S_api_Label.cs v3) (ys := S_api_Label.cs v5) (.inl rfl) rfl rfl rfl (eqv163_S_api_Label v3 v5) (by kernel_rfl)) rfl rfl ?_
    refine q_end ?_
    refine x_seq ?_
    refine c_weak [(8, .int .i64 t8_1), (0, Slc.v p0), (3, .pointer (some (⟨b1, 0, none⟩ : Addr))), (7, .int .i64 (p0.len : Int)), (5, .int .i64 t8_1), (16, .bool (if BinOp.eql = .eql then ((v3.f_Name.toList == v5.f_Name.toList) && (v3.f_Value.toList == v5.f_Value.toList)) else !((v3.f_Name.toList == v5.f_Name.toList) && (v3.f_Value.toList == v5.f_Value.toList))))] ⟨rfl, rfl, rfl, rfl, rfl, rfl, trivial⟩ ?_
    refine c_if H rfl (fun H => ?_) (fun H => ?_)
    ·
      refine c_seq ?_
      refine c_region ?_
      refine w_p tok rfl rfl rfl ?_
      refine w_p tok rfl rfl rfl ?_
      refine w_end ?_
      refine x_seq ?_
      refine c_weak [(4, .int .i64 t8_1)] ⟨rfl, trivial⟩ ?_
      refine c_ret ?_
      refine x_br ?_
      refine x_tr ?_
      refine x_tr ?_
      refine x_br ?_
      refine x_tr ?_
      exact x_ret _ rfl _ rfl ⟨t8_1, rfl, H⟩
    ·
      refine c_skip ?_
      refine x_blk ?_
      refine x_seq ?_
      refine c_region ?_
      refine w_p tok rfl rfl rfl ?_
      refine w_p tok rfl rfl rfl ?_
      refine w_end ?_
      exact x_join (IntKind.i64.wrap (t8_1 + 1)) H ⟨rfl, rfl, rfl, rfl, trivial⟩
  ·
    refine c_exit ?_
    refine x_te ?_
    refine x_te ?_
    refine x_bh ?_
    refine x_seq ?_
    refine c_seq ?_
    refine c_region ?_
    obtain ⟨x6, ex6, H⟩ := H
    refine w_pe tok rfl (congrArg (fun z => (.int .i64 z : Value)) ex6) rfl rfl ?_
    refine w_end ?_
    refine x_seq ?_
    refine c_ret ?_
    exact x_ret _ rfl _ rfl ⟨x6, rfl, H⟩

theorem slices_Contains_api_Label_api_Label_ok : CallOk Go.Proofs.Try.prog 168 := ⟨_, Go.Proofs.Try.func168, by kernel_rfl, by kernel_rfl⟩
theorem slices_Contains_api_Label_api_Label_ref (p0 : Slc) (p1 : S_api_Label) (k : (Bool) → Heap → Prop) (h : Heap) (H : slices_Contains_api_Label_api_Label p0 p1 k h) : CallsH Go.Proofs.Try.prog 168 #[Slc.v p0, .agg (S_api_Label.cs p1).toArray] h (fun v h' => ∃ r : Bool, v = .bool r ∧ k r h') := by
  refine f_enter (N := 9) Go.Proofs.Try.func168 rfl rfl rfl (fun w0 => ?_)
  unfold slices_Contains_api_Label_api_Label at H
  refine c_weak [(0, Slc.v p0), (1, .agg (S_api_Label.cs p1).toArray)] ⟨rfl, rfl, trivial⟩ ?_
  refine c_seq ?_
  refine c_region ?_
  obtain ⟨b1, h2, eb1, eh2, H⟩ := H
  refine w_h (h_box rfl rfl eb1 eh2) rfl rfl ?_
  refine w_p tok rfl rfl rfl ?_
  refine w_end ?_
  refine x_seq ?_
  refine c_seq ?_
  refine c_region ?_
  refine w_p tok rfl rfl rfl ?_
  obtain ⟨v3, hv3, H⟩ := H
  refine w_y (y_lda tok rfl rfl rfl rfl rfl hv3) rfl rfl ?_
  refine w_call slices_Index_api_Label_api_Label_ok (slices_Index_api_Label_api_Label_ref _ _ _ _ H) rfl rfl rfl rfl ?_
  rintro _ h5 ⟨r4, rfl, H⟩
  refine w_p tok rfl rfl rfl ?_
  refine w_p tok rfl rfl rfl ?_
  refine w_end ?_
  refine x_seq ?_
  refine c_weak [(4, .bool (decide (r4 ≥ 0)))] ⟨rfl, trivial⟩ ?_
  refine c_ret ?_
  exact x_ret _ rfl _ rfl ⟨(decide (r4 ≥ 0)), rfl, H⟩

theorem label_answers_1_ok : CallOk Go.Proofs.Try.prog 170 := ⟨_, Go.Proofs.Try.func170, by kernel_rfl, by kernel_rfl⟩
theorem label_answers_1_ref (p0 : S_api_Label) (p1 : Addr) (k : (Bool) → Heap → Prop) (h : Heap) (H : label_answers_1 p0 p1 k h) : CallsH Go.Proofs.Try.prog 170 #[.agg (S_api_Label.cs p0).toArray, .pointer (some p1)] h (fun v h' => ∃ r : Bool, v = .bool r ∧ k r h') := by
  refine f_enter (N := 16) Go.Proofs.Try.func170 rfl rfl rfl (fun w0 => ?_)
  unfold label_answers_1 at H
  refine c_weak [(0, .agg (S_api_Label.cs p0).toArray), (1, .pointer (some p1))] ⟨rfl, rfl, trivial⟩ ?_
  refine c_seq ?_
  refine c_region ?_
  obtain ⟨b1, h2, eb1, eh2, H⟩ := H
  refine w_h (h_box rfl rfl eb1 eh2) rfl rfl ?_
  refine w_p tok rfl rfl rfl ?_
  refine w_end ?_
  refine x_seq ?_
  refine c_seq ?_
  refine c_region ?_
  refine w_p tok rfl rfl rfl ?_
  obtain ⟨v3, hv3, H⟩ := H
  refine w_y (y_ld tok rfl rfl rfl rfl hv3) rfl rfl ?_
  refine w_p tok rfl rfl rfl ?_
  obtain ⟨v4, hv4, H⟩ := H
  refine w_y (y_ld tok rfl rfl rfl rfl hv4) rfl rfl ?_
  refine w_p tok rfl rfl rfl ?_
  refine w_p tok rfl rfl rfl ?_
  refine w_cut 6 (α := Bool) (fun (s : Bool) => [(15, .bool s)]) (fun (s : Bool) h => label_answers_1_g1 s k h) ?_ ?_
  ·
    rintro t15_1 h_1 H
    replace H : label_answers_1_g1 t15_1 k h_1 := H
    unfold label_answers_1_g1 at H
    refine w_weak [(15, .bool t15_1)] ⟨rfl, trivial⟩ ?_
    refine w_p tok rfl rfl rfl ?_
    refine w_end ?_
    refine x_seq ?_
    refine c_ret ?_
    exact x_ret _ rfl _ rfl ⟨t15_1, rfl, H⟩
  ·
    refine w_gif (d := 9) H rfl (fun H => ?_) (fun H => ?_)
    ·
      refine w_p tok rfl rfl rfl ?_
      obtain ⟨v5, hv5, H⟩ := H
      refine w_y (y_ld tok rfl rfl rfl rfl hv5) rfl rfl ?_
      refine w_p tok rfl rfl rfl ?_
      obtain ⟨v6, hv6, H⟩ := H
      refine w_y (y_ld tok rfl rfl rfl rfl hv6) rfl rfl ?_
      refine w_call strings_HasPrefix_ok (strings_HasPrefix_ref _ _ _ _ H) rfl rfl rfl rfl ?_
      rintro _ h8 ⟨r7, rfl, H⟩
      refine w_p tok rfl rfl rfl ?_
      exact w_jn r7 H ⟨rfl, trivial⟩
    ·
      refine w_skip rfl rfl ?_
      refine w_skip rfl rfl ?_
      refine w_skip rfl rfl ?_
      refine w_skip rfl rfl ?_
      refine w_skip rfl rfl ?_
      refine w_p tok rfl rfl rfl ?_
      exact w_jn false H ⟨rfl, trivial⟩

theorem slices_IndexFunc_api_Label_api_Label__label_answers_1_ok : CallOk Go.Proofs.Try.prog 200 := ⟨_, Go.Proofs.Try.func200, by kernel_rfl, by kernel_rfl⟩
theorem slices_IndexFunc_api_Label_api_Label__label_answers_1_ref (p0 : Slc) (p1c0 : Addr) (k : (Int) → Heap → Prop) (h : Heap) (H : slices_IndexFunc_api_Label_api_Label__label_answers_1 p0 p1c0 k h) : CallsH Go.Proofs.Try.prog 200 #[Slc.v p0, (Value.func (.func 170) #[] #[.pointer (some p1c0)])] h (fun v h' => ∃ r : Int, v = .int .i64 r ∧ k r h') := by
  refine f_enter (N := 19) Go.Proofs.Try.func200 rfl rfl rfl (fun w0 => ?_)
  unfold slices_IndexFunc_api_Label_api_Label__label_answers_1 at H
  refine c_weak [(0, Slc.v p0), (1, (Value.func (.func 170) #[] #[.pointer (some p1c0)]))] ⟨rfl, rfl, trivial⟩ ?_
  refine c_seq ?_
  refine c_region ?_
  refine w_p tok rfl rfl rfl ?_
  refine w_end ?_
  refine x_seq ?_
  refine c_seq ?_
  refine c_seq ?_
  refine c_region ?_
  refine w_p tok rfl rfl rfl ?_
  refine w_p tok rfl rfl rfl ?_
  refine w_p tok rfl rfl rfl ?_
  refine w_end ?_
  refine x_seq ?_
  refine c_block ?_
  obtain ⟨I1, μ1, H0, HI⟩ := H
  refine c_loop (σ := Int) (fun (s : Int) => [(8, .int .i64 s), (0, Slc.v p0), (1, (Value.func (.func 170) #[] #[.pointer (some p1c0)])), (7, .int .i64 (p0.len : Int))]) I1 μ1 0 H0 ⟨rfl, rfl, rfl, rfl, trivial⟩ ?_
  rintro t8_1 h_1 H
  replace H := HI t8_1 h_1 H
  unfold slices_IndexFunc_api_Label_api_Label__label_answers_1_l1b at H
  refine c_weak [(8, .int .i64 t8_1), (0, Slc.v p0), (1, (Value.func (.func 170) #[] #[.pointer (some p1c0)])), (7, .int .i64 (p0.len : Int))] ⟨rfl, rfl, rfl, rfl, trivial⟩ ?_
  refine c_seq ?_
  refine c_region ?_
  refine w_p tok rfl rfl rfl ?_
  refine w_end ?_
  refine x_seq ?_
  refine c_seq ?_
  refine c_if H rfl (fun H => ?_) (fun H => ?_)
  ·
    refine c_skip ?_
    refine x_seq ?_
    refine c_seq ?_
    refine c_block ?_
    refine c_seq ?_
    refine c_region ?_
    refine w_p tok rfl rfl rfl ?_
    refine w_p tok rfl rfl rfl ?_
    refine w_end ?_
    refine x_seq ?_
    refine c_seq ?_
    refine c_region ?_
    refine w_p tok rfl rfl rfl ?_
    refine w_p tok rfl rfl rfl ?_
    refine w_p tok rfl rfl rfl ?_
    obtain ⟨a1, ha1, la1, ua1, H⟩ := H
    refine w_y (y_ixa' tok rfl rfl ha1 rfl rfl rfl la1 ua1) rfl rfl ?_
    obtain ⟨v2, hv2, H⟩ := H
    refine w_y (y_lda tok rfl rfl rfl rfl rfl hv2) rfl rfl ?_
    refine w_callv (vs := [.agg (S_api_Label.cs v2).toArray]) (cap := [.pointer (some p1c0)]) label_answers_1_ok (label_answers_1_ref _ _ _ _ H) rfl rfl rfl rfl rfl ?_
    rintro _ h4 ⟨r3, rfl, H⟩
    refine w_end ?_
    refine x_seq ?_
    refine c_weak [(8, .int .i64 t8_1), (0, Slc.v p0), (1, (Value.func (.func 170) #[] #[.pointer (some p1c0)])), (7, .int .i64 (p0.len : Int)), (5, .int .i64 t8_1), (16, .bool r3)] ⟨rfl, rfl, rfl, rfl, rfl, rfl, trivial⟩ ?_
    refine c_if H rfl (fun H => ?_) (fun H => ?_)
    ·
      refine c_seq ?_
      refine c_region ?_
      refine w_p tok rfl rfl rfl ?_
      refine w_p tok rfl rfl rfl ?_
      refine w_end ?_
      refine x_seq ?_
      refine c_weak [(4, .int .i64 t8_1)] ⟨rfl, trivial⟩ ?_
      refine c_ret ?_
      refine x_br ?_
      refine x_tr ?_
      refine x_tr ?_
      refine x_br ?_
      refine x_tr ?_
      exact x_ret _ rfl _ rfl ⟨t8_1, rfl, H⟩
    ·
      refine c_skip ?_
      refine x_blk ?_
      refine x_seq ?_
      refine c_region ?_
      refine w_p tok rfl rfl rfl ?_
      refine w_p tok rfl rfl rfl ?_
      refine w_end ?_
      exact x_join (IntKind.i64.wrap (t8_1 + 1)) H ⟨rfl, rfl, rfl, rfl, trivial⟩
  ·
    refine c_exit ?_
    refine x_te ?_
    refine x_te ?_
    refine x_bh ?_
    refine x_seq ?_
    refine c_seq ?_
    refine c_region ?_
    obtain ⟨x5, ex5, H⟩ := H
    refine w_pe tok rfl (congrArg (fun z => (.int .i64 z : Value)) ex5) rfl rfl ?_
    refine w_end ?_
    refine x_seq ?_
    refine c_ret ?_
    exact x_ret _ rfl _ rfl ⟨x5, rfl, H⟩

theorem slices_ContainsFunc_api_Label_api_Label__label_answers_1_ok : CallOk Go.Proofs.Try.prog 169 := ⟨_, Go.Proofs.Try.func169, by kernel_rfl, by kernel_rfl⟩
theorem slices_ContainsFunc_api_Label_api_Label__label_answers_1_ref (p0 : Slc) (p1c0 : Addr) (k : (Bool) → Heap → Prop) (h : Heap) (H : slices_ContainsFunc_api_Label_api_Label__label_answers_1 p0 p1c0 k h) : CallsH Go.Proofs.Try.prog 169 #[Slc.v p0, (Value.func (.func 170) #[] #[.pointer (some p1c0)])] h (fun v h' => ∃ r : Bool, v = .bool r ∧ k r h') := by
  refine f_enter (N := 9) Go.Proofs.Try.func169 rfl rfl rfl (fun w0 => ?_)
  unfold slices_ContainsFunc_api_Label_api_Label__label_answers_1 at H
  refine c_weak [(0, Slc.v p0), (1, (Value.func (.func 170) #[] #[.pointer (some p1c0)]))] ⟨rfl, rfl, trivial⟩ ?_
  refine c_seq ?_
  refine c_region ?_
  refine w_p tok rfl rfl rfl ?_
  refine w_end ?_
  refine x_seq ?_
  refine c_seq ?_
  refine c_region ?_
  refine w_p tok rfl rfl rfl ?_
  refine w_p tok rfl rfl rfl ?_
  refine w_call slices_IndexFunc_api_Label_api_Label__label_answers_1_ok (slices_IndexFunc_api_Label_api_Label__label_answers_1_ref _ _ _ _ H) rfl rfl rfl rfl ?_
  rintro _ h2 ⟨r1, rfl, H⟩
  refine w_p tok rfl rfl rfl ?_
  refine w_p tok rfl rfl rfl ?_
  refine w_end ?_
  refine x_seq ?_
  refine c_ret ?_
  exact x_ret _ rfl _ rfl ⟨(decide (r1 ≥ 0)), rfl, H⟩

theorem label_answers_ok : CallOk Go.Proofs.Try.prog 104 := ⟨_, Go.Proofs.Try.func104, by kernel_rfl, by kernel_rfl⟩
theorem label_answers_ref (p0 : S_api_Question) (p1 : S_api_Series) (k : (Bool) → Heap → Prop) (h : Heap) (H : label_answers p0 p1 k h) : CallsH Go.Proofs.Try.prog 104 #[.agg (S_api_Question.cs p0).toArray, .agg (S_api_Series.cs p1).toArray] h (fun v h' => ∃ r : Bool, v = .bool r ∧ k r h') := by
  refine f_enter (N := 34) Go.Proofs.Try.func104 rfl rfl rfl (fun w0 => ?_)
  unfold label_answers at H
  refine c_weak [(0, .agg (S_api_Question.cs p0).toArray), (1, .agg (S_api_Series.cs p1).toArray)] ⟨rfl, rfl, trivial⟩ ?_
  refine c_seq ?_
  refine c_region ?_
  obtain ⟨b1, h2, eb1, eh2, H⟩ := H
  refine w_h (h_box rfl rfl eb1 eh2) rfl rfl ?_
  obtain ⟨b3, h4, eb3, eh4, H⟩ := H
  refine w_h (h_box rfl rfl eb3 eh4) rfl rfl ?_
  refine w_p tok rfl rfl rfl ?_
  refine w_end ?_
  refine x_seq ?_
  refine c_seq ?_
  refine c_seq ?_
  refine c_region ?_
  refine w_p tok rfl rfl rfl ?_
  obtain ⟨v5, hv5, H⟩ := H
  refine w_y (y_ld tok rfl rfl rfl rfl hv5) rfl rfl ?_
  refine w_end ?_
  refine x_seq ?_
  refine c_block ?_
  refine c_seq ?_
  refine c_region ?_
  refine w_p tok rfl rfl rfl ?_
  refine w_p tok rfl rfl rfl ?_
  refine w_end ?_
  refine x_seq ?_
  refine c_if H rfl (fun H => ?_) (fun H => ?_)
  ·
    refine c_seq ?_
    refine c_region ?_
    refine w_p tok rfl rfl rfl ?_
    obtain ⟨v6, hv6, H⟩ := H
    refine w_y (y_ld tok rfl rfl rfl rfl hv6) rfl rfl ?_
    refine w_p tok rfl rfl rfl ?_
    obtain ⟨v7, hv7, H⟩ := H
    refine w_y (y_ld tok rfl rfl rfl rfl hv7) rfl rfl ?_
    refine w_p tok rfl rfl rfl ?_
    obtain ⟨v8, hv8, H⟩ := H
    refine w_y (y_ld tok rfl rfl rfl rfl hv8) rfl rfl ?_
    refine w_y (y_build tok rfl rfl rfl rfl rfl) rfl rfl ?_
    refine w_call slices_Contains_api_Label_api_Label_ok (slices_Contains_api_Label_api_Label_ref _ _ _ _ H) rfl rfl rfl rfl ?_
    rintro _ h10 ⟨r9, rfl, H⟩
    refine w_p tok rfl rfl rfl ?_
    refine w_end ?_
    refine x_seq ?_
    refine c_weak [(4, .bool r9)] ⟨rfl, trivial⟩ ?_
    refine c_ret ?_
    refine x_br ?_
    refine x_tr ?_
    exact x_ret _ rfl _ rfl ⟨r9, rfl, H⟩
  ·
    refine c_seq ?_
    refine c_region ?_
    refine w_p tok rfl rfl rfl ?_
    refine w_p tok rfl rfl rfl ?_
    refine w_end ?_
    refine x_seq ?_
    refine c_weak [(2, .pointer (some (⟨b1, 0, none⟩ : Addr))), (3, .pointer (some (⟨b3, 0, none⟩ : Addr))), (6, .int .i64 v5), (17, .bool (v5 == 1))] ⟨rfl, rfl, rfl, rfl, trivial⟩ ?_
    refine c_if H rfl (fun H => ?_) (fun H => ?_)
    ·
      refine c_seq ?_
      refine c_region ?_
      refine w_p tok rfl rfl rfl ?_
      obtain ⟨v11, hv11, H⟩ := H
      refine w_y (y_ld tok rfl rfl rfl rfl hv11) rfl rfl ?_
      refine w_p tok rfl rfl rfl ?_
      obtain ⟨v12, hv12, H⟩ := H
      refine w_y (y_ld tok rfl rfl rfl rfl hv12) rfl rfl ?_
      refine w_p tok rfl rfl rfl ?_
      obtain ⟨v13, hv13, H⟩ := H
      refine w_y (y_ld tok rfl rfl rfl rfl hv13) rfl rfl ?_
      refine w_y (y_build tok rfl rfl rfl rfl rfl) rfl rfl ?_
      refine w_call slices_Contains_api_Label_api_Label_ok (slices_Contains_api_Label_api_Label_ref _ _ _ _ H) rfl rfl rfl rfl ?_
      rintro _ h15 ⟨r14, rfl, H⟩
      refine w_p tok rfl rfl rfl ?_
      refine w_p tok rfl rfl rfl ?_
      refine w_end ?_
      refine x_seq ?_
      refine c_weak [(4, .bool (!r14))] ⟨rfl, trivial⟩ ?_
      refine c_ret ?_
      refine x_br ?_
      refine x_tr ?_
      exact x_ret _ rfl _ rfl ⟨(!r14), rfl, H⟩
    ·
      refine c_seq ?_
      refine c_region ?_
      refine w_p tok rfl rfl rfl ?_
      refine w_p tok rfl rfl rfl ?_
      refine w_end ?_
      refine x_seq ?_
      refine c_if H rfl (fun H => ?_) (fun H => ?_)
      ·
        refine c_seq ?_
        refine c_region ?_
        refine w_p tok rfl rfl rfl ?_
        obtain ⟨v16, hv16, H⟩ := H
        refine w_y (y_ld tok rfl rfl rfl rfl hv16) rfl rfl ?_
        refine w_y (y_mkf rfl rfl) rfl rfl ?_
        refine w_call slices_ContainsFunc_api_Label_api_Label__label_answers_1_ok (slices_ContainsFunc_api_Label_api_Label__label_answers_1_ref _ _ _ _ H) rfl rfl rfl rfl ?_
        rintro _ h18 ⟨r17, rfl, H⟩
        refine w_p tok rfl rfl rfl ?_
        refine w_end ?_
        refine x_seq ?_
        refine c_weak [(4, .bool r17)] ⟨rfl, trivial⟩ ?_
        refine c_ret ?_
        refine x_br ?_
        refine x_tr ?_
        exact x_ret _ rfl _ rfl ⟨r17, rfl, H⟩
      ·
        refine c_skip ?_
        refine x_blk ?_
        refine x_seq ?_
        refine c_seq ?_
        refine c_region ?_
        refine w_p tok rfl rfl rfl ?_
        refine w_end ?_
        refine x_seq ?_
        refine c_ret ?_
        exact x_ret _ rfl _ rfl ⟨false, rfl, H⟩

theorem label_Chooses_1_ok : CallOk Go.Proofs.Try.prog 103 := ⟨_, Go.Proofs.Try.func103, by kernel_rfl, by kernel_rfl⟩
theorem label_Chooses_1_ref (p0 : S_api_Question) (p1 : Addr) (k : (Bool) → Heap → Prop) (h : Heap) (H : label_Chooses_1 p0 p1 k h) : CallsH Go.Proofs.Try.prog 103 #[.agg (S_api_Question.cs p0).toArray, .pointer (some p1)] h (fun v h' => ∃ r : Bool, v = .bool r ∧ k r h') := by
  refine f_enter (N := 8) Go.Proofs.Try.func103 rfl rfl rfl (fun w0 => ?_)
  unfold label_Chooses_1 at H
  refine c_weak [(0, .agg (S_api_Question.cs p0).toArray), (1, .pointer (some p1))] ⟨rfl, rfl, trivial⟩ ?_
  refine c_seq ?_
  refine c_region ?_
  obtain ⟨b1, h2, eb1, eh2, H⟩ := H
  refine w_h (h_box rfl rfl eb1 eh2) rfl rfl ?_
  refine w_p tok rfl rfl rfl ?_
  refine w_end ?_
  refine x_seq ?_
  refine c_seq ?_
  refine c_region ?_
  obtain ⟨v3, hv3, H⟩ := H
  refine w_y (y_lda tok rfl rfl rfl rfl rfl hv3) rfl rfl ?_
  obtain ⟨v4, hv4, H⟩ := H
  refine w_y (y_lda tok rfl rfl rfl rfl rfl hv4) rfl rfl ?_
  refine w_call label_answers_ok (label_answers_ref _ _ _ _ H) rfl rfl rfl rfl ?_
  rintro _ h6 ⟨r5, rfl, H⟩
  refine w_p tok rfl rfl rfl ?_
  refine w_p tok rfl rfl rfl ?_
  refine w_end ?_
  refine x_seq ?_
  refine c_weak [(3, .bool (!r5))] ⟨rfl, trivial⟩ ?_
  refine c_ret ?_
  exact x_ret _ rfl _ rfl ⟨(!r5), rfl, H⟩

theorem slices_IndexFunc_api_Question_api_Question__label_Chooses_1_ok : CallOk Go.Proofs.Try.prog 167 := ⟨_, Go.Proofs.Try.func167, by kernel_rfl, by kernel_rfl⟩
theorem slices_IndexFunc_api_Question_api_Question__label_Chooses_1_ref (p0 : Slc) (p1c0 : Addr) (k : (Int) → Heap → Prop) (h : Heap) (H : slices_IndexFunc_api_Question_api_Question__label_Chooses_1 p0 p1c0 k h) : CallsH Go.Proofs.Try.prog 167 #[Slc.v p0, (Value.func (.func 103) #[] #[.pointer (some p1c0)])] h (fun v h' => ∃ r : Int, v = .int .i64 r ∧ k r h') := by
  refine f_enter (N := 19) Go.Proofs.Try.func167 rfl rfl rfl (fun w0 => ?_)
  unfold slices_IndexFunc_api_Question_api_Question__label_Chooses_1 at H
  refine c_weak [(0, Slc.v p0), (1, (Value.func (.func 103) #[] #[.pointer (some p1c0)]))] ⟨rfl, rfl, trivial⟩ ?_
  refine c_seq ?_
  refine c_region ?_
  refine w_p tok rfl rfl rfl ?_
  refine w_end ?_
  refine x_seq ?_
  refine c_seq ?_
  refine c_seq ?_
  refine c_region ?_
  refine w_p tok rfl rfl rfl ?_
  refine w_p tok rfl rfl rfl ?_
  refine w_p tok rfl rfl rfl ?_
  refine w_end ?_
  refine x_seq ?_
  refine c_block ?_
  obtain ⟨I1, μ1, H0, HI⟩ := H
  refine c_loop (σ := Int) (fun (s : Int) => [(8, .int .i64 s), (0, Slc.v p0), (1, (Value.func (.func 103) #[] #[.pointer (some p1c0)])), (7, .int .i64 (p0.len : Int))]) I1 μ1 0 H0 ⟨rfl, rfl, rfl, rfl, trivial⟩ ?_
  rintro t8_1 h_1 H
  replace H := HI t8_1 h_1 H
  unfold slices_IndexFunc_api_Question_api_Question__label_Chooses_1_l1b at H
  refine c_weak [(8, .int .i64 t8_1), (0, Slc.v p0), (1, (Value.func (.func 103) #[] #[.pointer (some p1c0)])), (7, .int .i64 (p0.len : Int))] ⟨rfl, rfl, rfl, rfl, trivial⟩ ?_
  refine c_seq ?_
  refine c_region ?_
  refine w_p tok rfl rfl rfl ?_
  refine w_end ?_
  refine x_seq ?_
  refine c_seq ?_
  refine c_if H rfl (fun H => ?_) (fun H => ?_)
  ·
    refine c_skip ?_
    refine x_seq ?_
    refine c_seq ?_
    refine c_block ?_
    refine c_seq ?_
    refine c_region ?_
    refine w_p tok rfl rfl rfl ?_
    refine w_p tok rfl rfl rfl ?_
    refine w_end ?_
    refine x_seq ?_
    refine c_seq ?_
    refine c_region ?_
    refine w_p tok rfl rfl rfl ?_
    refine w_p tok rfl rfl rfl ?_
    refine w_p tok rfl rfl rfl ?_
    obtain ⟨a1, ha1, la1, ua1, H⟩ := H
    refine w_y (y_ixa' tok rfl rfl ha1 rfl rfl rfl la1 ua1) rfl rfl ?_
    obtain ⟨v2, hv2, H⟩ := H
    refine w_y (y_lda tok rfl rfl rfl rfl rfl hv2) rfl rfl ?_
    refine w_callv (vs := [.agg (S_api_Question.cs v2).toArray]) (cap := [.pointer (some p1c0)]) label_Chooses_1_ok (label_Chooses_1_ref _ _ _ _ H) rfl rfl rfl rfl rfl ?_
    rintro _ h4 ⟨r3, rfl, H⟩
    refine w_end ?_
    refine x_seq ?_
    refine c_weak [(8, .int .i64 t8_1), (0, Slc.v p0), (1, (Value.func (.func 103) #[] #[.pointer (some p1c0)])), (7, .int .i64 (p0.len : Int)), (5, .int .i64 t8_1), (16, .bool r3)] ⟨rfl, rfl, rfl, rfl, rfl, rfl, trivial⟩ ?_
    refine c_if H rfl (fun H => ?_) (fun H => ?_)
    ·
      refine c_seq ?_
      refine c_region ?_
      refine w_p tok rfl rfl rfl ?_
      refine w_p tok rfl rfl rfl ?_
      refine w_end ?_
      refine x_seq ?_
      refine c_weak [(4, .int .i64 t8_1)] ⟨rfl, trivial⟩ ?_
      refine c_ret ?_
      refine x_br ?_
      refine x_tr ?_
      refine x_tr ?_
      refine x_br ?_
      refine x_tr ?_
      exact x_ret _ rfl _ rfl ⟨t8_1, rfl, H⟩
    ·
      refine c_skip ?_
      refine x_blk ?_
      refine x_seq ?_
      refine c_region ?_
      refine w_p tok rfl rfl rfl ?_
      refine w_p tok rfl rfl rfl ?_
      refine w_end ?_
      exact x_join (IntKind.i64.wrap (t8_1 + 1)) H ⟨rfl, rfl, rfl, rfl, trivial⟩
  ·
    refine c_exit ?_
    refine x_te ?_
    refine x_te ?_
    refine x_bh ?_
    refine x_seq ?_
    refine c_seq ?_
    refine c_region ?_
    obtain ⟨x5, ex5, H⟩ := H
    refine w_pe tok rfl (congrArg (fun z => (.int .i64 z : Value)) ex5) rfl rfl ?_
    refine w_end ?_
    refine x_seq ?_
    refine c_ret ?_
    exact x_ret _ rfl _ rfl ⟨x5, rfl, H⟩

theorem slices_ContainsFunc_api_Question_api_Question__label_Chooses_1_ok : CallOk Go.Proofs.Try.prog 102 := ⟨_, Go.Proofs.Try.func102, by kernel_rfl, by kernel_rfl⟩
theorem slices_ContainsFunc_api_Question_api_Question__label_Chooses_1_ref (p0 : Slc) (p1c0 : Addr) (k : (Bool) → Heap → Prop) (h : Heap) (H : slices_ContainsFunc_api_Question_api_Question__label_Chooses_1 p0 p1c0 k h) : CallsH Go.Proofs.Try.prog 102 #[Slc.v p0, (Value.func (.func 103) #[] #[.pointer (some p1c0)])] h (fun v h' => ∃ r : Bool, v = .bool r ∧ k r h') := by
  refine f_enter (N := 9) Go.Proofs.Try.func102 rfl rfl rfl (fun w0 => ?_)
  unfold slices_ContainsFunc_api_Question_api_Question__label_Chooses_1 at H
  refine c_weak [(0, Slc.v p0), (1, (Value.func (.func 103) #[] #[.pointer (some p1c0)]))] ⟨rfl, rfl, trivial⟩ ?_
  refine c_seq ?_
  refine c_region ?_
  refine w_p tok rfl rfl rfl ?_
  refine w_end ?_
  refine x_seq ?_
  refine c_seq ?_
  refine c_region ?_
  refine w_p tok rfl rfl rfl ?_
  refine w_p tok rfl rfl rfl ?_
  refine w_call slices_IndexFunc_api_Question_api_Question__label_Chooses_1_ok (slices_IndexFunc_api_Question_api_Question__label_Chooses_1_ref _ _ _ _ H) rfl rfl rfl rfl ?_
  rintro _ h2 ⟨r1, rfl, H⟩
  refine w_p tok rfl rfl rfl ?_
  refine w_p tok rfl rfl rfl ?_
  refine w_end ?_
  refine x_seq ?_
  refine c_ret ?_
  exact x_ret _ rfl _ rfl ⟨(decide (r1 ≥ 0)), rfl, H⟩

theorem label_Chooses_ok : CallOk Go.Proofs.Try.prog 32 := ⟨_, Go.Proofs.Try.func32, by kernel_rfl, by kernel_rfl⟩
theorem label_Chooses_ref (p0 : S_api_Selector) (p1 : S_api_Series) (k : (Bool) → Heap → Prop) (h : Heap) (H : label_Chooses p0 p1 k h) : CallsH Go.Proofs.Try.prog 32 #[.agg (S_api_Selector.cs p0).toArray, .agg (S_api_Series.cs p1).toArray] h (fun v h' => ∃ r : Bool, v = .bool r ∧ k r h') := by
  refine f_enter (N := 20) Go.Proofs.Try.func32 rfl rfl rfl (fun w0 => ?_)
  unfold label_Chooses at H
  refine c_weak [(0, .agg (S_api_Selector.cs p0).toArray), (1, .agg (S_api_Series.cs p1).toArray)] ⟨rfl, rfl, trivial⟩ ?_
  refine c_seq ?_
  refine c_region ?_
  obtain ⟨b1, h2, eb1, eh2, H⟩ := H
  refine w_h (h_box rfl rfl eb1 eh2) rfl rfl ?_
  obtain ⟨b3, h4, eb3, eh4, H⟩ := H
  refine w_h (h_box rfl rfl eb3 eh4) rfl rfl ?_
  refine w_p tok rfl rfl rfl ?_
  refine w_end ?_
  refine x_seq ?_
  refine c_seq ?_
  refine c_seq ?_
  refine c_region ?_
  refine w_p tok rfl rfl rfl ?_
  obtain ⟨v5, hv5, H⟩ := H
  refine w_y (y_ld tok rfl rfl rfl rfl hv5) rfl rfl ?_
  refine w_p tok rfl rfl rfl ?_
  refine w_p tok rfl rfl rfl ?_
  refine w_cut 6 (α := Bool) (fun (s : Bool) => [(14, .bool s), (2, .pointer (some (⟨b1, 0, none⟩ : Addr))), (3, .pointer (some (⟨b3, 0, none⟩ : Addr)))]) (fun (s : Bool) h => label_Chooses_g1 (⟨b1, 0, none⟩ : Addr) (⟨b3, 0, none⟩ : Addr) s k h) ?_ ?_
  ·
    rintro t14_1 h_1 H
    replace H : label_Chooses_g1 (⟨b1, 0, none⟩ : Addr) (⟨b3, 0, none⟩ : Addr) t14_1 k h_1 := H
    unfold label_Chooses_g1 at H
    refine w_weak [(14, .bool t14_1), (2, .pointer (some (⟨b1, 0, none⟩ : Addr))), (3, .pointer (some (⟨b3, 0, none⟩ : Addr)))] ⟨rfl, rfl, rfl, trivial⟩ ?_
    refine w_end ?_
    refine x_seq ?_
    refine c_if H rfl (fun H => ?_) (fun H => ?_)
    ·
      refine c_seq ?_
      refine c_region ?_
      refine w_p tok rfl rfl rfl ?_
      refine w_end ?_
      refine x_seq ?_
      refine c_ret ?_
      refine x_tr ?_
      exact x_ret _ rfl _ rfl ⟨false, rfl, H⟩
    ·
      refine c_skip ?_
      refine x_seq ?_
      refine c_seq ?_
      refine c_region ?_
      refine w_p tok rfl rfl rfl ?_
      obtain ⟨v6, hv6, H⟩ := H
      refine w_y (y_ld tok rfl rfl rfl rfl hv6) rfl rfl ?_
      refine w_y (y_mkf rfl rfl) rfl rfl ?_
      refine w_call slices_ContainsFunc_api_Question_api_Question__label_Chooses_1_ok (slices_ContainsFunc_api_Question_api_Question__label_Chooses_1_ref _ _ _ _ H) rfl rfl rfl rfl ?_
      rintro _ h8 ⟨r7, rfl, H⟩
      refine w_p tok rfl rfl rfl ?_
      refine w_p tok rfl rfl rfl ?_
      refine w_end ?_
      refine x_seq ?_
      refine c_weak [(4, .bool (!r7))] ⟨rfl, trivial⟩ ?_
      refine c_ret ?_
      exact x_ret _ rfl _ rfl ⟨(!r7), rfl, H⟩
  ·
    refine w_gif (d := 8) H rfl (fun H => ?_) (fun H => ?_)
    ·
      refine w_p tok rfl rfl rfl ?_
      obtain ⟨v9, hv9, H⟩ := H
      refine w_y (y_ld tok rfl rfl rfl rfl hv9) rfl rfl ?_
      refine w_p tok rfl rfl rfl ?_
      obtain ⟨v10, hv10, H⟩ := H
      refine w_y (y_ld tok rfl rfl rfl rfl hv10) rfl rfl ?_
      refine w_p tok rfl rfl rfl ?_
      refine w_p tok rfl rfl rfl ?_
      exact w_jn (!(v9.toList == v10.toList)) H ⟨rfl, rfl, rfl, trivial⟩
    ·
      refine w_skip rfl rfl ?_
      refine w_skip rfl rfl ?_
      refine w_skip rfl rfl ?_
      refine w_skip rfl rfl ?_
      refine w_skip rfl rfl ?_
      refine w_p tok rfl rfl rfl ?_
      exact w_jn false H ⟨rfl, rfl, rfl, trivial⟩

theorem ref15_Chooses_ok : CallOk Go.Proofs.Try.prog 33 := ⟨_, Go.Proofs.Try.func33, by kernel_rfl, by kernel_rfl⟩
theorem ref15_Chooses_ref (p0 : S_api_Selector) (p1 : S_api_Series) (k : (Bool) → Heap → Prop) (h : Heap) (H : ref15_Chooses p0 p1 k h) : CallsH Go.Proofs.Try.prog 33 #[.agg (S_api_Selector.cs p0).toArray, .agg (S_api_Series.cs p1).toArray] h (fun v h' => ∃ r : Bool, v = .bool r ∧ k r h') := by
  refine f_enter (N := 113) Go.Proofs.Try.func33 rfl rfl rfl (fun w0 => ?_)
  unfold ref15_Chooses at H
  refine c_weak [(0, .agg (S_api_Selector.cs p0).toArray), (1, .agg (S_api_Series.cs p1).toArray)] ⟨rfl, rfl, trivial⟩ ?_
  refine c_seq ?_
  refine c_region ?_
  obtain ⟨b1, h2, eb1, eh2, H⟩ := H
  refine w_h (h_box rfl rfl eb1 eh2) rfl rfl ?_
  obtain ⟨b3, h4, eb3, eh4, H⟩ := H
  refine w_h (h_box rfl rfl eb3 eh4) rfl rfl ?_
  refine w_p tok rfl rfl rfl ?_
  refine w_end ?_
  refine x_seq ?_
  refine c_seq ?_
  refine c_seq ?_
  refine c_region ?_
  refine w_p tok rfl rfl rfl ?_
  obtain ⟨v5, hv5, H⟩ := H
  refine w_y (y_ld tok rfl rfl rfl rfl hv5) rfl rfl ?_
  refine w_p tok rfl rfl rfl ?_
  refine w_p tok rfl rfl rfl ?_
  refine w_cut 6 (α := Bool) (fun (s : Bool) => [(20, .bool s), (2, .pointer (some (⟨b1, 0, none⟩ : Addr))), (3, .pointer (some (⟨b3, 0, none⟩ : Addr)))]) (fun (s : Bool) h => ref15_Chooses_g1 (⟨b1, 0, none⟩ : Addr) (⟨b3, 0, none⟩ : Addr) s k h) ?_ ?_
  ·
    rintro t20_1 h_1 H
    replace H : ref15_Chooses_g1 (⟨b1, 0, none⟩ : Addr) (⟨b3, 0, none⟩ : Addr) t20_1 k h_1 := H
    unfold ref15_Chooses_g1 at H
    refine w_weak [(20, .bool t20_1), (2, .pointer (some (⟨b1, 0, none⟩ : Addr))), (3, .pointer (some (⟨b3, 0, none⟩ : Addr)))] ⟨rfl, rfl, rfl, trivial⟩ ?_
    refine w_end ?_
    refine x_seq ?_
    refine c_if H rfl (fun H => ?_) (fun H => ?_)
    ·
      refine c_seq ?_
      refine c_region ?_
      refine w_p tok rfl rfl rfl ?_
      refine w_end ?_
      refine x_seq ?_
      refine c_ret ?_
      refine x_tr ?_
      exact x_ret _ rfl _ rfl ⟨false, rfl, H⟩
    ·
      refine c_skip ?_
      refine x_seq ?_
      refine c_seq ?_
      refine c_seq ?_
      refine c_region ?_
      refine w_p tok rfl rfl rfl ?_
      refine w_end ?_
      refine x_seq ?_
      refine c_block ?_
      obtain ⟨I2, μ2, H0, HI⟩ := H
      refine c_loop (σ := Int) (fun (s : Int) => [(5, .int .i64 s), (2, .pointer (some (⟨b1, 0, none⟩ : Addr))), (3, .pointer (some (⟨b3, 0, none⟩ : Addr)))]) I2 μ2 0 H0 ⟨rfl, rfl, rfl, trivial⟩ ?_
      rintro t5_2 h_2 H
      replace H := HI t5_2 h_2 H
      unfold ref15_Chooses_l2b at H
      refine c_weak [(5, .int .i64 t5_2), (2, .pointer (some (⟨b1, 0, none⟩ : Addr))), (3, .pointer (some (⟨b3, 0, none⟩ : Addr)))] ⟨rfl, rfl, rfl, trivial⟩ ?_
      refine c_seq ?_
      refine c_seq ?_
      refine c_region ?_
      refine w_p tok rfl rfl rfl ?_
      refine w_p tok rfl rfl rfl ?_
      obtain ⟨v6, hv6, H⟩ := H
      refine w_y (y_ld tok rfl rfl rfl rfl hv6) rfl rfl ?_
      refine w_p tok rfl rfl rfl ?_
      refine w_p tok rfl rfl rfl ?_
      refine w_end ?_
      refine x_seq ?_
      refine c_if H rfl (fun H => ?_) (fun H => ?_)
      ·
        refine c_skip ?_
        refine x_seq ?_
        refine c_seq ?_
        refine c_block ?_
        refine c_seq ?_
        refine c_region ?_
        refine w_p tok rfl rfl rfl ?_
        obtain ⟨v7, hv7, H⟩ := H
        refine w_y (y_ld tok rfl rfl rfl rfl hv7) rfl rfl ?_
        refine w_p tok rfl rfl rfl ?_
        obtain ⟨a8, ha8, la8, ua8, H⟩ := H
        refine w_y (y_ixa' tok rfl rfl ha8 rfl rfl rfl la8 ua8) rfl rfl ?_
        obtain ⟨v9, hv9, H⟩ := H
        refine w_y (y_lda tok rfl rfl rfl rfl rfl hv9) rfl rfl ?_
        obtain ⟨b10, h11, eb10, eh11, H⟩ := H
        refine w_h (h_alloc tok rfl rfl eb10 eh11) rfl rfl ?_
        obtain ⟨h12, wh12, eh12, H⟩ := H
        refine w_h (h_sts tok rfl rfl rfl rfl rfl (oneC (by kernel_rfl)) wh12 eh12) rfl rfl ?_
        refine w_end ?_
        refine x_seq ?_
        refine c_weak [(5, .int .i64 t5_2), (2, .pointer (some (⟨b1, 0, none⟩ : Addr))), (3, .pointer (some (⟨b3, 0, none⟩ : Addr))), (6, .pointer (some (⟨b10, 0, none⟩ : Addr)))] ⟨rfl, rfl, rfl, rfl, trivial⟩ ?_
        refine c_seq ?_
        refine c_region ?_
        refine w_p tok rfl rfl rfl ?_
        refine w_p tok rfl rfl rfl ?_
        refine w_end ?_
        refine x_seq ?_
        refine c_seq ?_
        refine c_seq ?_
        refine c_region ?_
        refine w_p tok rfl rfl rfl ?_
        refine w_end ?_
        refine x_seq ?_
        refine c_block ?_
        obtain ⟨I3, μ3, H0, HI⟩ := H
        refine c_loop (σ := Bool × Bool × Int) (fun (s : Bool × Bool × Int) => [(7, .bool s.1), (8, .bool s.2.1), (9, .int .i64 s.2.2), (2, .pointer (some (⟨b1, 0, none⟩ : Addr))), (3, .pointer (some (⟨b3, 0, none⟩ : Addr))), (5, .int .i64 t5_2), (6, .pointer (some (⟨b10, 0, none⟩ : Addr)))]) I3 μ3 (false, false, 0) H0 ⟨rfl, rfl, rfl, rfl, rfl, rfl, rfl, trivial⟩ ?_
        rintro ⟨t7_3, t8_3, t9_3⟩ h_3 H
        replace H := HI t7_3 t8_3 t9_3 h_3 H
        unfold ref15_Chooses_l3b at H
        refine c_weak [(7, .bool t7_3), (8, .bool t8_3), (9, .int .i64 t9_3), (2, .pointer (some (⟨b1, 0, none⟩ : Addr))), (3, .pointer (some (⟨b3, 0, none⟩ : Addr))), (5, .int .i64 t5_2), (6, .pointer (some (⟨b10, 0, none⟩ : Addr)))] ⟨rfl, rfl, rfl, rfl, rfl, rfl, rfl, trivial⟩ ?_
        refine c_seq ?_
        refine c_seq ?_
        refine c_region ?_
        refine w_p tok rfl rfl rfl ?_
        refine w_p tok rfl rfl rfl ?_
        obtain ⟨v13, hv13, H⟩ := H
        refine w_y (y_ld tok rfl rfl rfl rfl hv13) rfl rfl ?_
        refine w_p tok rfl rfl rfl ?_
        refine w_p tok rfl rfl rfl ?_
        refine w_end ?_
        refine x_seq ?_
        refine c_if H rfl (fun H => ?_) (fun H => ?_)
        ·
          refine c_skip ?_
          refine x_seq ?_
          refine c_seqJ (α := Bool × Bool) (fun (s : Bool × Bool) => [(7, .bool s.1), (8, .bool s.2), (2, .pointer (some (⟨b1, 0, none⟩ : Addr))), (3, .pointer (some (⟨b3, 0, none⟩ : Addr))), (5, .int .i64 t5_2), (6, .pointer (some (⟨b10, 0, none⟩ : Addr))), (9, .int .i64 t9_3)]) (fun (s : Bool × Bool) h => ref15_Chooses_j4 (⟨b1, 0, none⟩ : Addr) (⟨b3, 0, none⟩ : Addr) t5_2 (⟨b10, 0, none⟩ : Addr) t9_3 s.1 s.2 k (fun s h' => I2 s h' ∧ μ2 s h' < μ2 t5_2 h_2) (fun s h' => I3 s h' ∧ μ3 s h' < μ3 (t7_3, t8_3, t9_3) h_3) h) ?_ ?_
          ·
            rintro ⟨t7_4, t8_4⟩ h_4 H
            replace H : ref15_Chooses_j4 (⟨b1, 0, none⟩ : Addr) (⟨b3, 0, none⟩ : Addr) t5_2 (⟨b10, 0, none⟩ : Addr) t9_3 t7_4 t8_4 k (fun s h' => I2 s h' ∧ μ2 s h' < μ2 t5_2 h_2) (fun s h' => I3 s h' ∧ μ3 s h' < μ3 (t7_3, t8_3, t9_3) h_3) h_4 := H
            unfold ref15_Chooses_j4 at H
            refine c_weak [(7, .bool t7_4), (8, .bool t8_4), (2, .pointer (some (⟨b1, 0, none⟩ : Addr))), (3, .pointer (some (⟨b3, 0, none⟩ : Addr))), (5, .int .i64 t5_2), (6, .pointer (some (⟨b10, 0, none⟩ : Addr))), (9, .int .i64 t9_3)] ⟨rfl, rfl, rfl, rfl, rfl, rfl, rfl, trivial⟩ ?_
            refine c_region ?_
            refine w_p tok rfl rfl rfl ?_
            refine w_p tok rfl rfl rfl ?_
            obtain ⟨x14, ex14, H⟩ := H
            refine w_pe tok rfl (congrArg (fun z => (.int .i64 z : Value)) ex14) rfl rfl ?_
            refine w_end ?_
            exact x_join (t7_4, t8_4, x14) H ⟨rfl, rfl, rfl, rfl, rfl, rfl, rfl, trivial⟩
          ·
            refine c_block ?_
            refine c_seq ?_
            refine c_region ?_
            refine w_p tok rfl rfl rfl ?_
            obtain ⟨v15, hv15, H⟩ := H
            refine w_y (y_ld tok rfl rfl rfl rfl hv15) rfl rfl ?_
            refine w_p tok rfl rfl rfl ?_
            obtain ⟨a16, ha16, la16, ua16, H⟩ := H
            refine w_y (y_ixa' tok rfl rfl ha16 rfl rfl rfl la16 ua16) rfl rfl ?_
            obtain ⟨v17, hv17, H⟩ := H
            refine w_y (y_lda tok rfl rfl rfl rfl rfl hv17) rfl rfl ?_
            obtain ⟨b18, h19, eb18, eh19, H⟩ := H
            refine w_h (h_alloc tok rfl rfl eb18 eh19) rfl rfl ?_
            obtain ⟨h20, wh20, eh20, H⟩ := H
            refine w_h (h_sts tok rfl rfl rfl rfl rfl (oneC (by kernel_rfl)) wh20 eh20) rfl rfl ?_
            refine w_end ?_
            refine x_seq ?_
            refine c_weak [(7, .bool t7_3), (8, .bool t8_3), (9, .int .i64 t9_3), (2, .pointer (some (⟨b1, 0, none⟩ : Addr))), (3, .pointer (some (⟨b3, 0, none⟩ : Addr))), (5, .int .i64 t5_2), (6, .pointer (some (⟨b10, 0, none⟩ : Addr))), (10, .pointer (some (⟨b18, 0, none⟩ : Addr)))] ⟨rfl, rfl, rfl, rfl, rfl, rfl, rfl, rfl, trivial⟩ ?_
            refine c_seq ?_
            refine c_seq ?_
            refine c_region ?_
            refine w_p tok rfl rfl rfl ?_
            obtain ⟨v21, hv21, H⟩ := H
            refine w_y (y_ld tok rfl rfl rfl rfl hv21) rfl rfl ?_
            refine w_p tok rfl rfl rfl ?_
            obtain ⟨v22, hv22, H⟩ := H
            refine w_y (y_ld tok rfl rfl rfl rfl hv22) rfl rfl ?_
            refine w_p tok rfl rfl rfl ?_
            refine w_end ?_
            refine x_seq ?_
            refine c_if H rfl (fun H => ?_) (fun H => ?_)
            ·
              refine c_exit ?_
              refine x_te ?_
              refine x_bh ?_
              exact x_join (t7_3, t8_3) H ⟨rfl, rfl, rfl, rfl, rfl, rfl, rfl, trivial⟩
            ·
              refine c_skip ?_
              refine x_seq ?_
              refine c_seq ?_
              refine c_region ?_
              refine w_p tok rfl rfl rfl ?_
              refine w_p tok rfl rfl rfl ?_
              refine w_cut 6 (α := Bool) (fun (s : Bool) => [(57, .bool s), (2, .pointer (some (⟨b1, 0, none⟩ : Addr))), (3, .pointer (some (⟨b3, 0, none⟩ : Addr))), (5, .int .i64 t5_2), (6, .pointer (some (⟨b10, 0, none⟩ : Addr))), (8, .bool t8_3), (9, .int .i64 t9_3), (10, .pointer (some (⟨b18, 0, none⟩ : Addr)))]) (fun (s : Bool) h => ref15_Chooses_g5 (⟨b1, 0, none⟩ : Addr) (⟨b3, 0, none⟩ : Addr) t5_2 (⟨b10, 0, none⟩ : Addr) t8_3 t9_3 (⟨b18, 0, none⟩ : Addr) s k (fun s h' => I2 s h' ∧ μ2 s h' < μ2 t5_2 h_2) (fun s h' => I3 s h' ∧ μ3 s h' < μ3 (t7_3, t8_3, t9_3) h_3) h) ?_ ?_
              ·
                rintro t57_5 h_5 H
                replace H : ref15_Chooses_g5 (⟨b1, 0, none⟩ : Addr) (⟨b3, 0, none⟩ : Addr) t5_2 (⟨b10, 0, none⟩ : Addr) t8_3 t9_3 (⟨b18, 0, none⟩ : Addr) t57_5 k (fun s h' => I2 s h' ∧ μ2 s h' < μ2 t5_2 h_2) (fun s h' => I3 s h' ∧ μ3 s h' < μ3 (t7_3, t8_3, t9_3) h_3) h_5 := H
                unfold ref15_Chooses_g5 at H
                refine w_weak [(57, .bool t57_5), (2, .pointer (some (⟨b1, 0, none⟩ : Addr))), (3, .pointer (some (⟨b3, 0, none⟩ : Addr))), (5, .int .i64 t5_2), (6, .pointer (some (⟨b10, 0, none⟩ : Addr))), (8, .bool t8_3), (9, .int .i64 t9_3), (10, .pointer (some (⟨b18, 0, none⟩ : Addr)))] ⟨rfl, rfl, rfl, rfl, rfl, rfl, rfl, rfl, trivial⟩ ?_
                refine w_p tok rfl rfl rfl ?_
                refine w_end ?_
                refine x_seq ?_
                refine c_draw (by kernel_rfl) (by kernel_rfl) ?_
                refine q_p tok rfl rfl rfl ?_
                refine q_p tok rfl rfl rfl ?_
                refine q_cut 19 (α := Bool) (fun (s : Bool) => [(78, .bool s), (2, .pointer (some (⟨b1, 0, none⟩ : Addr))), (3, .pointer (some (⟨b3, 0, none⟩ : Addr))), (5, .int .i64 t5_2), (6, .pointer (some (⟨b10, 0, none⟩ : Addr))), (7, .bool t57_5), (9, .int .i64 t9_3)]) (fun (s : Bool) => ref15_Chooses_g6 (⟨b1, 0, none⟩ : Addr) (⟨b3, 0, none⟩ : Addr) t5_2 (⟨b10, 0, none⟩ : Addr) t57_5 t9_3 s k (fun s h' => I2 s h' ∧ μ2 s h' < μ2 t5_2 h_2) (fun s h' => I3 s h' ∧ μ3 s h' < μ3 (t7_3, t8_3, t9_3) h_3) h_5) ?_ ?_
                ·
                  rintro t78_6 H
                  replace H : ref15_Chooses_g6 (⟨b1, 0, none⟩ : Addr) (⟨b3, 0, none⟩ : Addr) t5_2 (⟨b10, 0, none⟩ : Addr) t57_5 t9_3 t78_6 k (fun s h' => I2 s h' ∧ μ2 s h' < μ2 t5_2 h_2) (fun s h' => I3 s h' ∧ μ3 s h' < μ3 (t7_3, t8_3, t9_3) h_3) h_5 := H
                  unfold ref15_Chooses_g6 at H
                  refine q_weak [(78, .bool t78_6), (2, .pointer (some (⟨b1, 0, none⟩ : Addr))), (3, .pointer (some (⟨b3, 0, none⟩ : Addr))), (5, .int .i64 t5_2), (6, .pointer (some (⟨b10, 0, none⟩ : Addr))), (7, .bool t57_5), (9, .int .i64 t9_3)] ⟨rfl, rfl, rfl, rfl, rfl, rfl, rfl, trivial⟩ ?_
                  refine q_p tok rfl rfl rfl ?_
                  refine q_end ?_
                  refine x_blk ?_
                  exact x_join (t57_5, t78_6) H ⟨rfl, rfl, rfl, rfl, rfl, rfl, rfl, trivial⟩
                ·
                  refine q_gif (d := 59) H rfl (fun H => ?_) (fun H => ?_)
                  ·
                    refine q_skip rfl rfl ?_
                    refine q_skip rfl rfl ?_
                    refine q_skip rfl rfl ?_
                    refine q_skip rfl rfl ?_
                    refine q_skip rfl rfl ?_
                    refine q_skip rfl rfl ?_
                    refine q_skip rfl rfl ?_
                    refine q_skip rfl rfl ?_
                    refine q_skip rfl rfl ?_
                    refine q_skip rfl rfl ?_
                    refine q_skip rfl rfl ?_
                    refine q_skip rfl rfl ?_
                    refine q_skip rfl rfl ?_
                    refine q_skip rfl rfl ?_
                    refine q_skip rfl rfl ?_
                    refine q_skip rfl rfl ?_
                    refine q_skip rfl rfl ?_
                    refine q_skip rfl rfl ?_
                    refine q_p tok rfl rfl rfl ?_
                    exact q_jn true H ⟨rfl, rfl, rfl, rfl, rfl, rfl, rfl, trivial⟩
                  ·
                    refine q_p tok rfl rfl rfl ?_
                    obtain ⟨v23, hv23, H⟩ := H
                    refine q_y (y_ld tok rfl rfl rfl rfl hv23) rfl rfl ?_
                    refine q_p tok rfl rfl rfl ?_
                    refine q_p tok rfl rfl rfl ?_
                    obtain ⟨v24, hv24, H⟩ := H
                    refine q_y (y_ld tok rfl rfl rfl rfl hv24) rfl rfl ?_
                    refine q_p tok rfl rfl rfl ?_
                    refine q_p tok rfl rfl rfl ?_
                    refine q_p tok rfl rfl rfl ?_
                    refine q_cut 10 (α := Bool) (fun (s : Bool) => [(77, .bool s), (2, .pointer (some (⟨b1, 0, none⟩ : Addr))), (3, .pointer (some (⟨b3, 0, none⟩ : Addr))), (5, .int .i64 t5_2), (6, .pointer (some (⟨b10, 0, none⟩ : Addr))), (7, .bool t57_5), (9, .int .i64 t9_3), (59, .bool false)]) (fun (s : Bool) => ref15_Chooses_g7 (⟨b1, 0, none⟩ : Addr) (⟨b3, 0, none⟩ : Addr) t5_2 (⟨b10, 0, none⟩ : Addr) t57_5 t9_3 false s k (fun s h' => I2 s h' ∧ μ2 s h' < μ2 t5_2 h_2) (fun s h' => I3 s h' ∧ μ3 s h' < μ3 (t7_3, t8_3, t9_3) h_3) h_5) ?_ ?_
                    ·
                      rintro t77_7 H
                      replace H : ref15_Chooses_g7 (⟨b1, 0, none⟩ : Addr) (⟨b3, 0, none⟩ : Addr) t5_2 (⟨b10, 0, none⟩ : Addr) t57_5 t9_3 false t77_7 k (fun s h' => I2 s h' ∧ μ2 s h' < μ2 t5_2 h_2) (fun s h' => I3 s h' ∧ μ3 s h' < μ3 (t7_3, t8_3, t9_3) h_3) h_5 := H
                      unfold ref15_Chooses_g7 at H
                      refine q_weak [(77, .bool t77_7), (2, .pointer (some (⟨b1, 0, none⟩ : Addr))), (3, .pointer (some (⟨b3, 0, none⟩ : Addr))), (5, .int .i64 t5_2), (6, .pointer (some (⟨b10, 0, none⟩ : Addr))), (7, .bool t57_5), (9, .int .i64 t9_3), (59, .bool false)] ⟨rfl, rfl, rfl, rfl, rfl, rfl, rfl, rfl, trivial⟩ ?_
                      refine q_p tok rfl rfl rfl ?_
                      exact q_jn t77_7 H ⟨rfl, rfl, rfl, rfl, rfl, rfl, rfl, trivial⟩
                    ·
                      refine q_gif (d := 67) H rfl (fun H => ?_) (fun H => ?_)
                      ·
                        refine q_p tok rfl rfl rfl ?_
                        obtain ⟨v25, hv25, H⟩ := H
                        refine q_y (y_ld tok rfl rfl rfl rfl hv25) rfl rfl ?_
                        refine q_p tok rfl rfl rfl ?_
                        obtain ⟨v26, hv26, H⟩ := H
                        refine q_y (y_ld tok rfl rfl rfl rfl hv26) rfl rfl ?_
                        refine q_p tok rfl rfl rfl ?_
                        obtain ⟨s27, ps27, qs27, rs27, es27, H⟩ := H
                        refine q_ye (y_sls (s := v25) (L := 0) (H := (v26.size : Int)) tok rfl rfl rfl rfl rfl ps27 qs27 rs27) (congrArg Value.string es27) rfl rfl ?_
                        refine q_p tok rfl rfl rfl ?_
                        obtain ⟨v28, hv28, H⟩ := H
                        refine q_y (y_ld tok rfl rfl rfl rfl hv28) rfl rfl ?_
                        refine q_p tok rfl rfl rfl ?_
                        refine q_p tok rfl rfl rfl ?_
                        exact q_jn (s27.toList == v28.toList) H ⟨rfl, rfl, rfl, rfl, rfl, rfl, rfl, rfl, trivial⟩
                      ·
                        refine q_skip rfl rfl ?_
                        refine q_skip rfl rfl ?_
                        refine q_skip rfl rfl ?_
                        refine q_skip rfl rfl ?_
                        refine q_skip rfl rfl ?_
                        refine q_skip rfl rfl ?_
                        refine q_skip rfl rfl ?_
                        refine q_skip rfl rfl ?_
                        refine q_skip rfl rfl ?_
                        refine q_p tok rfl rfl rfl ?_
                        exact q_jn false H ⟨rfl, rfl, rfl, rfl, rfl, rfl, rfl, rfl, trivial⟩
              ·
                refine w_gif (d := 51) H rfl (fun H => ?_) (fun H => ?_)
                ·
                  refine w_skip rfl rfl ?_
                  refine w_skip rfl rfl ?_
                  refine w_skip rfl rfl ?_
                  refine w_skip rfl rfl ?_
                  refine w_skip rfl rfl ?_
                  refine w_p tok rfl rfl rfl ?_
                  exact w_jn true H ⟨rfl, rfl, rfl, rfl, rfl, rfl, rfl, rfl, trivial⟩
                ·
                  refine w_p tok rfl rfl rfl ?_
                  obtain ⟨v29, hv29, H⟩ := H
                  refine w_y (y_ld tok rfl rfl rfl rfl hv29) rfl rfl ?_
                  refine w_p tok rfl rfl rfl ?_
                  obtain ⟨v30, hv30, H⟩ := H
                  refine w_y (y_ld tok rfl rfl rfl rfl hv30) rfl rfl ?_
                  refine w_p tok rfl rfl rfl ?_
                  refine w_p tok rfl rfl rfl ?_
                  exact w_jn (v29.toList == v30.toList) H ⟨rfl, rfl, rfl, rfl, rfl, rfl, rfl, rfl, trivial⟩
        ·
          refine c_exit ?_
          refine x_te ?_
          refine x_te ?_
          refine x_bh ?_
          refine x_seq ?_
          refine c_seq ?_
          refine c_region ?_
          refine w_p tok rfl rfl rfl ?_
          obtain ⟨v31, hv31, H⟩ := H
          refine w_y (y_ld tok rfl rfl rfl rfl hv31) rfl rfl ?_
          refine w_p tok rfl rfl rfl ?_
          refine w_p tok rfl rfl rfl ?_
          refine w_cutU 3 [(85, .bool ((v31 == 0) && (!t7_3))), (2, .pointer (some (⟨b1, 0, none⟩ : Addr))), (3, .pointer (some (⟨b3, 0, none⟩ : Addr))), (5, .int .i64 t5_2), (6, .pointer (some (⟨b10, 0, none⟩ : Addr))), (7, .bool t7_3), (8, .bool t8_3)] ?_ ?_
          ·
            refine w_p tok rfl rfl rfl ?_
            refine w_cut 7 (α := Bool) (fun (s : Bool) => [(93, .bool s), (2, .pointer (some (⟨b1, 0, none⟩ : Addr))), (3, .pointer (some (⟨b3, 0, none⟩ : Addr))), (5, .int .i64 t5_2), (6, .pointer (some (⟨b10, 0, none⟩ : Addr))), (8, .bool t8_3)]) (fun (s : Bool) h => ref15_Chooses_g8 (⟨b1, 0, none⟩ : Addr) (⟨b3, 0, none⟩ : Addr) t5_2 (⟨b10, 0, none⟩ : Addr) t8_3 s k (fun s h' => I2 s h' ∧ μ2 s h' < μ2 t5_2 h_2) (fun s h' => I3 s h' ∧ μ3 s h' < μ3 (t7_3, t8_3, t9_3) h_3) h) ?_ ?_
            ·
              rintro t93_8 h_8 H
              replace H : ref15_Chooses_g8 (⟨b1, 0, none⟩ : Addr) (⟨b3, 0, none⟩ : Addr) t5_2 (⟨b10, 0, none⟩ : Addr) t8_3 t93_8 k (fun s h' => I2 s h' ∧ μ2 s h' < μ2 t5_2 h_2) (fun s h' => I3 s h' ∧ μ3 s h' < μ3 (t7_3, t8_3, t9_3) h_3) h_8 := H
              unfold ref15_Chooses_g8 at H
              refine w_weak [(93, .bool t93_8), (2, .pointer (some (⟨b1, 0, none⟩ : Addr))), (3, .pointer (some (⟨b3, 0, none⟩ : Addr))), (5, .int .i64 t5_2), (6, .pointer (some (⟨b10, 0, none⟩ : Addr))), (8, .bool t8_3)] ⟨rfl, rfl, rfl, rfl, rfl, rfl, trivial⟩ ?_
              refine w_p tok rfl rfl rfl ?_
              refine w_cut 8 (α := Bool) (fun (s : Bool) => [(102, .bool s), (2, .pointer (some (⟨b1, 0, none⟩ : Addr))), (3, .pointer (some (⟨b3, 0, none⟩ : Addr))), (5, .int .i64 t5_2), (6, .pointer (some (⟨b10, 0, none⟩ : Addr)))]) (fun (s : Bool) h => ref15_Chooses_g9 (⟨b1, 0, none⟩ : Addr) (⟨b3, 0, none⟩ : Addr) t5_2 (⟨b10, 0, none⟩ : Addr) s k (fun s h' => I2 s h' ∧ μ2 s h' < μ2 t5_2 h_2) (fun s h' => I3 s h' ∧ μ3 s h' < μ3 (t7_3, t8_3, t9_3) h_3) h) ?_ ?_
              ·
                rintro t102_9 h_9 H
                replace H : ref15_Chooses_g9 (⟨b1, 0, none⟩ : Addr) (⟨b3, 0, none⟩ : Addr) t5_2 (⟨b10, 0, none⟩ : Addr) t102_9 k (fun s h' => I2 s h' ∧ μ2 s h' < μ2 t5_2 h_2) (fun s h' => I3 s h' ∧ μ3 s h' < μ3 (t7_3, t8_3, t9_3) h_3) h_9 := H
                unfold ref15_Chooses_g9 at H
                refine w_weak [(102, .bool t102_9), (2, .pointer (some (⟨b1, 0, none⟩ : Addr))), (3, .pointer (some (⟨b3, 0, none⟩ : Addr))), (5, .int .i64 t5_2), (6, .pointer (some (⟨b10, 0, none⟩ : Addr)))] ⟨rfl, rfl, rfl, rfl, rfl, trivial⟩ ?_
                refine w_p tok rfl rfl rfl ?_
                refine w_cut 4 (α := Bool) (fun (s : Bool) => [(107, .bool s), (2, .pointer (some (⟨b1, 0, none⟩ : Addr))), (3, .pointer (some (⟨b3, 0, none⟩ : Addr))), (5, .int .i64 t5_2), (6, .pointer (some (⟨b10, 0, none⟩ : Addr)))]) (fun (s : Bool) h => ref15_Chooses_g10 (⟨b1, 0, none⟩ : Addr) (⟨b3, 0, none⟩ : Addr) t5_2 (⟨b10, 0, none⟩ : Addr) s k (fun s h' => I2 s h' ∧ μ2 s h' < μ2 t5_2 h_2) (fun s h' => I3 s h' ∧ μ3 s h' < μ3 (t7_3, t8_3, t9_3) h_3) h) ?_ ?_
                ·
                  rintro t107_10 h_10 H
                  replace H : ref15_Chooses_g10 (⟨b1, 0, none⟩ : Addr) (⟨b3, 0, none⟩ : Addr) t5_2 (⟨b10, 0, none⟩ : Addr) t107_10 k (fun s h' => I2 s h' ∧ μ2 s h' < μ2 t5_2 h_2) (fun s h' => I3 s h' ∧ μ3 s h' < μ3 (t7_3, t8_3, t9_3) h_3) h_10 := H
                  unfold ref15_Chooses_g10 at H
                  refine w_weak [(107, .bool t107_10), (2, .pointer (some (⟨b1, 0, none⟩ : Addr))), (3, .pointer (some (⟨b3, 0, none⟩ : Addr))), (5, .int .i64 t5_2), (6, .pointer (some (⟨b10, 0, none⟩ : Addr)))] ⟨rfl, rfl, rfl, rfl, rfl, trivial⟩ ?_
                  refine w_p tok rfl rfl rfl ?_
                  refine w_cut 4 (α := Bool) (fun (s : Bool) => [(112, .bool s), (2, .pointer (some (⟨b1, 0, none⟩ : Addr))), (3, .pointer (some (⟨b3, 0, none⟩ : Addr))), (5, .int .i64 t5_2)]) (fun (s : Bool) h => ref15_Chooses_g11 (⟨b1, 0, none⟩ : Addr) (⟨b3, 0, none⟩ : Addr) t5_2 s k (fun s h' => I2 s h' ∧ μ2 s h' < μ2 t5_2 h_2) (fun s h' => I3 s h' ∧ μ3 s h' < μ3 (t7_3, t8_3, t9_3) h_3) h) ?_ ?_
                  ·
                    rintro t112_11 h_11 H
                    replace H : ref15_Chooses_g11 (⟨b1, 0, none⟩ : Addr) (⟨b3, 0, none⟩ : Addr) t5_2 t112_11 k (fun s h' => I2 s h' ∧ μ2 s h' < μ2 t5_2 h_2) (fun s h' => I3 s h' ∧ μ3 s h' < μ3 (t7_3, t8_3, t9_3) h_3) h_11 := H
                    unfold ref15_Chooses_g11 at H
                    refine w_weak [(112, .bool t112_11), (2, .pointer (some (⟨b1, 0, none⟩ : Addr))), (3, .pointer (some (⟨b3, 0, none⟩ : Addr))), (5, .int .i64 t5_2)] ⟨rfl, rfl, rfl, rfl, trivial⟩ ?_
                    refine w_end ?_
                    refine x_seq ?_
                    refine c_if H rfl (fun H => ?_) (fun H => ?_)
                    ·
                      refine c_seq ?_
                      refine c_region ?_
                      refine w_p tok rfl rfl rfl ?_
                      refine w_end ?_
                      refine x_seq ?_
                      refine c_ret ?_
                      refine x_br ?_
                      refine x_tr ?_
                      refine x_tr ?_
                      refine x_br ?_
                      refine x_tr ?_
                      exact x_ret _ rfl _ rfl ⟨false, rfl, H⟩
                    ·
                      refine c_skip ?_
                      refine x_blk ?_
                      refine x_seq ?_
                      refine c_region ?_
                      refine w_p tok rfl rfl rfl ?_
                      refine w_p tok rfl rfl rfl ?_
                      obtain ⟨x32, ex32, H⟩ := H
                      refine w_pe tok rfl (congrArg (fun z => (.int .i64 z : Value)) ex32) rfl rfl ?_
                      refine w_end ?_
                      exact x_join x32 H ⟨rfl, rfl, rfl, trivial⟩
                  ·
                    refine w_gif (d := 108) H rfl (fun H => ?_) (fun H => ?_)
                    ·
                      refine w_skip rfl rfl ?_
                      refine w_skip rfl rfl ?_
                      refine w_skip rfl rfl ?_
                      refine w_p tok rfl rfl rfl ?_
                      exact w_jn true H ⟨rfl, rfl, rfl, rfl, trivial⟩
                    ·
                      refine w_p tok rfl rfl rfl ?_
                      obtain ⟨v33, hv33, H⟩ := H
                      refine w_y (y_ld tok rfl rfl rfl rfl hv33) rfl rfl ?_
                      refine w_p tok rfl rfl rfl ?_
                      refine w_p tok rfl rfl rfl ?_
                      exact w_jn (decide (v33 > 2)) H ⟨rfl, rfl, rfl, rfl, trivial⟩
                ·
                  refine w_gif (d := 103) H rfl (fun H => ?_) (fun H => ?_)
                  ·
                    refine w_skip rfl rfl ?_
                    refine w_skip rfl rfl ?_
                    refine w_skip rfl rfl ?_
                    refine w_p tok rfl rfl rfl ?_
                    exact w_jn true H ⟨rfl, rfl, rfl, rfl, rfl, trivial⟩
                  ·
                    refine w_p tok rfl rfl rfl ?_
                    obtain ⟨v34, hv34, H⟩ := H
                    refine w_y (y_ld tok rfl rfl rfl rfl hv34) rfl rfl ?_
                    refine w_p tok rfl rfl rfl ?_
                    refine w_p tok rfl rfl rfl ?_
                    exact w_jn (decide (v34 < 0)) H ⟨rfl, rfl, rfl, rfl, rfl, trivial⟩
              ·
                refine w_gif (d := 94) H rfl (fun H => ?_) (fun H => ?_)
                ·
                  refine w_skip rfl rfl ?_
                  refine w_skip rfl rfl ?_
                  refine w_skip rfl rfl ?_
                  refine w_skip rfl rfl ?_
                  refine w_skip rfl rfl ?_
                  refine w_skip rfl rfl ?_
                  refine w_skip rfl rfl ?_
                  refine w_p tok rfl rfl rfl ?_
                  exact w_jn true H ⟨rfl, rfl, rfl, rfl, rfl, trivial⟩
                ·
                  refine w_p tok rfl rfl rfl ?_
                  obtain ⟨v35, hv35, H⟩ := H
                  refine w_y (y_ld tok rfl rfl rfl rfl hv35) rfl rfl ?_
                  refine w_p tok rfl rfl rfl ?_
                  refine w_p tok rfl rfl rfl ?_
                  refine w_cutU 3 [(101, .bool ((v35 == 2) && (!t8_3))), (2, .pointer (some (⟨b1, 0, none⟩ : Addr))), (3, .pointer (some (⟨b3, 0, none⟩ : Addr))), (5, .int .i64 t5_2), (6, .pointer (some (⟨b10, 0, none⟩ : Addr))), (94, .bool false)] ?_ ?_
                  ·
                    refine w_p tok rfl rfl rfl ?_
                    exact w_jn ((v35 == 2) && (!t8_3)) H ⟨rfl, rfl, rfl, rfl, rfl, trivial⟩
                  ·
                    refine w_gs (d := 98) rfl (fun hb => ?_) (fun hb => ?_)
                    ·
                      refine w_p tok rfl rfl rfl ?_
                      refine w_p tok rfl rfl rfl ?_
                      refine w_p tok rfl rfl rfl ?_
                      refine w_jn () rfl ⟨?_, rfl, rfl, rfl, rfl, rfl, trivial⟩
                      exact congrArg (fun b => some (Value.bool b)) (and_t hb)
                    ·
                      refine w_skip rfl rfl ?_
                      refine w_skip rfl rfl ?_
                      refine w_p tok rfl rfl rfl ?_
                      refine w_jn () rfl ⟨?_, rfl, rfl, rfl, rfl, rfl, trivial⟩
                      exact congrArg (fun b => some (Value.bool b)) (and_f hb)
            ·
              refine w_gif (d := 86) H rfl (fun H => ?_) (fun H => ?_)
              ·
                refine w_skip rfl rfl ?_
                refine w_skip rfl rfl ?_
                refine w_skip rfl rfl ?_
                refine w_skip rfl rfl ?_
                refine w_skip rfl rfl ?_
                refine w_skip rfl rfl ?_
                refine w_p tok rfl rfl rfl ?_
                exact w_jn true H ⟨rfl, rfl, rfl, rfl, rfl, rfl, trivial⟩
              ·
                refine w_p tok rfl rfl rfl ?_
                obtain ⟨v36, hv36, H⟩ := H
                refine w_y (y_ld tok rfl rfl rfl rfl hv36) rfl rfl ?_
                refine w_p tok rfl rfl rfl ?_
                refine w_p tok rfl rfl rfl ?_
                refine w_cutU 2 [(92, .bool ((v36 == 1) && t7_3)), (2, .pointer (some (⟨b1, 0, none⟩ : Addr))), (3, .pointer (some (⟨b3, 0, none⟩ : Addr))), (5, .int .i64 t5_2), (6, .pointer (some (⟨b10, 0, none⟩ : Addr))), (8, .bool t8_3), (86, .bool false)] ?_ ?_
                ·
                  refine w_p tok rfl rfl rfl ?_
                  exact w_jn ((v36 == 1) && t7_3) H ⟨rfl, rfl, rfl, rfl, rfl, rfl, trivial⟩
                ·
                  refine w_gs (d := 90) rfl (fun hb => ?_) (fun hb => ?_)
                  ·
                    refine w_p tok rfl rfl rfl ?_
                    refine w_p tok rfl rfl rfl ?_
                    refine w_jn () rfl ⟨?_, rfl, rfl, rfl, rfl, rfl, rfl, trivial⟩
                    exact congrArg (fun b => some (Value.bool b)) (and_t hb)
                  ·
                    refine w_skip rfl rfl ?_
                    refine w_p tok rfl rfl rfl ?_
                    refine w_jn () rfl ⟨?_, rfl, rfl, rfl, rfl, rfl, rfl, trivial⟩
                    exact congrArg (fun b => some (Value.bool b)) (and_f hb)
          ·
            refine w_gs (d := 82) rfl (fun hb => ?_) (fun hb => ?_)
            ·
              refine w_p tok rfl rfl rfl ?_
              refine w_p tok rfl rfl rfl ?_
              refine w_p tok rfl rfl rfl ?_
              refine w_jn () rfl ⟨?_, rfl, rfl, rfl, rfl, rfl, rfl, trivial⟩
              exact congrArg (fun b => some (Value.bool b)) (and_t hb)
            ·
              refine w_skip rfl rfl ?_
              refine w_skip rfl rfl ?_
              refine w_p tok rfl rfl rfl ?_
              refine w_jn () rfl ⟨?_, rfl, rfl, rfl, rfl, rfl, rfl, trivial⟩
              exact congrArg (fun b => some (Value.bool b)) (and_f hb)
      ·
        refine c_exit ?_
        refine x_te ?_
        refine x_te ?_
        refine x_bh ?_
        refine x_seq ?_
        refine c_weak [] trivial ?_
        refine c_seq ?_
        refine c_region ?_
        refine w_p tok rfl rfl rfl ?_
        refine w_end ?_
        refine x_seq ?_
        refine c_ret ?_
        exact x_ret _ rfl _ rfl ⟨true, rfl, H⟩
  ·
    refine w_gif (d := 14) H rfl (fun H => ?_) (fun H => ?_)
    ·
      refine w_p tok rfl rfl rfl ?_
      obtain ⟨v37, hv37, H⟩ := H
      refine w_y (y_ld tok rfl rfl rfl rfl hv37) rfl rfl ?_
      refine w_p tok rfl rfl rfl ?_
      obtain ⟨v38, hv38, H⟩ := H
      refine w_y (y_ld tok rfl rfl rfl rfl hv38) rfl rfl ?_
      refine w_p tok rfl rfl rfl ?_
      refine w_p tok rfl rfl rfl ?_
      exact w_jn (!(v37.toList == v38.toList)) H ⟨rfl, rfl, rfl, trivial⟩
    ·
      refine w_skip rfl rfl ?_
      refine w_skip rfl rfl ?_
      refine w_skip rfl rfl ?_
      refine w_skip rfl rfl ?_
      refine w_skip rfl rfl ?_
      refine w_p tok rfl rfl rfl ?_
      exact w_jn false H ⟨rfl, rfl, rfl, trivial⟩

theorem ref15_Great_ok : CallOk Go.Proofs.Try.prog 30 := ⟨_, Go.Proofs.Try.func30, by kernel_rfl, by kernel_rfl⟩
theorem ref15_Great_ref (p0 : S_api_Series) (p1 : S_api_Selector) (k : (Bool) → Heap → Prop) (h : Heap) (H : ref15_Great p0 p1 k h) : CallsH Go.Proofs.Try.prog 30 #[.agg (S_api_Series.cs p0).toArray, .agg (S_api_Selector.cs p1).toArray] h (fun v h' => ∃ r : Bool, v = .bool r ∧ k r h') := by
  refine f_enter (N := 75) Go.Proofs.Try.func30 rfl rfl rfl (fun w0 => ?_)
  unfold ref15_Great at H
  refine c_weak [(0, .agg (S_api_Series.cs p0).toArray), (1, .agg (S_api_Selector.cs p1).toArray)] ⟨rfl, rfl, trivial⟩ ?_
  refine c_seq ?_
  refine c_region ?_
  obtain ⟨b1, h2, eb1, eh2, H⟩ := H
  refine w_h (h_box rfl rfl eb1 eh2) rfl rfl ?_
  obtain ⟨b3, h4, eb3, eh4, H⟩ := H
  refine w_h (h_box rfl rfl eb3 eh4) rfl rfl ?_
  refine w_p tok rfl rfl rfl ?_
  refine w_end ?_
  refine x_seq ?_
  refine c_seq ?_
  refine c_seq ?_
  refine c_region ?_
  refine w_p tok rfl rfl rfl ?_
  obtain ⟨v5, hv5, H⟩ := H
  refine w_y (y_ld tok rfl rfl rfl rfl hv5) rfl rfl ?_
  refine w_p tok rfl rfl rfl ?_
  refine w_p tok rfl rfl rfl ?_
  refine w_p tok rfl rfl rfl ?_
  refine w_cut 5 (α := Bool) (fun (s : Bool) => [(16, .bool s), (2, .pointer (some (⟨b1, 0, none⟩ : Addr))), (3, .pointer (some (⟨b3, 0, none⟩ : Addr)))]) (fun (s : Bool) h => ref15_Great_g1 (⟨b1, 0, none⟩ : Addr) (⟨b3, 0, none⟩ : Addr) s k h) ?_ ?_
  ·
    rintro t16_1 h_1 H
    replace H : ref15_Great_g1 (⟨b1, 0, none⟩ : Addr) (⟨b3, 0, none⟩ : Addr) t16_1 k h_1 := H
    unfold ref15_Great_g1 at H
    refine w_weak [(16, .bool t16_1), (2, .pointer (some (⟨b1, 0, none⟩ : Addr))), (3, .pointer (some (⟨b3, 0, none⟩ : Addr)))] ⟨rfl, rfl, rfl, trivial⟩ ?_
    refine w_p tok rfl rfl rfl ?_
    refine w_cut 5 (α := Bool) (fun (s : Bool) => [(22, .bool s), (2, .pointer (some (⟨b1, 0, none⟩ : Addr))), (3, .pointer (some (⟨b3, 0, none⟩ : Addr)))]) (fun (s : Bool) h => ref15_Great_g2 (⟨b1, 0, none⟩ : Addr) (⟨b3, 0, none⟩ : Addr) s k h) ?_ ?_
    ·
      rintro t22_2 h_2 H
      replace H : ref15_Great_g2 (⟨b1, 0, none⟩ : Addr) (⟨b3, 0, none⟩ : Addr) t22_2 k h_2 := H
      unfold ref15_Great_g2 at H
      refine w_weak [(22, .bool t22_2), (2, .pointer (some (⟨b1, 0, none⟩ : Addr))), (3, .pointer (some (⟨b3, 0, none⟩ : Addr)))] ⟨rfl, rfl, rfl, trivial⟩ ?_
      refine w_p tok rfl rfl rfl ?_
      refine w_cut 5 (α := Bool) (fun (s : Bool) => [(28, .bool s), (2, .pointer (some (⟨b1, 0, none⟩ : Addr))), (3, .pointer (some (⟨b3, 0, none⟩ : Addr)))]) (fun (s : Bool) h => ref15_Great_g3 (⟨b1, 0, none⟩ : Addr) (⟨b3, 0, none⟩ : Addr) s k h) ?_ ?_
      ·
        rintro t28_3 h_3 H
        replace H : ref15_Great_g3 (⟨b1, 0, none⟩ : Addr) (⟨b3, 0, none⟩ : Addr) t28_3 k h_3 := H
        unfold ref15_Great_g3 at H
        refine w_weak [(28, .bool t28_3), (2, .pointer (some (⟨b1, 0, none⟩ : Addr))), (3, .pointer (some (⟨b3, 0, none⟩ : Addr)))] ⟨rfl, rfl, rfl, trivial⟩ ?_
        refine w_end ?_
        refine x_seq ?_
        refine c_if H rfl (fun H => ?_) (fun H => ?_)
        ·
          refine c_seq ?_
          refine c_region ?_
          refine w_p tok rfl rfl rfl ?_
          refine w_end ?_
          refine x_seq ?_
          refine c_ret ?_
          refine x_tr ?_
          exact x_ret _ rfl _ rfl ⟨true, rfl, H⟩
        ·
          refine c_skip ?_
          refine x_seq ?_
          refine c_seq ?_
          refine c_seq ?_
          refine c_region ?_
          refine w_p tok rfl rfl rfl ?_
          refine w_end ?_
          refine x_seq ?_
          refine c_block ?_
          obtain ⟨I4, μ4, H0, HI⟩ := H
          refine c_loop (σ := Int) (fun (s : Int) => [(5, .int .i64 s), (2, .pointer (some (⟨b1, 0, none⟩ : Addr))), (3, .pointer (some (⟨b3, 0, none⟩ : Addr)))]) I4 μ4 0 H0 ⟨rfl, rfl, rfl, trivial⟩ ?_
          rintro t5_4 h_4 H
          replace H := HI t5_4 h_4 H
          unfold ref15_Great_l4b at H
          refine c_weak [(5, .int .i64 t5_4), (2, .pointer (some (⟨b1, 0, none⟩ : Addr))), (3, .pointer (some (⟨b3, 0, none⟩ : Addr)))] ⟨rfl, rfl, rfl, trivial⟩ ?_
          refine c_seq ?_
          refine c_seq ?_
          refine c_region ?_
          refine w_p tok rfl rfl rfl ?_
          refine w_p tok rfl rfl rfl ?_
          obtain ⟨v6, hv6, H⟩ := H
          refine w_y (y_ld tok rfl rfl rfl rfl hv6) rfl rfl ?_
          refine w_p tok rfl rfl rfl ?_
          refine w_p tok rfl rfl rfl ?_
          refine w_end ?_
          refine x_seq ?_
          refine c_if H rfl (fun H => ?_) (fun H => ?_)
          ·
            refine c_skip ?_
            refine x_seq ?_
            refine c_seq ?_
            refine c_block ?_
            refine c_seq ?_
            refine c_draw (by kernel_rfl) (by kernel_rfl) ?_
            refine q_p tok rfl rfl rfl ?_
            obtain ⟨v7, hv7, H⟩ := H
            refine q_y (y_ld tok rfl rfl rfl rfl hv7) rfl rfl ?_
            refine q_p tok rfl rfl rfl ?_
            obtain ⟨a8, ha8, la8, ua8, H⟩ := H
            refine q_y (y_ixa' tok rfl rfl ha8 rfl rfl rfl la8 ua8) rfl rfl ?_
            refine q_p tok rfl rfl rfl ?_
            obtain ⟨v9, hv9, H⟩ := H
            refine q_y (y_ld tok rfl rfl rfl rfl hv9) rfl rfl ?_
            refine q_p tok rfl rfl rfl ?_
            refine q_p tok rfl rfl rfl ?_
            obtain ⟨v10, hv10, H⟩ := H
            refine q_y (y_ld tok rfl rfl rfl rfl hv10) rfl rfl ?_
            refine q_p tok rfl rfl rfl ?_
            obtain ⟨a11, ha11, la11, ua11, H⟩ := H
            refine q_y (y_ixa' tok rfl rfl ha11 rfl rfl rfl la11 ua11) rfl rfl ?_
            refine q_p tok rfl rfl rfl ?_
            obtain ⟨v12, hv12, H⟩ := H
            refine q_y (y_ld tok rfl rfl rfl rfl hv12) rfl rfl ?_
            refine q_p tok rfl rfl rfl ?_
            refine q_p tok rfl rfl rfl ?_
            refine q_p tok rfl rfl rfl ?_
            refine q_end ?_
            refine x_seq ?_
            refine c_weak [(5, .int .i64 t5_4), (2, .pointer (some (⟨b1, 0, none⟩ : Addr))), (3, .pointer (some (⟨b3, 0, none⟩ : Addr))), (51, .bool (decide ((IntKind.i64.wrap ((v9.size : Int) + (v12.size : Int))) > 200)))] ⟨rfl, rfl, rfl, rfl, trivial⟩ ?_
            refine c_if H rfl (fun H => ?_) (fun H => ?_)
            ·
              refine c_seq ?_
              refine c_region ?_
              refine w_p tok rfl rfl rfl ?_
              refine w_end ?_
              refine x_seq ?_
              refine c_ret ?_
              refine x_br ?_
              refine x_tr ?_
              refine x_tr ?_
              refine x_br ?_
              refine x_tr ?_
              exact x_ret _ rfl _ rfl ⟨true, rfl, H⟩
            ·
              refine c_skip ?_
              refine x_blk ?_
              refine x_seq ?_
              refine c_region ?_
              refine w_p tok rfl rfl rfl ?_
              refine w_p tok rfl rfl rfl ?_
              obtain ⟨x13, ex13, H⟩ := H
              refine w_pe tok rfl (congrArg (fun z => (.int .i64 z : Value)) ex13) rfl rfl ?_
              refine w_end ?_
              exact x_join x13 H ⟨rfl, rfl, rfl, trivial⟩
          ·
            refine c_exit ?_
            refine x_te ?_
            refine x_te ?_
            refine x_bh ?_
            refine x_seq ?_
            refine c_weak [(3, .pointer (some (⟨b3, 0, none⟩ : Addr)))] ⟨rfl, trivial⟩ ?_
            refine c_seq ?_
            refine c_seq ?_
            refine c_region ?_
            refine w_p tok rfl rfl rfl ?_
            refine w_end ?_
            refine x_seq ?_
            refine c_block ?_
            obtain ⟨I5, μ5, H0, HI⟩ := H
            refine c_loop (σ := Int) (fun (s : Int) => [(6, .int .i64 s), (3, .pointer (some (⟨b3, 0, none⟩ : Addr)))]) I5 μ5 0 H0 ⟨rfl, rfl, trivial⟩ ?_
            rintro t6_5 h_5 H
            replace H := HI t6_5 h_5 H
            unfold ref15_Great_l5b at H
            refine c_weak [(6, .int .i64 t6_5), (3, .pointer (some (⟨b3, 0, none⟩ : Addr)))] ⟨rfl, rfl, trivial⟩ ?_
            refine c_seq ?_
            refine c_seq ?_
            refine c_region ?_
            refine w_p tok rfl rfl rfl ?_
            refine w_p tok rfl rfl rfl ?_
            obtain ⟨v14, hv14, H⟩ := H
            refine w_y (y_ld tok rfl rfl rfl rfl hv14) rfl rfl ?_
            refine w_p tok rfl rfl rfl ?_
            refine w_p tok rfl rfl rfl ?_
            refine w_end ?_
            refine x_seq ?_
            refine c_if H rfl (fun H => ?_) (fun H => ?_)
            ·
              refine c_skip ?_
              refine x_seq ?_
              refine c_seq ?_
              refine c_block ?_
              refine c_seq ?_
              refine c_draw (by kernel_rfl) (by kernel_rfl) ?_
              refine q_p tok rfl rfl rfl ?_
              obtain ⟨v15, hv15, H⟩ := H
              refine q_y (y_ld tok rfl rfl rfl rfl hv15) rfl rfl ?_
              refine q_p tok rfl rfl rfl ?_
              obtain ⟨a16, ha16, la16, ua16, H⟩ := H
              refine q_y (y_ixa' tok rfl rfl ha16 rfl rfl rfl la16 ua16) rfl rfl ?_
              refine q_p tok rfl rfl rfl ?_
              obtain ⟨v17, hv17, H⟩ := H
              refine q_y (y_ld tok rfl rfl rfl rfl hv17) rfl rfl ?_
              refine q_p tok rfl rfl rfl ?_
              refine q_p tok rfl rfl rfl ?_
              obtain ⟨v18, hv18, H⟩ := H
              refine q_y (y_ld tok rfl rfl rfl rfl hv18) rfl rfl ?_
              refine q_p tok rfl rfl rfl ?_
              obtain ⟨a19, ha19, la19, ua19, H⟩ := H
              refine q_y (y_ixa' tok rfl rfl ha19 rfl rfl rfl la19 ua19) rfl rfl ?_
              refine q_p tok rfl rfl rfl ?_
              obtain ⟨v20, hv20, H⟩ := H
              refine q_y (y_ld tok rfl rfl rfl rfl hv20) rfl rfl ?_
              refine q_p tok rfl rfl rfl ?_
              refine q_p tok rfl rfl rfl ?_
              refine q_p tok rfl rfl rfl ?_
              refine q_end ?_
              refine x_seq ?_
              refine c_weak [(6, .int .i64 t6_5), (3, .pointer (some (⟨b3, 0, none⟩ : Addr))), (74, .bool (decide ((IntKind.i64.wrap ((v17.size : Int) + (v20.size : Int))) > 200)))] ⟨rfl, rfl, rfl, trivial⟩ ?_
              refine c_if H rfl (fun H => ?_) (fun H => ?_)
              ·
                refine c_seq ?_
                refine c_region ?_
                refine w_p tok rfl rfl rfl ?_
                refine w_end ?_
                refine x_seq ?_
                refine c_ret ?_
                refine x_br ?_
                refine x_tr ?_
                refine x_tr ?_
                refine x_br ?_
                refine x_tr ?_
                exact x_ret _ rfl _ rfl ⟨true, rfl, H⟩
              ·
                refine c_skip ?_
                refine x_blk ?_
                refine x_seq ?_
                refine c_region ?_
                refine w_p tok rfl rfl rfl ?_
                refine w_p tok rfl rfl rfl ?_
                obtain ⟨x21, ex21, H⟩ := H
                refine w_pe tok rfl (congrArg (fun z => (.int .i64 z : Value)) ex21) rfl rfl ?_
                refine w_end ?_
                exact x_join x21 H ⟨rfl, rfl, trivial⟩
            ·
              refine c_exit ?_
              refine x_te ?_
              refine x_te ?_
              refine x_bh ?_
              refine x_seq ?_
              refine c_weak [] trivial ?_
              refine c_seq ?_
              refine c_region ?_
              refine w_p tok rfl rfl rfl ?_
              refine w_end ?_
              refine x_seq ?_
              refine c_ret ?_
              exact x_ret _ rfl _ rfl ⟨false, rfl, H⟩
      ·
        refine w_gif (d := 23) H rfl (fun H => ?_) (fun H => ?_)
        ·
          refine w_skip rfl rfl ?_
          refine w_skip rfl rfl ?_
          refine w_skip rfl rfl ?_
          refine w_skip rfl rfl ?_
          refine w_p tok rfl rfl rfl ?_
          exact w_jn true H ⟨rfl, rfl, rfl, trivial⟩
        ·
          refine w_p tok rfl rfl rfl ?_
          obtain ⟨v22, hv22, H⟩ := H
          refine w_y (y_ld tok rfl rfl rfl rfl hv22) rfl rfl ?_
          refine w_p tok rfl rfl rfl ?_
          refine w_p tok rfl rfl rfl ?_
          refine w_p tok rfl rfl rfl ?_
          exact w_jn (decide ((v22.len : Int) > 20)) H ⟨rfl, rfl, rfl, trivial⟩
    ·
      refine w_gif (d := 17) H rfl (fun H => ?_) (fun H => ?_)
      ·
        refine w_skip rfl rfl ?_
        refine w_skip rfl rfl ?_
        refine w_skip rfl rfl ?_
        refine w_skip rfl rfl ?_
        refine w_p tok rfl rfl rfl ?_
        exact w_jn true H ⟨rfl, rfl, rfl, trivial⟩
      ·
        refine w_p tok rfl rfl rfl ?_
        obtain ⟨v23, hv23, H⟩ := H
        refine w_y (y_ld tok rfl rfl rfl rfl hv23) rfl rfl ?_
        refine w_p tok rfl rfl rfl ?_
        refine w_p tok rfl rfl rfl ?_
        refine w_p tok rfl rfl rfl ?_
        exact w_jn (decide ((v23.len : Int) > 20)) H ⟨rfl, rfl, rfl, trivial⟩
  ·
    refine w_gif (d := 11) H rfl (fun H => ?_) (fun H => ?_)
    ·
      refine w_skip rfl rfl ?_
      refine w_skip rfl rfl ?_
      refine w_skip rfl rfl ?_
      refine w_skip rfl rfl ?_
      refine w_p tok rfl rfl rfl ?_
      exact w_jn true H ⟨rfl, rfl, rfl, trivial⟩
    ·
      refine w_p tok rfl rfl rfl ?_
      obtain ⟨v24, hv24, H⟩ := H
      refine w_y (y_ld tok rfl rfl rfl rfl hv24) rfl rfl ?_
      refine w_p tok rfl rfl rfl ?_
      refine w_p tok rfl rfl rfl ?_
      refine w_p tok rfl rfl rfl ?_
      exact w_jn (decide ((v24.size : Int) > 100)) H ⟨rfl, rfl, rfl, trivial⟩

theorem law15_awake_ok : CallOk Go.Proofs.Try.prog 31 := ⟨_, Go.Proofs.Try.func31, by kernel_rfl, by kernel_rfl⟩
theorem law15_awake_ref (k : (Bool) → Heap → Prop) (h : Heap) (H : law15_awake k h) : CallsH Go.Proofs.Try.prog 31 #[] h (fun v h' => ∃ r : Bool, v = .bool r ∧ k r h') := by
  refine f_enter (N := 36) Go.Proofs.Try.func31 rfl rfl rfl (fun w0 => ?_)
  unfold law15_awake at H
  refine c_seq ?_
  refine c_region ?_
  refine w_p tok rfl rfl rfl ?_
  refine w_end ?_
  refine x_seq ?_
  refine c_seq ?_
  refine c_region ?_
  refine w_call label_Parse_ok (label_Parse_ref _ _ _ H) rfl rfl rfl rfl ?_
  rintro _ h2 ⟨r1, rfl, H⟩
  refine w_p tok rfl rfl rfl ?_
  refine w_p tok rfl rfl rfl ?_
  refine w_p tok rfl rfl rfl ?_
  obtain ⟨b3, h4, eb3, eh4, H⟩ := H
  refine w_h (h_alloc tok rfl rfl eb3 eh4) rfl rfl ?_
  obtain ⟨h5, wh5, eh5, H⟩ := H
  refine w_h (h_sts tok rfl rfl rfl rfl rfl (oneC (by kernel_rfl)) wh5 eh5) rfl rfl ?_
  refine w_p tok rfl rfl rfl ?_
  refine w_end ?_
  refine x_seq ?_
  refine c_seq ?_
  refine c_region ?_
  refine w_call label_Selector_ok (label_Selector_ref _ _ _ H) rfl rfl rfl rfl ?_
  rintro _ h7 ⟨r6, rfl, H⟩
  refine w_p tok rfl rfl rfl ?_
  refine w_p tok rfl rfl rfl ?_
  refine w_p tok rfl rfl rfl ?_
  obtain ⟨b8, h9, eb8, eh9, H⟩ := H
  refine w_h (h_alloc tok rfl rfl eb8 eh9) rfl rfl ?_
  obtain ⟨h10, wh10, eh10, H⟩ := H
  refine w_h (h_sts tok rfl rfl rfl rfl rfl (oneC (by kernel_rfl)) wh10 eh10) rfl rfl ?_
  refine w_p tok rfl rfl rfl ?_
  refine w_end ?_
  refine x_seq ?_
  refine c_weak [(1, .pointer (some (⟨b3, 0, none⟩ : Addr))), (2, .int .i64 r1.2), (3, .pointer (some (⟨b8, 0, none⟩ : Addr))), (4, .int .i64 r6.2)] ⟨rfl, rfl, rfl, rfl, trivial⟩ ?_
  refine c_seq ?_
  refine c_region ?_
  refine w_p tok rfl rfl rfl ?_
  refine w_p tok rfl rfl rfl ?_
  refine w_p tok rfl rfl rfl ?_
  refine w_cutU 3 [(18, .bool ((r1.2 == 0) && (r6.2 == 0))), (1, .pointer (some (⟨b3, 0, none⟩ : Addr))), (3, .pointer (some (⟨b8, 0, none⟩ : Addr)))] ?_ ?_
  ·
    refine w_p tok rfl rfl rfl ?_
    refine w_cut 5 (α := Bool) (fun (s : Bool) => [(24, .bool s), (1, .pointer (some (⟨b3, 0, none⟩ : Addr))), (3, .pointer (some (⟨b8, 0, none⟩ : Addr)))]) (fun (s : Bool) h => law15_awake_g1 (⟨b3, 0, none⟩ : Addr) (⟨b8, 0, none⟩ : Addr) s k h) ?_ ?_
    ·
      rintro t24_1 h_1 H
      replace H : law15_awake_g1 (⟨b3, 0, none⟩ : Addr) (⟨b8, 0, none⟩ : Addr) t24_1 k h_1 := H
      unfold law15_awake_g1 at H
      refine w_weak [(24, .bool t24_1), (1, .pointer (some (⟨b3, 0, none⟩ : Addr))), (3, .pointer (some (⟨b8, 0, none⟩ : Addr)))] ⟨rfl, rfl, rfl, trivial⟩ ?_
      refine w_p tok rfl rfl rfl ?_
      refine w_cut 5 (α := Bool) (fun (s : Bool) => [(30, .bool s), (1, .pointer (some (⟨b3, 0, none⟩ : Addr))), (3, .pointer (some (⟨b8, 0, none⟩ : Addr)))]) (fun (s : Bool) h => law15_awake_g2 (⟨b3, 0, none⟩ : Addr) (⟨b8, 0, none⟩ : Addr) s k h) ?_ ?_
      ·
        rintro t30_2 h_2 H
        replace H : law15_awake_g2 (⟨b3, 0, none⟩ : Addr) (⟨b8, 0, none⟩ : Addr) t30_2 k h_2 := H
        unfold law15_awake_g2 at H
        refine w_weak [(30, .bool t30_2), (1, .pointer (some (⟨b3, 0, none⟩ : Addr))), (3, .pointer (some (⟨b8, 0, none⟩ : Addr)))] ⟨rfl, rfl, rfl, trivial⟩ ?_
        refine w_p tok rfl rfl rfl ?_
        refine w_cut 4 (α := Bool) (fun (s : Bool) => [(35, .bool s)]) (fun (s : Bool) h => law15_awake_g3 s k h) ?_ ?_
        ·
          rintro t35_3 h_3 H
          replace H : law15_awake_g3 t35_3 k h_3 := H
          unfold law15_awake_g3 at H
          refine w_weak [(35, .bool t35_3)] ⟨rfl, trivial⟩ ?_
          refine w_p tok rfl rfl rfl ?_
          refine w_end ?_
          refine x_seq ?_
          refine c_ret ?_
          exact x_ret _ rfl _ rfl ⟨t35_3, rfl, H⟩
        ·
          refine w_gif (d := 31) H rfl (fun H => ?_) (fun H => ?_)
          ·
            obtain ⟨v11, hv11, H⟩ := H
            refine w_y (y_lda tok rfl rfl rfl rfl rfl hv11) rfl rfl ?_
            obtain ⟨v12, hv12, H⟩ := H
            refine w_y (y_lda tok rfl rfl rfl rfl rfl hv12) rfl rfl ?_
            refine w_call label_Chooses_ok (label_Chooses_ref _ _ _ _ H) rfl rfl rfl rfl ?_
            rintro _ h14 ⟨r13, rfl, H⟩
            refine w_p tok rfl rfl rfl ?_
            exact w_jn r13 H ⟨rfl, trivial⟩
          ·
            refine w_skip rfl rfl ?_
            refine w_skip rfl rfl ?_
            refine w_skip rfl rfl ?_
            refine w_p tok rfl rfl rfl ?_
            exact w_jn false H ⟨rfl, trivial⟩
      ·
        refine w_gif (d := 25) H rfl (fun H => ?_) (fun H => ?_)
        ·
          refine w_p tok rfl rfl rfl ?_
          obtain ⟨v15, hv15, H⟩ := H
          refine w_y (y_ld tok rfl rfl rfl rfl hv15) rfl rfl ?_
          refine w_p tok rfl rfl rfl ?_
          refine w_p tok rfl rfl rfl ?_
          refine w_p tok rfl rfl rfl ?_
          exact w_jn ((v15.len : Int) == 2) H ⟨rfl, rfl, rfl, trivial⟩
        ·
          refine w_skip rfl rfl ?_
          refine w_skip rfl rfl ?_
          refine w_skip rfl rfl ?_
          refine w_skip rfl rfl ?_
          refine w_p tok rfl rfl rfl ?_
          exact w_jn false H ⟨rfl, rfl, rfl, trivial⟩
    ·
      refine w_gif (d := 19) H rfl (fun H => ?_) (fun H => ?_)
      ·
        refine w_p tok rfl rfl rfl ?_
        obtain ⟨v16, hv16, H⟩ := H
        refine w_y (y_ld tok rfl rfl rfl rfl hv16) rfl rfl ?_
        refine w_p tok rfl rfl rfl ?_
        refine w_p tok rfl rfl rfl ?_
        refine w_p tok rfl rfl rfl ?_
        exact w_jn ((v16.len : Int) == 2) H ⟨rfl, rfl, rfl, trivial⟩
      ·
        refine w_skip rfl rfl ?_
        refine w_skip rfl rfl ?_
        refine w_skip rfl rfl ?_
        refine w_skip rfl rfl ?_
        refine w_p tok rfl rfl rfl ?_
        exact w_jn false H ⟨rfl, rfl, rfl, trivial⟩
  ·
    refine w_gs (d := 15) rfl (fun hb => ?_) (fun hb => ?_)
    ·
      refine w_p tok rfl rfl rfl ?_
      refine w_p tok rfl rfl rfl ?_
      refine w_p tok rfl rfl rfl ?_
      refine w_jn () rfl ⟨?_, rfl, rfl, trivial⟩
      exact congrArg (fun b => some (Value.bool b)) (and_t hb)
    ·
      refine w_skip rfl rfl ?_
      refine w_skip rfl rfl ?_
      refine w_p tok rfl rfl rfl ?_
      refine w_jn () rfl ⟨?_, rfl, rfl, trivial⟩
      exact congrArg (fun b => some (Value.bool b)) (and_f hb)

theorem law15_LabelChooses_ok : CallOk Go.Proofs.Try.prog 5 := ⟨_, Go.Proofs.Try.func5, by kernel_rfl, by kernel_rfl⟩
theorem law15_LabelChooses_ref (p0 : S_api_Selector) (p1 : S_api_Series) (k : (Bool) → Heap → Prop) (h : Heap) (H : law15_LabelChooses p0 p1 k h) : CallsH Go.Proofs.Try.prog 5 #[.agg (S_api_Selector.cs p0).toArray, .agg (S_api_Series.cs p1).toArray] h (fun v h' => ∃ r : Bool, v = .bool r ∧ k r h') := by
  refine f_enter (N := 24) Go.Proofs.Try.func5 rfl rfl rfl (fun w0 => ?_)
  unfold law15_LabelChooses at H
  refine c_weak [(0, .agg (S_api_Selector.cs p0).toArray), (1, .agg (S_api_Series.cs p1).toArray)] ⟨rfl, rfl, trivial⟩ ?_
  refine c_seq ?_
  refine c_region ?_
  obtain ⟨b1, h2, eb1, eh2, H⟩ := H
  refine w_h (h_box rfl rfl eb1 eh2) rfl rfl ?_
  obtain ⟨b3, h4, eb3, eh4, H⟩ := H
  refine w_h (h_box rfl rfl eb3 eh4) rfl rfl ?_
  refine w_p tok rfl rfl rfl ?_
  refine w_end ?_
  refine x_seq ?_
  refine c_seq ?_
  refine c_seq ?_
  refine c_region ?_
  obtain ⟨v5, hv5, H⟩ := H
  refine w_y (y_lda tok rfl rfl rfl rfl rfl hv5) rfl rfl ?_
  obtain ⟨v6, hv6, H⟩ := H
  refine w_y (y_lda tok rfl rfl rfl rfl rfl hv6) rfl rfl ?_
  refine w_call ref15_Great_ok (ref15_Great_ref _ _ _ _ H) rfl rfl rfl rfl ?_
  rintro _ h8 ⟨r7, rfl, H⟩
  refine w_end ?_
  refine x_seq ?_
  refine c_if H rfl (fun H => ?_) (fun H => ?_)
  ·
    refine c_seq ?_
    refine c_region ?_
    refine w_call law15_awake_ok (law15_awake_ref  _ _ H) rfl rfl rfl rfl ?_
    rintro _ h10 ⟨r9, rfl, H⟩
    refine w_p tok rfl rfl rfl ?_
    refine w_end ?_
    refine x_seq ?_
    refine c_weak [(4, .bool r9)] ⟨rfl, trivial⟩ ?_
    refine c_ret ?_
    refine x_tr ?_
    exact x_ret _ rfl _ rfl ⟨r9, rfl, H⟩
  ·
    refine c_skip ?_
    refine x_seq ?_
    refine c_seqJ (α := Bool) (fun (s : Bool) => [(4, .bool s)]) (fun (s : Bool) h => law15_LabelChooses_j1 s k h) ?_ ?_
    ·
      rintro t4_1 h_1 H
      replace H : law15_LabelChooses_j1 t4_1 k h_1 := H
      unfold law15_LabelChooses_j1 at H
      refine c_weak [(4, .bool t4_1)] ⟨rfl, trivial⟩ ?_
      refine c_ret ?_
      exact x_ret _ rfl _ rfl ⟨t4_1, rfl, H⟩
    ·
      refine c_sim [(2, .pointer (some (⟨b1, 0, none⟩ : Addr))), (3, .pointer (some (⟨b3, 0, none⟩ : Addr)))] (by kernel_rfl) (by kernel_rfl) ⟨rfl, rfl, trivial⟩ (fun wf => ?_)
      obtain ⟨v11, hv11, H⟩ := H
      refine sim_l 0 (ei := [(2, .pointer (some (⟨b1, 0, none⟩ : Addr)))]) (d := (some 9)) wf (by kernel_rfl) ⟨rfl, trivial⟩ (by kernel_rfl) (by kernel_rfl) (pf_y rfl rfl rfl (y_lda tok rfl rfl rfl rfl rfl hv11)) (fun P_0 => ?_)
      obtain ⟨v12, hv12, H⟩ := H
      refine sim_l 1 (ei := [(3, .pointer (some (⟨b3, 0, none⟩ : Addr)))]) (d := (some 10)) wf (by kernel_rfl) ⟨rfl, trivial⟩ (by kernel_rfl) (by kernel_rfl) (pf_y rfl rfl rfl (y_lda tok rfl rfl rfl rfl rfl hv12)) (fun P_1 => ?_)
      obtain ⟨v13, hv13, H⟩ := H
      refine sim_l 3 (ei := [(2, .pointer (some (⟨b1, 0, none⟩ : Addr)))]) (d := (some 12)) wf (by kernel_rfl) ⟨rfl, trivial⟩ (by kernel_rfl) (by kernel_rfl) (pf_y rfl rfl rfl (y_lda tok rfl rfl rfl rfl rfl hv13)) (fun P_3 => ?_)
      obtain ⟨v14, hv14, H⟩ := H
      refine sim_l 4 (ei := [(3, .pointer (some (⟨b3, 0, none⟩ : Addr)))]) (d := (some 13)) wf (by kernel_rfl) ⟨rfl, trivial⟩ (by kernel_rfl) (by kernel_rfl) (pf_y rfl rfl rfl (y_lda tok rfl rfl rfl rfl rfl hv14)) (fun P_4 => ?_)
      refine sim_c 2 [0, 1] [0, 1] (ei := [(9, .agg (S_api_Selector.cs v11).toArray), (10, .agg (S_api_Series.cs v12).toArray)]) label_Chooses_ok (label_Chooses_ref _ _ _ _ H) wf ⟨P_4, P_3, P_1, P_0, trivial⟩ (by kernel_rfl) ⟨rfl, rfl, trivial⟩ (by kernel_rfl) rfl rfl rfl rfl rfl ?_
      rintro _ h16 ⟨r15, rfl, H⟩
      obtain ⟨hy17, hy18, H⟩ := H
      refine sim_re (x := ⟨4, .agg (S_api_Series.cs v14).toArray, [(3, .pointer (some (⟨b3, 0, none⟩ : Addr)))]⟩) (pf_y rfl rfl rfl (y_lda tok rfl rfl rfl rfl rfl hy17)) (fun P_4 => ?_)
      refine sim_re (x := ⟨3, .agg (S_api_Selector.cs v13).toArray, [(2, .pointer (some (⟨b1, 0, none⟩ : Addr)))]⟩) (pf_y rfl rfl rfl (y_lda tok rfl rfl rfl rfl rfl hy18)) (fun P_3 => ?_)
      refine sim_c 5 [0, 1, 2, 3, 4] [0, 1, 3, 4] (ei := [(12, .agg (S_api_Selector.cs v13).toArray), (13, .agg (S_api_Series.cs v14).toArray)]) ref15_Chooses_ok (ref15_Chooses_ref _ _ _ _ H) wf ⟨P_4, P_3, trivial, trivial, trivial⟩ (by kernel_rfl) ⟨rfl, rfl, trivial⟩ (by kernel_rfl) rfl rfl rfl rfl rfl ?_
      rintro _ h20 ⟨r19, rfl, H⟩
      refine sim_p 6 (ei := [(11, .bool r15), (14, .bool r19)]) (d := (some 15)) wf (by kernel_rfl) ⟨rfl, rfl, trivial⟩ (by kernel_rfl) (by kernel_rfl) (fun _ => pf_p tok rfl rfl rfl rfl) (fun P_6 => ?_)
      refine sim_p 7 (ei := [(15, .bool ((r15 == r19)))]) (d := (some 16)) wf (by kernel_rfl) ⟨rfl, trivial⟩ (by kernel_rfl) (by kernel_rfl) (fun _ => pf_p tok rfl rfl rfl rfl) (fun P_7 => ?_)
      refine sim_gif 16 H rfl (fun hb H => ?_) (fun hb H => ?_)
      ·
        refine sim_p 8 (ei := [(16, .bool true)]) (d := (some 17)) wf (by kernel_rfl) ⟨rfl, trivial⟩ (by kernel_rfl) (by kernel_rfl) (fun _ => pf_y rfl rfl rfl (y_build tok rfl rfl rfl rfl rfl)) (fun P_8 => ?_)
        obtain ⟨v21, hv21, H⟩ := H
        refine sim_l 9 (ei := [(3, .pointer (some (⟨b3, 0, none⟩ : Addr))), (16, .bool true)]) (d := (some 18)) wf (by kernel_rfl) ⟨rfl, rfl, trivial⟩ (by kernel_rfl) (by kernel_rfl) (pf_y rfl rfl rfl (y_lda tok rfl rfl rfl rfl rfl hv21)) (fun P_9 => ?_)
        refine sim_c 10 [0, 1, 2, 3, 4, 5, 6, 7, 8, 9] [0, 1, 3, 4, 6, 7, 8, 9] (ei := [(16, .bool true), (17, .agg (S_api_Selector.cs (⟨ByteArray.empty, (⟨none, 0, 0⟩ : Slc)⟩ : S_api_Selector)).toArray), (18, .agg (S_api_Series.cs v21).toArray)]) label_Chooses_ok (label_Chooses_ref _ _ _ _ H) wf ⟨P_9, P_8 _, P_7 _, P_6 _, trivial, trivial, trivial, trivial, trivial⟩ (by kernel_rfl) ⟨rfl, rfl, rfl, trivial⟩ (by kernel_rfl) rfl rfl rfl rfl rfl ?_
        rintro _ h23 ⟨r22, rfl, H⟩
        refine sim_p 11 (ei := [(16, .bool true), (19, .bool r22)]) (d := (some 20)) wf (by kernel_rfl) ⟨rfl, rfl, trivial⟩ (by kernel_rfl) (by kernel_rfl) (fun _ => pf_p tok rfl rfl rfl rfl) (fun P_11 => ?_)
        refine sim_p 12 (ei := [(20, .bool r22)]) (d := (some 21)) wf (by kernel_rfl) ⟨rfl, trivial⟩ (by kernel_rfl) (by kernel_rfl) (fun _ => pf_p tok rfl rfl rfl rfl) (fun P_12 => ?_)
        refine sim_gif 21 H rfl (fun hb H => ?_) (fun hb H => ?_)
        ·
          refine sim_c 13 [0, 1, 2, 3, 4, 5, 6, 7, 8, 9, 10, 11, 12] [0, 1, 3, 4, 6, 7, 8, 9, 11, 12] (ei := [(21, .bool true)]) law15_awake_ok (law15_awake_ref  _ _ H) wf ⟨P_12 _, P_11 _, trivial, trivial, trivial, trivial, trivial, trivial, trivial, trivial, trivial⟩ (by kernel_rfl) ⟨rfl, trivial⟩ (by kernel_rfl) rfl rfl rfl rfl rfl ?_
          rintro _ h25 ⟨r24, rfl, H⟩
          refine sim_p 14 (ei := [(21, .bool true), (22, .bool r24)]) (d := (some 23)) wf (by kernel_rfl) ⟨rfl, rfl, trivial⟩ (by kernel_rfl) (by kernel_rfl) (fun _ => pf_p tok rfl rfl rfl rfl) (fun P_14 => ?_)
          refine sim_p 15 (ei := [(23, .bool r24)]) (d := (some 4)) wf (by kernel_rfl) ⟨rfl, trivial⟩ (by kernel_rfl) (by kernel_rfl) (fun _ => pf_p tok rfl rfl rfl rfl) (fun P_15 => ?_)
          refine sim_end wf ⟨P_15 _, P_14 _, trivial, trivial, trivial, trivial, trivial, trivial, trivial, trivial, trivial, trivial, trivial⟩ (by kernel_rfl) ?_
          clear wf P_0 P_1 P_11 P_12 P_14 P_15 P_3 P_4 P_6 P_7 P_8 P_9
          exact x_join r24 H ⟨rfl, trivial⟩
        ·
          refine sim_p 13 (v := undef) (ei := [(21, .bool false)]) (d := (some 22)) wf (by kernel_rfl) ⟨rfl, trivial⟩ (by kernel_rfl) (by kernel_rfl) (fun _ => pf_s rfl rfl rfl) (fun P_13 => ?_)
          refine sim_p 14 (ei := [(21, .bool false), (22, undef)]) (d := (some 23)) wf (by kernel_rfl) ⟨rfl, rfl, trivial⟩ (by kernel_rfl) (by kernel_rfl) (fun _ => pf_p tok rfl rfl rfl rfl) (fun P_14 => ?_)
          refine sim_p 15 (ei := [(23, .bool false)]) (d := (some 4)) wf (by kernel_rfl) ⟨rfl, trivial⟩ (by kernel_rfl) (by kernel_rfl) (fun _ => pf_p tok rfl rfl rfl rfl) (fun P_15 => ?_)
          refine sim_end wf ⟨P_15 _, P_14 _, P_13 _, P_12 _, P_11 _, trivial, trivial, trivial, trivial, trivial, trivial, trivial, trivial, trivial⟩ (by kernel_rfl) ?_
          clear wf P_0 P_1 P_11 P_12 P_13 P_14 P_15 P_3 P_4 P_6 P_7 P_8 P_9
          exact x_join false H ⟨rfl, trivial⟩
      ·
        refine sim_p 8 (v := undef) (ei := [(16, .bool false)]) (d := (some 17)) wf (by kernel_rfl) ⟨rfl, trivial⟩ (by kernel_rfl) (by kernel_rfl) (fun _ => pf_s rfl rfl rfl) (fun P_8 => ?_)
        refine sim_p 9 (v := undef) (ei := [(3, .pointer (some (⟨b3, 0, none⟩ : Addr))), (16, .bool false)]) (d := (some 18)) wf (by kernel_rfl) ⟨rfl, rfl, trivial⟩ (by kernel_rfl) (by kernel_rfl) (fun _ => pf_s rfl rfl rfl) (fun P_9 => ?_)
        refine sim_p 10 (v := undef) (ei := [(16, .bool false), (17, undef), (18, undef)]) (d := (some 19)) wf (by kernel_rfl) ⟨rfl, rfl, rfl, trivial⟩ (by kernel_rfl) (by kernel_rfl) (fun _ => pf_s rfl rfl rfl) (fun P_10 => ?_)
        refine sim_p 11 (ei := [(16, .bool false), (19, undef)]) (d := (some 20)) wf (by kernel_rfl) ⟨rfl, rfl, trivial⟩ (by kernel_rfl) (by kernel_rfl) (fun _ => pf_p tok rfl rfl rfl rfl) (fun P_11 => ?_)
        refine sim_p 12 (ei := [(20, .bool false)]) (d := (some 21)) wf (by kernel_rfl) ⟨rfl, trivial⟩ (by kernel_rfl) (by kernel_rfl) (fun _ => pf_p tok rfl rfl rfl rfl) (fun P_12 => ?_)
        refine sim_gif 21 H rfl (fun hb H => ?_) (fun hb H => ?_)
        ·
          refine sim_c 13 [0, 1, 2, 3, 4, 5, 6, 7, 8, 9, 10, 11, 12] [0, 1, 3, 4, 6, 7, 8, 9, 10, 11, 12] (ei := [(21, .bool true)]) law15_awake_ok (law15_awake_ref  _ _ H) wf ⟨P_12 _, P_11 _, P_10 _, P_9 _, P_8 _, P_7 _, P_6 _, trivial, trivial, trivial, trivial, trivial⟩ (by kernel_rfl) ⟨rfl, trivial⟩ (by kernel_rfl) rfl rfl rfl rfl rfl ?_
          rintro _ h27 ⟨r26, rfl, H⟩
          refine sim_p 14 (ei := [(21, .bool true), (22, .bool r26)]) (d := (some 23)) wf (by kernel_rfl) ⟨rfl, rfl, trivial⟩ (by kernel_rfl) (by kernel_rfl) (fun _ => pf_p tok rfl rfl rfl rfl) (fun P_14 => ?_)
          refine sim_p 15 (ei := [(23, .bool r26)]) (d := (some 4)) wf (by kernel_rfl) ⟨rfl, trivial⟩ (by kernel_rfl) (by kernel_rfl) (fun _ => pf_p tok rfl rfl rfl rfl) (fun P_15 => ?_)
          refine sim_end wf ⟨P_15 _, P_14 _, trivial, trivial, trivial, trivial, trivial, trivial, trivial, trivial, trivial, trivial, trivial, trivial⟩ (by kernel_rfl) ?_
          clear wf P_0 P_1 P_10 P_11 P_12 P_14 P_15 P_3 P_4 P_6 P_7 P_8 P_9
          exact x_join r26 H ⟨rfl, trivial⟩
        ·
          refine sim_p 13 (v := undef) (ei := [(21, .bool false)]) (d := (some 22)) wf (by kernel_rfl) ⟨rfl, trivial⟩ (by kernel_rfl) (by kernel_rfl) (fun _ => pf_s rfl rfl rfl) (fun P_13 => ?_)
          refine sim_p 14 (ei := [(21, .bool false), (22, undef)]) (d := (some 23)) wf (by kernel_rfl) ⟨rfl, rfl, trivial⟩ (by kernel_rfl) (by kernel_rfl) (fun _ => pf_p tok rfl rfl rfl rfl) (fun P_14 => ?_)
          refine sim_p 15 (ei := [(23, .bool false)]) (d := (some 4)) wf (by kernel_rfl) ⟨rfl, trivial⟩ (by kernel_rfl) (by kernel_rfl) (fun _ => pf_p tok rfl rfl rfl rfl) (fun P_15 => ?_)
          refine sim_end wf ⟨P_15 _, P_14 _, P_13 _, P_12 _, P_11 _, P_10 _, P_9 _, P_8 _, P_7 _, P_6 _, trivial, trivial, trivial, trivial, trivial⟩ (by kernel_rfl) ?_
          clear wf P_0 P_1 P_10 P_11 P_12 P_13 P_14 P_15 P_3 P_4 P_6 P_7 P_8 P_9
          exact x_join false H ⟨rfl, trivial⟩
end Go.Q.Yb

/- A part of the proof of statements of this seat: lemmas, no statement of their own. -/
import Derived.Test.YtidhlagdagbggaaGreatYzTab
import Derived.Test.YtidhlagdagbggaaGreatYzLab
import Derived.Test.YtidhlagdagbggaaGreatQEq
import Derived.Test.YtidhlagdagbggaaGreatQShort
-- squeezed
set_option linter.unusedVariables false
set_option linter.unusedSimpArgs false
set_option maxRecDepth 100000
set_option maxHeartbeats 1000000
namespace Go.Q.Yz
open Go.RowKit in
theorem eqv103_S_api_Label (a b : S_api_Label) (w : World) : (Op.equal 103 (.agg (S_api_Label.cs a).toArray) (.agg (S_api_Label.cs b).toArray)).run Go.Proofs.Tryz.prog w = .ok ((a.f_Name.toList == b.f_Name.toList) && (a.f_Value.toList == b.f_Value.toList)) w := by
 have hS : Go.Proofs.Tryz.prog.underlying 103 = some (.struct (Go.Proofs.Tryz.prog.fieldsOf 103)) := by kernel_rfl
 have hp : Go.Proofs.Tryz.prog.stoodInHeld 103 = false := by kernel_rfl
 have u9 := Go.Proofs.Tryz.underlying9
 have a9 : ∀ w, (isAgg 9).run Go.Proofs.Tryz.prog w = .ok false w := Go.Proofs.Tryz.isAgg9
 unfold Op.equal Op.maxDepth
 rw [show (10000 : Nat) = 9999 + 1 from rfl, run_equalIn_struct w 9999 103 _ _ hS hp]
 simp only [Program.fieldsOf, Go.Proofs.Tryz.underlying103, S_api_Label.cs]
 go_simp
 by_cases h0 : (a.f_Name.toList = b.f_Name.toList) <;> by_cases h1 : (a.f_Value.toList = b.f_Value.toList) <;> simp [h0, h1]
/-- slices.Index   quaestor api.Label quaestor api.Label  -/
def slices_Index_api_Label_api_Label_l1b (t0_1 : Slc) (t3_1 : Addr) (t7_1 : Int) (t8_1 : Int) (k : (Int) → Heap → Prop) (nx1 : (Int) → Heap → Prop) (h_1 : Heap) : Prop :=
 if (decide (t8_1 < t7_1)) then (∃ v3 : S_api_Label, CellsAt h_1 t3_1 (S_api_Label.cs v3) ∧ (∃ a4 : Addr, t0_1.a = some a4 ∧ (0 : Int) ≤ t8_1 ∧ t8_1 < (t0_1.len : Int) ∧ (∃ v5 : S_api_Label, CellsAt h_1 (a4.add (t8_1.toNat * 2)) (S_api_Label.cs v5) ∧ (if (if BinOp.eql = .eql then ((v3.f_Name.toList == v5.f_Name.toList) && (v3.f_Value.toList == v5.f_Value.toList)) else !((v3.f_Name.toList == v5.f_Name.toList) && (v3.f_Value.toList == v5.f_Value.toList))) then (k t8_1 h_1) else (nx1 (IntKind.i64.wrap (t8_1 + 1)) h_1))))) else (∃ x6 : Int, x6 = (-1) ∧ (k x6 h_1))
def slices_Index_api_Label_api_Label_l1 (t0_1 : Slc) (t3_1 : Addr) (t7_1 : Int) (i8 : Int) (k : (Int) → Heap → Prop) (h : Heap) : Prop :=
 ∃ (I : Int → Heap → Prop) (μ : Int → Heap → Nat), I i8 h ∧ ∀ (t8_1 : Int) (h : Heap), I t8_1 h → slices_Index_api_Label_api_Label_l1b t0_1 t3_1 t7_1 t8_1 k (fun s h' => I s h' ∧ μ s h' < μ t8_1 h) h
def slices_Index_api_Label_api_Label (p0 : Slc) (p1 : S_api_Label) (k : (Int) → Heap → Prop) (h : Heap) : Prop :=
 ∃ (b1 : Nat) (h2 : Heap), b1 = h.size ∧ h2 = h.push (.cells (S_api_Label.cs p1).toArray 103) ∧ (slices_Index_api_Label_api_Label_l1 p0 (⟨b1, 0, none⟩ : Addr) (p0.len : Int) 0 k h2)

/-- slices.Contains   quaestor api.Label quaestor api.Label  -/
def slices_Contains_api_Label_api_Label (p0 : Slc) (p1 : S_api_Label) (k : (Bool) → Heap → Prop) (h : Heap) : Prop :=
 ∃ (b1 : Nat) (h2 : Heap), b1 = h.size ∧ h2 = h.push (.cells (S_api_Label.cs p1).toArray 103) ∧ (∃ v3 : S_api_Label, CellsAt h2 (⟨b1, 0, none⟩ : Addr) (S_api_Label.cs v3) ∧ (slices_Index_api_Label_api_Label p0 v3 (fun (r4 : Int) h5 => k (decide (r4 ≥ 0)) h5) h2))

/-- quaestor label.answers 1 -/
def label_answers_1_g1 (t15_1 : Bool) (k : (Bool) → Heap → Prop) (h_1 : Heap) : Prop :=
 k t15_1 h_1
def label_answers_1 (p0 : S_api_Label) (p1 : Addr) (k : (Bool) → Heap → Prop) (h : Heap) : Prop :=
 ∃ (b1 : Nat) (h2 : Heap), b1 = h.size ∧ h2 = h.push (.cells (S_api_Label.cs p0).toArray 103) ∧ (∃ v3 : ByteArray, cellH h2 (⟨b1, 0, none⟩ : Addr) = some (.string v3) ∧ (∃ v4 : ByteArray, cellH h2 p1 = some (.string v4) ∧ (if (v3.toList == v4.toList) then (∃ v5 : ByteArray, cellH h2 ((⟨b1, 0, none⟩ : Addr).add 1) = some (.string v5) ∧ (∃ v6 : ByteArray, cellH h2 (p1.add 2) = some (.string v6) ∧ (strings_HasPrefix v5 v6 (fun (r7 : Bool) h8 => label_answers_1_g1 r7 k h8) h2))) else (label_answers_1_g1 false k h2))))

/-- slices.IndexFunc   quaestor api.Label quaestor api.Label  -/
def slices_IndexFunc_api_Label_api_Label__label_answers_1_l1b (t0_1 : Slc) (t1c0_1 : Addr) (t7_1 : Int) (t8_1 : Int) (k : (Int) → Heap → Prop) (nx1 : (Int) → Heap → Prop) (h_1 : Heap) : Prop :=
 if (decide (t8_1 < t7_1)) then (∃ a1 : Addr, t0_1.a = some a1 ∧ (0 : Int) ≤ t8_1 ∧ t8_1 < (t0_1.len : Int) ∧ (∃ v2 : S_api_Label, CellsAt h_1 (a1.add (t8_1.toNat * 2)) (S_api_Label.cs v2) ∧ (label_answers_1 v2 t1c0_1 (fun (r3 : Bool) h4 => if r3 then (k t8_1 h4) else (nx1 (IntKind.i64.wrap (t8_1 + 1)) h4)) h_1))) else (∃ x5 : Int, x5 = (-1) ∧ (k x5 h_1))
def slices_IndexFunc_api_Label_api_Label__label_answers_1_l1 (t0_1 : Slc) (t1c0_1 : Addr) (t7_1 : Int) (i8 : Int) (k : (Int) → Heap → Prop) (h : Heap) : Prop :=
 ∃ (I : Int → Heap → Prop) (μ : Int → Heap → Nat), I i8 h ∧ ∀ (t8_1 : Int) (h : Heap), I t8_1 h → slices_IndexFunc_api_Label_api_Label__label_answers_1_l1b t0_1 t1c0_1 t7_1 t8_1 k (fun s h' => I s h' ∧ μ s h' < μ t8_1 h) h
def slices_IndexFunc_api_Label_api_Label__label_answers_1 (p0 : Slc) (p1c0 : Addr) (k : (Int) → Heap → Prop) (h : Heap) : Prop :=
 slices_IndexFunc_api_Label_api_Label__label_answers_1_l1 p0 p1c0 (p0.len : Int) 0 k h

/-- slices.ContainsFunc   quaestor api.Label quaestor api.Label  -/
def slices_ContainsFunc_api_Label_api_Label__label_answers_1 (p0 : Slc) (p1c0 : Addr) (k : (Bool) → Heap → Prop) (h : Heap) : Prop :=
 slices_IndexFunc_api_Label_api_Label__label_answers_1 p0 p1c0 (fun (r1 : Int) h2 => k (decide (r1 ≥ 0)) h2) h

/-- quaestor label.answers -/
def label_answers (p0 : S_api_Question) (p1 : S_api_Series) (k : (Bool) → Heap → Prop) (h : Heap) : Prop :=
 ∃ (b1 : Nat) (h2 : Heap), b1 = h.size ∧ h2 = h.push (.cells (S_api_Question.cs p0).toArray 86) ∧ (∃ (b3 : Nat) (h4 : Heap), b3 = h2.size ∧ h4 = h2.push (.cells (S_api_Series.cs p1).toArray 62) ∧ (∃ v5 : Int, cellH h4 ((⟨b1, 0, none⟩ : Addr).add 1) = some (.int .i64 v5) ∧ (if (v5 == 0) then (∃ v6 : Slc, cellH h4 ((⟨b3, 0, none⟩ : Addr).add 1) = some (Slc.v v6) ∧ (∃ v7 : ByteArray, cellH h4 (⟨b1, 0, none⟩ : Addr) = some (.string v7) ∧ (∃ v8 : ByteArray, cellH h4 ((⟨b1, 0, none⟩ : Addr).add 2) = some (.string v8) ∧ (slices_Contains_api_Label_api_Label v6 (⟨v7, v8⟩ : S_api_Label) (fun (r9 : Bool) h10 => k r9 h10) h4)))) else (if (v5 == 1) then (∃ v11 : Slc, cellH h4 ((⟨b3, 0, none⟩ : Addr).add 1) = some (Slc.v v11) ∧ (∃ v12 : ByteArray, cellH h4 (⟨b1, 0, none⟩ : Addr) = some (.string v12) ∧ (∃ v13 : ByteArray, cellH h4 ((⟨b1, 0, none⟩ : Addr).add 2) = some (.string v13) ∧ (slices_Contains_api_Label_api_Label v11 (⟨v12, v13⟩ : S_api_Label) (fun (r14 : Bool) h15 => k (!r14) h15) h4)))) else (if (v5 == 2) then (∃ v16 : Slc, cellH h4 ((⟨b3, 0, none⟩ : Addr).add 1) = some (Slc.v v16) ∧ (slices_ContainsFunc_api_Label_api_Label__label_answers_1 v16 (⟨b1, 0, none⟩ : Addr) (fun (r17 : Bool) h18 => k r17 h18) h4)) else (k false h4))))))

/-- quaestor label.Chooses 1 -/
def label_Chooses_1 (p0 : S_api_Question) (p1 : Addr) (k : (Bool) → Heap → Prop) (h : Heap) : Prop :=
 ∃ (b1 : Nat) (h2 : Heap), b1 = h.size ∧ h2 = h.push (.cells (S_api_Question.cs p0).toArray 86) ∧ (∃ v3 : S_api_Question, CellsAt h2 (⟨b1, 0, none⟩ : Addr) (S_api_Question.cs v3) ∧ (∃ v4 : S_api_Series, CellsAt h2 p1 (S_api_Series.cs v4) ∧ (label_answers v3 v4 (fun (r5 : Bool) h6 => k (!r5) h6) h2)))

/-- slices.IndexFunc   quaestor api.Question quaestor api.Question  -/
def slices_IndexFunc_api_Question_api_Question__label_Chooses_1_l1b (t0_1 : Slc) (t1c0_1 : Addr) (t7_1 : Int) (t8_1 : Int) (k : (Int) → Heap → Prop) (nx1 : (Int) → Heap → Prop) (h_1 : Heap) : Prop :=
 if (decide (t8_1 < t7_1)) then (∃ a1 : Addr, t0_1.a = some a1 ∧ (0 : Int) ≤ t8_1 ∧ t8_1 < (t0_1.len : Int) ∧ (∃ v2 : S_api_Question, CellsAt h_1 (a1.add (t8_1.toNat * 3)) (S_api_Question.cs v2) ∧ (label_Chooses_1 v2 t1c0_1 (fun (r3 : Bool) h4 => if r3 then (k t8_1 h4) else (nx1 (IntKind.i64.wrap (t8_1 + 1)) h4)) h_1))) else (∃ x5 : Int, x5 = (-1) ∧ (k x5 h_1))
def slices_IndexFunc_api_Question_api_Question__label_Chooses_1_l1 (t0_1 : Slc) (t1c0_1 : Addr) (t7_1 : Int) (i8 : Int) (k : (Int) → Heap → Prop) (h : Heap) : Prop :=
 ∃ (I : Int → Heap → Prop) (μ : Int → Heap → Nat), I i8 h ∧ ∀ (t8_1 : Int) (h : Heap), I t8_1 h → slices_IndexFunc_api_Question_api_Question__label_Chooses_1_l1b t0_1 t1c0_1 t7_1 t8_1 k (fun s h' => I s h' ∧ μ s h' < μ t8_1 h) h
def slices_IndexFunc_api_Question_api_Question__label_Chooses_1 (p0 : Slc) (p1c0 : Addr) (k : (Int) → Heap → Prop) (h : Heap) : Prop :=
 slices_IndexFunc_api_Question_api_Question__label_Chooses_1_l1 p0 p1c0 (p0.len : Int) 0 k h

/-- slices.ContainsFunc   quaestor api.Question quaestor api.Question  -/
def slices_ContainsFunc_api_Question_api_Question__label_Chooses_1 (p0 : Slc) (p1c0 : Addr) (k : (Bool) → Heap → Prop) (h : Heap) : Prop :=
 slices_IndexFunc_api_Question_api_Question__label_Chooses_1 p0 p1c0 (fun (r1 : Int) h2 => k (decide (r1 ≥ 0)) h2) h

/-- quaestor label.Chooses -/
def label_Chooses_g1 (t2_1 : Addr) (t3_1 : Addr) (t14_1 : Bool) (k : (Bool) → Heap → Prop) (h_1 : Heap) : Prop :=
 if t14_1 then (k false h_1) else (∃ v6 : Slc, cellH h_1 (t2_1.add 1) = some (Slc.v v6) ∧ (slices_ContainsFunc_api_Question_api_Question__label_Chooses_1 v6 t3_1 (fun (r7 : Bool) h8 => k (!r7) h8) h_1))
def label_Chooses (p0 : S_api_Selector) (p1 : S_api_Series) (k : (Bool) → Heap → Prop) (h : Heap) : Prop :=
 ∃ (b1 : Nat) (h2 : Heap), b1 = h.size ∧ h2 = h.push (.cells (S_api_Selector.cs p0).toArray 53) ∧ (∃ (b3 : Nat) (h4 : Heap), b3 = h2.size ∧ h4 = h2.push (.cells (S_api_Series.cs p1).toArray 62) ∧ (∃ v5 : ByteArray, cellH h4 (⟨b1, 0, none⟩ : Addr) = some (.string v5) ∧ (if (!(v5.toList == (⟨#[]⟩ : ByteArray).toList)) then (∃ v9 : ByteArray, cellH h4 (⟨b1, 0, none⟩ : Addr) = some (.string v9) ∧ (∃ v10 : ByteArray, cellH h4 (⟨b3, 0, none⟩ : Addr) = some (.string v10) ∧ (label_Chooses_g1 (⟨b1, 0, none⟩ : Addr) (⟨b3, 0, none⟩ : Addr) (!(v9.toList == v10.toList)) k h4))) else (label_Chooses_g1 (⟨b1, 0, none⟩ : Addr) (⟨b3, 0, none⟩ : Addr) false k h4))))

theorem slices_Index_api_Label_api_Label_ok : CallOk Go.Proofs.Tryz.prog 88 := ⟨_, Go.Proofs.Tryz.func88, by kernel_rfl, by kernel_rfl⟩
theorem slices_Index_api_Label_api_Label_ref (p0 : Slc) (p1 : S_api_Label) (k : (Int) → Heap → Prop) (h : Heap) (H : slices_Index_api_Label_api_Label p0 p1 k h) : CallsH Go.Proofs.Tryz.prog 88 #[Slc.v p0, .agg (S_api_Label.cs p1).toArray] h (fun v h' => ∃ r : Int, v = .int .i64 r ∧ k r h') := by
 refine f_enter (N := 19) Go.Proofs.Tryz.func88 rfl rfl rfl (fun w0 => ?_)
 unfold slices_Index_api_Label_api_Label at H
 refine cW [(0, Slc.v p0), (1, .agg (S_api_Label.cs p1).toArray)] ?_
 refine c_seq (c_region ?_)
 obtain ⟨b1, h2, eb1, eh2, H⟩ := H
 refine w_h (h_box rfl rfl eb1 eh2) rfl rfl ?_
 refine wP tok ?_
 refine w_end (x_seq ?_)
 refine c_seq (c_seq (c_region ?_))
 iterate 3 refine wP tok ?_
 refine w_end (x_seq (c_block ?_))
 obtain ⟨I1, μ1, H0, HI⟩ := H
 refine c_loop (σ := Int) (fun (s : Int) => [(8, .int .i64 s), (0, Slc.v p0), (3, pt b1), (7, .int .i64 (p0.len : Int))]) I1 μ1 0 H0 ⟨rfl, rfl, rfl, rfl, trivial⟩ ?_
 rintro t8_1 h_1 H
 replace H := HI t8_1 h_1 H
 unfold slices_Index_api_Label_api_Label_l1b at H
 refine cW [(8, .int .i64 t8_1), (0, Slc.v p0), (3, pt b1), (7, .int .i64 (p0.len : Int))] ?_
 refine c_seq (c_region ?_)
 refine wP tok ?_
 refine w_end (x_seq (c_seq ?_))
 refine c_if H rfl (fun H => ?_) (fun H => ?_)
 ·
  refine c_skip (x_seq ?_)
  refine c_seq (c_block ?_)
  refine c_seq (c_region ?_)
  iterate 2 refine wP tok ?_
  refine w_end (x_seq (c_seq ?_))
  refine c_draw (by kernel_rfl) (by kernel_rfl) ?_
  obtain ⟨v3, hv3, H⟩ := H
  refine q_y (y_lda tok rfl rfl rfl rfl rfl hv3) rfl rfl ?_
  iterate 2 refine q_p tok rfl rfl rfl ?_
  obtain ⟨a4, ha4, la4, ua4, H⟩ := H
  refine q_y (y_ixa' tok rfl rfl ha4 rfl rfl rfl la4 ua4) rfl rfl ?_
  obtain ⟨v5, hv5, H⟩ := H
  refine q_y (y_lda tok rfl rfl rfl rfl rfl hv5) rfl rfl ?_
  refine q_y (y_eqs (op := .eql) (xs := S_api_Label.cs v3) (ys := S_api_Label.cs v5) (.inl rfl) rfl rfl rfl (eqv103_S_api_Label v3 v5) (by kernel_rfl)) rfl rfl ?_
  refine q_end ?_
  refine x_seq ?_
  refine cW [(8, .int .i64 t8_1), (0, Slc.v p0), (3, pt b1), (7, .int .i64 (p0.len : Int)), (5, .int .i64 t8_1), (16, .bool (if BinOp.eql = .eql then ((v3.f_Name.toList == v5.f_Name.toList) && (v3.f_Value.toList == v5.f_Value.toList)) else !((v3.f_Name.toList == v5.f_Name.toList) && (v3.f_Value.toList == v5.f_Value.toList))))] ?_
  refine c_if H rfl (fun H => ?_) (fun H => ?_)
  ·
   refine c_seq (c_region ?_)
   iterate 2 refine wP tok ?_
   refine w_end (x_seq ?_)
   refine cW [(4, .int .i64 t8_1)] ?_
   refine c_ret ?_
   refine x_br ?_
   refine x_tr (x_tr ?_)
   refine x_br ?_
   refine x_tr ?_
   exact x_ret _ rfl _ rfl ⟨t8_1, rfl, H⟩
  ·
   refine c_skip ?_
   refine x_blk ?_
   refine x_seq (c_region ?_)
   iterate 2 refine wP tok ?_
   refine w_end ?_
   exact xJ (IntKind.i64.wrap (t8_1 + 1)) H
 ·
  refine c_exit ?_
  refine x_te (x_te ?_)
  refine x_bh ?_
  refine x_seq (c_seq (c_region ?_))
  obtain ⟨x6, ex6, H⟩ := H
  refine w_pe tok rfl (congrArg (fun z => (.int .i64 z : Value)) ex6) rfl rfl ?_
  refine w_end (x_seq (c_ret ?_))
  exact x_ret _ rfl _ rfl ⟨x6, rfl, H⟩

theorem slices_Contains_api_Label_api_Label_ok : CallOk Go.Proofs.Tryz.prog 70 := ⟨_, Go.Proofs.Tryz.func70, by kernel_rfl, by kernel_rfl⟩
theorem slices_Contains_api_Label_api_Label_ref (p0 : Slc) (p1 : S_api_Label) (k : (Bool) → Heap → Prop) (h : Heap) (H : slices_Contains_api_Label_api_Label p0 p1 k h) : CallsH Go.Proofs.Tryz.prog 70 #[Slc.v p0, .agg (S_api_Label.cs p1).toArray] h (fun v h' => ∃ r : Bool, v = .bool r ∧ k r h') := by
 refine f_enter (N := 9) Go.Proofs.Tryz.func70 rfl rfl rfl (fun w0 => ?_)
 unfold slices_Contains_api_Label_api_Label at H
 refine cW [(0, Slc.v p0), (1, .agg (S_api_Label.cs p1).toArray)] ?_
 refine c_seq (c_region ?_)
 obtain ⟨b1, h2, eb1, eh2, H⟩ := H
 refine w_h (h_box rfl rfl eb1 eh2) rfl rfl ?_
 refine wP tok ?_
 refine w_end (x_seq ?_)
 refine c_seq (c_region ?_)
 refine wP tok ?_
 obtain ⟨v3, hv3, H⟩ := H
 refine w_y (y_lda tok rfl rfl rfl rfl rfl hv3) rfl rfl ?_
 refine w_call slices_Index_api_Label_api_Label_ok (slices_Index_api_Label_api_Label_ref _ _ _ _ H) rfl rfl rfl rfl ?_
 rintro _ h5 ⟨r4, rfl, H⟩
 iterate 2 refine wP tok ?_
 refine w_end (x_seq ?_)
 refine cW [(4, .bool (decide (r4 ≥ 0)))] ?_
 refine c_ret ?_
 exact x_ret _ rfl _ rfl ⟨(decide (r4 ≥ 0)), rfl, H⟩

theorem label_answers_1_ok : CallOk Go.Proofs.Tryz.prog 72 := ⟨_, Go.Proofs.Tryz.func72, by kernel_rfl, by kernel_rfl⟩
theorem label_answers_1_ref (p0 : S_api_Label) (p1 : Addr) (k : (Bool) → Heap → Prop) (h : Heap) (H : label_answers_1 p0 p1 k h) : CallsH Go.Proofs.Tryz.prog 72 #[.agg (S_api_Label.cs p0).toArray, .pointer (some p1)] h (fun v h' => ∃ r : Bool, v = .bool r ∧ k r h') := by
 refine f_enter (N := 16) Go.Proofs.Tryz.func72 rfl rfl rfl (fun w0 => ?_)
 unfold label_answers_1 at H
 refine cW [(0, .agg (S_api_Label.cs p0).toArray), (1, .pointer (some p1))] ?_
 refine c_seq (c_region ?_)
 obtain ⟨b1, h2, eb1, eh2, H⟩ := H
 refine w_h (h_box rfl rfl eb1 eh2) rfl rfl ?_
 refine wP tok ?_
 refine w_end (x_seq ?_)
 refine c_seq (c_region ?_)
 refine wP tok ?_
 obtain ⟨v3, hv3, H⟩ := H
 refine w_y (y_ld tok rfl rfl rfl rfl hv3) rfl rfl ?_
 refine wP tok ?_
 obtain ⟨v4, hv4, H⟩ := H
 refine w_y (y_ld tok rfl rfl rfl rfl hv4) rfl rfl ?_
 iterate 2 refine wP tok ?_
 refine w_cut 6 (α := Bool) (fun (s : Bool) => [(15, .bool s)]) (fun (s : Bool) h => label_answers_1_g1 s k h) ?_ ?_
 ·
  rintro t15_1 h_1 H
  unfold label_answers_1_g1 at H
  refine wW [(15, .bool t15_1)] ?_
  refine wP tok ?_
  refine w_end (x_seq (c_ret ?_))
  exact x_ret _ rfl _ rfl ⟨t15_1, rfl, H⟩
 ·
  refine w_gif (d := 9) H rfl (fun H => ?_) (fun H => ?_)
  ·
   refine wP tok ?_
   obtain ⟨v5, hv5, H⟩ := H
   refine w_y (y_ld tok rfl rfl rfl rfl hv5) rfl rfl ?_
   refine wP tok ?_
   obtain ⟨v6, hv6, H⟩ := H
   refine w_y (y_ld tok rfl rfl rfl rfl hv6) rfl rfl ?_
   refine w_call strings_HasPrefix_ok (strings_HasPrefix_ref _ _ _ _ H) rfl rfl rfl rfl ?_
   rintro _ h8 ⟨r7, rfl, H⟩
   refine wP tok ?_
   exact wJ r7 H
  ·
   iterate 5 refine w_skip rfl rfl ?_
   refine wP tok ?_
   exact wJ false H

theorem slices_IndexFunc_api_Label_api_Label__label_answers_1_ok : CallOk Go.Proofs.Tryz.prog 89 := ⟨_, Go.Proofs.Tryz.func89, by kernel_rfl, by kernel_rfl⟩
theorem slices_IndexFunc_api_Label_api_Label__label_answers_1_ref (p0 : Slc) (p1c0 : Addr) (k : (Int) → Heap → Prop) (h : Heap) (H : slices_IndexFunc_api_Label_api_Label__label_answers_1 p0 p1c0 k h) : CallsH Go.Proofs.Tryz.prog 89 #[Slc.v p0, (Value.func (.func 72) #[] #[.pointer (some p1c0)])] h (fun v h' => ∃ r : Int, v = .int .i64 r ∧ k r h') := by
 refine f_enter (N := 19) Go.Proofs.Tryz.func89 rfl rfl rfl (fun w0 => ?_)
 unfold slices_IndexFunc_api_Label_api_Label__label_answers_1 at H
 refine cW [(0, Slc.v p0), (1, (Value.func (.func 72) #[] #[.pointer (some p1c0)]))] ?_
 refine c_seq (c_region ?_)
 refine wP tok ?_
 refine w_end (x_seq ?_)
 refine c_seq (c_seq (c_region ?_))
 iterate 3 refine wP tok ?_
 refine w_end (x_seq (c_block ?_))
 obtain ⟨I1, μ1, H0, HI⟩ := H
 refine c_loop (σ := Int) (fun (s : Int) => [(8, .int .i64 s), (0, Slc.v p0), (1, (Value.func (.func 72) #[] #[.pointer (some p1c0)])), (7, .int .i64 (p0.len : Int))]) I1 μ1 0 H0 ⟨rfl, rfl, rfl, rfl, trivial⟩ ?_
 rintro t8_1 h_1 H
 replace H := HI t8_1 h_1 H
 unfold slices_IndexFunc_api_Label_api_Label__label_answers_1_l1b at H
 refine cW [(8, .int .i64 t8_1), (0, Slc.v p0), (1, (Value.func (.func 72) #[] #[.pointer (some p1c0)])), (7, .int .i64 (p0.len : Int))] ?_
 refine c_seq (c_region ?_)
 refine wP tok ?_
 refine w_end (x_seq (c_seq ?_))
 refine c_if H rfl (fun H => ?_) (fun H => ?_)
 ·
  refine c_skip (x_seq ?_)
  refine c_seq (c_block ?_)
  refine c_seq (c_region ?_)
  iterate 2 refine wP tok ?_
  refine w_end (x_seq ?_)
  refine c_seq (c_region ?_)
  iterate 3 refine wP tok ?_
  obtain ⟨a1, ha1, la1, ua1, H⟩ := H
  refine w_y (y_ixa' tok rfl rfl ha1 rfl rfl rfl la1 ua1) rfl rfl ?_
  obtain ⟨v2, hv2, H⟩ := H
  refine w_y (y_lda tok rfl rfl rfl rfl rfl hv2) rfl rfl ?_
  refine w_callv (vs := [.agg (S_api_Label.cs v2).toArray]) (cap := [.pointer (some p1c0)]) label_answers_1_ok (label_answers_1_ref _ _ _ _ H) rfl rfl rfl rfl rfl ?_
  rintro _ h4 ⟨r3, rfl, H⟩
  refine w_end (x_seq ?_)
  refine cW [(8, .int .i64 t8_1), (0, Slc.v p0), (1, (Value.func (.func 72) #[] #[.pointer (some p1c0)])), (7, .int .i64 (p0.len : Int)), (5, .int .i64 t8_1), (16, .bool r3)] ?_
  refine c_if H rfl (fun H => ?_) (fun H => ?_)
  ·
   refine c_seq (c_region ?_)
   iterate 2 refine wP tok ?_
   refine w_end (x_seq ?_)
   refine cW [(4, .int .i64 t8_1)] ?_
   refine c_ret ?_
   refine x_br ?_
   refine x_tr (x_tr ?_)
   refine x_br ?_
   refine x_tr ?_
   exact x_ret _ rfl _ rfl ⟨t8_1, rfl, H⟩
  ·
   refine c_skip ?_
   refine x_blk ?_
   refine x_seq (c_region ?_)
   iterate 2 refine wP tok ?_
   refine w_end ?_
   exact xJ (IntKind.i64.wrap (t8_1 + 1)) H
 ·
  refine c_exit ?_
  refine x_te (x_te ?_)
  refine x_bh ?_
  refine x_seq (c_seq (c_region ?_))
  obtain ⟨x5, ex5, H⟩ := H
  refine w_pe tok rfl (congrArg (fun z => (.int .i64 z : Value)) ex5) rfl rfl ?_
  refine w_end (x_seq (c_ret ?_))
  exact x_ret _ rfl _ rfl ⟨x5, rfl, H⟩

theorem slices_ContainsFunc_api_Label_api_Label__label_answers_1_ok : CallOk Go.Proofs.Tryz.prog 71 := ⟨_, Go.Proofs.Tryz.func71, by kernel_rfl, by kernel_rfl⟩
theorem slices_ContainsFunc_api_Label_api_Label__label_answers_1_ref (p0 : Slc) (p1c0 : Addr) (k : (Bool) → Heap → Prop) (h : Heap) (H : slices_ContainsFunc_api_Label_api_Label__label_answers_1 p0 p1c0 k h) : CallsH Go.Proofs.Tryz.prog 71 #[Slc.v p0, (Value.func (.func 72) #[] #[.pointer (some p1c0)])] h (fun v h' => ∃ r : Bool, v = .bool r ∧ k r h') := by
 refine f_enter (N := 9) Go.Proofs.Tryz.func71 rfl rfl rfl (fun w0 => ?_)
 unfold slices_ContainsFunc_api_Label_api_Label__label_answers_1 at H
 refine cW [(0, Slc.v p0), (1, (Value.func (.func 72) #[] #[.pointer (some p1c0)]))] ?_
 refine c_seq (c_region ?_)
 refine wP tok ?_
 refine w_end (x_seq ?_)
 refine c_seq (c_region ?_)
 iterate 2 refine wP tok ?_
 refine w_call slices_IndexFunc_api_Label_api_Label__label_answers_1_ok (slices_IndexFunc_api_Label_api_Label__label_answers_1_ref _ _ _ _ H) rfl rfl rfl rfl ?_
 rintro _ h2 ⟨r1, rfl, H⟩
 iterate 2 refine wP tok ?_
 refine w_end (x_seq (c_ret ?_))
 exact x_ret _ rfl _ rfl ⟨(decide (r1 ≥ 0)), rfl, H⟩

theorem label_answers_ok : CallOk Go.Proofs.Tryz.prog 43 := ⟨_, Go.Proofs.Tryz.func43, by kernel_rfl, by kernel_rfl⟩
theorem label_answers_ref (p0 : S_api_Question) (p1 : S_api_Series) (k : (Bool) → Heap → Prop) (h : Heap) (H : label_answers p0 p1 k h) : CallsH Go.Proofs.Tryz.prog 43 #[.agg (S_api_Question.cs p0).toArray, .agg (S_api_Series.cs p1).toArray] h (fun v h' => ∃ r : Bool, v = .bool r ∧ k r h') := by
 refine f_enter (N := 34) Go.Proofs.Tryz.func43 rfl rfl rfl (fun w0 => ?_)
 unfold label_answers at H
 refine cW [(0, .agg (S_api_Question.cs p0).toArray), (1, .agg (S_api_Series.cs p1).toArray)] ?_
 refine c_seq (c_region ?_)
 obtain ⟨b1, h2, eb1, eh2, H⟩ := H
 refine w_h (h_box rfl rfl eb1 eh2) rfl rfl ?_
 obtain ⟨b3, h4, eb3, eh4, H⟩ := H
 refine w_h (h_box rfl rfl eb3 eh4) rfl rfl ?_
 refine wP tok ?_
 refine w_end (x_seq ?_)
 refine c_seq (c_seq (c_region ?_))
 refine wP tok ?_
 obtain ⟨v5, hv5, H⟩ := H
 refine w_y (y_ld tok rfl rfl rfl rfl hv5) rfl rfl ?_
 refine w_end (x_seq ?_)
 refine c_block (c_seq (c_region ?_))
 iterate 2 refine wP tok ?_
 refine w_end (x_seq ?_)
 refine c_if H rfl (fun H => ?_) (fun H => ?_)
 ·
  refine c_seq (c_region ?_)
  refine wP tok ?_
  obtain ⟨v6, hv6, H⟩ := H
  refine w_y (y_ld tok rfl rfl rfl rfl hv6) rfl rfl ?_
  refine wP tok ?_
  obtain ⟨v7, hv7, H⟩ := H
  refine w_y (y_ld tok rfl rfl rfl rfl hv7) rfl rfl ?_
  refine wP tok ?_
  obtain ⟨v8, hv8, H⟩ := H
  refine w_y (y_ld tok rfl rfl rfl rfl hv8) rfl rfl ?_
  refine w_y (y_build tok rfl rfl rfl rfl rfl) rfl rfl ?_
  refine w_call slices_Contains_api_Label_api_Label_ok (slices_Contains_api_Label_api_Label_ref _ _ _ _ H) rfl rfl rfl rfl ?_
  rintro _ h10 ⟨r9, rfl, H⟩
  refine wP tok ?_
  refine w_end (x_seq ?_)
  refine cW [(4, .bool r9)] ?_
  refine c_ret ?_
  refine x_br ?_
  refine x_tr ?_
  exact x_ret _ rfl _ rfl ⟨r9, rfl, H⟩
 ·
  refine c_seq (c_region ?_)
  iterate 2 refine wP tok ?_
  refine w_end (x_seq ?_)
  refine cW [(2, pt b1), (3, pt b3), (6, .int .i64 v5), (17, .bool (v5 == 1))] ?_
  refine c_if H rfl (fun H => ?_) (fun H => ?_)
  ·
   refine c_seq (c_region ?_)
   refine wP tok ?_
   obtain ⟨v11, hv11, H⟩ := H
   refine w_y (y_ld tok rfl rfl rfl rfl hv11) rfl rfl ?_
   refine wP tok ?_
   obtain ⟨v12, hv12, H⟩ := H
   refine w_y (y_ld tok rfl rfl rfl rfl hv12) rfl rfl ?_
   refine wP tok ?_
   obtain ⟨v13, hv13, H⟩ := H
   refine w_y (y_ld tok rfl rfl rfl rfl hv13) rfl rfl ?_
   refine w_y (y_build tok rfl rfl rfl rfl rfl) rfl rfl ?_
   refine w_call slices_Contains_api_Label_api_Label_ok (slices_Contains_api_Label_api_Label_ref _ _ _ _ H) rfl rfl rfl rfl ?_
   rintro _ h15 ⟨r14, rfl, H⟩
   iterate 2 refine wP tok ?_
   refine w_end (x_seq ?_)
   refine cW [(4, .bool (!r14))] ?_
   refine c_ret ?_
   refine x_br ?_
   refine x_tr ?_
   exact x_ret _ rfl _ rfl ⟨(!r14), rfl, H⟩
  ·
   refine c_seq (c_region ?_)
   iterate 2 refine wP tok ?_
   refine w_end (x_seq ?_)
   refine c_if H rfl (fun H => ?_) (fun H => ?_)
   ·
    refine c_seq (c_region ?_)
    refine wP tok ?_
    obtain ⟨v16, hv16, H⟩ := H
    refine w_y (y_ld tok rfl rfl rfl rfl hv16) rfl rfl ?_
    refine w_y (y_mkf rfl rfl) rfl rfl ?_
    refine w_call slices_ContainsFunc_api_Label_api_Label__label_answers_1_ok (slices_ContainsFunc_api_Label_api_Label__label_answers_1_ref _ _ _ _ H) rfl rfl rfl rfl ?_
    rintro _ h18 ⟨r17, rfl, H⟩
    refine wP tok ?_
    refine w_end (x_seq ?_)
    refine cW [(4, .bool r17)] ?_
    refine c_ret ?_
    refine x_br ?_
    refine x_tr ?_
    exact x_ret _ rfl _ rfl ⟨r17, rfl, H⟩
   ·
    refine c_skip ?_
    refine x_blk ?_
    refine x_seq (c_seq (c_region ?_))
    refine wP tok ?_
    refine w_end (x_seq (c_ret ?_))
    exact x_ret _ rfl _ rfl ⟨false, rfl, H⟩

theorem label_Chooses_1_ok : CallOk Go.Proofs.Tryz.prog 42 := ⟨_, Go.Proofs.Tryz.func42, by kernel_rfl, by kernel_rfl⟩
theorem label_Chooses_1_ref (p0 : S_api_Question) (p1 : Addr) (k : (Bool) → Heap → Prop) (h : Heap) (H : label_Chooses_1 p0 p1 k h) : CallsH Go.Proofs.Tryz.prog 42 #[.agg (S_api_Question.cs p0).toArray, .pointer (some p1)] h (fun v h' => ∃ r : Bool, v = .bool r ∧ k r h') := by
 refine f_enter (N := 8) Go.Proofs.Tryz.func42 rfl rfl rfl (fun w0 => ?_)
 unfold label_Chooses_1 at H
 refine cW [(0, .agg (S_api_Question.cs p0).toArray), (1, .pointer (some p1))] ?_
 refine c_seq (c_region ?_)
 obtain ⟨b1, h2, eb1, eh2, H⟩ := H
 refine w_h (h_box rfl rfl eb1 eh2) rfl rfl ?_
 refine wP tok ?_
 refine w_end (x_seq ?_)
 refine c_seq (c_region ?_)
 obtain ⟨v3, hv3, H⟩ := H
 refine w_y (y_lda tok rfl rfl rfl rfl rfl hv3) rfl rfl ?_
 obtain ⟨v4, hv4, H⟩ := H
 refine w_y (y_lda tok rfl rfl rfl rfl rfl hv4) rfl rfl ?_
 refine w_call label_answers_ok (label_answers_ref _ _ _ _ H) rfl rfl rfl rfl ?_
 rintro _ h6 ⟨r5, rfl, H⟩
 iterate 2 refine wP tok ?_
 refine w_end (x_seq ?_)
 refine cW [(3, .bool (!r5))] ?_
 refine c_ret ?_
 exact x_ret _ rfl _ rfl ⟨(!r5), rfl, H⟩

theorem slices_IndexFunc_api_Question_api_Question__label_Chooses_1_ok : CallOk Go.Proofs.Tryz.prog 69 := ⟨_, Go.Proofs.Tryz.func69, by kernel_rfl, by kernel_rfl⟩
theorem slices_IndexFunc_api_Question_api_Question__label_Chooses_1_ref (p0 : Slc) (p1c0 : Addr) (k : (Int) → Heap → Prop) (h : Heap) (H : slices_IndexFunc_api_Question_api_Question__label_Chooses_1 p0 p1c0 k h) : CallsH Go.Proofs.Tryz.prog 69 #[Slc.v p0, (Value.func (.func 42) #[] #[.pointer (some p1c0)])] h (fun v h' => ∃ r : Int, v = .int .i64 r ∧ k r h') := by
 refine f_enter (N := 19) Go.Proofs.Tryz.func69 rfl rfl rfl (fun w0 => ?_)
 unfold slices_IndexFunc_api_Question_api_Question__label_Chooses_1 at H
 refine cW [(0, Slc.v p0), (1, (Value.func (.func 42) #[] #[.pointer (some p1c0)]))] ?_
 refine c_seq (c_region ?_)
 refine wP tok ?_
 refine w_end (x_seq ?_)
 refine c_seq (c_seq (c_region ?_))
 iterate 3 refine wP tok ?_
 refine w_end (x_seq (c_block ?_))
 obtain ⟨I1, μ1, H0, HI⟩ := H
 refine c_loop (σ := Int) (fun (s : Int) => [(8, .int .i64 s), (0, Slc.v p0), (1, (Value.func (.func 42) #[] #[.pointer (some p1c0)])), (7, .int .i64 (p0.len : Int))]) I1 μ1 0 H0 ⟨rfl, rfl, rfl, rfl, trivial⟩ ?_
 rintro t8_1 h_1 H
 replace H := HI t8_1 h_1 H
 unfold slices_IndexFunc_api_Question_api_Question__label_Chooses_1_l1b at H
 refine cW [(8, .int .i64 t8_1), (0, Slc.v p0), (1, (Value.func (.func 42) #[] #[.pointer (some p1c0)])), (7, .int .i64 (p0.len : Int))] ?_
 refine c_seq (c_region ?_)
 refine wP tok ?_
 refine w_end (x_seq (c_seq ?_))
 refine c_if H rfl (fun H => ?_) (fun H => ?_)
 ·
  refine c_skip (x_seq ?_)
  refine c_seq (c_block ?_)
  refine c_seq (c_region ?_)
  iterate 2 refine wP tok ?_
  refine w_end (x_seq ?_)
  refine c_seq (c_region ?_)
  iterate 3 refine wP tok ?_
  obtain ⟨a1, ha1, la1, ua1, H⟩ := H
  refine w_y (y_ixa' tok rfl rfl ha1 rfl rfl rfl la1 ua1) rfl rfl ?_
  obtain ⟨v2, hv2, H⟩ := H
  refine w_y (y_lda tok rfl rfl rfl rfl rfl hv2) rfl rfl ?_
  refine w_callv (vs := [.agg (S_api_Question.cs v2).toArray]) (cap := [.pointer (some p1c0)]) label_Chooses_1_ok (label_Chooses_1_ref _ _ _ _ H) rfl rfl rfl rfl rfl ?_
  rintro _ h4 ⟨r3, rfl, H⟩
  refine w_end (x_seq ?_)
  refine cW [(8, .int .i64 t8_1), (0, Slc.v p0), (1, (Value.func (.func 42) #[] #[.pointer (some p1c0)])), (7, .int .i64 (p0.len : Int)), (5, .int .i64 t8_1), (16, .bool r3)] ?_
  refine c_if H rfl (fun H => ?_) (fun H => ?_)
  ·
   refine c_seq (c_region ?_)
   iterate 2 refine wP tok ?_
   refine w_end (x_seq ?_)
   refine cW [(4, .int .i64 t8_1)] ?_
   refine c_ret ?_
   refine x_br ?_
   refine x_tr (x_tr ?_)
   refine x_br ?_
   refine x_tr ?_
   exact x_ret _ rfl _ rfl ⟨t8_1, rfl, H⟩
  ·
   refine c_skip ?_
   refine x_blk ?_
   refine x_seq (c_region ?_)
   iterate 2 refine wP tok ?_
   refine w_end ?_
   exact xJ (IntKind.i64.wrap (t8_1 + 1)) H
 ·
  refine c_exit ?_
  refine x_te (x_te ?_)
  refine x_bh ?_
  refine x_seq (c_seq (c_region ?_))
  obtain ⟨x5, ex5, H⟩ := H
  refine w_pe tok rfl (congrArg (fun z => (.int .i64 z : Value)) ex5) rfl rfl ?_
  refine w_end (x_seq (c_ret ?_))
  exact x_ret _ rfl _ rfl ⟨x5, rfl, H⟩

theorem slices_ContainsFunc_api_Question_api_Question__label_Chooses_1_ok : CallOk Go.Proofs.Tryz.prog 41 := ⟨_, Go.Proofs.Tryz.func41, by kernel_rfl, by kernel_rfl⟩
theorem slices_ContainsFunc_api_Question_api_Question__label_Chooses_1_ref (p0 : Slc) (p1c0 : Addr) (k : (Bool) → Heap → Prop) (h : Heap) (H : slices_ContainsFunc_api_Question_api_Question__label_Chooses_1 p0 p1c0 k h) : CallsH Go.Proofs.Tryz.prog 41 #[Slc.v p0, (Value.func (.func 42) #[] #[.pointer (some p1c0)])] h (fun v h' => ∃ r : Bool, v = .bool r ∧ k r h') := by
 refine f_enter (N := 9) Go.Proofs.Tryz.func41 rfl rfl rfl (fun w0 => ?_)
 unfold slices_ContainsFunc_api_Question_api_Question__label_Chooses_1 at H
 refine cW [(0, Slc.v p0), (1, (Value.func (.func 42) #[] #[.pointer (some p1c0)]))] ?_
 refine c_seq (c_region ?_)
 refine wP tok ?_
 refine w_end (x_seq ?_)
 refine c_seq (c_region ?_)
 iterate 2 refine wP tok ?_
 refine w_call slices_IndexFunc_api_Question_api_Question__label_Chooses_1_ok (slices_IndexFunc_api_Question_api_Question__label_Chooses_1_ref _ _ _ _ H) rfl rfl rfl rfl ?_
 rintro _ h2 ⟨r1, rfl, H⟩
 iterate 2 refine wP tok ?_
 refine w_end (x_seq (c_ret ?_))
 exact x_ret _ rfl _ rfl ⟨(decide (r1 ≥ 0)), rfl, H⟩

theorem label_Chooses_ok : CallOk Go.Proofs.Tryz.prog 18 := ⟨_, Go.Proofs.Tryz.func18, by kernel_rfl, by kernel_rfl⟩
theorem label_Chooses_ref (p0 : S_api_Selector) (p1 : S_api_Series) (k : (Bool) → Heap → Prop) (h : Heap) (H : label_Chooses p0 p1 k h) : CallsH Go.Proofs.Tryz.prog 18 #[.agg (S_api_Selector.cs p0).toArray, .agg (S_api_Series.cs p1).toArray] h (fun v h' => ∃ r : Bool, v = .bool r ∧ k r h') := by
 refine f_enter (N := 20) Go.Proofs.Tryz.func18 rfl rfl rfl (fun w0 => ?_)
 unfold label_Chooses at H
 refine cW [(0, .agg (S_api_Selector.cs p0).toArray), (1, .agg (S_api_Series.cs p1).toArray)] ?_
 refine c_seq (c_region ?_)
 obtain ⟨b1, h2, eb1, eh2, H⟩ := H
 refine w_h (h_box rfl rfl eb1 eh2) rfl rfl ?_
 obtain ⟨b3, h4, eb3, eh4, H⟩ := H
 refine w_h (h_box rfl rfl eb3 eh4) rfl rfl ?_
 refine wP tok ?_
 refine w_end (x_seq ?_)
 refine c_seq (c_seq (c_region ?_))
 refine wP tok ?_
 obtain ⟨v5, hv5, H⟩ := H
 refine w_y (y_ld tok rfl rfl rfl rfl hv5) rfl rfl ?_
 iterate 2 refine wP tok ?_
 refine w_cut 6 (α := Bool) (fun (s : Bool) => [(14, .bool s), (2, pt b1), (3, pt b3)]) (fun (s : Bool) h => label_Chooses_g1 (ad b1) (ad b3) s k h) ?_ ?_
 ·
  rintro t14_1 h_1 H
  unfold label_Chooses_g1 at H
  refine wW [(14, .bool t14_1), (2, pt b1), (3, pt b3)] ?_
  refine w_end (x_seq ?_)
  refine c_if H rfl (fun H => ?_) (fun H => ?_)
  ·
   refine c_seq (c_region ?_)
   refine wP tok ?_
   refine w_end (x_seq ?_)
   refine c_ret (x_tr ?_)
   exact x_ret _ rfl _ rfl ⟨false, rfl, H⟩
  ·
   refine c_skip (x_seq ?_)
   refine c_seq (c_region ?_)
   refine wP tok ?_
   obtain ⟨v6, hv6, H⟩ := H
   refine w_y (y_ld tok rfl rfl rfl rfl hv6) rfl rfl ?_
   refine w_y (y_mkf rfl rfl) rfl rfl ?_
   refine w_call slices_ContainsFunc_api_Question_api_Question__label_Chooses_1_ok (slices_ContainsFunc_api_Question_api_Question__label_Chooses_1_ref _ _ _ _ H) rfl rfl rfl rfl ?_
   rintro _ h8 ⟨r7, rfl, H⟩
   iterate 2 refine wP tok ?_
   refine w_end (x_seq ?_)
   refine cW [(4, .bool (!r7))] ?_
   refine c_ret ?_
   exact x_ret _ rfl _ rfl ⟨(!r7), rfl, H⟩
 ·
  refine w_gif (d := 8) H rfl (fun H => ?_) (fun H => ?_)
  ·
   refine wP tok ?_
   obtain ⟨v9, hv9, H⟩ := H
   refine w_y (y_ld tok rfl rfl rfl rfl hv9) rfl rfl ?_
   refine wP tok ?_
   obtain ⟨v10, hv10, H⟩ := H
   refine w_y (y_ld tok rfl rfl rfl rfl hv10) rfl rfl ?_
   iterate 2 refine wP tok ?_
   exact wJ (!(v9.toList == v10.toList)) H
  ·
   iterate 5 refine w_skip rfl rfl ?_
   refine wP tok ?_
   exact wJ false H
end Go.Q.Yz

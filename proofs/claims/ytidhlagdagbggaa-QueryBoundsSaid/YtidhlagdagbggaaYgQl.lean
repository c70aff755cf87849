/- A part of the proof of statements of this seat: lemmas, no statement of their own. -/
import Derived.Test.YtidhlagdagbggaaYgTab
import Derived.Test.YtidhlagdagbggaaYgPc
set_option linter.unusedVariables false
set_option linter.unusedSimpArgs false
set_option maxRecDepth 100000
set_option maxHeartbeats 1000000
namespace Go.Q.Yg
open Go.RowKit in
theorem eqI47 (a b : S_api_Wide) (w : World) : (Op.equalIn (9998 + 1) 47 (.agg (S_api_Wide.cs a).toArray) (.agg (S_api_Wide.cs b).toArray)).run Go.Proofs.Try.prog w = .ok ((a.f_Hi == b.f_Hi) && (a.f_Lo == b.f_Lo)) w := by
  have hS : Go.Proofs.Try.prog.underlying 47 = some (.struct (Go.Proofs.Try.prog.fieldsOf 47)) := by kernel_rfl
  have hp : Go.Proofs.Try.prog.stoodInHeld 47 = false := by kernel_rfl
  have u2 := Go.Proofs.Try.underlying2
  have a2 : ∀ w, (isAgg 2).run Go.Proofs.Try.prog w = .ok false w := Go.Proofs.Try.isAgg2
  have u22 := Go.Proofs.Try.underlying22
  have a22 : ∀ w, (isAgg 22).run Go.Proofs.Try.prog w = .ok false w := Go.Proofs.Try.isAgg22
  rw [run_equalIn_struct w 9998 47 _ _ hS hp]
  simp only [Program.fieldsOf, Go.Proofs.Try.underlying47, S_api_Wide.cs]
  go_simp
  by_cases h0 : (a.f_Hi = b.f_Hi) <;> by_cases h1 : (a.f_Lo = b.f_Lo) <;> simp [h0, h1]
open Go.RowKit in
theorem eqv54_S_api_Row (a b : S_api_Row) (w : World) : (Op.equal 54 (.agg (S_api_Row.cs a).toArray) (.agg (S_api_Row.cs b).toArray)).run Go.Proofs.Try.prog w = .ok ((a.f_Series.toList == b.f_Series.toList) && (a.f_T == b.f_T) && ((a.f_W.f_Hi == b.f_W.f_Hi) && (a.f_W.f_Lo == b.f_W.f_Lo))) w := by
  have hS : Go.Proofs.Try.prog.underlying 54 = some (.struct (Go.Proofs.Try.prog.fieldsOf 54)) := by kernel_rfl
  have hp : Go.Proofs.Try.prog.stoodInHeld 54 = false := by kernel_rfl
  have e47 := eqI47 a.f_W b.f_W
  have n47 : ∀ w, (isAgg 47).run Go.Proofs.Try.prog w = .ok true w := Go.Proofs.Try.isAgg47
  have s47 : Go.Proofs.Try.prog.cellsOf 47 = 2 := by kernel_rfl
  have u2 := Go.Proofs.Try.underlying2
  have a2 : ∀ w, (isAgg 2).run Go.Proofs.Try.prog w = .ok false w := Go.Proofs.Try.isAgg2
  have u9 := Go.Proofs.Try.underlying9
  have a9 : ∀ w, (isAgg 9).run Go.Proofs.Try.prog w = .ok false w := Go.Proofs.Try.isAgg9
  have q2 : ∀ (x y : Int) w, (Op.equalIn (9998 + 1) 2 (.int .i64 x) (.int .i64 y)).run Go.Proofs.Try.prog w = .ok (x == y) w := fun x y w => by go_simp
  have q9 : ∀ (x y : ByteArray) w, (Op.equalIn (9998 + 1) 9 (.string x) (.string y)).run Go.Proofs.Try.prog w = .ok (x.toList == y.toList) w := fun x y w => by go_simp
  unfold Op.equal Op.maxDepth
  rw [show (10000 : Nat) = (9998 + 1) + 1 from rfl, run_equalIn_struct w (9998 + 1) 54 _ _ hS hp]
  simp only [Program.fieldsOf, Go.Proofs.Try.underlying54, S_api_Row.cs]
  generalize 9998 + 1 = N at e47 q2 q9 ⊢
  go_simp
  simp only [show List.take 2 (S_api_Wide.cs a.f_W) = S_api_Wide.cs a.f_W from rfl, show List.take 2 (S_api_Wide.cs b.f_W) = S_api_Wide.cs b.f_W from rfl, e47, q2, q9, Result.andThen]
  by_cases h0 : (a.f_Series.toList = b.f_Series.toList) <;> by_cases h1 : (a.f_T = b.f_T) <;> by_cases h2 : (a.f_W.f_Hi = b.f_W.f_Hi) <;> by_cases h3 : (a.f_W.f_Lo = b.f_W.f_Lo) <;> simp [h0, h1, h2, h3]
open Go.RowKit in
theorem eqv47_S_api_Wide (a b : S_api_Wide) (w : World) : (Op.equal 47 (.agg (S_api_Wide.cs a).toArray) (.agg (S_api_Wide.cs b).toArray)).run Go.Proofs.Try.prog w = .ok ((a.f_Hi == b.f_Hi) && (a.f_Lo == b.f_Lo)) w := by
  have hS : Go.Proofs.Try.prog.underlying 47 = some (.struct (Go.Proofs.Try.prog.fieldsOf 47)) := by kernel_rfl
  have hp : Go.Proofs.Try.prog.stoodInHeld 47 = false := by kernel_rfl
  have u2 := Go.Proofs.Try.underlying2
  have a2 : ∀ w, (isAgg 2).run Go.Proofs.Try.prog w = .ok false w := Go.Proofs.Try.isAgg2
  have u22 := Go.Proofs.Try.underlying22
  have a22 : ∀ w, (isAgg 22).run Go.Proofs.Try.prog w = .ok false w := Go.Proofs.Try.isAgg22
  unfold Op.equal Op.maxDepth
  rw [show (10000 : Nat) = 9999 + 1 from rfl, run_equalIn_struct w 9999 47 _ _ hS hp]
  simp only [Program.fieldsOf, Go.Proofs.Try.underlying47, S_api_Wide.cs]
  go_simp
  by_cases h0 : (a.f_Hi = b.f_Hi) <;> by_cases h1 : (a.f_Lo = b.f_Lo) <;> simp [h0, h1]
/-- quaestor quaestorref13.Great -/
def ref13_Great_l1b (t0_1 : Slc) (t1_1 : Int) (t5_1 : Int) (k : (Bool) → Heap → Prop) (nx1 : (Int) → Heap → Prop) (h_1 : Heap) : Prop :=
  if ((decide (t5_1 < (t0_1.len : Int))) && (decide (t5_1 < t1_1))) then (∃ a1 : Addr, t0_1.a = some a1 ∧ (0 : Int) ≤ t5_1 ∧ t5_1 < (t0_1.len : Int) ∧ (∃ v2 : ByteArray, cellH h_1 (a1.add (t5_1.toNat * 5)) = some (.string v2) ∧ (if (decide ((v2.size : Int) > 400)) then (k true h_1) else (∃ x3 : Int, x3 = (IntKind.i64.wrap (t5_1 + 1)) ∧ (nx1 x3 h_1))))) else (k (decide ((t0_1.len : Int) > t1_1)) h_1)
def ref13_Great_l1 (t0_1 : Slc) (t1_1 : Int) (i5 : Int) (k : (Bool) → Heap → Prop) (h : Heap) : Prop :=
  ∃ (I : Int → Heap → Prop) (μ : Int → Heap → Nat), I i5 h ∧ ∀ (t5_1 : Int) (h : Heap), I t5_1 h → ref13_Great_l1b t0_1 t1_1 t5_1 k (fun s h' => I s h' ∧ μ s h' < μ t5_1 h) h
def ref13_Great (p0 : Slc) (p1 : Int) (k : (Bool) → Heap → Prop) (h : Heap) : Prop :=
  ref13_Great_l1 p0 p1 0 k h

/-- quaestor quaestorref19.SameRows -/
def ref19_SameRows_l1b (t0_1 : Slc) (t1_1 : Slc) (t5_1 : Int) (k : (Bool) → Heap → Prop) (nx1 : (Int) → Heap → Prop) (h_1 : Heap) : Prop :=
  if (decide (t5_1 < (t0_1.len : Int))) then (∃ a1 : Addr, t0_1.a = some a1 ∧ (0 : Int) ≤ t5_1 ∧ t5_1 < (t0_1.len : Int) ∧ (∃ v2 : S_api_Row, CellsAt h_1 (a1.add (t5_1.toNat * 4)) (S_api_Row.cs v2) ∧ (∃ a3 : Addr, t1_1.a = some a3 ∧ (0 : Int) ≤ t5_1 ∧ t5_1 < (t1_1.len : Int) ∧ (∃ v4 : S_api_Row, CellsAt h_1 (a3.add (t5_1.toNat * 4)) (S_api_Row.cs v4) ∧ (if (if BinOp.neq = .eql then ((v2.f_Series.toList == v4.f_Series.toList) && (v2.f_T == v4.f_T) && ((v2.f_W.f_Hi == v4.f_W.f_Hi) && (v2.f_W.f_Lo == v4.f_W.f_Lo))) else !((v2.f_Series.toList == v4.f_Series.toList) && (v2.f_T == v4.f_T) && ((v2.f_W.f_Hi == v4.f_W.f_Hi) && (v2.f_W.f_Lo == v4.f_W.f_Lo)))) then (k false h_1) else (∃ x5 : Int, x5 = (IntKind.i64.wrap (t5_1 + 1)) ∧ (nx1 x5 h_1))))))) else (k true h_1)
def ref19_SameRows_l1 (t0_1 : Slc) (t1_1 : Slc) (i5 : Int) (k : (Bool) → Heap → Prop) (h : Heap) : Prop :=
  ∃ (I : Int → Heap → Prop) (μ : Int → Heap → Nat), I i5 h ∧ ∀ (t5_1 : Int) (h : Heap), I t5_1 h → ref19_SameRows_l1b t0_1 t1_1 t5_1 k (fun s h' => I s h' ∧ μ s h' < μ t5_1 h) h
def ref19_SameRows (p0 : Slc) (p1 : Slc) (k : (Bool) → Heap → Prop) (h : Heap) : Prop :=
  if ((p0.len : Int) != (p1.len : Int)) then (k false h) else (ref19_SameRows_l1 p0 p1 0 k h)

/-- quaestor quaestorref01.digits -/
def ref01_digits (p0 : S_api_Wide) (k : (Slc) → Heap → Prop) (h : Heap) : Prop :=
  ∃ (b1 : Nat) (h2 : Heap), b1 = h.size ∧ h2 = h.push (.cells (S_api_Wide.cs p0).toArray 47) ∧ (∃ v3 : Int, cellH h2 (⟨b1, 0, none⟩ : Addr) = some (.int .i64 v3) ∧ (∃ x4 : Int, x4 = (IntKind.u64.wrap ((IntKind.u64.wrap v3) + 9223372036854775808)) ∧ (∃ v5 : Int, cellH h2 ((⟨b1, 0, none⟩ : Addr).add 1) = some (.int .u64 v5) ∧ (∃ v6 : Int, cellH h2 ((⟨b1, 0, none⟩ : Addr).add 1) = some (.int .u64 v6) ∧ (∃ (b7 : Nat) (h8 : Heap), b7 = h2.size ∧ h8 = h2.push (.cells ([.int .u64 (Int.tmod v5 4294967296), .int .u64 (IntKind.u64.wrap (Int.tdiv v6 4294967296)), .int .u64 (Int.tmod x4 4294967296), .int .u64 (IntKind.u64.wrap (Int.tdiv x4 4294967296))]).toArray 22) ∧ (k (⟨some ⟨b7, 0, none⟩, 4, 4⟩ : Slc) h8))))))

/-- quaestor quaestorref01.Pick -/
def ref01_Pick_j1 (t5_1 : Int) (k : (Int) → Heap → Prop) (h_1 : Heap) : Prop :=
  k t5_1 h_1
def ref01_Pick (p0 : Int) (p1 : Int) (k : (Int) → Heap → Prop) (h : Heap) : Prop :=
  if (decide (p1 < 1)) then (k 0 h) else (p1 ≠ 0 ∧ (∃ x2 : Int, x2 = (Int.tmod p0 p1) ∧ (if (decide (x2 < 0)) then (∃ x3 : Int, x3 = (IntKind.i64.wrap (x2 + p1)) ∧ (ref01_Pick_j1 x3 k h)) else (ref01_Pick_j1 x2 k h))))

/-- quaestor quaestorref01.Add -/
def ref01_Add_l1b (t4_1 : Addr) (t6_1 : Slc) (t7_1 : Slc) (t8_1 : Slc) (t9_1 : Int) (t10_1 : Int) (k : (S_api_Wide × Int) → Heap → Prop) (nx1 : (Slc × Int × Int) → Heap → Prop) (h_1 : Heap) : Prop :=
  if (decide (t10_1 < 4)) then (∃ a14 : Addr, t6_1.a = some a14 ∧ (0 : Int) ≤ t10_1 ∧ t10_1 < (t6_1.len : Int) ∧ (∃ v15 : Int, cellH h_1 (a14.add (t10_1.toNat * 1)) = some (.int .u64 v15) ∧ (∃ a16 : Addr, t7_1.a = some a16 ∧ (0 : Int) ≤ t10_1 ∧ t10_1 < (t7_1.len : Int) ∧ (∃ v17 : Int, cellH h_1 (a16.add (t10_1.toNat * 1)) = some (.int .u64 v17) ∧ (∃ (b18 : Nat) (h19 : Heap), b18 = h_1.size ∧ h19 = h_1.push (.cells ([.int .u64 (Int.tmod (IntKind.u64.wrap ((IntKind.u64.wrap (v15 + v17)) + t9_1)) 4294967296)]).toArray 22) ∧ (App 22 1 8 [.int .u64 0] h19 t8_1 1 ([.int .u64 (Int.tmod (IntKind.u64.wrap ((IntKind.u64.wrap (v15 + v17)) + t9_1)) 4294967296)]) (fun s20 h21 => ∃ x22 : Int, x22 = (IntKind.u64.wrap (Int.tdiv (IntKind.u64.wrap ((IntKind.u64.wrap (v15 + v17)) + t9_1)) 4294967296)) ∧ (∃ x23 : Int, x23 = (IntKind.i64.wrap (t10_1 + 1)) ∧ (nx1 (s20, x22, x23) h21))))))))) else (∃ a24 : Addr, t8_1.a = some a24 ∧ (0 : Int) ≤ 3 ∧ 3 < (t8_1.len : Int) ∧ (∃ v25 : Int, cellH h_1 (a24.add ((3 : Int).toNat * 1)) = some (.int .u64 v25) ∧ (if (((t9_1 == 0) && (!(decide (v25 ≥ 2147483648)))) || ((t9_1 == 1) && (decide (v25 ≥ 2147483648)))) then (∃ h26 : Heap, WrsAt h_1 t4_1 2 ∧ h26 = setsH h_1 t4_1 0 (S_api_Wide.cs (⟨0, 0⟩ : S_api_Wide)) ∧ (∃ v27 : S_api_Wide, CellsAt h26 t4_1 (S_api_Wide.cs v27) ∧ k (v27, 19) h26)) else (∃ a28 : Addr, t8_1.a = some a28 ∧ (0 : Int) ≤ 3 ∧ 3 < (t8_1.len : Int) ∧ (∃ v29 : Int, cellH h_1 (a28.add ((3 : Int).toNat * 1)) = some (.int .u64 v29) ∧ (∃ a30 : Addr, t8_1.a = some a30 ∧ (0 : Int) ≤ 2 ∧ 2 < (t8_1.len : Int) ∧ (∃ v31 : Int, cellH h_1 (a30.add ((2 : Int).toNat * 1)) = some (.int .u64 v31) ∧ (∃ a32 : Addr, t8_1.a = some a32 ∧ (0 : Int) ≤ 1 ∧ 1 < (t8_1.len : Int) ∧ (∃ v33 : Int, cellH h_1 (a32.add ((1 : Int).toNat * 1)) = some (.int .u64 v33) ∧ (∃ a34 : Addr, t8_1.a = some a34 ∧ (0 : Int) ≤ 0 ∧ 0 < (t8_1.len : Int) ∧ (∃ v35 : Int, cellH h_1 (a34.add ((0 : Int).toNat * 1)) = some (.int .u64 v35) ∧ (∃ h36 : Heap, WrsAt h_1 t4_1 2 ∧ h36 = setsH h_1 t4_1 0 (S_api_Wide.cs (⟨(IntKind.i64.wrap (IntKind.u64.wrap ((IntKind.u64.wrap (v29 * 4294967296)) + v31))), (IntKind.u64.wrap ((IntKind.u64.wrap (v33 * 4294967296)) + v35))⟩ : S_api_Wide)) ∧ (∃ v37 : S_api_Wide, CellsAt h36 t4_1 (S_api_Wide.cs v37) ∧ k (v37, 0) h36)))))))))))))
def ref01_Add_l1 (t4_1 : Addr) (t6_1 : Slc) (t7_1 : Slc) (i8 : Slc) (i9 : Int) (i10 : Int) (k : (S_api_Wide × Int) → Heap → Prop) (h : Heap) : Prop :=
  ∃ (I : (Slc × Int × Int) → Heap → Prop) (μ : (Slc × Int × Int) → Heap → Nat), I (i8, i9, i10) h ∧ ∀ (t8_1 : Slc) (t9_1 : Int) (t10_1 : Int) (h : Heap), I (t8_1, t9_1, t10_1) h → ref01_Add_l1b t4_1 t6_1 t7_1 t8_1 t9_1 t10_1 k (fun s h' => I s h' ∧ μ s h' < μ (t8_1, t9_1, t10_1) h) h
def ref01_Add (p0 : S_api_Wide) (p1 : S_api_Wide) (k : (S_api_Wide × Int) → Heap → Prop) (h : Heap) : Prop :=
  ∃ (b1 : Nat) (h2 : Heap), b1 = h.size ∧ h2 = h.push (.cells (S_api_Wide.cs p0).toArray 47) ∧ (∃ (b3 : Nat) (h4 : Heap), b3 = h2.size ∧ h4 = h2.push (.cells (S_api_Wide.cs p1).toArray 47) ∧ (∃ (b5 : Nat) (h6 : Heap), b5 = h4.size ∧ h6 = h4.push (.cells (S_api_Wide.cs (⟨0, 0⟩ : S_api_Wide)).toArray 47) ∧ (∃ v7 : S_api_Wide, CellsAt h6 (⟨b1, 0, none⟩ : Addr) (S_api_Wide.cs v7) ∧ (∃ v8 : S_api_Wide, CellsAt h6 (⟨b3, 0, none⟩ : Addr) (S_api_Wide.cs v8) ∧ (ref01_digits v7 (fun (r9 : Slc) h10 => CellsAt h10 (⟨b3, 0, none⟩ : Addr) (S_api_Wide.cs v8) ∧ (ref01_digits v8 (fun (r12 : Slc) h13 => ref01_Add_l1 (⟨b5, 0, none⟩ : Addr) r9 r12 (⟨none, 0, 0⟩ : Slc) 0 0 k h13) h10)) h6)))))

/-- quaestor quaestorref01.Less -/
def ref01_Less (p0 : S_api_Wide) (p1 : S_api_Wide) (k : (Bool) → Heap → Prop) (h : Heap) : Prop :=
  ∃ (b1 : Nat) (h2 : Heap), b1 = h.size ∧ h2 = h.push (.cells (S_api_Wide.cs p0).toArray 47) ∧ (∃ (b3 : Nat) (h4 : Heap), b3 = h2.size ∧ h4 = h2.push (.cells (S_api_Wide.cs p1).toArray 47) ∧ (∃ v5 : Int, cellH h4 (⟨b1, 0, none⟩ : Addr) = some (.int .i64 v5) ∧ (∃ v6 : Int, cellH h4 (⟨b3, 0, none⟩ : Addr) = some (.int .i64 v6) ∧ (if (v5 != v6) then (∃ v7 : Int, cellH h4 (⟨b1, 0, none⟩ : Addr) = some (.int .i64 v7) ∧ (∃ v8 : Int, cellH h4 (⟨b3, 0, none⟩ : Addr) = some (.int .i64 v8) ∧ (k (decide (v7 < v8)) h4))) else (∃ v9 : Int, cellH h4 ((⟨b1, 0, none⟩ : Addr).add 1) = some (.int .u64 v9) ∧ (∃ v10 : Int, cellH h4 ((⟨b3, 0, none⟩ : Addr).add 1) = some (.int .u64 v10) ∧ (k (decide (v9 < v10)) h4)))))))

/-- quaestor quaestorlaw19.awake -/
def law19_awake_g5 (t91_5 : Bool) (k : (Bool) → Heap → Prop) (h_5 : Heap) : Prop :=
  k t91_5 h_5
def law19_awake_g4 (t6_4 : Slc) (t84_4 : Bool) (k : (Bool) → Heap → Prop) (h_4 : Heap) : Prop :=
  if t84_4 then (∃ a9 : Addr, t6_4.a = some a9 ∧ (0 : Int) ≤ 1 ∧ 1 < (t6_4.len : Int) ∧ (∃ v10 : Int, cellH h_4 ((a9.add ((1 : Int).toNat * 4)).add 1) = some (.int .i64 v10) ∧ (law19_awake_g5 (v10 == 2) k h_4))) else (law19_awake_g5 false k h_4)
def law19_awake_g3 (t6_3 : Slc) (t76_3 : Bool) (k : (Bool) → Heap → Prop) (h_3 : Heap) : Prop :=
  if t76_3 then (∃ a11 : Addr, t6_3.a = some a11 ∧ (0 : Int) ≤ 0 ∧ 0 < (t6_3.len : Int) ∧ (∃ v12 : Int, cellH h_3 (((a11.add ((0 : Int).toNat * 4)).add 2).add 1) = some (.int .u64 v12) ∧ (law19_awake_g4 t6_3 (v12 == 5) k h_3))) else (law19_awake_g4 t6_3 false k h_3)
def law19_awake_g2 (t6_2 : Slc) (t64_2 : Bool) (k : (Bool) → Heap → Prop) (h_2 : Heap) : Prop :=
  if (t64_2 && ((t6_2.len : Int) == 2)) then (∃ a13 : Addr, t6_2.a = some a13 ∧ (0 : Int) ≤ 0 ∧ 0 < (t6_2.len : Int) ∧ (∃ v14 : Int, cellH h_2 ((a13.add ((0 : Int).toNat * 4)).add 1) = some (.int .i64 v14) ∧ (law19_awake_g3 t6_2 (v14 == 0) k h_2))) else (law19_awake_g3 t6_2 false k h_2)
def law19_awake_g1 (t4_1 : Slc) (t6_1 : Slc) (t51_1 : Bool) (k : (Bool) → Heap → Prop) (h_1 : Heap) : Prop :=
  if (t51_1 && ((t4_1.len : Int) == 1)) then (∃ a15 : Addr, t4_1.a = some a15 ∧ (0 : Int) ≤ 0 ∧ 0 < (t4_1.len : Int) ∧ (∃ v16 : Int, cellH h_1 (((a15.add ((0 : Int).toNat * 4)).add 2).add 1) = some (.int .u64 v16) ∧ (law19_awake_g2 t6_1 (v16 == 2) k h_1))) else (law19_awake_g2 t6_1 false k h_1)
def law19_awake (k : (Bool) → Heap → Prop) (h : Heap) : Prop :=
  ∃ (b1 : Nat) (h2 : Heap), b1 = h.size ∧ h2 = h.push (.cells ((S_api_Piece.cs (⟨(⟨#[97]⟩ : ByteArray), 1, 5, (⟨0, 0⟩ : S_api_Id)⟩ : S_api_Piece)) ++ (S_api_Piece.cs (⟨(⟨#[97]⟩ : ByteArray), 2, 7, (⟨0, 0⟩ : S_api_Id)⟩ : S_api_Piece))).toArray 80) ∧ (query_Run (⟨ByteArray.empty, 0, 9, 2, 0⟩ : S_api_Query) (⟨some ⟨b1, 0, none⟩, 2, 2⟩ : Slc) 0 (fun (r3 : Slc × Int) h4 => query_Run (⟨ByteArray.empty, 0, 9, 5, 0⟩ : S_api_Query) (⟨some ⟨b1, 0, none⟩, 2, 2⟩ : Slc) 0 (fun (r5 : Slc × Int) h6 => query_Run (⟨ByteArray.empty, 0, 9, 6, 2⟩ : S_api_Query) (⟨some ⟨b1, 0, none⟩, 2, 2⟩ : Slc) 0 (fun (r7 : Slc × Int) h8 => if ((((r3.2 == 0) && (r5.2 == 0)) && (r7.2 == 0)) && ((r3.1.len : Int) == 1)) then (∃ a17 : Addr, r3.1.a = some a17 ∧ (0 : Int) ≤ 0 ∧ 0 < (r3.1.len : Int) ∧ (∃ v18 : Int, cellH h8 (((a17.add ((0 : Int).toNat * 4)).add 2).add 1) = some (.int .u64 v18) ∧ (law19_awake_g1 r5.1 r7.1 (v18 == 12) k h8))) else (law19_awake_g1 r5.1 r7.1 false k h8)) h6) h4) h2)

/-- quaestor quaestorlaw19.QueryOrder -/
def law19_QueryOrder_g3 (t62_3 : Bool) (k : (Bool) → Heap → Prop) (h_3 : Heap) : Prop :=
  k t62_3 h_3
def law19_QueryOrder_g2 (t59_2 : Bool) (k : (Bool) → Heap → Prop) (h_2 : Heap) : Prop :=
  if t59_2 then (law19_awake  (fun (r25 : Bool) h26 => law19_QueryOrder_g3 r25 k h26) h_2) else (law19_QueryOrder_g3 false k h_2)
def law19_QueryOrder_g1 (t1_1 : Slc) (t2_1 : Int) (t3_1 : Int) (t4_1 : Addr) (t22_1 : Bool) (k : (Bool) → Heap → Prop) (h_1 : Heap) : Prop :=
  if t22_1 then (law19_awake  (fun (r5 : Bool) h6 => k r5 h6) h_1) else (ref01_Pick t3_1 (IntKind.i64.wrap ((t1_1.len : Int) + 1)) (fun (r7 : Int) h8 => ∃ s9 : Slc, (0 : Int) ≤ r7 ∧ (r7 : Int) ≤ (t1_1.len : Int) ∧ ((t1_1.len : Int) : Int) ≤ (t1_1.cap : Int) ∧ (t1_1.cap : Int) ≤ (t1_1.cap : Int) ∧ s9 = subS t1_1 5 r7.toNat (t1_1.len : Int).toNat (t1_1.cap : Int).toNat ∧ (∃ s10 : Slc, (0 : Int) ≤ 0 ∧ (0 : Int) ≤ r7 ∧ (r7 : Int) ≤ (t1_1.cap : Int) ∧ (t1_1.cap : Int) ≤ (t1_1.cap : Int) ∧ s10 = subS t1_1 5 (0 : Int).toNat r7.toNat (t1_1.cap : Int).toNat ∧ (∃ (b11 : Nat) (h12 : Heap), b11 = h8.size ∧ h12 = h8.push (.cells ([]).toArray 80) ∧ (∃ l15 : List Value, SlcAt h12 s9 l15 ∧ App 80 5 48 [.string ByteArray.empty, .int .i64 0, .int .i64 0, .int .u64 0, .int .u16 0] h12 (⟨some ⟨b11, 0, none⟩, 0, 0⟩ : Slc) s9.len l15 (fun s13 h14 => ∃ l18 : List Value, SlcAt h14 s10 l18 ∧ App 80 5 48 [.string ByteArray.empty, .int .i64 0, .int .i64 0, .int .u64 0, .int .u16 0] h14 s13 s10.len l18 (fun s16 h17 => ∃ v19 : S_api_Query, CellsAt h17 t4_1 (S_api_Query.cs v19) ∧ (query_Run v19 t1_1 t2_1 (fun (r20 : Slc × Int) h21 => ∃ v22 : S_api_Query, CellsAt h21 t4_1 (S_api_Query.cs v22) ∧ (query_Run v22 s16 t2_1 (fun (r23 : Slc × Int) h24 => if (r20.2 == r23.2) then (ref19_SameRows r20.1 r23.1 (fun (r27 : Bool) h28 => law19_QueryOrder_g2 r27 k h28) h24) else (law19_QueryOrder_g2 false k h24)) h21)) h17))))))) h_1)
def law19_QueryOrder (p0 : S_api_Query) (p1 : Slc) (p2 : Int) (p3 : Int) (k : (Bool) → Heap → Prop) (h : Heap) : Prop :=
  ∃ (b1 : Nat) (h2 : Heap), b1 = h.size ∧ h2 = h.push (.cells (S_api_Query.cs p0).toArray 36) ∧ (ref13_Great p1 40 (fun (r3 : Bool) h4 => if r3 then (law19_QueryOrder_g1 p1 p2 p3 (⟨b1, 0, none⟩ : Addr) true k h4) else (∃ v29 : ByteArray, cellH h4 (⟨b1, 0, none⟩ : Addr) = some (.string v29) ∧ (law19_QueryOrder_g1 p1 p2 p3 (⟨b1, 0, none⟩ : Addr) (decide ((v29.size : Int) > 400)) k h4))) h2)

/-- quaestor quaestorlaw19.total -/
def law19_total_l1b (t0_1 : Slc) (t2_1 : Addr) (t3_1 : Addr) (t4_1 : Int) (k : (S_api_Wide) → Heap → Prop) (nx1 : (Int) → Heap → Prop) (h_1 : Heap) : Prop :=
  if (decide (t4_1 < (t0_1.len : Int))) then (∃ v6 : S_api_Wide, CellsAt h_1 t3_1 (S_api_Wide.cs v6) ∧ (∃ a7 : Addr, t0_1.a = some a7 ∧ (0 : Int) ≤ t4_1 ∧ t4_1 < (t0_1.len : Int) ∧ (∃ v8 : S_api_Wide, CellsAt h_1 ((a7.add (t4_1.toNat * 4)).add 2) (S_api_Wide.cs v8) ∧ (ref01_Add v6 v8 (fun (r9 : S_api_Wide × Int) h10 => ∃ h11 : Heap, WrsAt h10 t3_1 2 ∧ h11 = setsH h10 t3_1 0 (S_api_Wide.cs r9.1) ∧ (∃ x12 : Int, x12 = (IntKind.i64.wrap (t4_1 + 1)) ∧ (nx1 x12 h11))) h_1)))) else (∃ v13 : S_api_Wide, CellsAt h_1 t3_1 (S_api_Wide.cs v13) ∧ (∃ h14 : Heap, WrsAt h_1 t2_1 2 ∧ h14 = setsH h_1 t2_1 0 (S_api_Wide.cs v13) ∧ (∃ v15 : S_api_Wide, CellsAt h14 t2_1 (S_api_Wide.cs v15) ∧ k v15 h14)))
def law19_total_l1 (t0_1 : Slc) (t2_1 : Addr) (t3_1 : Addr) (i4 : Int) (k : (S_api_Wide) → Heap → Prop) (h : Heap) : Prop :=
  ∃ (I : Int → Heap → Prop) (μ : Int → Heap → Nat), I i4 h ∧ ∀ (t4_1 : Int) (h : Heap), I t4_1 h → law19_total_l1b t0_1 t2_1 t3_1 t4_1 k (fun s h' => I s h' ∧ μ s h' < μ t4_1 h) h
def law19_total (p0 : Slc) (k : (S_api_Wide) → Heap → Prop) (h : Heap) : Prop :=
  ∃ (b1 : Nat) (h2 : Heap), b1 = h.size ∧ h2 = h.push (.cells (S_api_Wide.cs (⟨0, 0⟩ : S_api_Wide)).toArray 47) ∧ (∃ (b3 : Nat) (h4 : Heap), b3 = h2.size ∧ h4 = h2.push (.cells (S_api_Wide.cs (⟨0, 0⟩ : S_api_Wide)).toArray 47) ∧ (∃ h5 : Heap, WrsAt h4 (⟨b3, 0, none⟩ : Addr) 2 ∧ h5 = setsH h4 (⟨b3, 0, none⟩ : Addr) 0 (S_api_Wide.cs (⟨0, 0⟩ : S_api_Wide)) ∧ (law19_total_l1 p0 (⟨b1, 0, none⟩ : Addr) (⟨b3, 0, none⟩ : Addr) 0 k h5)))

/-- quaestor quaestorlaw19.QueryParts -/
def law19_QueryParts_g4 (t67_4 : Bool) (k : (Bool) → Heap → Prop) (h_4 : Heap) : Prop :=
  k t67_4 h_4
def law19_QueryParts_j5 (t8_5 : Bool) (k : (Bool) → Heap → Prop) (h_5 : Heap) : Prop :=
  k t8_5 h_5
def law19_QueryParts_g3 (t1_3 : Slc) (t2_3 : Int) (t4_3 : Addr) (t9_3 : Slc) (t10_3 : Int) (t58_3 : Bool) (k : (Bool) → Heap → Prop) (h_3 : Heap) : Prop :=
  if t58_3 then (if ((t10_3 == 0) || (t10_3 == 4)) then (law19_awake  (fun (r17 : Bool) h18 => law19_QueryParts_g4 r17 k h18) h_3) else (law19_QueryParts_g4 false k h_3)) else (∃ v19 : S_api_Query, CellsAt h_3 t4_3 (S_api_Query.cs v19) ∧ (∃ (b20 : Nat) (h21 : Heap), b20 = h_3.size ∧ h21 = h_3.push (.cells (S_api_Query.cs (⟨ByteArray.empty, 0, 0, 0, 0⟩ : S_api_Query)).toArray 36) ∧ (∃ h22 : Heap, WrsAt h21 (⟨b20, 0, none⟩ : Addr) 5 ∧ h22 = setsH h21 (⟨b20, 0, none⟩ : Addr) 0 (S_api_Query.cs v19) ∧ (∃ h23 : Heap, WrH h22 ((⟨b20, 0, none⟩ : Addr).add 2) ∧ h23 = setH h22 ((⟨b20, 0, none⟩ : Addr).add 2) (.int .i64 (IntKind.i64.wrap (t2_3 - 1))) ∧ (∃ v24 : S_api_Query, CellsAt h23 (⟨b20, 0, none⟩ : Addr) (S_api_Query.cs v24) ∧ (query_Run v24 t1_3 (-9223372036854775808) (fun (r25 : Slc × Int) h26 => ∃ v27 : S_api_Query, CellsAt h26 t4_3 (S_api_Query.cs v27) ∧ (∃ h28 : Heap, WrsAt h26 (⟨b20, 0, none⟩ : Addr) 5 ∧ h28 = setsH h26 (⟨b20, 0, none⟩ : Addr) 0 (S_api_Query.cs v27) ∧ (∃ h29 : Heap, WrH h28 ((⟨b20, 0, none⟩ : Addr).add 1) ∧ h29 = setH h28 ((⟨b20, 0, none⟩ : Addr).add 1) (.int .i64 t2_3) ∧ (∃ v30 : S_api_Query, CellsAt h29 (⟨b20, 0, none⟩ : Addr) (S_api_Query.cs v30) ∧ (query_Run v30 t1_3 (-9223372036854775808) (fun (r31 : Slc × Int) h32 => law19_total r25.1 (fun (r33 : S_api_Wide) h34 => law19_total r31.1 (fun (r35 : S_api_Wide) h36 => ref01_Add r33 r35 (fun (r37 : S_api_Wide × Int) h38 => ∃ (b39 : Nat) (h40 : Heap), b39 = h38.size ∧ h40 = h38.push (.cells (S_api_Wide.cs (⟨0, 0⟩ : S_api_Wide)).toArray 47) ∧ (∃ h41 : Heap, WrsAt h40 (⟨b39, 0, none⟩ : Addr) 2 ∧ h41 = setsH h40 (⟨b39, 0, none⟩ : Addr) 0 (S_api_Wide.cs r37.1) ∧ (∃ v42 : S_api_Query, CellsAt h41 t4_3 (S_api_Query.cs v42) ∧ (query_Run v42 t1_3 t2_3 (fun (r43 : Slc × Int) h44 => if (r25.2 == 0) then (if (r31.2 == 0) then (if (r43.2 == 0) then (∃ v45 : S_api_Wide, CellsAt h44 (⟨b39, 0, none⟩ : Addr) (S_api_Wide.cs v45) ∧ (law19_total t9_3 (fun (r46 : S_api_Wide) h47 => CellsAt h47 (⟨b39, 0, none⟩ : Addr) (S_api_Wide.cs v45) ∧ (if (if BinOp.eql = .eql then ((r46.f_Hi == v45.f_Hi) && (r46.f_Lo == v45.f_Lo)) else !((r46.f_Hi == v45.f_Hi) && (r46.f_Lo == v45.f_Lo))) then (ref19_SameRows r31.1 r43.1 (fun (r49 : Bool) h50 => if r49 then (law19_awake  (fun (r51 : Bool) h52 => law19_QueryParts_j5 r51 k h52) h50) else (law19_QueryParts_j5 false k h50)) h47) else (if false then (law19_awake  (fun (r53 : Bool) h54 => law19_QueryParts_j5 r53 k h54) h47) else (law19_QueryParts_j5 false k h47)))) h44)) else (if false then (ref19_SameRows r31.1 r43.1 (fun (r55 : Bool) h56 => if r55 then (law19_awake  (fun (r57 : Bool) h58 => law19_QueryParts_j5 r57 k h58) h56) else (law19_QueryParts_j5 false k h56)) h44) else (if false then (law19_awake  (fun (r59 : Bool) h60 => law19_QueryParts_j5 r59 k h60) h44) else (law19_QueryParts_j5 false k h44)))) else (if false then (∃ v61 : S_api_Wide, CellsAt h44 (⟨b39, 0, none⟩ : Addr) (S_api_Wide.cs v61) ∧ (law19_total t9_3 (fun (r62 : S_api_Wide) h63 => CellsAt h63 (⟨b39, 0, none⟩ : Addr) (S_api_Wide.cs v61) ∧ (if (if BinOp.eql = .eql then ((r62.f_Hi == v61.f_Hi) && (r62.f_Lo == v61.f_Lo)) else !((r62.f_Hi == v61.f_Hi) && (r62.f_Lo == v61.f_Lo))) then (ref19_SameRows r31.1 r43.1 (fun (r65 : Bool) h66 => if r65 then (law19_awake  (fun (r67 : Bool) h68 => law19_QueryParts_j5 r67 k h68) h66) else (law19_QueryParts_j5 false k h66)) h63) else (if false then (law19_awake  (fun (r69 : Bool) h70 => law19_QueryParts_j5 r69 k h70) h63) else (law19_QueryParts_j5 false k h63)))) h44)) else (if false then (ref19_SameRows r31.1 r43.1 (fun (r71 : Bool) h72 => if r71 then (law19_awake  (fun (r73 : Bool) h74 => law19_QueryParts_j5 r73 k h74) h72) else (law19_QueryParts_j5 false k h72)) h44) else (if false then (law19_awake  (fun (r75 : Bool) h76 => law19_QueryParts_j5 r75 k h76) h44) else (law19_QueryParts_j5 false k h44))))) else (if false then (if (r43.2 == 0) then (∃ v77 : S_api_Wide, CellsAt h44 (⟨b39, 0, none⟩ : Addr) (S_api_Wide.cs v77) ∧ (law19_total t9_3 (fun (r78 : S_api_Wide) h79 => CellsAt h79 (⟨b39, 0, none⟩ : Addr) (S_api_Wide.cs v77) ∧ (if (if BinOp.eql = .eql then ((r78.f_Hi == v77.f_Hi) && (r78.f_Lo == v77.f_Lo)) else !((r78.f_Hi == v77.f_Hi) && (r78.f_Lo == v77.f_Lo))) then (ref19_SameRows r31.1 r43.1 (fun (r81 : Bool) h82 => if r81 then (law19_awake  (fun (r83 : Bool) h84 => law19_QueryParts_j5 r83 k h84) h82) else (law19_QueryParts_j5 false k h82)) h79) else (if false then (law19_awake  (fun (r85 : Bool) h86 => law19_QueryParts_j5 r85 k h86) h79) else (law19_QueryParts_j5 false k h79)))) h44)) else (if false then (ref19_SameRows r31.1 r43.1 (fun (r87 : Bool) h88 => if r87 then (law19_awake  (fun (r89 : Bool) h90 => law19_QueryParts_j5 r89 k h90) h88) else (law19_QueryParts_j5 false k h88)) h44) else (if false then (law19_awake  (fun (r91 : Bool) h92 => law19_QueryParts_j5 r91 k h92) h44) else (law19_QueryParts_j5 false k h44)))) else (if false then (∃ v93 : S_api_Wide, CellsAt h44 (⟨b39, 0, none⟩ : Addr) (S_api_Wide.cs v93) ∧ (law19_total t9_3 (fun (r94 : S_api_Wide) h95 => CellsAt h95 (⟨b39, 0, none⟩ : Addr) (S_api_Wide.cs v93) ∧ (if (if BinOp.eql = .eql then ((r94.f_Hi == v93.f_Hi) && (r94.f_Lo == v93.f_Lo)) else !((r94.f_Hi == v93.f_Hi) && (r94.f_Lo == v93.f_Lo))) then (ref19_SameRows r31.1 r43.1 (fun (r97 : Bool) h98 => if r97 then (law19_awake  (fun (r99 : Bool) h100 => law19_QueryParts_j5 r99 k h100) h98) else (law19_QueryParts_j5 false k h98)) h95) else (if false then (law19_awake  (fun (r101 : Bool) h102 => law19_QueryParts_j5 r101 k h102) h95) else (law19_QueryParts_j5 false k h95)))) h44)) else (if false then (ref19_SameRows r31.1 r43.1 (fun (r103 : Bool) h104 => if r103 then (law19_awake  (fun (r105 : Bool) h106 => law19_QueryParts_j5 r105 k h106) h104) else (law19_QueryParts_j5 false k h104)) h44) else (if false then (law19_awake  (fun (r107 : Bool) h108 => law19_QueryParts_j5 r107 k h108) h44) else (law19_QueryParts_j5 false k h44)))))) h41)))) h36) h34) h32) h29))))) h23))))))
def law19_QueryParts_g2 (t1_2 : Slc) (t2_2 : Int) (t4_2 : Addr) (t9_2 : Slc) (t10_2 : Int) (t52_2 : Bool) (k : (Bool) → Heap → Prop) (h_2 : Heap) : Prop :=
  if t52_2 then (law19_QueryParts_g3 t1_2 t2_2 t4_2 t9_2 t10_2 true k h_2) else (∃ v109 : Int, cellH h_2 (t4_2.add 2) = some (.int .i64 v109) ∧ (law19_QueryParts_g3 t1_2 t2_2 t4_2 t9_2 t10_2 (decide (t2_2 > v109)) k h_2))
def law19_QueryParts_g1 (t1_1 : Slc) (t2_1 : Int) (t3_1 : Int) (t4_1 : Addr) (t27_1 : Bool) (k : (Bool) → Heap → Prop) (h_1 : Heap) : Prop :=
  if t27_1 then (law19_awake  (fun (r5 : Bool) h6 => k r5 h6) h_1) else (∃ (b7 : Nat) (h8 : Heap), b7 = h_1.size ∧ h8 = h_1.push (.cells ([.int .i64 1, .int .i64 2, .int .i64 6]).toArray 3) ∧ (∃ a9 : Addr, (⟨some ⟨b7, 0, none⟩, 3, 3⟩ : Slc).a = some a9 ∧ (0 : Int) ≤ (Int.tmod t3_1 3) ∧ (Int.tmod t3_1 3) < ((⟨some ⟨b7, 0, none⟩, 3, 3⟩ : Slc).len : Int) ∧ (∃ v10 : Int, cellH h8 (a9.add ((Int.tmod t3_1 3).toNat * 1)) = some (.int .i64 v10) ∧ (∃ h11 : Heap, WrH h8 (t4_1.add 3) ∧ h11 = setH h8 (t4_1.add 3) (.int .i64 v10) ∧ (∃ v12 : Int, cellH h11 (t4_1.add 4) = some (.int .i64 v12) ∧ (∃ h13 : Heap, WrH h11 (t4_1.add 4) ∧ h13 = setH h11 (t4_1.add 4) (.int .i64 (if 1 > v12 then 1 else v12)) ∧ (∃ v14 : S_api_Query, CellsAt h13 t4_1 (S_api_Query.cs v14) ∧ (query_Run v14 t1_1 (-9223372036854775808) (fun (r15 : Slc × Int) h16 => if (r15.2 != 0) then (law19_QueryParts_g2 t1_1 t2_1 t4_1 r15.1 r15.2 true k h16) else (∃ v110 : Int, cellH h16 (t4_1.add 1) = some (.int .i64 v110) ∧ (law19_QueryParts_g2 t1_1 t2_1 t4_1 r15.1 r15.2 (decide (t2_1 ≤ v110)) k h16))) h13))))))))
def law19_QueryParts (p0 : S_api_Query) (p1 : Slc) (p2 : Int) (p3 : Int) (k : (Bool) → Heap → Prop) (h : Heap) : Prop :=
  ∃ (b1 : Nat) (h2 : Heap), b1 = h.size ∧ h2 = h.push (.cells (S_api_Query.cs p0).toArray 36) ∧ (ref13_Great p1 40 (fun (r3 : Bool) h4 => if r3 then (law19_QueryParts_g1 p1 p2 p3 (⟨b1, 0, none⟩ : Addr) true k h4) else (∃ v111 : ByteArray, cellH h4 (⟨b1, 0, none⟩ : Addr) = some (.string v111) ∧ (law19_QueryParts_g1 p1 p2 p3 (⟨b1, 0, none⟩ : Addr) (decide ((v111.size : Int) > 400)) k h4))) h2)

/-- quaestor quaestorlaw19.by -/
def law19_by (p0 : S_api_Query) (p1 : Int) (p2 : Slc) (p3 : Int) (k : (Slc × Int) → Heap → Prop) (h : Heap) : Prop :=
  ∃ (b1 : Nat) (h2 : Heap), b1 = h.size ∧ h2 = h.push (.cells (S_api_Query.cs p0).toArray 36) ∧ (∃ h3 : Heap, WrH h2 ((⟨b1, 0, none⟩ : Addr).add 3) ∧ h3 = setH h2 ((⟨b1, 0, none⟩ : Addr).add 3) (.int .i64 p1) ∧ (∃ v4 : S_api_Query, CellsAt h3 (⟨b1, 0, none⟩ : Addr) (S_api_Query.cs v4) ∧ (query_Run v4 p2 p3 (fun (r5 : Slc × Int) h6 => k (r5.1, r5.2) h6) h3)))

/-- quaestor quaestorlaw19.QueryBounds -/
def law19_QueryBounds_g7 (t7_7 : Slc) (t9_7 : Slc) (t11_7 : Slc) (t13_7 : Slc) (t15_7 : Int) (t16_7 : Int) (t17_7 : Int) (t18_7 : Bool) (t148_7 : Bool) (k : (Bool) → Heap → Prop) (nx2 : (Int × Int) → Heap → Prop) (nx3 : (Int × Int × Bool × Bool) → Heap → Prop) (h_7 : Heap) : Prop :=
  ∃ x24 : Int, x24 = (IntKind.i64.wrap (t17_7 + 1)) ∧ (∃ x25 : Int, x25 = (IntKind.i64.wrap (t15_7 + 1)) ∧ (nx3 (x25, x24, t18_7, t148_7) h_7))
def law19_QueryBounds_g6 (t7_6 : Slc) (t9_6 : Slc) (t11_6 : Slc) (t13_6 : Slc) (t15_6 : Int) (t16_6 : Int) (t17_6 : Int) (t19_6 : Bool) (t20_6 : Addr) (t138_6 : Bool) (k : (Bool) → Heap → Prop) (nx2 : (Int × Int) → Heap → Prop) (nx3 : (Int × Int × Bool × Bool) → Heap → Prop) (h_6 : Heap) : Prop :=
  if t19_6 then (law19_QueryBounds_g7 t7_6 t9_6 t11_6 t13_6 t15_6 t16_6 t17_6 t138_6 true k nx2 nx3 h_6) else (∃ v26 : S_api_Wide, CellsAt h_6 t20_6 (S_api_Wide.cs v26) ∧ (∃ a27 : Addr, t11_6.a = some a27 ∧ (0 : Int) ≤ t16_6 ∧ t16_6 < (t11_6.len : Int) ∧ (∃ v28 : S_api_Wide, CellsAt h_6 ((a27.add (t16_6.toNat * 4)).add 2) (S_api_Wide.cs v28) ∧ (law19_QueryBounds_g7 t7_6 t9_6 t11_6 t13_6 t15_6 t16_6 t17_6 t138_6 (if BinOp.eql = .eql then ((v26.f_Hi == v28.f_Hi) && (v26.f_Lo == v28.f_Lo)) else !((v26.f_Hi == v28.f_Hi) && (v26.f_Lo == v28.f_Lo))) k nx2 nx3 h_6))))
def law19_QueryBounds_j5 (t7_5 : Slc) (t9_5 : Slc) (t11_5 : Slc) (t13_5 : Slc) (t15_5 : Int) (t16_5 : Int) (t17_5 : Int) (t18_5 : Bool) (t19_5 : Bool) (t20_5 : Addr) (t128_5 : Bool) (k : (Bool) → Heap → Prop) (nx2 : (Int × Int) → Heap → Prop) (nx3 : (Int × Int × Bool × Bool) → Heap → Prop) (h_5 : Heap) : Prop :=
  if t128_5 then (k false h_5) else (if t18_5 then (law19_QueryBounds_g6 t7_5 t9_5 t11_5 t13_5 t15_5 t16_5 t17_5 t19_5 t20_5 true k nx2 nx3 h_5) else (∃ v29 : S_api_Wide, CellsAt h_5 t20_5 (S_api_Wide.cs v29) ∧ (∃ a30 : Addr, t9_5.a = some a30 ∧ (0 : Int) ≤ t16_5 ∧ t16_5 < (t9_5.len : Int) ∧ (∃ v31 : S_api_Wide, CellsAt h_5 ((a30.add (t16_5.toNat * 4)).add 2) (S_api_Wide.cs v31) ∧ (law19_QueryBounds_g6 t7_5 t9_5 t11_5 t13_5 t15_5 t16_5 t17_5 t19_5 t20_5 (if BinOp.eql = .eql then ((v29.f_Hi == v31.f_Hi) && (v29.f_Lo == v31.f_Lo)) else !((v29.f_Hi == v31.f_Hi) && (v29.f_Lo == v31.f_Lo))) k nx2 nx3 h_5)))))
def law19_QueryBounds_g9 (t7_9 : Slc) (t9_9 : Slc) (t11_9 : Slc) (t13_9 : Slc) (t15_9 : Int) (t16_9 : Int) (t182_9 : Bool) (k : (Bool) → Heap → Prop) (nx2 : (Int × Int) → Heap → Prop) (nx3 : (Int × Int × Bool × Bool) → Heap → Prop) (h_9 : Heap) : Prop :=
  if t182_9 then (k false h_9) else (∃ x42 : Int, x42 = (IntKind.i64.wrap (t16_9 + 1)) ∧ (nx2 (t15_9, x42) h_9))
def law19_QueryBounds_g8 (t7_8 : Slc) (t9_8 : Slc) (t11_8 : Slc) (t13_8 : Slc) (t15_8 : Int) (t16_8 : Int) (t169_8 : Bool) (k : (Bool) → Heap → Prop) (nx2 : (Int × Int) → Heap → Prop) (nx3 : (Int × Int × Bool × Bool) → Heap → Prop) (h_8 : Heap) : Prop :=
  if t169_8 then (law19_QueryBounds_g9 t7_8 t9_8 t11_8 t13_8 t15_8 t16_8 true k nx2 nx3 h_8) else (∃ a43 : Addr, t9_8.a = some a43 ∧ (0 : Int) ≤ t16_8 ∧ t16_8 < (t9_8.len : Int) ∧ (∃ v44 : ByteArray, cellH h_8 (a43.add (t16_8.toNat * 4)) = some (.string v44) ∧ (∃ a45 : Addr, t11_8.a = some a45 ∧ (0 : Int) ≤ t16_8 ∧ t16_8 < (t11_8.len : Int) ∧ (∃ v46 : ByteArray, cellH h_8 (a45.add (t16_8.toNat * 4)) = some (.string v46) ∧ (law19_QueryBounds_g9 t7_8 t9_8 t11_8 t13_8 t15_8 t16_8 (!(v44.toList == v46.toList)) k nx2 nx3 h_8)))))
def law19_QueryBounds_g4 (t7_4 : Slc) (t9_4 : Slc) (t11_4 : Slc) (t13_4 : Slc) (t15_4 : Int) (t16_4 : Int) (t17_4 : Int) (t18_4 : Bool) (t19_4 : Bool) (t107_4 : Bool) (k : (Bool) → Heap → Prop) (nx2 : (Int × Int) → Heap → Prop) (nx3 : (Int × Int × Bool × Bool) → Heap → Prop) (h_4 : Heap) : Prop :=
  if t107_4 then (∃ a19 : Addr, t7_4.a = some a19 ∧ (0 : Int) ≤ t15_4 ∧ t15_4 < (t7_4.len : Int) ∧ (∃ v20 : S_api_Wide, CellsAt h_4 ((a19.add (t15_4.toNat * 4)).add 2) (S_api_Wide.cs v20) ∧ (∃ (b21 : Nat) (h22 : Heap), b21 = h_4.size ∧ h22 = h_4.push (.cells (S_api_Wide.cs (⟨0, 0⟩ : S_api_Wide)).toArray 47) ∧ (∃ h23 : Heap, WrsAt h22 (⟨b21, 0, none⟩ : Addr) 2 ∧ h23 = setsH h22 (⟨b21, 0, none⟩ : Addr) 0 (S_api_Wide.cs v20) ∧ (∃ v32 : S_api_Wide, CellsAt h23 (⟨b21, 0, none⟩ : Addr) (S_api_Wide.cs v32) ∧ (∃ a33 : Addr, t9_4.a = some a33 ∧ (0 : Int) ≤ t16_4 ∧ t16_4 < (t9_4.len : Int) ∧ (∃ v34 : S_api_Wide, CellsAt h23 ((a33.add (t16_4.toNat * 4)).add 2) (S_api_Wide.cs v34) ∧ (ref01_Less v32 v34 (fun (r35 : Bool) h36 => if r35 then (law19_QueryBounds_j5 t7_4 t9_4 t11_4 t13_4 t15_4 t16_4 t17_4 t18_4 t19_4 (⟨b21, 0, none⟩ : Addr) true k nx2 nx3 h36) else (∃ a37 : Addr, t11_4.a = some a37 ∧ (0 : Int) ≤ t16_4 ∧ t16_4 < (t11_4.len : Int) ∧ (∃ v38 : S_api_Wide, CellsAt h36 ((a37.add (t16_4.toNat * 4)).add 2) (S_api_Wide.cs v38) ∧ (∃ v39 : S_api_Wide, CellsAt h36 (⟨b21, 0, none⟩ : Addr) (S_api_Wide.cs v39) ∧ (ref01_Less v38 v39 (fun (r40 : Bool) h41 => law19_QueryBounds_j5 t7_4 t9_4 t11_4 t13_4 t15_4 t16_4 t17_4 t18_4 t19_4 (⟨b21, 0, none⟩ : Addr) r40 k nx2 nx3 h41) h36))))) h23)))))))) else (if ((!t18_4) || (!t19_4)) then (law19_QueryBounds_g8 t7_4 t9_4 t11_4 t13_4 t15_4 t16_4 true k nx2 nx3 h_4) else (∃ a47 : Addr, t13_4.a = some a47 ∧ (0 : Int) ≤ t16_4 ∧ t16_4 < (t13_4.len : Int) ∧ (∃ v48 : S_api_Wide, CellsAt h_4 ((a47.add (t16_4.toNat * 4)).add 2) (S_api_Wide.cs v48) ∧ (law19_QueryBounds_g8 t7_4 t9_4 t11_4 t13_4 t15_4 t16_4 (if BinOp.neq = .eql then ((v48.f_Hi == (⟨0, (IntKind.u64.wrap t17_4)⟩ : S_api_Wide).f_Hi) && (v48.f_Lo == (⟨0, (IntKind.u64.wrap t17_4)⟩ : S_api_Wide).f_Lo)) else !((v48.f_Hi == (⟨0, (IntKind.u64.wrap t17_4)⟩ : S_api_Wide).f_Hi) && (v48.f_Lo == (⟨0, (IntKind.u64.wrap t17_4)⟩ : S_api_Wide).f_Lo))) k nx2 nx3 h_4))))
def law19_QueryBounds_l3b (t7_3 : Slc) (t9_3 : Slc) (t11_3 : Slc) (t13_3 : Slc) (t16_3 : Int) (t15_3 : Int) (t17_3 : Int) (t18_3 : Bool) (t19_3 : Bool) (k : (Bool) → Heap → Prop) (nx2 : (Int × Int) → Heap → Prop) (nx3 : (Int × Int × Bool × Bool) → Heap → Prop) (h_3 : Heap) : Prop :=
  if (decide (t15_3 < (t7_3.len : Int))) then (∃ a49 : Addr, t7_3.a = some a49 ∧ (0 : Int) ≤ t15_3 ∧ t15_3 < (t7_3.len : Int) ∧ (∃ v50 : ByteArray, cellH h_3 (a49.add (t15_3.toNat * 4)) = some (.string v50) ∧ (∃ a51 : Addr, t9_3.a = some a51 ∧ (0 : Int) ≤ t16_3 ∧ t16_3 < (t9_3.len : Int) ∧ (∃ v52 : ByteArray, cellH h_3 (a51.add (t16_3.toNat * 4)) = some (.string v52) ∧ (law19_QueryBounds_g4 t7_3 t9_3 t11_3 t13_3 t15_3 t16_3 t17_3 t18_3 t19_3 (v50.toList == v52.toList) k nx2 nx3 h_3))))) else (law19_QueryBounds_g4 t7_3 t9_3 t11_3 t13_3 t15_3 t16_3 t17_3 t18_3 t19_3 false k nx2 nx3 h_3)
def law19_QueryBounds_l3 (t7_3 : Slc) (t9_3 : Slc) (t11_3 : Slc) (t13_3 : Slc) (t16_3 : Int) (i15 : Int) (i17 : Int) (i18 : Bool) (i19 : Bool) (k : (Bool) → Heap → Prop) (nx2 : (Int × Int) → Heap → Prop) (h : Heap) : Prop :=
  ∃ (I : (Int × Int × Bool × Bool) → Heap → Prop) (μ : (Int × Int × Bool × Bool) → Heap → Nat), I (i15, i17, i18, i19) h ∧ ∀ (t15_3 : Int) (t17_3 : Int) (t18_3 : Bool) (t19_3 : Bool) (h : Heap), I (t15_3, t17_3, t18_3, t19_3) h → law19_QueryBounds_l3b t7_3 t9_3 t11_3 t13_3 t16_3 t15_3 t17_3 t18_3 t19_3 k nx2 (fun s h' => I s h' ∧ μ s h' < μ (t15_3, t17_3, t18_3, t19_3) h) h
def law19_QueryBounds_g10 (t189_10 : Bool) (k : (Bool) → Heap → Prop) (nx2 : (Int × Int) → Heap → Prop) (h_10 : Heap) : Prop :=
  k t189_10 h_10
def law19_QueryBounds_l2b (t7_2 : Slc) (t9_2 : Slc) (t11_2 : Slc) (t13_2 : Slc) (t15_2 : Int) (t16_2 : Int) (k : (Bool) → Heap → Prop) (nx2 : (Int × Int) → Heap → Prop) (h_2 : Heap) : Prop :=
  if (decide (t16_2 < (t9_2.len : Int))) then (law19_QueryBounds_l3 t7_2 t9_2 t11_2 t13_2 t16_2 t15_2 0 false false k nx2 h_2) else (if (t15_2 == (t7_2.len : Int)) then (law19_awake  (fun (r53 : Bool) h54 => law19_QueryBounds_g10 r53 k nx2 h54) h_2) else (law19_QueryBounds_g10 false k nx2 h_2))
def law19_QueryBounds_l2 (t7_2 : Slc) (t9_2 : Slc) (t11_2 : Slc) (t13_2 : Slc) (i15 : Int) (i16 : Int) (k : (Bool) → Heap → Prop) (h : Heap) : Prop :=
  ∃ (I : (Int × Int) → Heap → Prop) (μ : (Int × Int) → Heap → Nat), I (i15, i16) h ∧ ∀ (t15_2 : Int) (t16_2 : Int) (h : Heap), I (t15_2, t16_2) h → law19_QueryBounds_l2b t7_2 t9_2 t11_2 t13_2 t15_2 t16_2 k (fun s h' => I s h' ∧ μ s h' < μ (t15_2, t16_2) h) h
def law19_QueryBounds_g1 (t1_1 : Slc) (t2_1 : Int) (t3_1 : Addr) (t28_1 : Bool) (k : (Bool) → Heap → Prop) (h_1 : Heap) : Prop :=
  if t28_1 then (law19_awake  (fun (r5 : Bool) h6 => k r5 h6) h_1) else (∃ v7 : S_api_Query, CellsAt h_1 t3_1 (S_api_Query.cs v7) ∧ (law19_by v7 0 t1_1 t2_1 (fun (r8 : Slc × Int) h9 => ∃ v10 : S_api_Query, CellsAt h9 t3_1 (S_api_Query.cs v10) ∧ (law19_by v10 3 t1_1 t2_1 (fun (r11 : Slc × Int) h12 => ∃ v13 : S_api_Query, CellsAt h12 t3_1 (S_api_Query.cs v13) ∧ (law19_by v13 4 t1_1 t2_1 (fun (r14 : Slc × Int) h15 => ∃ v16 : S_api_Query, CellsAt h15 t3_1 (S_api_Query.cs v16) ∧ (law19_by v16 1 t1_1 t2_1 (fun (r17 : Slc × Int) h18 => if (((((r11.2 != r8.2) || (r14.2 != r8.2)) || (r17.2 != r8.2)) || ((r11.1.len : Int) != (r14.1.len : Int))) || ((r11.1.len : Int) != (r17.1.len : Int))) then (k false h18) else (law19_QueryBounds_l2 r8.1 r11.1 r14.1 r17.1 0 0 k h18)) h15)) h12)) h9)) h_1))
def law19_QueryBounds (p0 : S_api_Query) (p1 : Slc) (p2 : Int) (k : (Bool) → Heap → Prop) (h : Heap) : Prop :=
  ∃ (b1 : Nat) (h2 : Heap), b1 = h.size ∧ h2 = h.push (.cells (S_api_Query.cs p0).toArray 36) ∧ (ref13_Great p1 40 (fun (r3 : Bool) h4 => if r3 then (law19_QueryBounds_g1 p1 p2 (⟨b1, 0, none⟩ : Addr) true k h4) else (∃ v55 : ByteArray, cellH h4 (⟨b1, 0, none⟩ : Addr) = some (.string v55) ∧ (law19_QueryBounds_g1 p1 p2 (⟨b1, 0, none⟩ : Addr) (decide ((v55.size : Int) > 400)) k h4))) h2)

theorem ref13_Great_ok : CallOk Go.Proofs.Try.prog 13 := ⟨_, Go.Proofs.Try.func13, by kernel_rfl, by kernel_rfl⟩
theorem ref13_Great_ref (p0 : Slc) (p1 : Int) (k : (Bool) → Heap → Prop) (h : Heap) (H : ref13_Great p0 p1 k h) : CallsH Go.Proofs.Try.prog 13 #[Slc.v p0, .int .i64 p1] h (fun v h' => ∃ r : Bool, v = .bool r ∧ k r h') := by
  refine f_enter (N := 28) Go.Proofs.Try.func13 rfl rfl rfl (fun w0 => ?_)
  unfold ref13_Great at H
  refine c_weak [(0, Slc.v p0), (1, .int .i64 p1)] ⟨rfl, rfl, trivial⟩ ?_
  refine c_seq ?_
  refine c_region ?_
  refine w_p tok rfl rfl rfl ?_
  refine w_end ?_
  refine x_seq ?_
  refine c_seq ?_
  refine c_seq ?_
  refine c_region ?_
  refine w_p tok rfl rfl rfl ?_
  refine w_end ?_
  refine x_seq ?_
  refine c_block ?_
  obtain ⟨I1, μ1, H0, HI⟩ := H
  refine c_loop (σ := Int) (fun (s : Int) => [(5, .int .i64 s), (0, Slc.v p0), (1, .int .i64 p1)]) I1 μ1 0 H0 ⟨rfl, rfl, rfl, trivial⟩ ?_
  rintro t5_1 h_1 H
  replace H := HI t5_1 h_1 H
  unfold ref13_Great_l1b at H
  refine c_weak [(5, .int .i64 t5_1), (0, Slc.v p0), (1, .int .i64 p1)] ⟨rfl, rfl, rfl, trivial⟩ ?_
  refine c_seq ?_
  refine c_seq ?_
  refine c_region ?_
  refine w_p tok rfl rfl rfl ?_
  refine w_p tok rfl rfl rfl ?_
  refine w_p tok rfl rfl rfl ?_
  refine w_p tok rfl rfl rfl ?_
  refine w_p tok rfl rfl rfl ?_
  refine w_cutU 4 [(14, .bool ((decide (t5_1 < (p0.len : Int))) && (decide (t5_1 < p1)))), (0, Slc.v p0), (1, .int .i64 p1), (5, .int .i64 t5_1)] ?_ ?_
  ·
    refine w_end ?_
    refine x_seq ?_
    refine c_if H rfl (fun H => ?_) (fun H => ?_)
    ·
      refine c_skip ?_
      refine x_seq ?_
      refine c_seq ?_
      refine c_block ?_
      refine c_seq ?_
      refine c_region ?_
      refine w_p tok rfl rfl rfl ?_
      refine w_p tok rfl rfl rfl ?_
      obtain ⟨a1, ha1, la1, ua1, H⟩ := H
      refine w_y (y_ixa' tok rfl rfl ha1 rfl rfl rfl la1 ua1) rfl rfl ?_
      refine w_p tok rfl rfl rfl ?_
      obtain ⟨v2, hv2, H⟩ := H
      refine w_y (y_ld tok rfl rfl rfl rfl hv2) rfl rfl ?_
      refine w_p tok rfl rfl rfl ?_
      refine w_p tok rfl rfl rfl ?_
      refine w_end ?_
      refine x_seq ?_
      refine c_weak [(0, Slc.v p0), (1, .int .i64 p1), (5, .int .i64 t5_1), (23, .bool (decide ((v2.size : Int) > 400)))] ⟨rfl, rfl, rfl, rfl, trivial⟩ ?_
      refine c_if H rfl (fun H => ?_) (fun H => ?_)
      ·
        refine c_seq ?_
        refine c_region ?_
        refine w_p tok rfl rfl rfl ?_
        refine w_end ?_
        refine x_seq ?_
        refine c_ret ?_
        refine x_br ?_
        refine x_tr ?_
        refine x_tr ?_
        refine x_br ?_
        refine x_tr ?_
        exact x_ret _ rfl _ rfl ⟨true, rfl, H⟩
      ·
        refine c_skip ?_
        refine x_blk ?_
        refine x_seq ?_
        refine c_region ?_
        refine w_p tok rfl rfl rfl ?_
        refine w_p tok rfl rfl rfl ?_
        obtain ⟨x3, ex3, H⟩ := H
        refine w_pe tok rfl (congrArg (fun z => (.int .i64 z : Value)) ex3) rfl rfl ?_
        refine w_end ?_
        exact x_join x3 H ⟨rfl, rfl, rfl, trivial⟩
    ·
      refine c_exit ?_
      refine x_te ?_
      refine x_te ?_
      refine x_bh ?_
      refine x_seq ?_
      refine c_seq ?_
      refine c_region ?_
      refine w_p tok rfl rfl rfl ?_
      refine w_p tok rfl rfl rfl ?_
      refine w_p tok rfl rfl rfl ?_
      refine w_p tok rfl rfl rfl ?_
      refine w_p tok rfl rfl rfl ?_
      refine w_end ?_
      refine x_seq ?_
      refine c_weak [(4, .bool (decide ((p0.len : Int) > p1)))] ⟨rfl, trivial⟩ ?_
      refine c_ret ?_
      exact x_ret _ rfl _ rfl ⟨(decide ((p0.len : Int) > p1)), rfl, H⟩
  ·
    refine w_gs (d := 10) rfl (fun hb => ?_) (fun hb => ?_)
    ·
      refine w_p tok rfl rfl rfl ?_
      refine w_p tok rfl rfl rfl ?_
      refine w_p tok rfl rfl rfl ?_
      refine w_p tok rfl rfl rfl ?_
      refine w_jn () rfl ⟨?_, rfl, rfl, rfl, trivial⟩
      exact congrArg (fun b => some (Value.bool b)) (and_t hb)
    ·
      refine w_skip rfl rfl ?_
      refine w_skip rfl rfl ?_
      refine w_skip rfl rfl ?_
      refine w_p tok rfl rfl rfl ?_
      refine w_jn () rfl ⟨?_, rfl, rfl, rfl, trivial⟩
      exact congrArg (fun b => some (Value.bool b)) (and_f hb)

theorem ref19_SameRows_ok : CallOk Go.Proofs.Try.prog 17 := ⟨_, Go.Proofs.Try.func17, by kernel_rfl, by kernel_rfl⟩
theorem ref19_SameRows_ref (p0 : Slc) (p1 : Slc) (k : (Bool) → Heap → Prop) (h : Heap) (H : ref19_SameRows p0 p1 k h) : CallsH Go.Proofs.Try.prog 17 #[Slc.v p0, Slc.v p1] h (fun v h' => ∃ r : Bool, v = .bool r ∧ k r h') := by
  refine f_enter (N := 26) Go.Proofs.Try.func17 rfl rfl rfl (fun w0 => ?_)
  unfold ref19_SameRows at H
  refine c_weak [(0, Slc.v p0), (1, Slc.v p1)] ⟨rfl, rfl, trivial⟩ ?_
  refine c_seq ?_
  refine c_region ?_
  refine w_p tok rfl rfl rfl ?_
  refine w_end ?_
  refine x_seq ?_
  refine c_seq ?_
  refine c_seq ?_
  refine c_region ?_
  refine w_p tok rfl rfl rfl ?_
  refine w_p tok rfl rfl rfl ?_
  refine w_p tok rfl rfl rfl ?_
  refine w_p tok rfl rfl rfl ?_
  refine w_p tok rfl rfl rfl ?_
  refine w_end ?_
  refine x_seq ?_
  refine c_if H rfl (fun H => ?_) (fun H => ?_)
  ·
    refine c_seq ?_
    refine c_region ?_
    refine w_p tok rfl rfl rfl ?_
    refine w_end ?_
    refine x_seq ?_
    refine c_weak [(4, .bool false)] ⟨rfl, trivial⟩ ?_
    refine c_ret ?_
    refine x_tr ?_
    exact x_ret _ rfl _ rfl ⟨false, rfl, H⟩
  ·
    refine c_skip ?_
    refine x_seq ?_
    refine c_seq ?_
    refine c_seq ?_
    refine c_region ?_
    refine w_p tok rfl rfl rfl ?_
    refine w_end ?_
    refine x_seq ?_
    refine c_block ?_
    obtain ⟨I1, μ1, H0, HI⟩ := H
    refine c_loop (σ := Int) (fun (s : Int) => [(5, .int .i64 s), (0, Slc.v p0), (1, Slc.v p1)]) I1 μ1 0 H0 ⟨rfl, rfl, rfl, trivial⟩ ?_
    rintro t5_1 h_1 H
    replace H := HI t5_1 h_1 H
    unfold ref19_SameRows_l1b at H
    refine c_weak [(5, .int .i64 t5_1), (0, Slc.v p0), (1, Slc.v p1)] ⟨rfl, rfl, rfl, trivial⟩ ?_
    refine c_seq ?_
    refine c_seq ?_
    refine c_region ?_
    refine w_p tok rfl rfl rfl ?_
    refine w_p tok rfl rfl rfl ?_
    refine w_p tok rfl rfl rfl ?_
    refine w_p tok rfl rfl rfl ?_
    refine w_end ?_
    refine x_seq ?_
    refine c_if H rfl (fun H => ?_) (fun H => ?_)
    ·
      refine c_skip ?_
      refine x_seq ?_
      refine c_seq ?_
      refine c_block ?_
      refine c_seq ?_
      refine c_draw (by kernel_rfl) (by kernel_rfl) ?_
      refine q_p tok rfl rfl rfl ?_
      refine q_p tok rfl rfl rfl ?_
      obtain ⟨a1, ha1, la1, ua1, H⟩ := H
      refine q_y (y_ixa' tok rfl rfl ha1 rfl rfl rfl la1 ua1) rfl rfl ?_
      obtain ⟨v2, hv2, H⟩ := H
      refine q_y (y_lda tok rfl rfl rfl rfl rfl hv2) rfl rfl ?_
      refine q_p tok rfl rfl rfl ?_
      refine q_p tok rfl rfl rfl ?_
      obtain ⟨a3, ha3, la3, ua3, H⟩ := H
      refine q_y (y_ixa' tok rfl rfl ha3 rfl rfl rfl la3 ua3) rfl rfl ?_
      obtain ⟨v4, hv4, H⟩ := H
      refine q_y (y_lda tok rfl rfl rfl rfl rfl hv4) rfl rfl ?_
      refine q_y (y_eqs (op := .neq) (xs := S_api_Row.cs v2) (ys := S_api_Row.cs v4) (.inr rfl) rfl rfl rfl (eqv54_S_api_Row v2 v4) (by kernel_rfl)) rfl rfl ?_
      refine q_end ?_
      refine x_seq ?_
      refine c_weak [(5, .int .i64 t5_1), (0, Slc.v p0), (1, Slc.v p1), (25, .bool (if BinOp.neq = .eql then ((v2.f_Series.toList == v4.f_Series.toList) && (v2.f_T == v4.f_T) && ((v2.f_W.f_Hi == v4.f_W.f_Hi) && (v2.f_W.f_Lo == v4.f_W.f_Lo))) else !((v2.f_Series.toList == v4.f_Series.toList) && (v2.f_T == v4.f_T) && ((v2.f_W.f_Hi == v4.f_W.f_Hi) && (v2.f_W.f_Lo == v4.f_W.f_Lo)))))] ⟨rfl, rfl, rfl, rfl, trivial⟩ ?_
      refine c_if H rfl (fun H => ?_) (fun H => ?_)
      ·
        refine c_seq ?_
        refine c_region ?_
        refine w_p tok rfl rfl rfl ?_
        refine w_end ?_
        refine x_seq ?_
        refine c_ret ?_
        refine x_br ?_
        refine x_tr ?_
        refine x_tr ?_
        refine x_br ?_
        refine x_tr ?_
        exact x_ret _ rfl _ rfl ⟨false, rfl, H⟩
      ·
        refine c_skip ?_
        refine x_blk ?_
        refine x_seq ?_
        refine c_region ?_
        refine w_p tok rfl rfl rfl ?_
        refine w_p tok rfl rfl rfl ?_
        obtain ⟨x5, ex5, H⟩ := H
        refine w_pe tok rfl (congrArg (fun z => (.int .i64 z : Value)) ex5) rfl rfl ?_
        refine w_end ?_
        exact x_join x5 H ⟨rfl, rfl, rfl, trivial⟩
    ·
      refine c_exit ?_
      refine x_te ?_
      refine x_te ?_
      refine x_bh ?_
      refine x_seq ?_
      refine c_weak [] trivial ?_
      refine c_seq ?_
      refine c_region ?_
      refine w_p tok rfl rfl rfl ?_
      refine w_end ?_
      refine x_seq ?_
      refine c_ret ?_
      exact x_ret _ rfl _ rfl ⟨true, rfl, H⟩

theorem ref01_digits_ok : CallOk Go.Proofs.Try.prog 39 := ⟨_, Go.Proofs.Try.func39, by kernel_rfl, by kernel_rfl⟩
theorem ref01_digits_ref (p0 : S_api_Wide) (k : (Slc) → Heap → Prop) (h : Heap) (H : ref01_digits p0 k h) : CallsH Go.Proofs.Try.prog 39 #[.agg (S_api_Wide.cs p0).toArray] h (fun v h' => ∃ r : Slc, v = Slc.v r ∧ k r h') := by
  refine f_enter (N := 19) Go.Proofs.Try.func39 rfl rfl rfl (fun w0 => ?_)
  unfold ref01_digits at H
  refine c_weak [(0, .agg (S_api_Wide.cs p0).toArray)] ⟨rfl, trivial⟩ ?_
  refine c_seq ?_
  refine c_region ?_
  obtain ⟨b1, h2, eb1, eh2, H⟩ := H
  refine w_h (h_box rfl rfl eb1 eh2) rfl rfl ?_
  refine w_p tok rfl rfl rfl ?_
  refine w_end ?_
  refine x_seq ?_
  refine c_seq ?_
  refine c_region ?_
  refine w_p tok rfl rfl rfl ?_
  obtain ⟨v3, hv3, H⟩ := H
  refine w_y (y_ld tok rfl rfl rfl rfl hv3) rfl rfl ?_
  refine w_p tok rfl rfl rfl ?_
  refine w_p tok rfl rfl rfl ?_
  obtain ⟨x4, ex4, H⟩ := H
  refine w_pe tok rfl (congrArg (fun z => (.int .u64 z : Value)) ex4) rfl rfl ?_
  refine w_end ?_
  refine x_seq ?_
  refine c_seq ?_
  refine c_region ?_
  refine w_p tok rfl rfl rfl ?_
  obtain ⟨v5, hv5, H⟩ := H
  refine w_y (y_ld tok rfl rfl rfl rfl hv5) rfl rfl ?_
  refine w_p tok rfl rfl rfl ?_
  refine w_p tok rfl rfl rfl ?_
  obtain ⟨v6, hv6, H⟩ := H
  refine w_y (y_ld tok rfl rfl rfl rfl hv6) rfl rfl ?_
  refine w_p tok rfl rfl rfl ?_
  refine w_p tok rfl rfl rfl ?_
  refine w_p tok rfl rfl rfl ?_
  refine w_p tok rfl rfl rfl ?_
  refine w_p tok rfl rfl rfl ?_
  obtain ⟨b7, h8, eb7, eh8, H⟩ := H
  refine w_h (h_bs tok rfl rfl rfl rfl rfl rfl rfl eb7 eh8) rfl rfl ?_
  refine w_p tok rfl rfl rfl ?_
  refine w_end ?_
  refine x_seq ?_
  refine c_weak [(2, Slc.v (⟨some ⟨b7, 0, none⟩, 4, 4⟩ : Slc))] ⟨rfl, trivial⟩ ?_
  refine c_ret ?_
  exact x_ret _ rfl _ rfl ⟨(⟨some ⟨b7, 0, none⟩, 4, 4⟩ : Slc), rfl, H⟩

theorem ref01_Pick_ok : CallOk Go.Proofs.Try.prog 15 := ⟨_, Go.Proofs.Try.func15, by kernel_rfl, by kernel_rfl⟩
theorem ref01_Pick_ref (p0 : Int) (p1 : Int) (k : (Int) → Heap → Prop) (h : Heap) (H : ref01_Pick p0 p1 k h) : CallsH Go.Proofs.Try.prog 15 #[.int .i64 p0, .int .i64 p1] h (fun v h' => ∃ r : Int, v = .int .i64 r ∧ k r h') := by
  refine f_enter (N := 17) Go.Proofs.Try.func15 rfl rfl rfl (fun w0 => ?_)
  unfold ref01_Pick at H
  refine c_weak [(0, .int .i64 p0), (1, .int .i64 p1)] ⟨rfl, rfl, trivial⟩ ?_
  refine c_seq ?_
  refine c_region ?_
  refine w_p tok rfl rfl rfl ?_
  refine w_end ?_
  refine x_seq ?_
  refine c_seq ?_
  refine c_seq ?_
  refine c_region ?_
  refine w_p tok rfl rfl rfl ?_
  refine w_p tok rfl rfl rfl ?_
  refine w_end ?_
  refine x_seq ?_
  refine c_if H rfl (fun H => ?_) (fun H => ?_)
  ·
    refine c_seq ?_
    refine c_region ?_
    refine w_p tok rfl rfl rfl ?_
    refine w_end ?_
    refine x_seq ?_
    refine c_ret ?_
    refine x_tr ?_
    exact x_ret _ rfl _ rfl ⟨0, rfl, H⟩
  ·
    refine c_skip ?_
    refine x_seq ?_
    refine c_seq ?_
    refine c_region ?_
    refine w_p tok rfl rfl rfl ?_
    refine w_p tok rfl rfl rfl ?_
    obtain ⟨z1, H⟩ := H
    refine w_y (y_rem rfl rfl rfl z1) rfl rfl ?_
    obtain ⟨x2, ex2, H⟩ := H
    refine w_pe tok rfl (congrArg (fun z => (.int .i64 z : Value)) ex2) rfl rfl ?_
    refine w_end ?_
    refine x_seq ?_
    refine c_weak [(1, .int .i64 p1), (5, .int .i64 x2)] ⟨rfl, rfl, trivial⟩ ?_
    refine c_seqJ (α := Int) (fun (s : Int) => [(5, .int .i64 s)]) (fun (s : Int) h => ref01_Pick_j1 s k h) ?_ ?_
    ·
      rintro t5_1 h_1 H
      replace H : ref01_Pick_j1 t5_1 k h_1 := H
      unfold ref01_Pick_j1 at H
      refine c_weak [(5, .int .i64 t5_1)] ⟨rfl, trivial⟩ ?_
      refine c_seq ?_
      refine c_region ?_
      refine w_p tok rfl rfl rfl ?_
      refine w_p tok rfl rfl rfl ?_
      refine w_end ?_
      refine x_seq ?_
      refine c_ret ?_
      exact x_ret _ rfl _ rfl ⟨t5_1, rfl, H⟩
    ·
      refine c_seq ?_
      refine c_region ?_
      refine w_p tok rfl rfl rfl ?_
      refine w_p tok rfl rfl rfl ?_
      refine w_end ?_
      refine x_seq ?_
      refine c_if H rfl (fun H => ?_) (fun H => ?_)
      ·
        refine c_region ?_
        refine w_p tok rfl rfl rfl ?_
        refine w_p tok rfl rfl rfl ?_
        refine w_p tok rfl rfl rfl ?_
        obtain ⟨x3, ex3, H⟩ := H
        refine w_pe tok rfl (congrArg (fun z => (.int .i64 z : Value)) ex3) rfl rfl ?_
        refine w_end ?_
        exact x_join x3 H ⟨rfl, trivial⟩
      ·
        refine c_skip ?_
        exact x_join x2 H ⟨rfl, trivial⟩

theorem ref01_Add_ok : CallOk Go.Proofs.Try.prog 18 := ⟨_, Go.Proofs.Try.func18, by kernel_rfl, by kernel_rfl⟩
theorem ref01_Add_ref (p0 : S_api_Wide) (p1 : S_api_Wide) (k : (S_api_Wide × Int) → Heap → Prop) (h : Heap) (H : ref01_Add p0 p1 k h) : CallsH Go.Proofs.Try.prog 18 #[.agg (S_api_Wide.cs p0).toArray, .agg (S_api_Wide.cs p1).toArray] h (fun v h' => ∃ r : S_api_Wide × Int, v = .tuple #[.agg (S_api_Wide.cs r.1).toArray, .int .i64 r.2] ∧ k r h') := by
  refine f_enter (N := 75) Go.Proofs.Try.func18 rfl rfl rfl (fun w0 => ?_)
  unfold ref01_Add at H
  refine c_weak [(0, .agg (S_api_Wide.cs p0).toArray), (1, .agg (S_api_Wide.cs p1).toArray)] ⟨rfl, rfl, trivial⟩ ?_
  refine c_seq ?_
  refine c_region ?_
  obtain ⟨b1, h2, eb1, eh2, H⟩ := H
  refine w_h (h_box rfl rfl eb1 eh2) rfl rfl ?_
  obtain ⟨b3, h4, eb3, eh4, H⟩ := H
  refine w_h (h_box rfl rfl eb3 eh4) rfl rfl ?_
  obtain ⟨b5, h6, eb5, eh6, H⟩ := H
  refine w_h (h_alloc tok rfl rfl eb5 eh6) rfl rfl ?_
  refine w_p tok rfl rfl rfl ?_
  refine w_end ?_
  refine x_seq ?_
  refine c_seq ?_
  refine c_sim [(2, .pointer (some (⟨b1, 0, none⟩ : Addr))), (3, .pointer (some (⟨b3, 0, none⟩ : Addr))), (4, .pointer (some (⟨b5, 0, none⟩ : Addr)))] (by kernel_rfl) (by kernel_rfl) ⟨rfl, rfl, rfl, trivial⟩ (fun wf => ?_)
  obtain ⟨v7, hv7, H⟩ := H
  refine sL 0 [(2, .pointer (some (⟨b1, 0, none⟩ : Addr)))] (some 13) wf ⟨rfl, trivial⟩ (pf_y rfl rfl rfl (y_lda tok rfl rfl rfl rfl rfl hv7)) (fun P_0 => ?_)
  obtain ⟨v8, hv8, H⟩ := H
  refine sL 2 [(3, .pointer (some (⟨b3, 0, none⟩ : Addr)))] (some 15) wf ⟨rfl, trivial⟩ (pf_y rfl rfl rfl (y_lda tok rfl rfl rfl rfl rfl hv8)) (fun P_2 => ?_)
  refine sim_c 1 [0] [0] (ei := [(13, .agg (S_api_Wide.cs v7).toArray)]) ref01_digits_ok (ref01_digits_ref _ _ _ H) wf ⟨P_2, P_0, trivial⟩ (by kernel_rfl) ⟨rfl, trivial⟩ (by kernel_rfl) rfl rfl rfl rfl rfl ?_
  rintro _ h10 ⟨r9, rfl, H⟩
  obtain ⟨hy11, H⟩ := H
  refine sim_re (x := ⟨2, .agg (S_api_Wide.cs v8).toArray, [(3, .pointer (some (⟨b3, 0, none⟩ : Addr)))]⟩) (pf_y rfl rfl rfl (y_lda tok rfl rfl rfl rfl rfl hy11)) (fun P_2 => ?_)
  refine sim_c 3 [0, 1, 2] [0, 2] (ei := [(15, .agg (S_api_Wide.cs v8).toArray)]) ref01_digits_ok (ref01_digits_ref _ _ _ H) wf ⟨P_2, trivial, trivial⟩ (by kernel_rfl) ⟨rfl, trivial⟩ (by kernel_rfl) rfl rfl rfl rfl rfl ?_
  rintro _ h13 ⟨r12, rfl, H⟩
  refine sP 4 [(14, Slc.v r9)] (some 6) wf ⟨rfl, trivial⟩ (fun _ => pf_p tok rfl rfl rfl rfl) (fun P_4 => ?_)
  refine sP 5 [(16, Slc.v r12)] (some 7) wf ⟨rfl, trivial⟩ (fun _ => pf_p tok rfl rfl rfl rfl) (fun P_5 => ?_)
  refine sim_end wf ⟨P_5 _, P_4 _, trivial, trivial, trivial⟩ (by kernel_rfl) ?_
  clear wf P_0 P_2 P_4 P_5
  refine x_seq ?_
  refine c_seq ?_
  refine c_region ?_
  refine w_p tok rfl rfl rfl ?_
  refine w_end ?_
  refine x_seq ?_
  refine c_seq ?_
  refine c_region ?_
  refine w_p tok rfl rfl rfl ?_
  refine w_end ?_
  refine x_seq ?_
  refine c_seq ?_
  refine c_seq ?_
  refine c_region ?_
  refine w_p tok rfl rfl rfl ?_
  refine w_end ?_
  refine x_seq ?_
  refine c_block ?_
  obtain ⟨I1, μ1, H0, HI⟩ := H
  refine c_loop (σ := Slc × Int × Int) (fun (s : Slc × Int × Int) => [(8, Slc.v s.1), (9, .int .u64 s.2.1), (10, .int .i64 s.2.2), (4, .pointer (some (⟨b5, 0, none⟩ : Addr))), (6, Slc.v r9), (7, Slc.v r12)]) I1 μ1 ((⟨none, 0, 0⟩ : Slc), 0, 0) H0 ⟨rfl, rfl, rfl, rfl, rfl, rfl, trivial⟩ ?_
  rintro ⟨t8_1, t9_1, t10_1⟩ h_1 H
  replace H := HI t8_1 t9_1 t10_1 h_1 H
  unfold ref01_Add_l1b at H
  refine c_weak [(8, Slc.v t8_1), (9, .int .u64 t9_1), (10, .int .i64 t10_1), (4, .pointer (some (⟨b5, 0, none⟩ : Addr))), (6, Slc.v r9), (7, Slc.v r12)] ⟨rfl, rfl, rfl, rfl, rfl, rfl, trivial⟩ ?_
  refine c_seq ?_
  refine c_seq ?_
  refine c_region ?_
  refine w_p tok rfl rfl rfl ?_
  refine w_p tok rfl rfl rfl ?_
  refine w_end ?_
  refine x_seq ?_
  refine c_if H rfl (fun H => ?_) (fun H => ?_)
  ·
    refine c_skip ?_
    refine x_seq ?_
    refine c_seq ?_
    refine c_block ?_
    refine c_seq ?_
    refine c_draw (by kernel_rfl) (by kernel_rfl) ?_
    refine q_p tok rfl rfl rfl ?_
    refine q_p tok rfl rfl rfl ?_
    obtain ⟨a14, ha14, la14, ua14, H⟩ := H
    refine q_y (y_ixa' tok rfl rfl ha14 rfl rfl rfl la14 ua14) rfl rfl ?_
    obtain ⟨v15, hv15, H⟩ := H
    refine q_y (y_ld tok rfl rfl rfl rfl hv15) rfl rfl ?_
    refine q_p tok rfl rfl rfl ?_
    refine q_p tok rfl rfl rfl ?_
    obtain ⟨a16, ha16, la16, ua16, H⟩ := H
    refine q_y (y_ixa' tok rfl rfl ha16 rfl rfl rfl la16 ua16) rfl rfl ?_
    obtain ⟨v17, hv17, H⟩ := H
    refine q_y (y_ld tok rfl rfl rfl rfl hv17) rfl rfl ?_
    refine q_p tok rfl rfl rfl ?_
    refine q_p tok rfl rfl rfl ?_
    refine q_p tok rfl rfl rfl ?_
    refine q_p tok rfl rfl rfl ?_
    refine q_end ?_
    refine x_seq ?_
    refine c_weak [(8, Slc.v t8_1), (10, .int .i64 t10_1), (4, .pointer (some (⟨b5, 0, none⟩ : Addr))), (6, Slc.v r9), (7, Slc.v r12), (11, .int .u64 (IntKind.u64.wrap ((IntKind.u64.wrap (v15 + v17)) + t9_1)))] ⟨rfl, rfl, rfl, rfl, rfl, rfl, trivial⟩ ?_
    refine c_seq ?_
    refine c_region ?_
    refine w_p tok rfl rfl rfl ?_
    refine w_p tok rfl rfl rfl ?_
    refine w_p tok rfl rfl rfl ?_
    obtain ⟨b18, h19, eb18, eh19, H⟩ := H
    refine w_h (h_bs tok rfl rfl rfl rfl rfl rfl rfl eb18 eh19) rfl rfl ?_
    refine w_a (a_app (s := t8_1) (r := (⟨some ⟨b18, 0, none⟩, 1, 1⟩ : Slc)) tok rfl rfl rfl rfl rfl (slcAt_push eb18 eh19) H) rfl rfl ?_
    rintro _ h21 ⟨s20, rfl, H⟩
    refine w_p tok rfl rfl rfl ?_
    refine w_end ?_
    refine x_seq ?_
    refine c_region ?_
    refine w_p tok rfl rfl rfl ?_
    refine w_p tok rfl rfl rfl ?_
    obtain ⟨x22, ex22, H⟩ := H
    refine w_pe tok rfl (congrArg (fun z => (.int .u64 z : Value)) ex22) rfl rfl ?_
    refine w_end ?_
    refine x_blk ?_
    refine x_seq ?_
    refine c_weak [(8, Slc.v s20), (10, .int .i64 t10_1), (4, .pointer (some (⟨b5, 0, none⟩ : Addr))), (6, Slc.v r9), (7, Slc.v r12), (9, .int .u64 x22)] ⟨rfl, rfl, rfl, rfl, rfl, rfl, trivial⟩ ?_
    refine c_region ?_
    refine w_p tok rfl rfl rfl ?_
    refine w_p tok rfl rfl rfl ?_
    obtain ⟨x23, ex23, H⟩ := H
    refine w_pe tok rfl (congrArg (fun z => (.int .i64 z : Value)) ex23) rfl rfl ?_
    refine w_end ?_
    exact x_join (s20, x22, x23) H ⟨rfl, rfl, rfl, rfl, rfl, rfl, trivial⟩
  ·
    refine c_exit ?_
    refine x_te ?_
    refine x_te ?_
    refine x_bh ?_
    refine x_seq ?_
    refine c_seq ?_
    refine c_region ?_
    refine w_p tok rfl rfl rfl ?_
    obtain ⟨a24, ha24, la24, ua24, H⟩ := H
    refine w_y (y_ixa' tok rfl rfl ha24 rfl rfl rfl la24 ua24) rfl rfl ?_
    obtain ⟨v25, hv25, H⟩ := H
    refine w_y (y_ld tok rfl rfl rfl rfl hv25) rfl rfl ?_
    refine w_p tok rfl rfl rfl ?_
    refine w_p tok rfl rfl rfl ?_
    refine w_end ?_
    refine x_seq ?_
    refine c_weak [(8, Slc.v t8_1), (9, .int .u64 t9_1), (4, .pointer (some (⟨b5, 0, none⟩ : Addr))), (12, .bool (decide (v25 ≥ 2147483648)))] ⟨rfl, rfl, rfl, rfl, trivial⟩ ?_
    refine c_seq ?_
    refine c_seq ?_
    refine c_region ?_
    refine w_p tok rfl rfl rfl ?_
    refine w_p tok rfl rfl rfl ?_
    refine w_p tok rfl rfl rfl ?_
    refine w_cutU 3 [(48, .bool ((t9_1 == 0) && (!(decide (v25 ≥ 2147483648))))), (4, .pointer (some (⟨b5, 0, none⟩ : Addr))), (8, Slc.v t8_1), (9, .int .u64 t9_1), (12, .bool (decide (v25 ≥ 2147483648)))] ?_ ?_
    ·
      refine w_p tok rfl rfl rfl ?_
      refine w_cutU 6 [(55, .bool (((t9_1 == 0) && (!(decide (v25 ≥ 2147483648)))) || ((t9_1 == 1) && (decide (v25 ≥ 2147483648))))), (4, .pointer (some (⟨b5, 0, none⟩ : Addr))), (8, Slc.v t8_1)] ?_ ?_
      ·
        refine w_end ?_
        refine x_seq ?_
        refine c_if H rfl (fun H => ?_) (fun H => ?_)
        ·
          refine c_seq ?_
          refine c_region ?_
          refine w_y (y_build tok rfl rfl rfl rfl rfl) rfl rfl ?_
          obtain ⟨h26, wh26, eh26, H⟩ := H
          refine w_h (h_sts tok rfl rfl rfl rfl rfl (oneC (by kernel_rfl)) wh26 eh26) rfl rfl ?_
          refine w_p tok rfl rfl rfl ?_
          refine w_end ?_
          refine x_seq ?_
          refine c_ret ?_
          refine x_tr ?_
          obtain ⟨v27, hv27, H⟩ := H
          exact x_retc tok _ rfl [.agg (S_api_Wide.cs v27).toArray, .int .i64 19] ⟨⟨_, _, rfl, rfl, .inr ⟨rfl, _, rfl, rfl, hv27⟩⟩, rfl, trivial⟩ ⟨(v27, 19), rfl, H⟩
        ·
          refine c_skip ?_
          refine x_seq ?_
          refine c_seq ?_
          refine c_sim [(4, .pointer (some (⟨b5, 0, none⟩ : Addr))), (8, Slc.v t8_1)] (by kernel_rfl) (by kernel_rfl) ⟨rfl, rfl, trivial⟩ (fun wf => ?_)
          refine sP 0 [(8, Slc.v t8_1)] (some 57) wf ⟨rfl, trivial⟩ (fun _ => pf_p tok rfl rfl rfl rfl) (fun P_0 => ?_)
          obtain ⟨a28, ha28, la28, ua28, H⟩ := H
          refine sP 1 [(57, Slc.v t8_1)] (some 58) wf ⟨rfl, trivial⟩ (fun _ => pf_y rfl rfl rfl (y_ixa' tok rfl rfl ha28 rfl rfl rfl la28 ua28)) (fun P_1 => ?_)
          obtain ⟨v29, hv29, H⟩ := H
          refine sL 2 [(58, .pointer (some (a28.add ((3 : Int).toNat * 1))))] (some 59) wf ⟨rfl, trivial⟩ (pf_y rfl rfl rfl (y_ld tok rfl rfl rfl rfl hv29)) (fun P_2 => ?_)
          refine sP 3 [(59, .int .u64 v29)] (some 60) wf ⟨rfl, trivial⟩ (fun _ => pf_p tok rfl rfl rfl rfl) (fun P_3 => ?_)
          refine sP 4 [(8, Slc.v t8_1)] (some 61) wf ⟨rfl, trivial⟩ (fun _ => pf_p tok rfl rfl rfl rfl) (fun P_4 => ?_)
          obtain ⟨a30, ha30, la30, ua30, H⟩ := H
          refine sP 5 [(61, Slc.v t8_1)] (some 62) wf ⟨rfl, trivial⟩ (fun _ => pf_y rfl rfl rfl (y_ixa' tok rfl rfl ha30 rfl rfl rfl la30 ua30)) (fun P_5 => ?_)
          obtain ⟨v31, hv31, H⟩ := H
          refine sL 6 [(62, .pointer (some (a30.add ((2 : Int).toNat * 1))))] (some 63) wf ⟨rfl, trivial⟩ (pf_y rfl rfl rfl (y_ld tok rfl rfl rfl rfl hv31)) (fun P_6 => ?_)
          refine sP 7 [(60, .int .u64 (IntKind.u64.wrap (v29 * 4294967296))), (63, .int .u64 v31)] (some 64) wf ⟨rfl, rfl, trivial⟩ (fun _ => pf_p tok rfl rfl rfl rfl) (fun P_7 => ?_)
          refine sP 8 [(64, .int .u64 (IntKind.u64.wrap ((IntKind.u64.wrap (v29 * 4294967296)) + v31)))] (some 65) wf ⟨rfl, trivial⟩ (fun _ => pf_p tok rfl rfl rfl rfl) (fun P_8 => ?_)
          refine sP 9 [(8, Slc.v t8_1)] (some 66) wf ⟨rfl, trivial⟩ (fun _ => pf_p tok rfl rfl rfl rfl) (fun P_9 => ?_)
          obtain ⟨a32, ha32, la32, ua32, H⟩ := H
          refine sP 10 [(66, Slc.v t8_1)] (some 67) wf ⟨rfl, trivial⟩ (fun _ => pf_y rfl rfl rfl (y_ixa' tok rfl rfl ha32 rfl rfl rfl la32 ua32)) (fun P_10 => ?_)
          obtain ⟨v33, hv33, H⟩ := H
          refine sL 11 [(67, .pointer (some (a32.add ((1 : Int).toNat * 1))))] (some 68) wf ⟨rfl, trivial⟩ (pf_y rfl rfl rfl (y_ld tok rfl rfl rfl rfl hv33)) (fun P_11 => ?_)
          refine sP 12 [(68, .int .u64 v33)] (some 69) wf ⟨rfl, trivial⟩ (fun _ => pf_p tok rfl rfl rfl rfl) (fun P_12 => ?_)
          refine sP 13 [(8, Slc.v t8_1)] (some 70) wf ⟨rfl, trivial⟩ (fun _ => pf_p tok rfl rfl rfl rfl) (fun P_13 => ?_)
          obtain ⟨a34, ha34, la34, ua34, H⟩ := H
          refine sP 14 [(70, Slc.v t8_1)] (some 71) wf ⟨rfl, trivial⟩ (fun _ => pf_y rfl rfl rfl (y_ixa' tok rfl rfl ha34 rfl rfl rfl la34 ua34)) (fun P_14 => ?_)
          obtain ⟨v35, hv35, H⟩ := H
          refine sL 15 [(71, .pointer (some (a34.add ((0 : Int).toNat * 1))))] (some 72) wf ⟨rfl, trivial⟩ (pf_y rfl rfl rfl (y_ld tok rfl rfl rfl rfl hv35)) (fun P_15 => ?_)
          refine sP 16 [(69, .int .u64 (IntKind.u64.wrap (v33 * 4294967296))), (72, .int .u64 v35)] (some 73) wf ⟨rfl, rfl, trivial⟩ (fun _ => pf_p tok rfl rfl rfl rfl) (fun P_16 => ?_)
          refine sP 17 [(65, .int .i64 (IntKind.i64.wrap (IntKind.u64.wrap ((IntKind.u64.wrap (v29 * 4294967296)) + v31)))), (73, .int .u64 (IntKind.u64.wrap ((IntKind.u64.wrap (v33 * 4294967296)) + v35)))] (some 74) wf ⟨rfl, rfl, trivial⟩ (fun _ => pf_y rfl rfl rfl (y_build tok rfl rfl rfl rfl rfl)) (fun P_17 => ?_)
          obtain ⟨h36, wh36, eh36, H⟩ := H
          refine sim_h 18 [0, 1, 2, 3, 4, 5, 6, 7, 8, 9, 10, 11, 12, 13, 14, 15, 16, 17] [0, 1, 2, 3, 4, 5, 6, 7, 8, 9, 10, 11, 12, 13, 14, 15, 16, 17] (ei := [(4, .pointer (some (⟨b5, 0, none⟩ : Addr))), (74, .agg (S_api_Wide.cs (⟨(IntKind.i64.wrap (IntKind.u64.wrap ((IntKind.u64.wrap (v29 * 4294967296)) + v31))), (IntKind.u64.wrap ((IntKind.u64.wrap (v33 * 4294967296)) + v35))⟩ : S_api_Wide)).toArray)]) wf ⟨P_17 _, P_16 _, P_15, P_14 _, P_13 _, P_12 _, P_11, P_10 _, P_9 _, P_8 _, P_7 _, P_6, P_5 _, P_4 _, P_3 _, P_2, P_1 _, P_0 _, trivial⟩ (by kernel_rfl) ⟨rfl, rfl, trivial⟩ (by kernel_rfl) rfl rfl rfl (h_sts tok rfl rfl rfl rfl rfl (oneC (by kernel_rfl)) wh36 eh36) ?_
          refine sP 19 [] (some 5) wf trivial (fun _ => pf_p tok rfl rfl rfl rfl) (fun P_19 => ?_)
          refine sim_end wf ⟨P_19 _, trivial, trivial, trivial, trivial, trivial, trivial, trivial, trivial, trivial, trivial, trivial, trivial, trivial, trivial, trivial, trivial, trivial, trivial, trivial⟩ (by kernel_rfl) ?_
          clear wf P_0 P_1 P_10 P_11 P_12 P_13 P_14 P_15 P_16 P_17 P_19 P_2 P_3 P_4 P_5 P_6 P_7 P_8 P_9
          refine x_seq ?_
          refine c_weak [(4, .pointer (some (⟨b5, 0, none⟩ : Addr))), (5, .int .i64 0)] ⟨rfl, rfl, trivial⟩ ?_
          refine c_ret ?_
          obtain ⟨v37, hv37, H⟩ := H
          exact x_retc tok _ rfl [.agg (S_api_Wide.cs v37).toArray, .int .i64 0] ⟨⟨_, _, rfl, rfl, .inr ⟨rfl, _, rfl, rfl, hv37⟩⟩, rfl, trivial⟩ ⟨(v37, 0), rfl, H⟩
      ·
        refine w_gs (d := 49) rfl (fun hb => ?_) (fun hb => ?_)
        ·
          refine w_skip rfl rfl ?_
          refine w_skip rfl rfl ?_
          refine w_skip rfl rfl ?_
          refine w_skip rfl rfl ?_
          refine w_skip rfl rfl ?_
          refine w_p tok rfl rfl rfl ?_
          refine w_jn () rfl ⟨?_, rfl, rfl, trivial⟩
          exact congrArg (fun b => some (Value.bool b)) (or_t hb)
        ·
          refine w_p tok rfl rfl rfl ?_
          refine w_p tok rfl rfl rfl ?_
          refine w_p tok rfl rfl rfl ?_
          refine w_cutU 2 [(54, .bool ((t9_1 == 1) && (decide (v25 ≥ 2147483648)))), (4, .pointer (some (⟨b5, 0, none⟩ : Addr))), (8, Slc.v t8_1), (49, .bool false)] ?_ ?_
          ·
            refine w_p tok rfl rfl rfl ?_
            refine w_jn () rfl ⟨?_, rfl, rfl, trivial⟩
            exact congrArg (fun b => some (Value.bool b)) (or_f hb)
          ·
            refine w_gs (d := 52) rfl (fun hb => ?_) (fun hb => ?_)
            ·
              refine w_p tok rfl rfl rfl ?_
              refine w_p tok rfl rfl rfl ?_
              refine w_jn () rfl ⟨?_, rfl, rfl, rfl, trivial⟩
              exact congrArg (fun b => some (Value.bool b)) (and_t hb)
            ·
              refine w_skip rfl rfl ?_
              refine w_p tok rfl rfl rfl ?_
              refine w_jn () rfl ⟨?_, rfl, rfl, rfl, trivial⟩
              exact congrArg (fun b => some (Value.bool b)) (and_f hb)
    ·
      refine w_gs (d := 45) rfl (fun hb => ?_) (fun hb => ?_)
      ·
        refine w_p tok rfl rfl rfl ?_
        refine w_p tok rfl rfl rfl ?_
        refine w_p tok rfl rfl rfl ?_
        refine w_jn () rfl ⟨?_, rfl, rfl, rfl, rfl, trivial⟩
        exact congrArg (fun b => some (Value.bool b)) (and_t hb)
      ·
        refine w_skip rfl rfl ?_
        refine w_skip rfl rfl ?_
        refine w_p tok rfl rfl rfl ?_
        refine w_jn () rfl ⟨?_, rfl, rfl, rfl, rfl, trivial⟩
        exact congrArg (fun b => some (Value.bool b)) (and_f hb)

theorem ref01_Less_ok : CallOk Go.Proofs.Try.prog 21 := ⟨_, Go.Proofs.Try.func21, by kernel_rfl, by kernel_rfl⟩
theorem ref01_Less_ref (p0 : S_api_Wide) (p1 : S_api_Wide) (k : (Bool) → Heap → Prop) (h : Heap) (H : ref01_Less p0 p1 k h) : CallsH Go.Proofs.Try.prog 21 #[.agg (S_api_Wide.cs p0).toArray, .agg (S_api_Wide.cs p1).toArray] h (fun v h' => ∃ r : Bool, v = .bool r ∧ k r h') := by
  refine f_enter (N := 20) Go.Proofs.Try.func21 rfl rfl rfl (fun w0 => ?_)
  unfold ref01_Less at H
  refine c_weak [(0, .agg (S_api_Wide.cs p0).toArray), (1, .agg (S_api_Wide.cs p1).toArray)] ⟨rfl, rfl, trivial⟩ ?_
  refine c_seq ?_
  refine c_region ?_
  obtain ⟨b1, h2, eb1, eh2, H⟩ := H
  refine w_h (h_box rfl rfl eb1 eh2) rfl rfl ?_
  obtain ⟨b3, h4, eb3, eh4, H⟩ := H
  refine w_h (h_box rfl rfl eb3 eh4) rfl rfl ?_
  refine w_p tok rfl rfl rfl ?_
  refine w_end ?_
  refine x_seq ?_
  refine c_seq ?_
  refine c_seq ?_
  refine c_region ?_
  refine w_p tok rfl rfl rfl ?_
  obtain ⟨v5, hv5, H⟩ := H
  refine w_y (y_ld tok rfl rfl rfl rfl hv5) rfl rfl ?_
  refine w_p tok rfl rfl rfl ?_
  obtain ⟨v6, hv6, H⟩ := H
  refine w_y (y_ld tok rfl rfl rfl rfl hv6) rfl rfl ?_
  refine w_p tok rfl rfl rfl ?_
  refine w_end ?_
  refine x_seq ?_
  refine c_weak [(2, .pointer (some (⟨b1, 0, none⟩ : Addr))), (3, .pointer (some (⟨b3, 0, none⟩ : Addr))), (9, .bool (v5 != v6))] ⟨rfl, rfl, rfl, trivial⟩ ?_
  refine c_if H rfl (fun H => ?_) (fun H => ?_)
  ·
    refine c_seq ?_
    refine c_region ?_
    refine w_p tok rfl rfl rfl ?_
    obtain ⟨v7, hv7, H⟩ := H
    refine w_y (y_ld tok rfl rfl rfl rfl hv7) rfl rfl ?_
    refine w_p tok rfl rfl rfl ?_
    obtain ⟨v8, hv8, H⟩ := H
    refine w_y (y_ld tok rfl rfl rfl rfl hv8) rfl rfl ?_
    refine w_p tok rfl rfl rfl ?_
    refine w_p tok rfl rfl rfl ?_
    refine w_end ?_
    refine x_seq ?_
    refine c_weak [(4, .bool (decide (v7 < v8)))] ⟨rfl, trivial⟩ ?_
    refine c_ret ?_
    refine x_tr ?_
    exact x_ret _ rfl _ rfl ⟨(decide (v7 < v8)), rfl, H⟩
  ·
    refine c_skip ?_
    refine x_seq ?_
    refine c_seq ?_
    refine c_region ?_
    refine w_p tok rfl rfl rfl ?_
    obtain ⟨v9, hv9, H⟩ := H
    refine w_y (y_ld tok rfl rfl rfl rfl hv9) rfl rfl ?_
    refine w_p tok rfl rfl rfl ?_
    obtain ⟨v10, hv10, H⟩ := H
    refine w_y (y_ld tok rfl rfl rfl rfl hv10) rfl rfl ?_
    refine w_p tok rfl rfl rfl ?_
    refine w_p tok rfl rfl rfl ?_
    refine w_end ?_
    refine x_seq ?_
    refine c_weak [(4, .bool (decide (v9 < v10)))] ⟨rfl, trivial⟩ ?_
    refine c_ret ?_
    exact x_ret _ rfl _ rfl ⟨(decide (v9 < v10)), rfl, H⟩

theorem law19_awake_ok : CallOk Go.Proofs.Try.prog 14 := ⟨_, Go.Proofs.Try.func14, by kernel_rfl, by kernel_rfl⟩
theorem law19_awake_ref (k : (Bool) → Heap → Prop) (h : Heap) (H : law19_awake k h) : CallsH Go.Proofs.Try.prog 14 #[] h (fun v h' => ∃ r : Bool, v = .bool r ∧ k r h') := by
  refine f_enter (N := 92) Go.Proofs.Try.func14 rfl rfl rfl (fun w0 => ?_)
  unfold law19_awake at H
  refine c_seq ?_
  refine c_region ?_
  refine w_p tok rfl rfl rfl ?_
  refine w_end ?_
  refine x_seq ?_
  refine c_seq ?_
  refine c_region ?_
  refine w_y (y_build tok rfl rfl rfl rfl rfl) rfl rfl ?_
  refine w_y (y_build tok rfl rfl rfl rfl rfl) rfl rfl ?_
  obtain ⟨b1, h2, eb1, eh2, H⟩ := H
  refine w_h (h_bs tok rfl rfl rfl rfl rfl rfl rfl eb1 eh2) rfl rfl ?_
  refine w_p tok rfl rfl rfl ?_
  refine w_end ?_
  refine x_seq ?_
  refine c_seq ?_
  refine c_region ?_
  refine w_y (y_build tok rfl rfl rfl rfl rfl) rfl rfl ?_
  refine w_p tok rfl rfl rfl ?_
  refine w_call query_Run_ok (query_Run_ref _ _ _ _ _ H) rfl rfl rfl rfl ?_
  rintro _ h4 ⟨r3, rfl, H⟩
  refine w_p tok rfl rfl rfl ?_
  refine w_p tok rfl rfl rfl ?_
  refine w_p tok rfl rfl rfl ?_
  refine w_p tok rfl rfl rfl ?_
  refine w_p tok rfl rfl rfl ?_
  refine w_end ?_
  refine x_seq ?_
  refine c_weak [(1, Slc.v (⟨some ⟨b1, 0, none⟩, 2, 2⟩ : Slc)), (2, Slc.v r3.1), (3, .int .i64 r3.2)] ⟨rfl, rfl, rfl, trivial⟩ ?_
  refine c_seq ?_
  refine c_region ?_
  refine w_y (y_build tok rfl rfl rfl rfl rfl) rfl rfl ?_
  refine w_p tok rfl rfl rfl ?_
  refine w_call query_Run_ok (query_Run_ref _ _ _ _ _ H) rfl rfl rfl rfl ?_
  rintro _ h6 ⟨r5, rfl, H⟩
  refine w_p tok rfl rfl rfl ?_
  refine w_p tok rfl rfl rfl ?_
  refine w_p tok rfl rfl rfl ?_
  refine w_p tok rfl rfl rfl ?_
  refine w_p tok rfl rfl rfl ?_
  refine w_end ?_
  refine x_seq ?_
  refine c_seq ?_
  refine c_region ?_
  refine w_y (y_build tok rfl rfl rfl rfl rfl) rfl rfl ?_
  refine w_p tok rfl rfl rfl ?_
  refine w_call query_Run_ok (query_Run_ref _ _ _ _ _ H) rfl rfl rfl rfl ?_
  rintro _ h8 ⟨r7, rfl, H⟩
  refine w_p tok rfl rfl rfl ?_
  refine w_p tok rfl rfl rfl ?_
  refine w_p tok rfl rfl rfl ?_
  refine w_p tok rfl rfl rfl ?_
  refine w_p tok rfl rfl rfl ?_
  refine w_end ?_
  refine x_seq ?_
  refine c_weak [(2, Slc.v r3.1), (3, .int .i64 r3.2), (4, Slc.v r5.1), (5, .int .i64 r5.2), (6, Slc.v r7.1), (7, .int .i64 r7.2)] ⟨rfl, rfl, rfl, rfl, rfl, rfl, trivial⟩ ?_
  refine c_seq ?_
  refine c_region ?_
  refine w_p tok rfl rfl rfl ?_
  refine w_p tok rfl rfl rfl ?_
  refine w_p tok rfl rfl rfl ?_
  refine w_cutU 3 [(34, .bool ((r3.2 == 0) && (r5.2 == 0))), (2, Slc.v r3.1), (4, Slc.v r5.1), (6, Slc.v r7.1), (7, .int .i64 r7.2)] ?_ ?_
  ·
    refine w_p tok rfl rfl rfl ?_
    refine w_cutU 3 [(38, .bool (((r3.2 == 0) && (r5.2 == 0)) && (r7.2 == 0))), (2, Slc.v r3.1), (4, Slc.v r5.1), (6, Slc.v r7.1)] ?_ ?_
    ·
      refine w_p tok rfl rfl rfl ?_
      refine w_cutU 4 [(43, .bool ((((r3.2 == 0) && (r5.2 == 0)) && (r7.2 == 0)) && ((r3.1.len : Int) == 1))), (2, Slc.v r3.1), (4, Slc.v r5.1), (6, Slc.v r7.1)] ?_ ?_
      ·
        refine w_p tok rfl rfl rfl ?_
        refine w_cut 7 (α := Bool) (fun (s : Bool) => [(51, .bool s), (4, Slc.v r5.1), (6, Slc.v r7.1)]) (fun (s : Bool) h => law19_awake_g1 r5.1 r7.1 s k h) ?_ ?_
        ·
          rintro t51_1 h_1 H
          replace H : law19_awake_g1 r5.1 r7.1 t51_1 k h_1 := H
          unfold law19_awake_g1 at H
          refine w_weak [(51, .bool t51_1), (4, Slc.v r5.1), (6, Slc.v r7.1)] ⟨rfl, rfl, rfl, trivial⟩ ?_
          refine w_p tok rfl rfl rfl ?_
          refine w_cutU 4 [(56, .bool (t51_1 && ((r5.1.len : Int) == 1))), (4, Slc.v r5.1), (6, Slc.v r7.1)] ?_ ?_
          ·
            refine w_p tok rfl rfl rfl ?_
            refine w_cut 7 (α := Bool) (fun (s : Bool) => [(64, .bool s), (6, Slc.v r7.1)]) (fun (s : Bool) h => law19_awake_g2 r7.1 s k h) ?_ ?_
            ·
              rintro t64_2 h_2 H
              replace H : law19_awake_g2 r7.1 t64_2 k h_2 := H
              unfold law19_awake_g2 at H
              refine w_weak [(64, .bool t64_2), (6, Slc.v r7.1)] ⟨rfl, rfl, trivial⟩ ?_
              refine w_p tok rfl rfl rfl ?_
              refine w_cutU 4 [(69, .bool (t64_2 && ((r7.1.len : Int) == 2))), (6, Slc.v r7.1)] ?_ ?_
              ·
                refine w_p tok rfl rfl rfl ?_
                refine w_cut 6 (α := Bool) (fun (s : Bool) => [(76, .bool s), (6, Slc.v r7.1)]) (fun (s : Bool) h => law19_awake_g3 r7.1 s k h) ?_ ?_
                ·
                  rintro t76_3 h_3 H
                  replace H : law19_awake_g3 r7.1 t76_3 k h_3 := H
                  unfold law19_awake_g3 at H
                  refine w_weak [(76, .bool t76_3), (6, Slc.v r7.1)] ⟨rfl, rfl, trivial⟩ ?_
                  refine w_p tok rfl rfl rfl ?_
                  refine w_cut 7 (α := Bool) (fun (s : Bool) => [(84, .bool s), (6, Slc.v r7.1)]) (fun (s : Bool) h => law19_awake_g4 r7.1 s k h) ?_ ?_
                  ·
                    rintro t84_4 h_4 H
                    replace H : law19_awake_g4 r7.1 t84_4 k h_4 := H
                    unfold law19_awake_g4 at H
                    refine w_weak [(84, .bool t84_4), (6, Slc.v r7.1)] ⟨rfl, rfl, trivial⟩ ?_
                    refine w_p tok rfl rfl rfl ?_
                    refine w_cut 6 (α := Bool) (fun (s : Bool) => [(91, .bool s)]) (fun (s : Bool) h => law19_awake_g5 s k h) ?_ ?_
                    ·
                      rintro t91_5 h_5 H
                      replace H : law19_awake_g5 t91_5 k h_5 := H
                      unfold law19_awake_g5 at H
                      refine w_weak [(91, .bool t91_5)] ⟨rfl, trivial⟩ ?_
                      refine w_p tok rfl rfl rfl ?_
                      refine w_end ?_
                      refine x_seq ?_
                      refine c_ret ?_
                      exact x_ret _ rfl _ rfl ⟨t91_5, rfl, H⟩
                    ·
                      refine w_gif (d := 85) H rfl (fun H => ?_) (fun H => ?_)
                      ·
                        refine w_p tok rfl rfl rfl ?_
                        obtain ⟨a9, ha9, la9, ua9, H⟩ := H
                        refine w_y (y_ixa' tok rfl rfl ha9 rfl rfl rfl la9 ua9) rfl rfl ?_
                        refine w_p tok rfl rfl rfl ?_
                        obtain ⟨v10, hv10, H⟩ := H
                        refine w_y (y_ld tok rfl rfl rfl rfl hv10) rfl rfl ?_
                        refine w_p tok rfl rfl rfl ?_
                        refine w_p tok rfl rfl rfl ?_
                        exact w_jn (v10 == 2) H ⟨rfl, trivial⟩
                      ·
                        refine w_skip rfl rfl ?_
                        refine w_skip rfl rfl ?_
                        refine w_skip rfl rfl ?_
                        refine w_skip rfl rfl ?_
                        refine w_skip rfl rfl ?_
                        refine w_p tok rfl rfl rfl ?_
                        exact w_jn false H ⟨rfl, trivial⟩
                  ·
                    refine w_gif (d := 77) H rfl (fun H => ?_) (fun H => ?_)
                    ·
                      refine w_p tok rfl rfl rfl ?_
                      obtain ⟨a11, ha11, la11, ua11, H⟩ := H
                      refine w_y (y_ixa' tok rfl rfl ha11 rfl rfl rfl la11 ua11) rfl rfl ?_
                      refine w_p tok rfl rfl rfl ?_
                      refine w_p tok rfl rfl rfl ?_
                      obtain ⟨v12, hv12, H⟩ := H
                      refine w_y (y_ld tok rfl rfl rfl rfl hv12) rfl rfl ?_
                      refine w_p tok rfl rfl rfl ?_
                      refine w_p tok rfl rfl rfl ?_
                      exact w_jn (v12 == 5) H ⟨rfl, rfl, trivial⟩
                    ·
                      refine w_skip rfl rfl ?_
                      refine w_skip rfl rfl ?_
                      refine w_skip rfl rfl ?_
                      refine w_skip rfl rfl ?_
                      refine w_skip rfl rfl ?_
                      refine w_skip rfl rfl ?_
                      refine w_p tok rfl rfl rfl ?_
                      exact w_jn false H ⟨rfl, rfl, trivial⟩
                ·
                  refine w_gif (d := 70) H rfl (fun H => ?_) (fun H => ?_)
                  ·
                    refine w_p tok rfl rfl rfl ?_
                    obtain ⟨a13, ha13, la13, ua13, H⟩ := H
                    refine w_y (y_ixa' tok rfl rfl ha13 rfl rfl rfl la13 ua13) rfl rfl ?_
                    refine w_p tok rfl rfl rfl ?_
                    obtain ⟨v14, hv14, H⟩ := H
                    refine w_y (y_ld tok rfl rfl rfl rfl hv14) rfl rfl ?_
                    refine w_p tok rfl rfl rfl ?_
                    refine w_p tok rfl rfl rfl ?_
                    exact w_jn (v14 == 0) H ⟨rfl, rfl, trivial⟩
                  ·
                    refine w_skip rfl rfl ?_
                    refine w_skip rfl rfl ?_
                    refine w_skip rfl rfl ?_
                    refine w_skip rfl rfl ?_
                    refine w_skip rfl rfl ?_
                    refine w_p tok rfl rfl rfl ?_
                    exact w_jn false H ⟨rfl, rfl, trivial⟩
              ·
                refine w_gs (d := 65) rfl (fun hb => ?_) (fun hb => ?_)
                ·
                  refine w_p tok rfl rfl rfl ?_
                  refine w_p tok rfl rfl rfl ?_
                  refine w_p tok rfl rfl rfl ?_
                  refine w_p tok rfl rfl rfl ?_
                  refine w_jn () rfl ⟨?_, rfl, trivial⟩
                  exact congrArg (fun b => some (Value.bool b)) (and_t hb)
                ·
                  refine w_skip rfl rfl ?_
                  refine w_skip rfl rfl ?_
                  refine w_skip rfl rfl ?_
                  refine w_p tok rfl rfl rfl ?_
                  refine w_jn () rfl ⟨?_, rfl, trivial⟩
                  exact congrArg (fun b => some (Value.bool b)) (and_f hb)
            ·
              refine w_gif (d := 57) H rfl (fun H => ?_) (fun H => ?_)
              ·
                refine w_p tok rfl rfl rfl ?_
                obtain ⟨a15, ha15, la15, ua15, H⟩ := H
                refine w_y (y_ixa' tok rfl rfl ha15 rfl rfl rfl la15 ua15) rfl rfl ?_
                refine w_p tok rfl rfl rfl ?_
                refine w_p tok rfl rfl rfl ?_
                obtain ⟨v16, hv16, H⟩ := H
                refine w_y (y_ld tok rfl rfl rfl rfl hv16) rfl rfl ?_
                refine w_p tok rfl rfl rfl ?_
                refine w_p tok rfl rfl rfl ?_
                exact w_jn (v16 == 2) H ⟨rfl, rfl, trivial⟩
              ·
                refine w_skip rfl rfl ?_
                refine w_skip rfl rfl ?_
                refine w_skip rfl rfl ?_
                refine w_skip rfl rfl ?_
                refine w_skip rfl rfl ?_
                refine w_skip rfl rfl ?_
                refine w_p tok rfl rfl rfl ?_
                exact w_jn false H ⟨rfl, rfl, trivial⟩
          ·
            refine w_gs (d := 52) rfl (fun hb => ?_) (fun hb => ?_)
            ·
              refine w_p tok rfl rfl rfl ?_
              refine w_p tok rfl rfl rfl ?_
              refine w_p tok rfl rfl rfl ?_
              refine w_p tok rfl rfl rfl ?_
              refine w_jn () rfl ⟨?_, rfl, rfl, trivial⟩
              exact congrArg (fun b => some (Value.bool b)) (and_t hb)
            ·
              refine w_skip rfl rfl ?_
              refine w_skip rfl rfl ?_
              refine w_skip rfl rfl ?_
              refine w_p tok rfl rfl rfl ?_
              refine w_jn () rfl ⟨?_, rfl, rfl, trivial⟩
              exact congrArg (fun b => some (Value.bool b)) (and_f hb)
        ·
          refine w_gif (d := 44) H rfl (fun H => ?_) (fun H => ?_)
          ·
            refine w_p tok rfl rfl rfl ?_
            obtain ⟨a17, ha17, la17, ua17, H⟩ := H
            refine w_y (y_ixa' tok rfl rfl ha17 rfl rfl rfl la17 ua17) rfl rfl ?_
            refine w_p tok rfl rfl rfl ?_
            refine w_p tok rfl rfl rfl ?_
            obtain ⟨v18, hv18, H⟩ := H
            refine w_y (y_ld tok rfl rfl rfl rfl hv18) rfl rfl ?_
            refine w_p tok rfl rfl rfl ?_
            refine w_p tok rfl rfl rfl ?_
            exact w_jn (v18 == 12) H ⟨rfl, rfl, rfl, trivial⟩
          ·
            refine w_skip rfl rfl ?_
            refine w_skip rfl rfl ?_
            refine w_skip rfl rfl ?_
            refine w_skip rfl rfl ?_
            refine w_skip rfl rfl ?_
            refine w_skip rfl rfl ?_
            refine w_p tok rfl rfl rfl ?_
            exact w_jn false H ⟨rfl, rfl, rfl, trivial⟩
      ·
        refine w_gs (d := 39) rfl (fun hb => ?_) (fun hb => ?_)
        ·
          refine w_p tok rfl rfl rfl ?_
          refine w_p tok rfl rfl rfl ?_
          refine w_p tok rfl rfl rfl ?_
          refine w_p tok rfl rfl rfl ?_
          refine w_jn () rfl ⟨?_, rfl, rfl, rfl, trivial⟩
          exact congrArg (fun b => some (Value.bool b)) (and_t hb)
        ·
          refine w_skip rfl rfl ?_
          refine w_skip rfl rfl ?_
          refine w_skip rfl rfl ?_
          refine w_p tok rfl rfl rfl ?_
          refine w_jn () rfl ⟨?_, rfl, rfl, rfl, trivial⟩
          exact congrArg (fun b => some (Value.bool b)) (and_f hb)
    ·
      refine w_gs (d := 35) rfl (fun hb => ?_) (fun hb => ?_)
      ·
        refine w_p tok rfl rfl rfl ?_
        refine w_p tok rfl rfl rfl ?_
        refine w_p tok rfl rfl rfl ?_
        refine w_jn () rfl ⟨?_, rfl, rfl, rfl, trivial⟩
        exact congrArg (fun b => some (Value.bool b)) (and_t hb)
      ·
        refine w_skip rfl rfl ?_
        refine w_skip rfl rfl ?_
        refine w_p tok rfl rfl rfl ?_
        refine w_jn () rfl ⟨?_, rfl, rfl, rfl, trivial⟩
        exact congrArg (fun b => some (Value.bool b)) (and_f hb)
  ·
    refine w_gs (d := 31) rfl (fun hb => ?_) (fun hb => ?_)
    ·
      refine w_p tok rfl rfl rfl ?_
      refine w_p tok rfl rfl rfl ?_
      refine w_p tok rfl rfl rfl ?_
      refine w_jn () rfl ⟨?_, rfl, rfl, rfl, rfl, trivial⟩
      exact congrArg (fun b => some (Value.bool b)) (and_t hb)
    ·
      refine w_skip rfl rfl ?_
      refine w_skip rfl rfl ?_
      refine w_p tok rfl rfl rfl ?_
      refine w_jn () rfl ⟨?_, rfl, rfl, rfl, rfl, trivial⟩
      exact congrArg (fun b => some (Value.bool b)) (and_f hb)

theorem law19_QueryOrder_ok : CallOk Go.Proofs.Try.prog 4 := ⟨_, Go.Proofs.Try.func4, by kernel_rfl, by kernel_rfl⟩
theorem law19_QueryOrder_ref (p0 : S_api_Query) (p1 : Slc) (p2 : Int) (p3 : Int) (k : (Bool) → Heap → Prop) (h : Heap) (H : law19_QueryOrder p0 p1 p2 p3 k h) : CallsH Go.Proofs.Try.prog 4 #[.agg (S_api_Query.cs p0).toArray, Slc.v p1, .int .i64 p2, .int .i64 p3] h (fun v h' => ∃ r : Bool, v = .bool r ∧ k r h') := by
  refine f_enter (N := 63) Go.Proofs.Try.func4 rfl rfl rfl (fun w0 => ?_)
  unfold law19_QueryOrder at H
  refine c_weak [(0, .agg (S_api_Query.cs p0).toArray), (1, Slc.v p1), (2, .int .i64 p2), (3, .int .i64 p3)] ⟨rfl, rfl, rfl, rfl, trivial⟩ ?_
  refine c_seq ?_
  refine c_region ?_
  obtain ⟨b1, h2, eb1, eh2, H⟩ := H
  refine w_h (h_box rfl rfl eb1 eh2) rfl rfl ?_
  refine w_p tok rfl rfl rfl ?_
  refine w_end ?_
  refine x_seq ?_
  refine c_seq ?_
  refine c_seq ?_
  refine c_region ?_
  refine w_p tok rfl rfl rfl ?_
  refine w_call ref13_Great_ok (ref13_Great_ref _ _ _ _ H) rfl rfl rfl rfl ?_
  rintro _ h4 ⟨r3, rfl, H⟩
  refine w_p tok rfl rfl rfl ?_
  refine w_cut 5 (α := Bool) (fun (s : Bool) => [(22, .bool s), (1, Slc.v p1), (2, .int .i64 p2), (3, .int .i64 p3), (4, .pointer (some (⟨b1, 0, none⟩ : Addr)))]) (fun (s : Bool) h => law19_QueryOrder_g1 p1 p2 p3 (⟨b1, 0, none⟩ : Addr) s k h) ?_ ?_
  ·
    rintro t22_1 h_1 H
    replace H : law19_QueryOrder_g1 p1 p2 p3 (⟨b1, 0, none⟩ : Addr) t22_1 k h_1 := H
    unfold law19_QueryOrder_g1 at H
    refine w_weak [(22, .bool t22_1), (1, Slc.v p1), (2, .int .i64 p2), (3, .int .i64 p3), (4, .pointer (some (⟨b1, 0, none⟩ : Addr)))] ⟨rfl, rfl, rfl, rfl, rfl, trivial⟩ ?_
    refine w_end ?_
    refine x_seq ?_
    refine c_if H rfl (fun H => ?_) (fun H => ?_)
    ·
      refine c_seq ?_
      refine c_region ?_
      refine w_call law19_awake_ok (law19_awake_ref  _ _ H) rfl rfl rfl rfl ?_
      rintro _ h6 ⟨r5, rfl, H⟩
      refine w_p tok rfl rfl rfl ?_
      refine w_end ?_
      refine x_seq ?_
      refine c_ret ?_
      refine x_tr ?_
      exact x_ret _ rfl _ rfl ⟨r5, rfl, H⟩
    ·
      refine c_skip ?_
      refine x_seq ?_
      refine c_seq ?_
      refine c_region ?_
      refine w_p tok rfl rfl rfl ?_
      refine w_p tok rfl rfl rfl ?_
      refine w_p tok rfl rfl rfl ?_
      refine w_p tok rfl rfl rfl ?_
      refine w_call ref01_Pick_ok (ref01_Pick_ref _ _ _ _ H) rfl rfl rfl rfl ?_
      rintro _ h8 ⟨r7, rfl, H⟩
      refine w_p tok rfl rfl rfl ?_
      refine w_end ?_
      refine x_seq ?_
      refine c_weak [(1, Slc.v p1), (2, .int .i64 p2), (4, .pointer (some (⟨b1, 0, none⟩ : Addr))), (9, .int .i64 r7)] ⟨rfl, rfl, rfl, rfl, trivial⟩ ?_
      refine c_seq ?_
      refine c_sim [(1, Slc.v p1), (2, .int .i64 p2), (4, .pointer (some (⟨b1, 0, none⟩ : Addr))), (9, .int .i64 r7)] (by kernel_rfl) (by kernel_rfl) ⟨rfl, rfl, rfl, rfl, trivial⟩ (fun wf => ?_)
      refine sP 1 [(1, Slc.v p1)] (some 30) wf ⟨rfl, trivial⟩ (fun _ => pf_p tok rfl rfl rfl rfl) (fun P_1 => ?_)
      refine sP 2 [(9, .int .i64 r7)] (some 31) wf ⟨rfl, trivial⟩ (fun _ => pf_p tok rfl rfl rfl rfl) (fun P_2 => ?_)
      obtain ⟨s9, ps9, qs9, rs9, ts9, es9, H⟩ := H
      refine sP 3 [(30, Slc.v p1), (31, .int .i64 r7)] (some 32) wf ⟨rfl, rfl, trivial⟩ (fun _ => pf_ye rfl rfl rfl (y_sl (s := p1) (L := r7) (H := (p1.len : Int)) (M := (p1.cap : Int)) tok rfl rfl rfl rfl rfl rfl rfl (by simp) ps9 qs9 rs9 ts9) (congrArg Slc.v es9)) (fun P_3 => ?_)
      refine sP 5 [(1, Slc.v p1)] (some 34) wf ⟨rfl, trivial⟩ (fun _ => pf_p tok rfl rfl rfl rfl) (fun P_5 => ?_)
      refine sP 6 [(9, .int .i64 r7)] (some 35) wf ⟨rfl, trivial⟩ (fun _ => pf_p tok rfl rfl rfl rfl) (fun P_6 => ?_)
      obtain ⟨s10, ps10, qs10, rs10, ts10, es10, H⟩ := H
      refine sP 7 [(34, Slc.v p1), (35, .int .i64 r7)] (some 36) wf ⟨rfl, rfl, trivial⟩ (fun _ => pf_ye rfl rfl rfl (y_sl (s := p1) (L := 0) (H := r7) (M := (p1.cap : Int)) tok rfl rfl rfl rfl rfl rfl rfl (by simp) ps10 qs10 rs10 ts10) (congrArg Slc.v es10)) (fun P_7 => ?_)
      obtain ⟨b11, h12, eb11, eh12, H⟩ := H
      refine sim_h 0 [] [] (ei := []) wf ⟨P_7 _, P_6 _, P_5 _, P_3 _, P_2 _, P_1 _, trivial⟩ (by kernel_rfl) trivial (by kernel_rfl) rfl rfl rfl (h_bs tok rfl rfl rfl rfl rfl rfl rfl eb11 eh12) ?_
      obtain ⟨l15, hl15, H⟩ := H
      refine sim_a 4 [0, 1, 2, 3] [1, 2, 3] (ei := [(29, Slc.v (⟨some ⟨b11, 0, none⟩, 0, 0⟩ : Slc)), (32, Slc.v s9)]) wf ⟨P_7 _, P_6 _, P_5 _, P_3 _, P_2 _, P_1 _, trivial⟩ (by kernel_rfl) ⟨rfl, rfl, trivial⟩ (by kernel_rfl) rfl rfl rfl (a_app (s := (⟨some ⟨b11, 0, none⟩, 0, 0⟩ : Slc)) (r := s9) tok rfl rfl rfl rfl rfl hl15 H) ?_
      rintro _ h14 ⟨s13, rfl, H⟩
      obtain ⟨l18, hl18, H⟩ := H
      refine sim_a 8 [0, 1, 2, 3, 4, 5, 6, 7] [1, 2, 3, 5, 6, 7] (ei := [(33, Slc.v s13), (36, Slc.v s10)]) wf ⟨P_7 _, P_6 _, P_5 _, trivial, trivial, trivial, trivial⟩ (by kernel_rfl) ⟨rfl, rfl, trivial⟩ (by kernel_rfl) rfl rfl rfl (a_app (s := s13) (r := s10) tok rfl rfl rfl rfl rfl hl18 H) ?_
      rintro _ h17 ⟨s16, rfl, H⟩
      refine sP 9 [(37, Slc.v s16)] (some 10) wf ⟨rfl, trivial⟩ (fun _ => pf_p tok rfl rfl rfl rfl) (fun P_9 => ?_)
      refine sim_end wf ⟨P_9 _, trivial, trivial, trivial, trivial, trivial, trivial, trivial⟩ (by kernel_rfl) ?_
      clear wf P_1 P_2 P_3 P_5 P_6 P_7 P_9
      refine x_seq ?_
      refine c_weak [(1, Slc.v p1), (2, .int .i64 p2), (4, .pointer (some (⟨b1, 0, none⟩ : Addr))), (10, Slc.v s16)] ⟨rfl, rfl, rfl, rfl, trivial⟩ ?_
      refine c_seq ?_
      refine c_region ?_
      obtain ⟨v19, hv19, H⟩ := H
      refine w_y (y_lda tok rfl rfl rfl rfl rfl hv19) rfl rfl ?_
      refine w_p tok rfl rfl rfl ?_
      refine w_p tok rfl rfl rfl ?_
      refine w_call query_Run_ok (query_Run_ref _ _ _ _ _ H) rfl rfl rfl rfl ?_
      rintro _ h21 ⟨r20, rfl, H⟩
      refine w_p tok rfl rfl rfl ?_
      refine w_p tok rfl rfl rfl ?_
      refine w_p tok rfl rfl rfl ?_
      refine w_p tok rfl rfl rfl ?_
      refine w_p tok rfl rfl rfl ?_
      refine w_end ?_
      refine x_seq ?_
      refine c_weak [(2, .int .i64 p2), (4, .pointer (some (⟨b1, 0, none⟩ : Addr))), (10, Slc.v s16), (11, Slc.v r20.1), (12, .int .i64 r20.2)] ⟨rfl, rfl, rfl, rfl, rfl, trivial⟩ ?_
      refine c_seq ?_
      refine c_region ?_
      obtain ⟨v22, hv22, H⟩ := H
      refine w_y (y_lda tok rfl rfl rfl rfl rfl hv22) rfl rfl ?_
      refine w_p tok rfl rfl rfl ?_
      refine w_p tok rfl rfl rfl ?_
      refine w_call query_Run_ok (query_Run_ref _ _ _ _ _ H) rfl rfl rfl rfl ?_
      rintro _ h24 ⟨r23, rfl, H⟩
      refine w_p tok rfl rfl rfl ?_
      refine w_p tok rfl rfl rfl ?_
      refine w_p tok rfl rfl rfl ?_
      refine w_p tok rfl rfl rfl ?_
      refine w_p tok rfl rfl rfl ?_
      refine w_end ?_
      refine x_seq ?_
      refine c_weak [(11, Slc.v r20.1), (12, .int .i64 r20.2), (13, Slc.v r23.1), (14, .int .i64 r23.2)] ⟨rfl, rfl, rfl, rfl, trivial⟩ ?_
      refine c_seq ?_
      refine c_region ?_
      refine w_p tok rfl rfl rfl ?_
      refine w_p tok rfl rfl rfl ?_
      refine w_p tok rfl rfl rfl ?_
      refine w_p tok rfl rfl rfl ?_
      refine w_cut 4 (α := Bool) (fun (s : Bool) => [(59, .bool s)]) (fun (s : Bool) h => law19_QueryOrder_g2 s k h) ?_ ?_
      ·
        rintro t59_2 h_2 H
        replace H : law19_QueryOrder_g2 t59_2 k h_2 := H
        unfold law19_QueryOrder_g2 at H
        refine w_weak [(59, .bool t59_2)] ⟨rfl, trivial⟩ ?_
        refine w_p tok rfl rfl rfl ?_
        refine w_cut 2 (α := Bool) (fun (s : Bool) => [(62, .bool s)]) (fun (s : Bool) h => law19_QueryOrder_g3 s k h) ?_ ?_
        ·
          rintro t62_3 h_3 H
          replace H : law19_QueryOrder_g3 t62_3 k h_3 := H
          unfold law19_QueryOrder_g3 at H
          refine w_weak [(62, .bool t62_3)] ⟨rfl, trivial⟩ ?_
          refine w_p tok rfl rfl rfl ?_
          refine w_end ?_
          refine x_seq ?_
          refine c_ret ?_
          exact x_ret _ rfl _ rfl ⟨t62_3, rfl, H⟩
        ·
          refine w_gif (d := 60) H rfl (fun H => ?_) (fun H => ?_)
          ·
            refine w_call law19_awake_ok (law19_awake_ref  _ _ H) rfl rfl rfl rfl ?_
            rintro _ h26 ⟨r25, rfl, H⟩
            refine w_p tok rfl rfl rfl ?_
            exact w_jn r25 H ⟨rfl, trivial⟩
          ·
            refine w_skip rfl rfl ?_
            refine w_p tok rfl rfl rfl ?_
            exact w_jn false H ⟨rfl, trivial⟩
      ·
        refine w_gif (d := 55) H rfl (fun H => ?_) (fun H => ?_)
        ·
          refine w_p tok rfl rfl rfl ?_
          refine w_p tok rfl rfl rfl ?_
          refine w_call ref19_SameRows_ok (ref19_SameRows_ref _ _ _ _ H) rfl rfl rfl rfl ?_
          rintro _ h28 ⟨r27, rfl, H⟩
          refine w_p tok rfl rfl rfl ?_
          exact w_jn r27 H ⟨rfl, trivial⟩
        ·
          refine w_skip rfl rfl ?_
          refine w_skip rfl rfl ?_
          refine w_skip rfl rfl ?_
          refine w_p tok rfl rfl rfl ?_
          exact w_jn false H ⟨rfl, trivial⟩
  ·
    refine w_gif (d := 17) H rfl (fun H => ?_) (fun H => ?_)
    ·
      refine w_skip rfl rfl ?_
      refine w_skip rfl rfl ?_
      refine w_skip rfl rfl ?_
      refine w_skip rfl rfl ?_
      refine w_p tok rfl rfl rfl ?_
      exact w_jn true H ⟨rfl, rfl, rfl, rfl, rfl, trivial⟩
    ·
      refine w_p tok rfl rfl rfl ?_
      obtain ⟨v29, hv29, H⟩ := H
      refine w_y (y_ld tok rfl rfl rfl rfl hv29) rfl rfl ?_
      refine w_p tok rfl rfl rfl ?_
      refine w_p tok rfl rfl rfl ?_
      refine w_p tok rfl rfl rfl ?_
      exact w_jn (decide ((v29.size : Int) > 400)) H ⟨rfl, rfl, rfl, rfl, rfl, trivial⟩

theorem law19_total_ok : CallOk Go.Proofs.Try.prog 19 := ⟨_, Go.Proofs.Try.func19, by kernel_rfl, by kernel_rfl⟩
theorem law19_total_ref (p0 : Slc) (k : (S_api_Wide) → Heap → Prop) (h : Heap) (H : law19_total p0 k h) : CallsH Go.Proofs.Try.prog 19 #[Slc.v p0] h (fun v h' => ∃ r : S_api_Wide, v = .agg (S_api_Wide.cs r).toArray ∧ k r h') := by
  refine f_enter (N := 23) Go.Proofs.Try.func19 rfl rfl rfl (fun w0 => ?_)
  unfold law19_total at H
  refine c_weak [(0, Slc.v p0)] ⟨rfl, trivial⟩ ?_
  refine c_seq ?_
  refine c_region ?_
  obtain ⟨b1, h2, eb1, eh2, H⟩ := H
  refine w_h (h_alloc tok rfl rfl eb1 eh2) rfl rfl ?_
  refine w_end ?_
  refine x_seq ?_
  refine c_seq ?_
  refine c_region ?_
  refine w_y (y_build tok rfl rfl rfl rfl rfl) rfl rfl ?_
  obtain ⟨b3, h4, eb3, eh4, H⟩ := H
  refine w_h (h_alloc tok rfl rfl eb3 eh4) rfl rfl ?_
  obtain ⟨h5, wh5, eh5, H⟩ := H
  refine w_h (h_sts tok rfl rfl rfl rfl rfl (oneC (by kernel_rfl)) wh5 eh5) rfl rfl ?_
  refine w_end ?_
  refine x_seq ?_
  refine c_seq ?_
  refine c_seq ?_
  refine c_region ?_
  refine w_p tok rfl rfl rfl ?_
  refine w_end ?_
  refine x_seq ?_
  refine c_block ?_
  obtain ⟨I1, μ1, H0, HI⟩ := H
  refine c_loop (σ := Int) (fun (s : Int) => [(4, .int .i64 s), (0, Slc.v p0), (2, .pointer (some (⟨b1, 0, none⟩ : Addr))), (3, .pointer (some (⟨b3, 0, none⟩ : Addr)))]) I1 μ1 0 H0 ⟨rfl, rfl, rfl, rfl, trivial⟩ ?_
  rintro t4_1 h_1 H
  replace H := HI t4_1 h_1 H
  unfold law19_total_l1b at H
  refine c_weak [(4, .int .i64 t4_1), (0, Slc.v p0), (2, .pointer (some (⟨b1, 0, none⟩ : Addr))), (3, .pointer (some (⟨b3, 0, none⟩ : Addr)))] ⟨rfl, rfl, rfl, rfl, trivial⟩ ?_
  refine c_seq ?_
  refine c_seq ?_
  refine c_region ?_
  refine w_p tok rfl rfl rfl ?_
  refine w_p tok rfl rfl rfl ?_
  refine w_p tok rfl rfl rfl ?_
  refine w_p tok rfl rfl rfl ?_
  refine w_end ?_
  refine x_seq ?_
  refine c_if H rfl (fun H => ?_) (fun H => ?_)
  ·
    refine c_skip ?_
    refine x_seq ?_
    refine c_seq ?_
    refine c_block ?_
    refine c_sim [(0, Slc.v p0), (2, .pointer (some (⟨b1, 0, none⟩ : Addr))), (3, .pointer (some (⟨b3, 0, none⟩ : Addr))), (4, .int .i64 t4_1)] (by kernel_rfl) (by kernel_rfl) ⟨rfl, rfl, rfl, rfl, trivial⟩ (fun wf => ?_)
    obtain ⟨v6, hv6, H⟩ := H
    refine sL 0 [(3, .pointer (some (⟨b3, 0, none⟩ : Addr)))] (some 13) wf ⟨rfl, trivial⟩ (pf_y rfl rfl rfl (y_lda tok rfl rfl rfl rfl rfl hv6)) (fun P_0 => ?_)
    refine sP 1 [(0, Slc.v p0)] (some 14) wf ⟨rfl, trivial⟩ (fun _ => pf_p tok rfl rfl rfl rfl) (fun P_1 => ?_)
    refine sP 2 [(4, .int .i64 t4_1)] (some 15) wf ⟨rfl, trivial⟩ (fun _ => pf_p tok rfl rfl rfl rfl) (fun P_2 => ?_)
    obtain ⟨a7, ha7, la7, ua7, H⟩ := H
    refine sP 3 [(14, Slc.v p0), (15, .int .i64 t4_1)] (some 16) wf ⟨rfl, rfl, trivial⟩ (fun _ => pf_y rfl rfl rfl (y_ixa' tok rfl rfl ha7 rfl rfl rfl la7 ua7)) (fun P_3 => ?_)
    refine sP 4 [(16, .pointer (some (a7.add (t4_1.toNat * 4))))] (some 17) wf ⟨rfl, trivial⟩ (fun _ => pf_p tok rfl rfl rfl rfl) (fun P_4 => ?_)
    obtain ⟨v8, hv8, H⟩ := H
    refine sL 5 [(17, .pointer (some ((a7.add (t4_1.toNat * 4)).add 2)))] (some 18) wf ⟨rfl, trivial⟩ (pf_y rfl rfl rfl (y_lda tok rfl rfl rfl rfl rfl hv8)) (fun P_5 => ?_)
    refine sim_c 6 [0, 1, 2, 3, 4, 5] [0, 1, 2, 3, 4, 5] (ei := [(13, .agg (S_api_Wide.cs v6).toArray), (18, .agg (S_api_Wide.cs v8).toArray)]) ref01_Add_ok (ref01_Add_ref _ _ _ _ H) wf ⟨P_5, P_4 _, P_3 _, P_2 _, P_1 _, P_0, trivial⟩ (by kernel_rfl) ⟨rfl, rfl, trivial⟩ (by kernel_rfl) rfl rfl rfl rfl rfl ?_
    rintro _ h10 ⟨r9, rfl, H⟩
    refine sP 7 [(19, .tuple #[.agg (S_api_Wide.cs r9.1).toArray, .int .i64 r9.2])] (some 12) wf ⟨rfl, trivial⟩ (fun _ => pf_p tok rfl rfl rfl rfl) (fun P_7 => ?_)
    refine sP 8 [(12, .tuple #[.agg (S_api_Wide.cs r9.1).toArray, .int .i64 r9.2])] (some 20) wf ⟨rfl, trivial⟩ (fun _ => pf_p tok rfl rfl rfl rfl) (fun P_8 => ?_)
    refine sP 9 [(12, .tuple #[.agg (S_api_Wide.cs r9.1).toArray, .int .i64 r9.2])] (some 21) wf ⟨rfl, trivial⟩ (fun _ => pf_p tok rfl rfl rfl rfl) (fun P_9 => ?_)
    obtain ⟨h11, wh11, eh11, H⟩ := H
    refine sim_h 10 [0, 1, 2, 3, 4, 5, 6, 7, 8] [0, 1, 2, 3, 4, 5, 7, 8] (ei := [(3, .pointer (some (⟨b3, 0, none⟩ : Addr))), (20, .agg (S_api_Wide.cs r9.1).toArray)]) wf ⟨P_9 _, P_8 _, P_7 _, trivial, trivial, trivial, trivial, trivial, trivial, trivial⟩ (by kernel_rfl) ⟨rfl, rfl, trivial⟩ (by kernel_rfl) rfl rfl rfl (h_sts tok rfl rfl rfl rfl rfl (oneC (by kernel_rfl)) wh11 eh11) ?_
    refine sim_end wf ⟨P_9 _, trivial, trivial, trivial, trivial, trivial, trivial, trivial, trivial, trivial⟩ (by kernel_rfl) ?_
    clear wf P_0 P_1 P_2 P_3 P_4 P_5 P_7 P_8 P_9
    refine x_blk ?_
    refine x_seq ?_
    refine c_weak [(0, Slc.v p0), (2, .pointer (some (⟨b1, 0, none⟩ : Addr))), (3, .pointer (some (⟨b3, 0, none⟩ : Addr))), (4, .int .i64 t4_1)] ⟨rfl, rfl, rfl, rfl, trivial⟩ ?_
    refine c_region ?_
    refine w_p tok rfl rfl rfl ?_
    refine w_p tok rfl rfl rfl ?_
    obtain ⟨x12, ex12, H⟩ := H
    refine w_pe tok rfl (congrArg (fun z => (.int .i64 z : Value)) ex12) rfl rfl ?_
    refine w_end ?_
    exact x_join x12 H ⟨rfl, rfl, rfl, rfl, trivial⟩
  ·
    refine c_exit ?_
    refine x_te ?_
    refine x_te ?_
    refine x_bh ?_
    refine x_seq ?_
    refine c_seq ?_
    refine c_region ?_
    obtain ⟨v13, hv13, H⟩ := H
    refine w_y (y_lda tok rfl rfl rfl rfl rfl hv13) rfl rfl ?_
    obtain ⟨h14, wh14, eh14, H⟩ := H
    refine w_h (h_sts tok rfl rfl rfl rfl rfl (oneC (by kernel_rfl)) wh14 eh14) rfl rfl ?_
    refine w_end ?_
    refine x_seq ?_
    refine c_weak [(2, .pointer (some (⟨b1, 0, none⟩ : Addr)))] ⟨rfl, trivial⟩ ?_
    refine c_ret ?_
    obtain ⟨v15, hv15, H⟩ := H
    exact x_retc tok _ rfl [.agg (S_api_Wide.cs v15).toArray] ⟨⟨_, _, rfl, rfl, .inr ⟨rfl, _, rfl, rfl, hv15⟩⟩, trivial⟩ ⟨v15, rfl, H⟩

theorem law19_QueryParts_ok : CallOk Go.Proofs.Try.prog 5 := ⟨_, Go.Proofs.Try.func5, by kernel_rfl, by kernel_rfl⟩
theorem law19_QueryParts_ref (p0 : S_api_Query) (p1 : Slc) (p2 : Int) (p3 : Int) (k : (Bool) → Heap → Prop) (h : Heap) (H : law19_QueryParts p0 p1 p2 p3 k h) : CallsH Go.Proofs.Try.prog 5 #[.agg (S_api_Query.cs p0).toArray, Slc.v p1, .int .i64 p2, .int .u8 p3] h (fun v h' => ∃ r : Bool, v = .bool r ∧ k r h') := by
  refine f_enter (N := 126) Go.Proofs.Try.func5 rfl rfl rfl (fun w0 => ?_)
  unfold law19_QueryParts at H
  refine c_weak [(0, .agg (S_api_Query.cs p0).toArray), (1, Slc.v p1), (2, .int .i64 p2), (3, .int .u8 p3)] ⟨rfl, rfl, rfl, rfl, trivial⟩ ?_
  refine c_seq ?_
  refine c_region ?_
  obtain ⟨b1, h2, eb1, eh2, H⟩ := H
  refine w_h (h_box rfl rfl eb1 eh2) rfl rfl ?_
  refine w_p tok rfl rfl rfl ?_
  refine w_end ?_
  refine x_seq ?_
  refine c_seq ?_
  refine c_seq ?_
  refine c_region ?_
  refine w_p tok rfl rfl rfl ?_
  refine w_call ref13_Great_ok (ref13_Great_ref _ _ _ _ H) rfl rfl rfl rfl ?_
  rintro _ h4 ⟨r3, rfl, H⟩
  refine w_p tok rfl rfl rfl ?_
  refine w_cut 5 (α := Bool) (fun (s : Bool) => [(27, .bool s), (1, Slc.v p1), (2, .int .i64 p2), (3, .int .u8 p3), (4, .pointer (some (⟨b1, 0, none⟩ : Addr)))]) (fun (s : Bool) h => law19_QueryParts_g1 p1 p2 p3 (⟨b1, 0, none⟩ : Addr) s k h) ?_ ?_
  ·
    rintro t27_1 h_1 H
    replace H : law19_QueryParts_g1 p1 p2 p3 (⟨b1, 0, none⟩ : Addr) t27_1 k h_1 := H
    unfold law19_QueryParts_g1 at H
    refine w_weak [(27, .bool t27_1), (1, Slc.v p1), (2, .int .i64 p2), (3, .int .u8 p3), (4, .pointer (some (⟨b1, 0, none⟩ : Addr)))] ⟨rfl, rfl, rfl, rfl, rfl, trivial⟩ ?_
    refine w_end ?_
    refine x_seq ?_
    refine c_if H rfl (fun H => ?_) (fun H => ?_)
    ·
      refine c_seq ?_
      refine c_region ?_
      refine w_call law19_awake_ok (law19_awake_ref  _ _ H) rfl rfl rfl rfl ?_
      rintro _ h6 ⟨r5, rfl, H⟩
      refine w_p tok rfl rfl rfl ?_
      refine w_end ?_
      refine x_seq ?_
      refine c_ret ?_
      refine x_tr ?_
      exact x_ret _ rfl _ rfl ⟨r5, rfl, H⟩
    ·
      refine c_skip ?_
      refine x_seq ?_
      refine c_seq ?_
      refine c_region ?_
      obtain ⟨b7, h8, eb7, eh8, H⟩ := H
      refine w_h (h_bs tok rfl rfl rfl rfl rfl rfl rfl eb7 eh8) rfl rfl ?_
      refine w_p tok rfl rfl rfl ?_
      refine w_p tok rfl rfl rfl ?_
      obtain ⟨a9, ha9, la9, ua9, H⟩ := H
      refine w_y (y_ixa' tok rfl rfl ha9 rfl rfl rfl la9 ua9) rfl rfl ?_
      obtain ⟨v10, hv10, H⟩ := H
      refine w_y (y_ld tok rfl rfl rfl rfl hv10) rfl rfl ?_
      refine w_p tok rfl rfl rfl ?_
      obtain ⟨h11, wh11, eh11, H⟩ := H
      refine w_h (h_st tok rfl rfl rfl rfl rfl rfl wh11 eh11) rfl rfl ?_
      refine w_end ?_
      refine x_seq ?_
      refine c_weak [(1, Slc.v p1), (2, .int .i64 p2), (4, .pointer (some (⟨b1, 0, none⟩ : Addr)))] ⟨rfl, rfl, rfl, trivial⟩ ?_
      refine c_seq ?_
      refine c_region ?_
      refine w_p tok rfl rfl rfl ?_
      obtain ⟨v12, hv12, H⟩ := H
      refine w_y (y_ld tok rfl rfl rfl rfl hv12) rfl rfl ?_
      refine w_p tok rfl rfl rfl ?_
      refine w_p tok rfl rfl rfl ?_
      obtain ⟨h13, wh13, eh13, H⟩ := H
      refine w_h (h_st tok rfl rfl rfl rfl rfl rfl wh13 eh13) rfl rfl ?_
      refine w_end ?_
      refine x_seq ?_
      refine c_seq ?_
      refine c_region ?_
      obtain ⟨v14, hv14, H⟩ := H
      refine w_y (y_lda tok rfl rfl rfl rfl rfl hv14) rfl rfl ?_
      refine w_p tok rfl rfl rfl ?_
      refine w_call query_Run_ok (query_Run_ref _ _ _ _ _ H) rfl rfl rfl rfl ?_
      rintro _ h16 ⟨r15, rfl, H⟩
      refine w_p tok rfl rfl rfl ?_
      refine w_p tok rfl rfl rfl ?_
      refine w_p tok rfl rfl rfl ?_
      refine w_p tok rfl rfl rfl ?_
      refine w_p tok rfl rfl rfl ?_
      refine w_end ?_
      refine x_seq ?_
      refine c_weak [(1, Slc.v p1), (2, .int .i64 p2), (4, .pointer (some (⟨b1, 0, none⟩ : Addr))), (9, Slc.v r15.1), (10, .int .i64 r15.2)] ⟨rfl, rfl, rfl, rfl, rfl, trivial⟩ ?_
      refine c_seq ?_
      refine c_seq ?_
      refine c_region ?_
      refine w_p tok rfl rfl rfl ?_
      refine w_p tok rfl rfl rfl ?_
      refine w_p tok rfl rfl rfl ?_
      refine w_cut 5 (α := Bool) (fun (s : Bool) => [(52, .bool s), (1, Slc.v p1), (2, .int .i64 p2), (4, .pointer (some (⟨b1, 0, none⟩ : Addr))), (9, Slc.v r15.1), (10, .int .i64 r15.2)]) (fun (s : Bool) h => law19_QueryParts_g2 p1 p2 (⟨b1, 0, none⟩ : Addr) r15.1 r15.2 s k h) ?_ ?_
      ·
        rintro t52_2 h_2 H
        replace H : law19_QueryParts_g2 p1 p2 (⟨b1, 0, none⟩ : Addr) r15.1 r15.2 t52_2 k h_2 := H
        unfold law19_QueryParts_g2 at H
        refine w_weak [(52, .bool t52_2), (1, Slc.v p1), (2, .int .i64 p2), (4, .pointer (some (⟨b1, 0, none⟩ : Addr))), (9, Slc.v r15.1), (10, .int .i64 r15.2)] ⟨rfl, rfl, rfl, rfl, rfl, rfl, trivial⟩ ?_
        refine w_p tok rfl rfl rfl ?_
        refine w_cut 5 (α := Bool) (fun (s : Bool) => [(58, .bool s), (1, Slc.v p1), (2, .int .i64 p2), (4, .pointer (some (⟨b1, 0, none⟩ : Addr))), (9, Slc.v r15.1), (10, .int .i64 r15.2)]) (fun (s : Bool) h => law19_QueryParts_g3 p1 p2 (⟨b1, 0, none⟩ : Addr) r15.1 r15.2 s k h) ?_ ?_
        ·
          rintro t58_3 h_3 H
          replace H : law19_QueryParts_g3 p1 p2 (⟨b1, 0, none⟩ : Addr) r15.1 r15.2 t58_3 k h_3 := H
          unfold law19_QueryParts_g3 at H
          refine w_weak [(58, .bool t58_3), (1, Slc.v p1), (2, .int .i64 p2), (4, .pointer (some (⟨b1, 0, none⟩ : Addr))), (9, Slc.v r15.1), (10, .int .i64 r15.2)] ⟨rfl, rfl, rfl, rfl, rfl, rfl, trivial⟩ ?_
          refine w_end ?_
          refine x_seq ?_
          refine c_if H rfl (fun H => ?_) (fun H => ?_)
          ·
            refine c_seq ?_
            refine c_region ?_
            refine w_p tok rfl rfl rfl ?_
            refine w_p tok rfl rfl rfl ?_
            refine w_p tok rfl rfl rfl ?_
            refine w_cutU 3 [(64, .bool ((r15.2 == 0) || (r15.2 == 4)))] ?_ ?_
            ·
              refine w_p tok rfl rfl rfl ?_
              refine w_cut 2 (α := Bool) (fun (s : Bool) => [(67, .bool s)]) (fun (s : Bool) h => law19_QueryParts_g4 s k h) ?_ ?_
              ·
                rintro t67_4 h_4 H
                replace H : law19_QueryParts_g4 t67_4 k h_4 := H
                unfold law19_QueryParts_g4 at H
                refine w_weak [(67, .bool t67_4)] ⟨rfl, trivial⟩ ?_
                refine w_p tok rfl rfl rfl ?_
                refine w_end ?_
                refine x_seq ?_
                refine c_ret ?_
                refine x_tr ?_
                exact x_ret _ rfl _ rfl ⟨t67_4, rfl, H⟩
              ·
                refine w_gif (d := 65) H rfl (fun H => ?_) (fun H => ?_)
                ·
                  refine w_call law19_awake_ok (law19_awake_ref  _ _ H) rfl rfl rfl rfl ?_
                  rintro _ h18 ⟨r17, rfl, H⟩
                  refine w_p tok rfl rfl rfl ?_
                  exact w_jn r17 H ⟨rfl, trivial⟩
                ·
                  refine w_skip rfl rfl ?_
                  refine w_p tok rfl rfl rfl ?_
                  exact w_jn false H ⟨rfl, trivial⟩
            ·
              refine w_gs (d := 61) rfl (fun hb => ?_) (fun hb => ?_)
              ·
                refine w_skip rfl rfl ?_
                refine w_skip rfl rfl ?_
                refine w_p tok rfl rfl rfl ?_
                refine w_jn () rfl ⟨?_, trivial⟩
                exact congrArg (fun b => some (Value.bool b)) (or_t hb)
              ·
                refine w_p tok rfl rfl rfl ?_
                refine w_p tok rfl rfl rfl ?_
                refine w_p tok rfl rfl rfl ?_
                refine w_jn () rfl ⟨?_, trivial⟩
                exact congrArg (fun b => some (Value.bool b)) (or_f hb)
          ·
            refine c_skip ?_
            refine x_seq ?_
            refine c_seq ?_
            refine c_region ?_
            obtain ⟨v19, hv19, H⟩ := H
            refine w_y (y_lda tok rfl rfl rfl rfl rfl hv19) rfl rfl ?_
            obtain ⟨b20, h21, eb20, eh21, H⟩ := H
            refine w_h (h_alloc tok rfl rfl eb20 eh21) rfl rfl ?_
            obtain ⟨h22, wh22, eh22, H⟩ := H
            refine w_h (h_sts tok rfl rfl rfl rfl rfl (oneC (by kernel_rfl)) wh22 eh22) rfl rfl ?_
            refine w_end ?_
            refine x_seq ?_
            refine c_seq ?_
            refine c_region ?_
            refine w_p tok rfl rfl rfl ?_
            refine w_p tok rfl rfl rfl ?_
            refine w_p tok rfl rfl rfl ?_
            obtain ⟨h23, wh23, eh23, H⟩ := H
            refine w_h (h_st tok rfl rfl rfl rfl rfl rfl wh23 eh23) rfl rfl ?_
            refine w_end ?_
            refine x_seq ?_
            refine c_seq ?_
            refine c_region ?_
            obtain ⟨v24, hv24, H⟩ := H
            refine w_y (y_lda tok rfl rfl rfl rfl rfl hv24) rfl rfl ?_
            refine w_p tok rfl rfl rfl ?_
            refine w_call query_Run_ok (query_Run_ref _ _ _ _ _ H) rfl rfl rfl rfl ?_
            rintro _ h26 ⟨r25, rfl, H⟩
            refine w_p tok rfl rfl rfl ?_
            refine w_p tok rfl rfl rfl ?_
            refine w_p tok rfl rfl rfl ?_
            refine w_p tok rfl rfl rfl ?_
            refine w_p tok rfl rfl rfl ?_
            refine w_end ?_
            refine x_seq ?_
            refine c_weak [(1, Slc.v p1), (2, .int .i64 p2), (4, .pointer (some (⟨b1, 0, none⟩ : Addr))), (9, Slc.v r15.1), (11, .pointer (some (⟨b20, 0, none⟩ : Addr))), (12, Slc.v r25.1), (13, .int .i64 r25.2)] ⟨rfl, rfl, rfl, rfl, rfl, rfl, rfl, trivial⟩ ?_
            refine c_seq ?_
            refine c_region ?_
            obtain ⟨v27, hv27, H⟩ := H
            refine w_y (y_lda tok rfl rfl rfl rfl rfl hv27) rfl rfl ?_
            obtain ⟨h28, wh28, eh28, H⟩ := H
            refine w_h (h_sts tok rfl rfl rfl rfl rfl (oneC (by kernel_rfl)) wh28 eh28) rfl rfl ?_
            refine w_end ?_
            refine x_seq ?_
            refine c_seq ?_
            refine c_region ?_
            refine w_p tok rfl rfl rfl ?_
            refine w_p tok rfl rfl rfl ?_
            obtain ⟨h29, wh29, eh29, H⟩ := H
            refine w_h (h_st tok rfl rfl rfl rfl rfl rfl wh29 eh29) rfl rfl ?_
            refine w_end ?_
            refine x_seq ?_
            refine c_seq ?_
            refine c_region ?_
            obtain ⟨v30, hv30, H⟩ := H
            refine w_y (y_lda tok rfl rfl rfl rfl rfl hv30) rfl rfl ?_
            refine w_p tok rfl rfl rfl ?_
            refine w_call query_Run_ok (query_Run_ref _ _ _ _ _ H) rfl rfl rfl rfl ?_
            rintro _ h32 ⟨r31, rfl, H⟩
            refine w_p tok rfl rfl rfl ?_
            refine w_p tok rfl rfl rfl ?_
            refine w_p tok rfl rfl rfl ?_
            refine w_p tok rfl rfl rfl ?_
            refine w_p tok rfl rfl rfl ?_
            refine w_end ?_
            refine x_seq ?_
            refine c_weak [(1, Slc.v p1), (2, .int .i64 p2), (4, .pointer (some (⟨b1, 0, none⟩ : Addr))), (9, Slc.v r15.1), (12, Slc.v r25.1), (13, .int .i64 r25.2), (14, Slc.v r31.1), (15, .int .i64 r31.2)] ⟨rfl, rfl, rfl, rfl, rfl, rfl, rfl, rfl, trivial⟩ ?_
            refine c_seq ?_
            refine c_region ?_
            refine w_p tok rfl rfl rfl ?_
            refine w_call law19_total_ok (law19_total_ref _ _ _ H) rfl rfl rfl rfl ?_
            rintro _ h34 ⟨r33, rfl, H⟩
            refine w_p tok rfl rfl rfl ?_
            refine w_call law19_total_ok (law19_total_ref _ _ _ H) rfl rfl rfl rfl ?_
            rintro _ h36 ⟨r35, rfl, H⟩
            refine w_call ref01_Add_ok (ref01_Add_ref _ _ _ _ H) rfl rfl rfl rfl ?_
            rintro _ h38 ⟨r37, rfl, H⟩
            refine w_p tok rfl rfl rfl ?_
            refine w_p tok rfl rfl rfl ?_
            refine w_p tok rfl rfl rfl ?_
            obtain ⟨b39, h40, eb39, eh40, H⟩ := H
            refine w_h (h_alloc tok rfl rfl eb39 eh40) rfl rfl ?_
            obtain ⟨h41, wh41, eh41, H⟩ := H
            refine w_h (h_sts tok rfl rfl rfl rfl rfl (oneC (by kernel_rfl)) wh41 eh41) rfl rfl ?_
            refine w_p tok rfl rfl rfl ?_
            refine w_end ?_
            refine x_seq ?_
            refine c_weak [(1, Slc.v p1), (2, .int .i64 p2), (4, .pointer (some (⟨b1, 0, none⟩ : Addr))), (9, Slc.v r15.1), (13, .int .i64 r25.2), (14, Slc.v r31.1), (15, .int .i64 r31.2), (16, .pointer (some (⟨b39, 0, none⟩ : Addr)))] ⟨rfl, rfl, rfl, rfl, rfl, rfl, rfl, rfl, trivial⟩ ?_
            refine c_seq ?_
            refine c_region ?_
            obtain ⟨v42, hv42, H⟩ := H
            refine w_y (y_lda tok rfl rfl rfl rfl rfl hv42) rfl rfl ?_
            refine w_p tok rfl rfl rfl ?_
            refine w_p tok rfl rfl rfl ?_
            refine w_call query_Run_ok (query_Run_ref _ _ _ _ _ H) rfl rfl rfl rfl ?_
            rintro _ h44 ⟨r43, rfl, H⟩
            refine w_p tok rfl rfl rfl ?_
            refine w_p tok rfl rfl rfl ?_
            refine w_p tok rfl rfl rfl ?_
            refine w_p tok rfl rfl rfl ?_
            refine w_p tok rfl rfl rfl ?_
            refine w_end ?_
            refine x_seq ?_
            refine c_weak [(9, Slc.v r15.1), (13, .int .i64 r25.2), (14, Slc.v r31.1), (15, .int .i64 r31.2), (16, .pointer (some (⟨b39, 0, none⟩ : Addr))), (18, Slc.v r43.1), (19, .int .i64 r43.2)] ⟨rfl, rfl, rfl, rfl, rfl, rfl, rfl, trivial⟩ ?_
            refine c_seqJ (α := Bool) (fun (s : Bool) => [(8, .bool s)]) (fun (s : Bool) h => law19_QueryParts_j5 s k h) ?_ ?_
            ·
              rintro t8_5 h_5 H
              replace H : law19_QueryParts_j5 t8_5 k h_5 := H
              unfold law19_QueryParts_j5 at H
              refine c_weak [(8, .bool t8_5)] ⟨rfl, trivial⟩ ?_
              refine c_ret ?_
              exact x_ret _ rfl _ rfl ⟨t8_5, rfl, H⟩
            ·
              refine c_sim [(9, Slc.v r15.1), (13, .int .i64 r25.2), (14, Slc.v r31.1), (15, .int .i64 r31.2), (16, .pointer (some (⟨b39, 0, none⟩ : Addr))), (18, Slc.v r43.1), (19, .int .i64 r43.2)] (by kernel_rfl) (by kernel_rfl) ⟨rfl, rfl, rfl, rfl, rfl, rfl, rfl, trivial⟩ (fun wf => ?_)
              refine sP 0 [(13, .int .i64 r25.2)] (some 102) wf ⟨rfl, trivial⟩ (fun _ => pf_p tok rfl rfl rfl rfl) (fun P_0 => ?_)
              refine sP 1 [(102, .int .i64 r25.2)] (some 103) wf ⟨rfl, trivial⟩ (fun _ => pf_p tok rfl rfl rfl rfl) (fun P_1 => ?_)
              refine sP 2 [(103, .bool (r25.2 == 0))] (some 104) wf ⟨rfl, trivial⟩ (fun _ => pf_p tok rfl rfl rfl rfl) (fun P_2 => ?_)
              refine sim_gif 104 H rfl (fun hb H => ?_) (fun hb H => ?_)
              ·
                refine sP 3 [(15, .int .i64 r31.2), (104, .bool true)] (some 105) wf ⟨rfl, rfl, trivial⟩ (fun _ => pf_p tok rfl rfl rfl rfl) (fun P_3 => ?_)
                refine sP 4 [(104, .bool true), (105, .int .i64 r31.2)] (some 106) wf ⟨rfl, rfl, trivial⟩ (fun _ => pf_p tok rfl rfl rfl rfl) (fun P_4 => ?_)
                refine sP 5 [(104, .bool true), (106, .bool (r31.2 == 0))] (some 107) wf ⟨rfl, rfl, trivial⟩ (fun _ => pf_p tok rfl rfl rfl rfl) (fun P_5 => ?_)
                refine sP 6 [(107, .bool (r31.2 == 0))] (some 108) wf ⟨rfl, trivial⟩ (fun _ => pf_p tok rfl rfl rfl rfl) (fun P_6 => ?_)
                refine sim_gif 108 H rfl (fun hb H => ?_) (fun hb H => ?_)
                ·
                  refine sP 7 [(19, .int .i64 r43.2), (108, .bool true)] (some 109) wf ⟨rfl, rfl, trivial⟩ (fun _ => pf_p tok rfl rfl rfl rfl) (fun P_7 => ?_)
                  refine sP 8 [(108, .bool true), (109, .int .i64 r43.2)] (some 110) wf ⟨rfl, rfl, trivial⟩ (fun _ => pf_p tok rfl rfl rfl rfl) (fun P_8 => ?_)
                  refine sP 9 [(108, .bool true), (110, .bool (r43.2 == 0))] (some 111) wf ⟨rfl, rfl, trivial⟩ (fun _ => pf_p tok rfl rfl rfl rfl) (fun P_9 => ?_)
                  refine sP 10 [(111, .bool (r43.2 == 0))] (some 112) wf ⟨rfl, trivial⟩ (fun _ => pf_p tok rfl rfl rfl rfl) (fun P_10 => ?_)
                  refine sim_gif 112 H rfl (fun hb H => ?_) (fun hb H => ?_)
                  ·
                    refine sP 11 [(9, Slc.v r15.1), (112, .bool true)] (some 113) wf ⟨rfl, rfl, trivial⟩ (fun _ => pf_p tok rfl rfl rfl rfl) (fun P_11 => ?_)
                    obtain ⟨v45, hv45, H⟩ := H
                    refine sL 13 [(16, .pointer (some (⟨b39, 0, none⟩ : Addr))), (112, .bool true)] (some 115) wf ⟨rfl, rfl, trivial⟩ (pf_y rfl rfl rfl (y_lda tok rfl rfl rfl rfl rfl hv45)) (fun P_13 => ?_)
                    refine sim_c 12 [0, 1, 2, 3, 4, 5, 6, 7, 8, 9, 10, 11] [0, 1, 2, 3, 4, 5, 6, 7, 8, 9, 10, 11] (ei := [(112, .bool true), (113, Slc.v r15.1)]) law19_total_ok (law19_total_ref _ _ _ H) wf ⟨P_13, P_11 _, P_10 _, P_9 _, P_8 _, P_7 _, P_6 _, P_5 _, P_4 _, P_3 _, P_2 _, P_1 _, P_0 _, trivial⟩ (by kernel_rfl) ⟨rfl, rfl, trivial⟩ (by kernel_rfl) rfl rfl rfl rfl rfl ?_
                    rintro _ h47 ⟨r46, rfl, H⟩
                    obtain ⟨hy48, H⟩ := H
                    refine sim_re (x := ⟨13, .agg (S_api_Wide.cs v45).toArray, [(16, .pointer (some (⟨b39, 0, none⟩ : Addr))), (112, .bool true)]⟩) (pf_y rfl rfl rfl (y_lda tok rfl rfl rfl rfl rfl hy48)) (fun P_13 => ?_)
                    refine sP 14 [(112, .bool true), (114, .agg (S_api_Wide.cs r46).toArray), (115, .agg (S_api_Wide.cs v45).toArray)] (some 116) wf ⟨rfl, rfl, rfl, trivial⟩ (fun _ => pf_y rfl rfl rfl (y_eqs (op := .eql) (xs := S_api_Wide.cs r46) (ys := S_api_Wide.cs v45) (.inl rfl) rfl rfl rfl (eqv47_S_api_Wide r46 v45) (by kernel_rfl))) (fun P_14 => ?_)
                    refine sP 15 [(112, .bool true), (116, .bool (if BinOp.eql = .eql then ((r46.f_Hi == v45.f_Hi) && (r46.f_Lo == v45.f_Lo)) else !((r46.f_Hi == v45.f_Hi) && (r46.f_Lo == v45.f_Lo))))] (some 117) wf ⟨rfl, rfl, trivial⟩ (fun _ => pf_p tok rfl rfl rfl rfl) (fun P_15 => ?_)
                    refine sP 16 [(117, .bool (if BinOp.eql = .eql then ((r46.f_Hi == v45.f_Hi) && (r46.f_Lo == v45.f_Lo)) else !((r46.f_Hi == v45.f_Hi) && (r46.f_Lo == v45.f_Lo))))] (some 118) wf ⟨rfl, trivial⟩ (fun _ => pf_p tok rfl rfl rfl rfl) (fun P_16 => ?_)
                    refine sim_gif 118 H rfl (fun hb H => ?_) (fun hb H => ?_)
                    ·
                      refine sP 17 [(14, Slc.v r31.1), (118, .bool true)] (some 119) wf ⟨rfl, rfl, trivial⟩ (fun _ => pf_p tok rfl rfl rfl rfl) (fun P_17 => ?_)
                      refine sP 18 [(18, Slc.v r43.1), (118, .bool true)] (some 120) wf ⟨rfl, rfl, trivial⟩ (fun _ => pf_p tok rfl rfl rfl rfl) (fun P_18 => ?_)
                      refine sim_c 19 [0, 1, 2, 3, 4, 5, 6, 7, 8, 9, 10, 11, 12, 13, 14, 15, 16, 17, 18] [0, 1, 2, 3, 4, 5, 6, 7, 8, 9, 10, 11, 13, 14, 15, 16, 17, 18] (ei := [(118, .bool true), (119, Slc.v r31.1), (120, Slc.v r43.1)]) ref19_SameRows_ok (ref19_SameRows_ref _ _ _ _ H) wf ⟨P_18 _, P_17 _, P_16 _, P_15 _, P_14 _, P_13, trivial, trivial, trivial, trivial, trivial, trivial, trivial, trivial, trivial, trivial, trivial, trivial, trivial⟩ (by kernel_rfl) ⟨rfl, rfl, rfl, trivial⟩ (by kernel_rfl) rfl rfl rfl rfl rfl ?_
                      rintro _ h50 ⟨r49, rfl, H⟩
                      refine sP 20 [(118, .bool true), (121, .bool r49)] (some 122) wf ⟨rfl, rfl, trivial⟩ (fun _ => pf_p tok rfl rfl rfl rfl) (fun P_20 => ?_)
                      refine sP 21 [(122, .bool r49)] (some 123) wf ⟨rfl, trivial⟩ (fun _ => pf_p tok rfl rfl rfl rfl) (fun P_21 => ?_)
                      refine sim_gif 123 H rfl (fun hb H => ?_) (fun hb H => ?_)
                      ·
                        refine sim_c 22 [0, 1, 2, 3, 4, 5, 6, 7, 8, 9, 10, 11, 12, 13, 14, 15, 16, 17, 18, 19, 20, 21] [0, 1, 2, 3, 4, 5, 6, 7, 8, 9, 10, 11, 13, 14, 15, 16, 17, 18, 20, 21] (ei := [(123, .bool true)]) law19_awake_ok (law19_awake_ref  _ _ H) wf ⟨P_21 _, P_20 _, trivial, trivial, trivial, trivial, trivial, trivial, trivial, trivial, trivial, trivial, trivial, trivial, trivial, trivial, trivial, trivial, trivial, trivial, trivial⟩ (by kernel_rfl) ⟨rfl, trivial⟩ (by kernel_rfl) rfl rfl rfl rfl rfl ?_
                        rintro _ h52 ⟨r51, rfl, H⟩
                        refine sP 23 [(123, .bool true), (124, .bool r51)] (some 125) wf ⟨rfl, rfl, trivial⟩ (fun _ => pf_p tok rfl rfl rfl rfl) (fun P_23 => ?_)
                        refine sP 24 [(125, .bool r51)] (some 8) wf ⟨rfl, trivial⟩ (fun _ => pf_p tok rfl rfl rfl rfl) (fun P_24 => ?_)
                        refine sim_end wf ⟨P_24 _, P_23 _, trivial, trivial, trivial, trivial, trivial, trivial, trivial, trivial, trivial, trivial, trivial, trivial, trivial, trivial, trivial, trivial, trivial, trivial, trivial, trivial, trivial⟩ (by kernel_rfl) ?_
                        clear wf P_0 P_1 P_10 P_11 P_13 P_14 P_15 P_16 P_17 P_18 P_2 P_20 P_21 P_23 P_24 P_3 P_4 P_5 P_6 P_7 P_8 P_9
                        exact x_join r51 H ⟨rfl, trivial⟩
                      ·
                        refine sim_p 22 (v := undef) (ei := [(123, .bool false)]) (d := (some 124)) wf (by kernel_rfl) ⟨rfl, trivial⟩ (by kernel_rfl) (by kernel_rfl) (fun _ => pf_s rfl rfl rfl) (fun P_22 => ?_)
                        refine sP 23 [(123, .bool false), (124, undef)] (some 125) wf ⟨rfl, rfl, trivial⟩ (fun _ => pf_p tok rfl rfl rfl rfl) (fun P_23 => ?_)
                        refine sP 24 [(125, .bool false)] (some 8) wf ⟨rfl, trivial⟩ (fun _ => pf_p tok rfl rfl rfl rfl) (fun P_24 => ?_)
                        refine sim_end wf ⟨P_24 _, P_23 _, P_22 _, P_21 _, P_20 _, trivial, trivial, trivial, trivial, trivial, trivial, trivial, trivial, trivial, trivial, trivial, trivial, trivial, trivial, trivial, trivial, trivial, trivial, trivial⟩ (by kernel_rfl) ?_
                        clear wf P_0 P_1 P_10 P_11 P_13 P_14 P_15 P_16 P_17 P_18 P_2 P_20 P_21 P_22 P_23 P_24 P_3 P_4 P_5 P_6 P_7 P_8 P_9
                        exact x_join false H ⟨rfl, trivial⟩
                    ·
                      refine sim_p 17 (v := undef) (ei := [(14, Slc.v r31.1), (118, .bool false)]) (d := (some 119)) wf (by kernel_rfl) ⟨rfl, rfl, trivial⟩ (by kernel_rfl) (by kernel_rfl) (fun _ => pf_s rfl rfl rfl) (fun P_17 => ?_)
                      refine sim_p 18 (v := undef) (ei := [(18, Slc.v r43.1), (118, .bool false)]) (d := (some 120)) wf (by kernel_rfl) ⟨rfl, rfl, trivial⟩ (by kernel_rfl) (by kernel_rfl) (fun _ => pf_s rfl rfl rfl) (fun P_18 => ?_)
                      refine sim_p 19 (v := undef) (ei := [(118, .bool false), (119, undef), (120, undef)]) (d := (some 121)) wf (by kernel_rfl) ⟨rfl, rfl, rfl, trivial⟩ (by kernel_rfl) (by kernel_rfl) (fun _ => pf_s rfl rfl rfl) (fun P_19 => ?_)
                      refine sP 20 [(118, .bool false), (121, undef)] (some 122) wf ⟨rfl, rfl, trivial⟩ (fun _ => pf_p tok rfl rfl rfl rfl) (fun P_20 => ?_)
                      refine sP 21 [(122, .bool false)] (some 123) wf ⟨rfl, trivial⟩ (fun _ => pf_p tok rfl rfl rfl rfl) (fun P_21 => ?_)
                      refine sim_gif 123 H rfl (fun hb H => ?_) (fun hb H => ?_)
                      ·
                        refine sim_c 22 [0, 1, 2, 3, 4, 5, 6, 7, 8, 9, 10, 11, 12, 13, 14, 15, 16, 17, 18, 19, 20, 21] [0, 1, 2, 3, 4, 5, 6, 7, 8, 9, 10, 11, 13, 14, 15, 16, 17, 18, 19, 20, 21] (ei := [(123, .bool true)]) law19_awake_ok (law19_awake_ref  _ _ H) wf ⟨P_21 _, P_20 _, P_19 _, P_18 _, P_17 _, P_16 _, P_15 _, P_14 _, P_13, trivial, trivial, trivial, trivial, trivial, trivial, trivial, trivial, trivial, trivial, trivial, trivial, trivial⟩ (by kernel_rfl) ⟨rfl, trivial⟩ (by kernel_rfl) rfl rfl rfl rfl rfl ?_
                        rintro _ h54 ⟨r53, rfl, H⟩
                        refine sP 23 [(123, .bool true), (124, .bool r53)] (some 125) wf ⟨rfl, rfl, trivial⟩ (fun _ => pf_p tok rfl rfl rfl rfl) (fun P_23 => ?_)
                        refine sP 24 [(125, .bool r53)] (some 8) wf ⟨rfl, trivial⟩ (fun _ => pf_p tok rfl rfl rfl rfl) (fun P_24 => ?_)
                        refine sim_end wf ⟨P_24 _, P_23 _, trivial, trivial, trivial, trivial, trivial, trivial, trivial, trivial, trivial, trivial, trivial, trivial, trivial, trivial, trivial, trivial, trivial, trivial, trivial, trivial, trivial, trivial⟩ (by kernel_rfl) ?_
                        clear wf P_0 P_1 P_10 P_11 P_13 P_14 P_15 P_16 P_17 P_18 P_19 P_2 P_20 P_21 P_23 P_24 P_3 P_4 P_5 P_6 P_7 P_8 P_9
                        exact x_join r53 H ⟨rfl, trivial⟩
                      ·
                        refine sim_p 22 (v := undef) (ei := [(123, .bool false)]) (d := (some 124)) wf (by kernel_rfl) ⟨rfl, trivial⟩ (by kernel_rfl) (by kernel_rfl) (fun _ => pf_s rfl rfl rfl) (fun P_22 => ?_)
                        refine sP 23 [(123, .bool false), (124, undef)] (some 125) wf ⟨rfl, rfl, trivial⟩ (fun _ => pf_p tok rfl rfl rfl rfl) (fun P_23 => ?_)
                        refine sP 24 [(125, .bool false)] (some 8) wf ⟨rfl, trivial⟩ (fun _ => pf_p tok rfl rfl rfl rfl) (fun P_24 => ?_)
                        refine sim_end wf ⟨P_24 _, P_23 _, P_22 _, P_21 _, P_20 _, P_19 _, P_18 _, P_17 _, P_16 _, P_15 _, P_14 _, P_13, trivial, trivial, trivial, trivial, trivial, trivial, trivial, trivial, trivial, trivial, trivial, trivial, trivial⟩ (by kernel_rfl) ?_
                        clear wf P_0 P_1 P_10 P_11 P_13 P_14 P_15 P_16 P_17 P_18 P_19 P_2 P_20 P_21 P_22 P_23 P_24 P_3 P_4 P_5 P_6 P_7 P_8 P_9
                        exact x_join false H ⟨rfl, trivial⟩
                  ·
                    refine sim_p 11 (v := undef) (ei := [(9, Slc.v r15.1), (112, .bool false)]) (d := (some 113)) wf (by kernel_rfl) ⟨rfl, rfl, trivial⟩ (by kernel_rfl) (by kernel_rfl) (fun _ => pf_s rfl rfl rfl) (fun P_11 => ?_)
                    refine sim_p 12 (v := undef) (ei := [(112, .bool false), (113, undef)]) (d := (some 114)) wf (by kernel_rfl) ⟨rfl, rfl, trivial⟩ (by kernel_rfl) (by kernel_rfl) (fun _ => pf_s rfl rfl rfl) (fun P_12 => ?_)
                    refine sim_p 13 (v := undef) (ei := [(16, .pointer (some (⟨b39, 0, none⟩ : Addr))), (112, .bool false)]) (d := (some 115)) wf (by kernel_rfl) ⟨rfl, rfl, trivial⟩ (by kernel_rfl) (by kernel_rfl) (fun _ => pf_s rfl rfl rfl) (fun P_13 => ?_)
                    refine sim_p 14 (v := undef) (ei := [(112, .bool false), (114, undef), (115, undef)]) (d := (some 116)) wf (by kernel_rfl) ⟨rfl, rfl, rfl, trivial⟩ (by kernel_rfl) (by kernel_rfl) (fun _ => pf_s rfl rfl rfl) (fun P_14 => ?_)
                    refine sP 15 [(112, .bool false), (116, undef)] (some 117) wf ⟨rfl, rfl, trivial⟩ (fun _ => pf_p tok rfl rfl rfl rfl) (fun P_15 => ?_)
                    refine sP 16 [(117, .bool false)] (some 118) wf ⟨rfl, trivial⟩ (fun _ => pf_p tok rfl rfl rfl rfl) (fun P_16 => ?_)
                    refine sim_gif 118 H rfl (fun hb H => ?_) (fun hb H => ?_)
                    ·
                      refine sP 17 [(14, Slc.v r31.1), (118, .bool true)] (some 119) wf ⟨rfl, rfl, trivial⟩ (fun _ => pf_p tok rfl rfl rfl rfl) (fun P_17 => ?_)
                      refine sP 18 [(18, Slc.v r43.1), (118, .bool true)] (some 120) wf ⟨rfl, rfl, trivial⟩ (fun _ => pf_p tok rfl rfl rfl rfl) (fun P_18 => ?_)
                      refine sim_c 19 [0, 1, 2, 3, 4, 5, 6, 7, 8, 9, 10, 11, 12, 13, 14, 15, 16, 17, 18] [0, 1, 2, 3, 4, 5, 6, 7, 8, 9, 10, 11, 12, 13, 14, 15, 16, 17, 18] (ei := [(118, .bool true), (119, Slc.v r31.1), (120, Slc.v r43.1)]) ref19_SameRows_ok (ref19_SameRows_ref _ _ _ _ H) wf ⟨P_18 _, P_17 _, P_16 _, P_15 _, P_14 _, P_13 _, P_12 _, P_11 _, P_10 _, P_9 _, P_8 _, P_7 _, P_6 _, P_5 _, P_4 _, P_3 _, P_2 _, P_1 _, P_0 _, trivial⟩ (by kernel_rfl) ⟨rfl, rfl, rfl, trivial⟩ (by kernel_rfl) rfl rfl rfl rfl rfl ?_
                      rintro _ h56 ⟨r55, rfl, H⟩
                      refine sP 20 [(118, .bool true), (121, .bool r55)] (some 122) wf ⟨rfl, rfl, trivial⟩ (fun _ => pf_p tok rfl rfl rfl rfl) (fun P_20 => ?_)
                      refine sP 21 [(122, .bool r55)] (some 123) wf ⟨rfl, trivial⟩ (fun _ => pf_p tok rfl rfl rfl rfl) (fun P_21 => ?_)
                      refine sim_gif 123 H rfl (fun hb H => ?_) (fun hb H => ?_)
                      ·
                        refine sim_c 22 [0, 1, 2, 3, 4, 5, 6, 7, 8, 9, 10, 11, 12, 13, 14, 15, 16, 17, 18, 19, 20, 21] [0, 1, 2, 3, 4, 5, 6, 7, 8, 9, 10, 11, 12, 13, 14, 15, 16, 17, 18, 20, 21] (ei := [(123, .bool true)]) law19_awake_ok (law19_awake_ref  _ _ H) wf ⟨P_21 _, P_20 _, trivial, trivial, trivial, trivial, trivial, trivial, trivial, trivial, trivial, trivial, trivial, trivial, trivial, trivial, trivial, trivial, trivial, trivial, trivial, trivial⟩ (by kernel_rfl) ⟨rfl, trivial⟩ (by kernel_rfl) rfl rfl rfl rfl rfl ?_
                        rintro _ h58 ⟨r57, rfl, H⟩
                        refine sP 23 [(123, .bool true), (124, .bool r57)] (some 125) wf ⟨rfl, rfl, trivial⟩ (fun _ => pf_p tok rfl rfl rfl rfl) (fun P_23 => ?_)
                        refine sP 24 [(125, .bool r57)] (some 8) wf ⟨rfl, trivial⟩ (fun _ => pf_p tok rfl rfl rfl rfl) (fun P_24 => ?_)
                        refine sim_end wf ⟨P_24 _, P_23 _, trivial, trivial, trivial, trivial, trivial, trivial, trivial, trivial, trivial, trivial, trivial, trivial, trivial, trivial, trivial, trivial, trivial, trivial, trivial, trivial, trivial, trivial⟩ (by kernel_rfl) ?_
                        clear wf P_0 P_1 P_10 P_11 P_12 P_13 P_14 P_15 P_16 P_17 P_18 P_2 P_20 P_21 P_23 P_24 P_3 P_4 P_5 P_6 P_7 P_8 P_9
                        exact x_join r57 H ⟨rfl, trivial⟩
                      ·
                        refine sim_p 22 (v := undef) (ei := [(123, .bool false)]) (d := (some 124)) wf (by kernel_rfl) ⟨rfl, trivial⟩ (by kernel_rfl) (by kernel_rfl) (fun _ => pf_s rfl rfl rfl) (fun P_22 => ?_)
                        refine sP 23 [(123, .bool false), (124, undef)] (some 125) wf ⟨rfl, rfl, trivial⟩ (fun _ => pf_p tok rfl rfl rfl rfl) (fun P_23 => ?_)
                        refine sP 24 [(125, .bool false)] (some 8) wf ⟨rfl, trivial⟩ (fun _ => pf_p tok rfl rfl rfl rfl) (fun P_24 => ?_)
                        refine sim_end wf ⟨P_24 _, P_23 _, P_22 _, P_21 _, P_20 _, trivial, trivial, trivial, trivial, trivial, trivial, trivial, trivial, trivial, trivial, trivial, trivial, trivial, trivial, trivial, trivial, trivial, trivial, trivial, trivial⟩ (by kernel_rfl) ?_
                        clear wf P_0 P_1 P_10 P_11 P_12 P_13 P_14 P_15 P_16 P_17 P_18 P_2 P_20 P_21 P_22 P_23 P_24 P_3 P_4 P_5 P_6 P_7 P_8 P_9
                        exact x_join false H ⟨rfl, trivial⟩
                    ·
                      refine sim_p 17 (v := undef) (ei := [(14, Slc.v r31.1), (118, .bool false)]) (d := (some 119)) wf (by kernel_rfl) ⟨rfl, rfl, trivial⟩ (by kernel_rfl) (by kernel_rfl) (fun _ => pf_s rfl rfl rfl) (fun P_17 => ?_)
                      refine sim_p 18 (v := undef) (ei := [(18, Slc.v r43.1), (118, .bool false)]) (d := (some 120)) wf (by kernel_rfl) ⟨rfl, rfl, trivial⟩ (by kernel_rfl) (by kernel_rfl) (fun _ => pf_s rfl rfl rfl) (fun P_18 => ?_)
                      refine sim_p 19 (v := undef) (ei := [(118, .bool false), (119, undef), (120, undef)]) (d := (some 121)) wf (by kernel_rfl) ⟨rfl, rfl, rfl, trivial⟩ (by kernel_rfl) (by kernel_rfl) (fun _ => pf_s rfl rfl rfl) (fun P_19 => ?_)
                      refine sP 20 [(118, .bool false), (121, undef)] (some 122) wf ⟨rfl, rfl, trivial⟩ (fun _ => pf_p tok rfl rfl rfl rfl) (fun P_20 => ?_)
                      refine sP 21 [(122, .bool false)] (some 123) wf ⟨rfl, trivial⟩ (fun _ => pf_p tok rfl rfl rfl rfl) (fun P_21 => ?_)
                      refine sim_gif 123 H rfl (fun hb H => ?_) (fun hb H => ?_)
                      ·
                        refine sim_c 22 [0, 1, 2, 3, 4, 5, 6, 7, 8, 9, 10, 11, 12, 13, 14, 15, 16, 17, 18, 19, 20, 21] [0, 1, 2, 3, 4, 5, 6, 7, 8, 9, 10, 11, 12, 13, 14, 15, 16, 17, 18, 19, 20, 21] (ei := [(123, .bool true)]) law19_awake_ok (law19_awake_ref  _ _ H) wf ⟨P_21 _, P_20 _, P_19 _, P_18 _, P_17 _, P_16 _, P_15 _, P_14 _, P_13 _, P_12 _, P_11 _, P_10 _, P_9 _, P_8 _, P_7 _, P_6 _, P_5 _, P_4 _, P_3 _, P_2 _, P_1 _, P_0 _, trivial⟩ (by kernel_rfl) ⟨rfl, trivial⟩ (by kernel_rfl) rfl rfl rfl rfl rfl ?_
                        rintro _ h60 ⟨r59, rfl, H⟩
                        refine sP 23 [(123, .bool true), (124, .bool r59)] (some 125) wf ⟨rfl, rfl, trivial⟩ (fun _ => pf_p tok rfl rfl rfl rfl) (fun P_23 => ?_)
                        refine sP 24 [(125, .bool r59)] (some 8) wf ⟨rfl, trivial⟩ (fun _ => pf_p tok rfl rfl rfl rfl) (fun P_24 => ?_)
                        refine sim_end wf ⟨P_24 _, P_23 _, trivial, trivial, trivial, trivial, trivial, trivial, trivial, trivial, trivial, trivial, trivial, trivial, trivial, trivial, trivial, trivial, trivial, trivial, trivial, trivial, trivial, trivial, trivial⟩ (by kernel_rfl) ?_
                        clear wf P_0 P_1 P_10 P_11 P_12 P_13 P_14 P_15 P_16 P_17 P_18 P_19 P_2 P_20 P_21 P_23 P_24 P_3 P_4 P_5 P_6 P_7 P_8 P_9
                        exact x_join r59 H ⟨rfl, trivial⟩
                      ·
                        refine sim_p 22 (v := undef) (ei := [(123, .bool false)]) (d := (some 124)) wf (by kernel_rfl) ⟨rfl, trivial⟩ (by kernel_rfl) (by kernel_rfl) (fun _ => pf_s rfl rfl rfl) (fun P_22 => ?_)
                        refine sP 23 [(123, .bool false), (124, undef)] (some 125) wf ⟨rfl, rfl, trivial⟩ (fun _ => pf_p tok rfl rfl rfl rfl) (fun P_23 => ?_)
                        refine sP 24 [(125, .bool false)] (some 8) wf ⟨rfl, trivial⟩ (fun _ => pf_p tok rfl rfl rfl rfl) (fun P_24 => ?_)
                        refine sim_end wf ⟨P_24 _, P_23 _, P_22 _, P_21 _, P_20 _, P_19 _, P_18 _, P_17 _, P_16 _, P_15 _, P_14 _, P_13 _, P_12 _, P_11 _, P_10 _, P_9 _, P_8 _, P_7 _, P_6 _, P_5 _, P_4 _, P_3 _, P_2 _, P_1 _, P_0 _, trivial⟩ (by kernel_rfl) ?_
                        clear wf P_0 P_1 P_10 P_11 P_12 P_13 P_14 P_15 P_16 P_17 P_18 P_19 P_2 P_20 P_21 P_22 P_23 P_24 P_3 P_4 P_5 P_6 P_7 P_8 P_9
                        exact x_join false H ⟨rfl, trivial⟩
                ·
                  refine sim_p 7 (v := undef) (ei := [(19, .int .i64 r43.2), (108, .bool false)]) (d := (some 109)) wf (by kernel_rfl) ⟨rfl, rfl, trivial⟩ (by kernel_rfl) (by kernel_rfl) (fun _ => pf_s rfl rfl rfl) (fun P_7 => ?_)
                  refine sim_p 8 (v := undef) (ei := [(108, .bool false), (109, undef)]) (d := (some 110)) wf (by kernel_rfl) ⟨rfl, rfl, trivial⟩ (by kernel_rfl) (by kernel_rfl) (fun _ => pf_s rfl rfl rfl) (fun P_8 => ?_)
                  refine sP 9 [(108, .bool false), (110, undef)] (some 111) wf ⟨rfl, rfl, trivial⟩ (fun _ => pf_p tok rfl rfl rfl rfl) (fun P_9 => ?_)
                  refine sP 10 [(111, .bool false)] (some 112) wf ⟨rfl, trivial⟩ (fun _ => pf_p tok rfl rfl rfl rfl) (fun P_10 => ?_)
                  refine sim_gif 112 H rfl (fun hb H => ?_) (fun hb H => ?_)
                  ·
                    refine sP 11 [(9, Slc.v r15.1), (112, .bool true)] (some 113) wf ⟨rfl, rfl, trivial⟩ (fun _ => pf_p tok rfl rfl rfl rfl) (fun P_11 => ?_)
                    obtain ⟨v61, hv61, H⟩ := H
                    refine sL 13 [(16, .pointer (some (⟨b39, 0, none⟩ : Addr))), (112, .bool true)] (some 115) wf ⟨rfl, rfl, trivial⟩ (pf_y rfl rfl rfl (y_lda tok rfl rfl rfl rfl rfl hv61)) (fun P_13 => ?_)
                    refine sim_c 12 [0, 1, 2, 3, 4, 5, 6, 7, 8, 9, 10, 11] [0, 1, 2, 3, 4, 5, 6, 7, 8, 9, 10, 11] (ei := [(112, .bool true), (113, Slc.v r15.1)]) law19_total_ok (law19_total_ref _ _ _ H) wf ⟨P_13, P_11 _, P_10 _, P_9 _, P_8 _, P_7 _, P_6 _, P_5 _, P_4 _, P_3 _, P_2 _, P_1 _, P_0 _, trivial⟩ (by kernel_rfl) ⟨rfl, rfl, trivial⟩ (by kernel_rfl) rfl rfl rfl rfl rfl ?_
                    rintro _ h63 ⟨r62, rfl, H⟩
                    obtain ⟨hy64, H⟩ := H
                    refine sim_re (x := ⟨13, .agg (S_api_Wide.cs v61).toArray, [(16, .pointer (some (⟨b39, 0, none⟩ : Addr))), (112, .bool true)]⟩) (pf_y rfl rfl rfl (y_lda tok rfl rfl rfl rfl rfl hy64)) (fun P_13 => ?_)
                    refine sP 14 [(112, .bool true), (114, .agg (S_api_Wide.cs r62).toArray), (115, .agg (S_api_Wide.cs v61).toArray)] (some 116) wf ⟨rfl, rfl, rfl, trivial⟩ (fun _ => pf_y rfl rfl rfl (y_eqs (op := .eql) (xs := S_api_Wide.cs r62) (ys := S_api_Wide.cs v61) (.inl rfl) rfl rfl rfl (eqv47_S_api_Wide r62 v61) (by kernel_rfl))) (fun P_14 => ?_)
                    refine sP 15 [(112, .bool true), (116, .bool (if BinOp.eql = .eql then ((r62.f_Hi == v61.f_Hi) && (r62.f_Lo == v61.f_Lo)) else !((r62.f_Hi == v61.f_Hi) && (r62.f_Lo == v61.f_Lo))))] (some 117) wf ⟨rfl, rfl, trivial⟩ (fun _ => pf_p tok rfl rfl rfl rfl) (fun P_15 => ?_)
                    refine sP 16 [(117, .bool (if BinOp.eql = .eql then ((r62.f_Hi == v61.f_Hi) && (r62.f_Lo == v61.f_Lo)) else !((r62.f_Hi == v61.f_Hi) && (r62.f_Lo == v61.f_Lo))))] (some 118) wf ⟨rfl, trivial⟩ (fun _ => pf_p tok rfl rfl rfl rfl) (fun P_16 => ?_)
                    refine sim_gif 118 H rfl (fun hb H => ?_) (fun hb H => ?_)
                    ·
                      refine sP 17 [(14, Slc.v r31.1), (118, .bool true)] (some 119) wf ⟨rfl, rfl, trivial⟩ (fun _ => pf_p tok rfl rfl rfl rfl) (fun P_17 => ?_)
                      refine sP 18 [(18, Slc.v r43.1), (118, .bool true)] (some 120) wf ⟨rfl, rfl, trivial⟩ (fun _ => pf_p tok rfl rfl rfl rfl) (fun P_18 => ?_)
                      refine sim_c 19 [0, 1, 2, 3, 4, 5, 6, 7, 8, 9, 10, 11, 12, 13, 14, 15, 16, 17, 18] [0, 1, 2, 3, 4, 5, 6, 7, 8, 9, 10, 11, 13, 14, 15, 16, 17, 18] (ei := [(118, .bool true), (119, Slc.v r31.1), (120, Slc.v r43.1)]) ref19_SameRows_ok (ref19_SameRows_ref _ _ _ _ H) wf ⟨P_18 _, P_17 _, P_16 _, P_15 _, P_14 _, P_13, trivial, trivial, trivial, trivial, trivial, trivial, trivial, trivial, trivial, trivial, trivial, trivial, trivial⟩ (by kernel_rfl) ⟨rfl, rfl, rfl, trivial⟩ (by kernel_rfl) rfl rfl rfl rfl rfl ?_
                      rintro _ h66 ⟨r65, rfl, H⟩
                      refine sP 20 [(118, .bool true), (121, .bool r65)] (some 122) wf ⟨rfl, rfl, trivial⟩ (fun _ => pf_p tok rfl rfl rfl rfl) (fun P_20 => ?_)
                      refine sP 21 [(122, .bool r65)] (some 123) wf ⟨rfl, trivial⟩ (fun _ => pf_p tok rfl rfl rfl rfl) (fun P_21 => ?_)
                      refine sim_gif 123 H rfl (fun hb H => ?_) (fun hb H => ?_)
                      ·
                        refine sim_c 22 [0, 1, 2, 3, 4, 5, 6, 7, 8, 9, 10, 11, 12, 13, 14, 15, 16, 17, 18, 19, 20, 21] [0, 1, 2, 3, 4, 5, 6, 7, 8, 9, 10, 11, 13, 14, 15, 16, 17, 18, 20, 21] (ei := [(123, .bool true)]) law19_awake_ok (law19_awake_ref  _ _ H) wf ⟨P_21 _, P_20 _, trivial, trivial, trivial, trivial, trivial, trivial, trivial, trivial, trivial, trivial, trivial, trivial, trivial, trivial, trivial, trivial, trivial, trivial, trivial⟩ (by kernel_rfl) ⟨rfl, trivial⟩ (by kernel_rfl) rfl rfl rfl rfl rfl ?_
                        rintro _ h68 ⟨r67, rfl, H⟩
                        refine sP 23 [(123, .bool true), (124, .bool r67)] (some 125) wf ⟨rfl, rfl, trivial⟩ (fun _ => pf_p tok rfl rfl rfl rfl) (fun P_23 => ?_)
                        refine sP 24 [(125, .bool r67)] (some 8) wf ⟨rfl, trivial⟩ (fun _ => pf_p tok rfl rfl rfl rfl) (fun P_24 => ?_)
                        refine sim_end wf ⟨P_24 _, P_23 _, trivial, trivial, trivial, trivial, trivial, trivial, trivial, trivial, trivial, trivial, trivial, trivial, trivial, trivial, trivial, trivial, trivial, trivial, trivial, trivial, trivial⟩ (by kernel_rfl) ?_
                        clear wf P_0 P_1 P_10 P_11 P_13 P_14 P_15 P_16 P_17 P_18 P_2 P_20 P_21 P_23 P_24 P_3 P_4 P_5 P_6 P_7 P_8 P_9
                        exact x_join r67 H ⟨rfl, trivial⟩
                      ·
                        refine sim_p 22 (v := undef) (ei := [(123, .bool false)]) (d := (some 124)) wf (by kernel_rfl) ⟨rfl, trivial⟩ (by kernel_rfl) (by kernel_rfl) (fun _ => pf_s rfl rfl rfl) (fun P_22 => ?_)
                        refine sP 23 [(123, .bool false), (124, undef)] (some 125) wf ⟨rfl, rfl, trivial⟩ (fun _ => pf_p tok rfl rfl rfl rfl) (fun P_23 => ?_)
                        refine sP 24 [(125, .bool false)] (some 8) wf ⟨rfl, trivial⟩ (fun _ => pf_p tok rfl rfl rfl rfl) (fun P_24 => ?_)
                        refine sim_end wf ⟨P_24 _, P_23 _, P_22 _, P_21 _, P_20 _, trivial, trivial, trivial, trivial, trivial, trivial, trivial, trivial, trivial, trivial, trivial, trivial, trivial, trivial, trivial, trivial, trivial, trivial, trivial⟩ (by kernel_rfl) ?_
                        clear wf P_0 P_1 P_10 P_11 P_13 P_14 P_15 P_16 P_17 P_18 P_2 P_20 P_21 P_22 P_23 P_24 P_3 P_4 P_5 P_6 P_7 P_8 P_9
                        exact x_join false H ⟨rfl, trivial⟩
                    ·
                      refine sim_p 17 (v := undef) (ei := [(14, Slc.v r31.1), (118, .bool false)]) (d := (some 119)) wf (by kernel_rfl) ⟨rfl, rfl, trivial⟩ (by kernel_rfl) (by kernel_rfl) (fun _ => pf_s rfl rfl rfl) (fun P_17 => ?_)
                      refine sim_p 18 (v := undef) (ei := [(18, Slc.v r43.1), (118, .bool false)]) (d := (some 120)) wf (by kernel_rfl) ⟨rfl, rfl, trivial⟩ (by kernel_rfl) (by kernel_rfl) (fun _ => pf_s rfl rfl rfl) (fun P_18 => ?_)
                      refine sim_p 19 (v := undef) (ei := [(118, .bool false), (119, undef), (120, undef)]) (d := (some 121)) wf (by kernel_rfl) ⟨rfl, rfl, rfl, trivial⟩ (by kernel_rfl) (by kernel_rfl) (fun _ => pf_s rfl rfl rfl) (fun P_19 => ?_)
                      refine sP 20 [(118, .bool false), (121, undef)] (some 122) wf ⟨rfl, rfl, trivial⟩ (fun _ => pf_p tok rfl rfl rfl rfl) (fun P_20 => ?_)
                      refine sP 21 [(122, .bool false)] (some 123) wf ⟨rfl, trivial⟩ (fun _ => pf_p tok rfl rfl rfl rfl) (fun P_21 => ?_)
                      refine sim_gif 123 H rfl (fun hb H => ?_) (fun hb H => ?_)
                      ·
                        refine sim_c 22 [0, 1, 2, 3, 4, 5, 6, 7, 8, 9, 10, 11, 12, 13, 14, 15, 16, 17, 18, 19, 20, 21] [0, 1, 2, 3, 4, 5, 6, 7, 8, 9, 10, 11, 13, 14, 15, 16, 17, 18, 19, 20, 21] (ei := [(123, .bool true)]) law19_awake_ok (law19_awake_ref  _ _ H) wf ⟨P_21 _, P_20 _, P_19 _, P_18 _, P_17 _, P_16 _, P_15 _, P_14 _, P_13, trivial, trivial, trivial, trivial, trivial, trivial, trivial, trivial, trivial, trivial, trivial, trivial, trivial⟩ (by kernel_rfl) ⟨rfl, trivial⟩ (by kernel_rfl) rfl rfl rfl rfl rfl ?_
                        rintro _ h70 ⟨r69, rfl, H⟩
                        refine sP 23 [(123, .bool true), (124, .bool r69)] (some 125) wf ⟨rfl, rfl, trivial⟩ (fun _ => pf_p tok rfl rfl rfl rfl) (fun P_23 => ?_)
                        refine sP 24 [(125, .bool r69)] (some 8) wf ⟨rfl, trivial⟩ (fun _ => pf_p tok rfl rfl rfl rfl) (fun P_24 => ?_)
                        refine sim_end wf ⟨P_24 _, P_23 _, trivial, trivial, trivial, trivial, trivial, trivial, trivial, trivial, trivial, trivial, trivial, trivial, trivial, trivial, trivial, trivial, trivial, trivial, trivial, trivial, trivial, trivial⟩ (by kernel_rfl) ?_
                        clear wf P_0 P_1 P_10 P_11 P_13 P_14 P_15 P_16 P_17 P_18 P_19 P_2 P_20 P_21 P_23 P_24 P_3 P_4 P_5 P_6 P_7 P_8 P_9
                        exact x_join r69 H ⟨rfl, trivial⟩
                      ·
                        refine sim_p 22 (v := undef) (ei := [(123, .bool false)]) (d := (some 124)) wf (by kernel_rfl) ⟨rfl, trivial⟩ (by kernel_rfl) (by kernel_rfl) (fun _ => pf_s rfl rfl rfl) (fun P_22 => ?_)
                        refine sP 23 [(123, .bool false), (124, undef)] (some 125) wf ⟨rfl, rfl, trivial⟩ (fun _ => pf_p tok rfl rfl rfl rfl) (fun P_23 => ?_)
                        refine sP 24 [(125, .bool false)] (some 8) wf ⟨rfl, trivial⟩ (fun _ => pf_p tok rfl rfl rfl rfl) (fun P_24 => ?_)
                        refine sim_end wf ⟨P_24 _, P_23 _, P_22 _, P_21 _, P_20 _, P_19 _, P_18 _, P_17 _, P_16 _, P_15 _, P_14 _, P_13, trivial, trivial, trivial, trivial, trivial, trivial, trivial, trivial, trivial, trivial, trivial, trivial, trivial⟩ (by kernel_rfl) ?_
                        clear wf P_0 P_1 P_10 P_11 P_13 P_14 P_15 P_16 P_17 P_18 P_19 P_2 P_20 P_21 P_22 P_23 P_24 P_3 P_4 P_5 P_6 P_7 P_8 P_9
                        exact x_join false H ⟨rfl, trivial⟩
                  ·
                    refine sim_p 11 (v := undef) (ei := [(9, Slc.v r15.1), (112, .bool false)]) (d := (some 113)) wf (by kernel_rfl) ⟨rfl, rfl, trivial⟩ (by kernel_rfl) (by kernel_rfl) (fun _ => pf_s rfl rfl rfl) (fun P_11 => ?_)
                    refine sim_p 12 (v := undef) (ei := [(112, .bool false), (113, undef)]) (d := (some 114)) wf (by kernel_rfl) ⟨rfl, rfl, trivial⟩ (by kernel_rfl) (by kernel_rfl) (fun _ => pf_s rfl rfl rfl) (fun P_12 => ?_)
                    refine sim_p 13 (v := undef) (ei := [(16, .pointer (some (⟨b39, 0, none⟩ : Addr))), (112, .bool false)]) (d := (some 115)) wf (by kernel_rfl) ⟨rfl, rfl, trivial⟩ (by kernel_rfl) (by kernel_rfl) (fun _ => pf_s rfl rfl rfl) (fun P_13 => ?_)
                    refine sim_p 14 (v := undef) (ei := [(112, .bool false), (114, undef), (115, undef)]) (d := (some 116)) wf (by kernel_rfl) ⟨rfl, rfl, rfl, trivial⟩ (by kernel_rfl) (by kernel_rfl) (fun _ => pf_s rfl rfl rfl) (fun P_14 => ?_)
                    refine sP 15 [(112, .bool false), (116, undef)] (some 117) wf ⟨rfl, rfl, trivial⟩ (fun _ => pf_p tok rfl rfl rfl rfl) (fun P_15 => ?_)
                    refine sP 16 [(117, .bool false)] (some 118) wf ⟨rfl, trivial⟩ (fun _ => pf_p tok rfl rfl rfl rfl) (fun P_16 => ?_)
                    refine sim_gif 118 H rfl (fun hb H => ?_) (fun hb H => ?_)
                    ·
                      refine sP 17 [(14, Slc.v r31.1), (118, .bool true)] (some 119) wf ⟨rfl, rfl, trivial⟩ (fun _ => pf_p tok rfl rfl rfl rfl) (fun P_17 => ?_)
                      refine sP 18 [(18, Slc.v r43.1), (118, .bool true)] (some 120) wf ⟨rfl, rfl, trivial⟩ (fun _ => pf_p tok rfl rfl rfl rfl) (fun P_18 => ?_)
                      refine sim_c 19 [0, 1, 2, 3, 4, 5, 6, 7, 8, 9, 10, 11, 12, 13, 14, 15, 16, 17, 18] [0, 1, 2, 3, 4, 5, 6, 7, 8, 9, 10, 11, 12, 13, 14, 15, 16, 17, 18] (ei := [(118, .bool true), (119, Slc.v r31.1), (120, Slc.v r43.1)]) ref19_SameRows_ok (ref19_SameRows_ref _ _ _ _ H) wf ⟨P_18 _, P_17 _, P_16 _, P_15 _, P_14 _, P_13 _, P_12 _, P_11 _, P_10 _, P_9 _, P_8 _, P_7 _, P_6 _, P_5 _, P_4 _, P_3 _, P_2 _, P_1 _, P_0 _, trivial⟩ (by kernel_rfl) ⟨rfl, rfl, rfl, trivial⟩ (by kernel_rfl) rfl rfl rfl rfl rfl ?_
                      rintro _ h72 ⟨r71, rfl, H⟩
                      refine sP 20 [(118, .bool true), (121, .bool r71)] (some 122) wf ⟨rfl, rfl, trivial⟩ (fun _ => pf_p tok rfl rfl rfl rfl) (fun P_20 => ?_)
                      refine sP 21 [(122, .bool r71)] (some 123) wf ⟨rfl, trivial⟩ (fun _ => pf_p tok rfl rfl rfl rfl) (fun P_21 => ?_)
                      refine sim_gif 123 H rfl (fun hb H => ?_) (fun hb H => ?_)
                      ·
                        refine sim_c 22 [0, 1, 2, 3, 4, 5, 6, 7, 8, 9, 10, 11, 12, 13, 14, 15, 16, 17, 18, 19, 20, 21] [0, 1, 2, 3, 4, 5, 6, 7, 8, 9, 10, 11, 12, 13, 14, 15, 16, 17, 18, 20, 21] (ei := [(123, .bool true)]) law19_awake_ok (law19_awake_ref  _ _ H) wf ⟨P_21 _, P_20 _, trivial, trivial, trivial, trivial, trivial, trivial, trivial, trivial, trivial, trivial, trivial, trivial, trivial, trivial, trivial, trivial, trivial, trivial, trivial, trivial⟩ (by kernel_rfl) ⟨rfl, trivial⟩ (by kernel_rfl) rfl rfl rfl rfl rfl ?_
                        rintro _ h74 ⟨r73, rfl, H⟩
                        refine sP 23 [(123, .bool true), (124, .bool r73)] (some 125) wf ⟨rfl, rfl, trivial⟩ (fun _ => pf_p tok rfl rfl rfl rfl) (fun P_23 => ?_)
                        refine sP 24 [(125, .bool r73)] (some 8) wf ⟨rfl, trivial⟩ (fun _ => pf_p tok rfl rfl rfl rfl) (fun P_24 => ?_)
                        refine sim_end wf ⟨P_24 _, P_23 _, trivial, trivial, trivial, trivial, trivial, trivial, trivial, trivial, trivial, trivial, trivial, trivial, trivial, trivial, trivial, trivial, trivial, trivial, trivial, trivial, trivial, trivial⟩ (by kernel_rfl) ?_
                        clear wf P_0 P_1 P_10 P_11 P_12 P_13 P_14 P_15 P_16 P_17 P_18 P_2 P_20 P_21 P_23 P_24 P_3 P_4 P_5 P_6 P_7 P_8 P_9
                        exact x_join r73 H ⟨rfl, trivial⟩
                      ·
                        refine sim_p 22 (v := undef) (ei := [(123, .bool false)]) (d := (some 124)) wf (by kernel_rfl) ⟨rfl, trivial⟩ (by kernel_rfl) (by kernel_rfl) (fun _ => pf_s rfl rfl rfl) (fun P_22 => ?_)
                        refine sP 23 [(123, .bool false), (124, undef)] (some 125) wf ⟨rfl, rfl, trivial⟩ (fun _ => pf_p tok rfl rfl rfl rfl) (fun P_23 => ?_)
                        refine sP 24 [(125, .bool false)] (some 8) wf ⟨rfl, trivial⟩ (fun _ => pf_p tok rfl rfl rfl rfl) (fun P_24 => ?_)
                        refine sim_end wf ⟨P_24 _, P_23 _, P_22 _, P_21 _, P_20 _, trivial, trivial, trivial, trivial, trivial, trivial, trivial, trivial, trivial, trivial, trivial, trivial, trivial, trivial, trivial, trivial, trivial, trivial, trivial, trivial⟩ (by kernel_rfl) ?_
                        clear wf P_0 P_1 P_10 P_11 P_12 P_13 P_14 P_15 P_16 P_17 P_18 P_2 P_20 P_21 P_22 P_23 P_24 P_3 P_4 P_5 P_6 P_7 P_8 P_9
                        exact x_join false H ⟨rfl, trivial⟩
                    ·
                      refine sim_p 17 (v := undef) (ei := [(14, Slc.v r31.1), (118, .bool false)]) (d := (some 119)) wf (by kernel_rfl) ⟨rfl, rfl, trivial⟩ (by kernel_rfl) (by kernel_rfl) (fun _ => pf_s rfl rfl rfl) (fun P_17 => ?_)
                      refine sim_p 18 (v := undef) (ei := [(18, Slc.v r43.1), (118, .bool false)]) (d := (some 120)) wf (by kernel_rfl) ⟨rfl, rfl, trivial⟩ (by kernel_rfl) (by kernel_rfl) (fun _ => pf_s rfl rfl rfl) (fun P_18 => ?_)
                      refine sim_p 19 (v := undef) (ei := [(118, .bool false), (119, undef), (120, undef)]) (d := (some 121)) wf (by kernel_rfl) ⟨rfl, rfl, rfl, trivial⟩ (by kernel_rfl) (by kernel_rfl) (fun _ => pf_s rfl rfl rfl) (fun P_19 => ?_)
                      refine sP 20 [(118, .bool false), (121, undef)] (some 122) wf ⟨rfl, rfl, trivial⟩ (fun _ => pf_p tok rfl rfl rfl rfl) (fun P_20 => ?_)
                      refine sP 21 [(122, .bool false)] (some 123) wf ⟨rfl, trivial⟩ (fun _ => pf_p tok rfl rfl rfl rfl) (fun P_21 => ?_)
                      refine sim_gif 123 H rfl (fun hb H => ?_) (fun hb H => ?_)
                      ·
                        refine sim_c 22 [0, 1, 2, 3, 4, 5, 6, 7, 8, 9, 10, 11, 12, 13, 14, 15, 16, 17, 18, 19, 20, 21] [0, 1, 2, 3, 4, 5, 6, 7, 8, 9, 10, 11, 12, 13, 14, 15, 16, 17, 18, 19, 20, 21] (ei := [(123, .bool true)]) law19_awake_ok (law19_awake_ref  _ _ H) wf ⟨P_21 _, P_20 _, P_19 _, P_18 _, P_17 _, P_16 _, P_15 _, P_14 _, P_13 _, P_12 _, P_11 _, P_10 _, P_9 _, P_8 _, P_7 _, P_6 _, P_5 _, P_4 _, P_3 _, P_2 _, P_1 _, P_0 _, trivial⟩ (by kernel_rfl) ⟨rfl, trivial⟩ (by kernel_rfl) rfl rfl rfl rfl rfl ?_
                        rintro _ h76 ⟨r75, rfl, H⟩
                        refine sP 23 [(123, .bool true), (124, .bool r75)] (some 125) wf ⟨rfl, rfl, trivial⟩ (fun _ => pf_p tok rfl rfl rfl rfl) (fun P_23 => ?_)
                        refine sP 24 [(125, .bool r75)] (some 8) wf ⟨rfl, trivial⟩ (fun _ => pf_p tok rfl rfl rfl rfl) (fun P_24 => ?_)
                        refine sim_end wf ⟨P_24 _, P_23 _, trivial, trivial, trivial, trivial, trivial, trivial, trivial, trivial, trivial, trivial, trivial, trivial, trivial, trivial, trivial, trivial, trivial, trivial, trivial, trivial, trivial, trivial, trivial⟩ (by kernel_rfl) ?_
                        clear wf P_0 P_1 P_10 P_11 P_12 P_13 P_14 P_15 P_16 P_17 P_18 P_19 P_2 P_20 P_21 P_23 P_24 P_3 P_4 P_5 P_6 P_7 P_8 P_9
                        exact x_join r75 H ⟨rfl, trivial⟩
                      ·
                        refine sim_p 22 (v := undef) (ei := [(123, .bool false)]) (d := (some 124)) wf (by kernel_rfl) ⟨rfl, trivial⟩ (by kernel_rfl) (by kernel_rfl) (fun _ => pf_s rfl rfl rfl) (fun P_22 => ?_)
                        refine sP 23 [(123, .bool false), (124, undef)] (some 125) wf ⟨rfl, rfl, trivial⟩ (fun _ => pf_p tok rfl rfl rfl rfl) (fun P_23 => ?_)
                        refine sP 24 [(125, .bool false)] (some 8) wf ⟨rfl, trivial⟩ (fun _ => pf_p tok rfl rfl rfl rfl) (fun P_24 => ?_)
                        refine sim_end wf ⟨P_24 _, P_23 _, P_22 _, P_21 _, P_20 _, P_19 _, P_18 _, P_17 _, P_16 _, P_15 _, P_14 _, P_13 _, P_12 _, P_11 _, P_10 _, P_9 _, P_8 _, P_7 _, P_6 _, P_5 _, P_4 _, P_3 _, P_2 _, P_1 _, P_0 _, trivial⟩ (by kernel_rfl) ?_
                        clear wf P_0 P_1 P_10 P_11 P_12 P_13 P_14 P_15 P_16 P_17 P_18 P_19 P_2 P_20 P_21 P_22 P_23 P_24 P_3 P_4 P_5 P_6 P_7 P_8 P_9
                        exact x_join false H ⟨rfl, trivial⟩
              ·
                refine sim_p 3 (v := undef) (ei := [(15, .int .i64 r31.2), (104, .bool false)]) (d := (some 105)) wf (by kernel_rfl) ⟨rfl, rfl, trivial⟩ (by kernel_rfl) (by kernel_rfl) (fun _ => pf_s rfl rfl rfl) (fun P_3 => ?_)
                refine sim_p 4 (v := undef) (ei := [(104, .bool false), (105, undef)]) (d := (some 106)) wf (by kernel_rfl) ⟨rfl, rfl, trivial⟩ (by kernel_rfl) (by kernel_rfl) (fun _ => pf_s rfl rfl rfl) (fun P_4 => ?_)
                refine sP 5 [(104, .bool false), (106, undef)] (some 107) wf ⟨rfl, rfl, trivial⟩ (fun _ => pf_p tok rfl rfl rfl rfl) (fun P_5 => ?_)
                refine sP 6 [(107, .bool false)] (some 108) wf ⟨rfl, trivial⟩ (fun _ => pf_p tok rfl rfl rfl rfl) (fun P_6 => ?_)
                refine sim_gif 108 H rfl (fun hb H => ?_) (fun hb H => ?_)
                ·
                  refine sP 7 [(19, .int .i64 r43.2), (108, .bool true)] (some 109) wf ⟨rfl, rfl, trivial⟩ (fun _ => pf_p tok rfl rfl rfl rfl) (fun P_7 => ?_)
                  refine sP 8 [(108, .bool true), (109, .int .i64 r43.2)] (some 110) wf ⟨rfl, rfl, trivial⟩ (fun _ => pf_p tok rfl rfl rfl rfl) (fun P_8 => ?_)
                  refine sP 9 [(108, .bool true), (110, .bool (r43.2 == 0))] (some 111) wf ⟨rfl, rfl, trivial⟩ (fun _ => pf_p tok rfl rfl rfl rfl) (fun P_9 => ?_)
                  refine sP 10 [(111, .bool (r43.2 == 0))] (some 112) wf ⟨rfl, trivial⟩ (fun _ => pf_p tok rfl rfl rfl rfl) (fun P_10 => ?_)
                  refine sim_gif 112 H rfl (fun hb H => ?_) (fun hb H => ?_)
                  ·
                    refine sP 11 [(9, Slc.v r15.1), (112, .bool true)] (some 113) wf ⟨rfl, rfl, trivial⟩ (fun _ => pf_p tok rfl rfl rfl rfl) (fun P_11 => ?_)
                    obtain ⟨v77, hv77, H⟩ := H
                    refine sL 13 [(16, .pointer (some (⟨b39, 0, none⟩ : Addr))), (112, .bool true)] (some 115) wf ⟨rfl, rfl, trivial⟩ (pf_y rfl rfl rfl (y_lda tok rfl rfl rfl rfl rfl hv77)) (fun P_13 => ?_)
                    refine sim_c 12 [0, 1, 2, 3, 4, 5, 6, 7, 8, 9, 10, 11] [0, 1, 2, 3, 4, 5, 6, 7, 8, 9, 10, 11] (ei := [(112, .bool true), (113, Slc.v r15.1)]) law19_total_ok (law19_total_ref _ _ _ H) wf ⟨P_13, P_11 _, P_10 _, P_9 _, P_8 _, P_7 _, P_6 _, P_5 _, P_4 _, P_3 _, P_2 _, P_1 _, P_0 _, trivial⟩ (by kernel_rfl) ⟨rfl, rfl, trivial⟩ (by kernel_rfl) rfl rfl rfl rfl rfl ?_
                    rintro _ h79 ⟨r78, rfl, H⟩
                    obtain ⟨hy80, H⟩ := H
                    refine sim_re (x := ⟨13, .agg (S_api_Wide.cs v77).toArray, [(16, .pointer (some (⟨b39, 0, none⟩ : Addr))), (112, .bool true)]⟩) (pf_y rfl rfl rfl (y_lda tok rfl rfl rfl rfl rfl hy80)) (fun P_13 => ?_)
                    refine sP 14 [(112, .bool true), (114, .agg (S_api_Wide.cs r78).toArray), (115, .agg (S_api_Wide.cs v77).toArray)] (some 116) wf ⟨rfl, rfl, rfl, trivial⟩ (fun _ => pf_y rfl rfl rfl (y_eqs (op := .eql) (xs := S_api_Wide.cs r78) (ys := S_api_Wide.cs v77) (.inl rfl) rfl rfl rfl (eqv47_S_api_Wide r78 v77) (by kernel_rfl))) (fun P_14 => ?_)
                    refine sP 15 [(112, .bool true), (116, .bool (if BinOp.eql = .eql then ((r78.f_Hi == v77.f_Hi) && (r78.f_Lo == v77.f_Lo)) else !((r78.f_Hi == v77.f_Hi) && (r78.f_Lo == v77.f_Lo))))] (some 117) wf ⟨rfl, rfl, trivial⟩ (fun _ => pf_p tok rfl rfl rfl rfl) (fun P_15 => ?_)
                    refine sP 16 [(117, .bool (if BinOp.eql = .eql then ((r78.f_Hi == v77.f_Hi) && (r78.f_Lo == v77.f_Lo)) else !((r78.f_Hi == v77.f_Hi) && (r78.f_Lo == v77.f_Lo))))] (some 118) wf ⟨rfl, trivial⟩ (fun _ => pf_p tok rfl rfl rfl rfl) (fun P_16 => ?_)
                    refine sim_gif 118 H rfl (fun hb H => ?_) (fun hb H => ?_)
                    ·
                      refine sP 17 [(14, Slc.v r31.1), (118, .bool true)] (some 119) wf ⟨rfl, rfl, trivial⟩ (fun _ => pf_p tok rfl rfl rfl rfl) (fun P_17 => ?_)
                      refine sP 18 [(18, Slc.v r43.1), (118, .bool true)] (some 120) wf ⟨rfl, rfl, trivial⟩ (fun _ => pf_p tok rfl rfl rfl rfl) (fun P_18 => ?_)
                      refine sim_c 19 [0, 1, 2, 3, 4, 5, 6, 7, 8, 9, 10, 11, 12, 13, 14, 15, 16, 17, 18] [0, 1, 2, 3, 4, 5, 6, 7, 8, 9, 10, 11, 13, 14, 15, 16, 17, 18] (ei := [(118, .bool true), (119, Slc.v r31.1), (120, Slc.v r43.1)]) ref19_SameRows_ok (ref19_SameRows_ref _ _ _ _ H) wf ⟨P_18 _, P_17 _, P_16 _, P_15 _, P_14 _, P_13, trivial, trivial, trivial, trivial, trivial, trivial, trivial, trivial, trivial, trivial, trivial, trivial, trivial⟩ (by kernel_rfl) ⟨rfl, rfl, rfl, trivial⟩ (by kernel_rfl) rfl rfl rfl rfl rfl ?_
                      rintro _ h82 ⟨r81, rfl, H⟩
                      refine sP 20 [(118, .bool true), (121, .bool r81)] (some 122) wf ⟨rfl, rfl, trivial⟩ (fun _ => pf_p tok rfl rfl rfl rfl) (fun P_20 => ?_)
                      refine sP 21 [(122, .bool r81)] (some 123) wf ⟨rfl, trivial⟩ (fun _ => pf_p tok rfl rfl rfl rfl) (fun P_21 => ?_)
                      refine sim_gif 123 H rfl (fun hb H => ?_) (fun hb H => ?_)
                      ·
                        refine sim_c 22 [0, 1, 2, 3, 4, 5, 6, 7, 8, 9, 10, 11, 12, 13, 14, 15, 16, 17, 18, 19, 20, 21] [0, 1, 2, 3, 4, 5, 6, 7, 8, 9, 10, 11, 13, 14, 15, 16, 17, 18, 20, 21] (ei := [(123, .bool true)]) law19_awake_ok (law19_awake_ref  _ _ H) wf ⟨P_21 _, P_20 _, trivial, trivial, trivial, trivial, trivial, trivial, trivial, trivial, trivial, trivial, trivial, trivial, trivial, trivial, trivial, trivial, trivial, trivial, trivial⟩ (by kernel_rfl) ⟨rfl, trivial⟩ (by kernel_rfl) rfl rfl rfl rfl rfl ?_
                        rintro _ h84 ⟨r83, rfl, H⟩
                        refine sP 23 [(123, .bool true), (124, .bool r83)] (some 125) wf ⟨rfl, rfl, trivial⟩ (fun _ => pf_p tok rfl rfl rfl rfl) (fun P_23 => ?_)
                        refine sP 24 [(125, .bool r83)] (some 8) wf ⟨rfl, trivial⟩ (fun _ => pf_p tok rfl rfl rfl rfl) (fun P_24 => ?_)
                        refine sim_end wf ⟨P_24 _, P_23 _, trivial, trivial, trivial, trivial, trivial, trivial, trivial, trivial, trivial, trivial, trivial, trivial, trivial, trivial, trivial, trivial, trivial, trivial, trivial, trivial, trivial⟩ (by kernel_rfl) ?_
                        clear wf P_0 P_1 P_10 P_11 P_13 P_14 P_15 P_16 P_17 P_18 P_2 P_20 P_21 P_23 P_24 P_3 P_4 P_5 P_6 P_7 P_8 P_9
                        exact x_join r83 H ⟨rfl, trivial⟩
                      ·
                        refine sim_p 22 (v := undef) (ei := [(123, .bool false)]) (d := (some 124)) wf (by kernel_rfl) ⟨rfl, trivial⟩ (by kernel_rfl) (by kernel_rfl) (fun _ => pf_s rfl rfl rfl) (fun P_22 => ?_)
                        refine sP 23 [(123, .bool false), (124, undef)] (some 125) wf ⟨rfl, rfl, trivial⟩ (fun _ => pf_p tok rfl rfl rfl rfl) (fun P_23 => ?_)
                        refine sP 24 [(125, .bool false)] (some 8) wf ⟨rfl, trivial⟩ (fun _ => pf_p tok rfl rfl rfl rfl) (fun P_24 => ?_)
                        refine sim_end wf ⟨P_24 _, P_23 _, P_22 _, P_21 _, P_20 _, trivial, trivial, trivial, trivial, trivial, trivial, trivial, trivial, trivial, trivial, trivial, trivial, trivial, trivial, trivial, trivial, trivial, trivial, trivial⟩ (by kernel_rfl) ?_
                        clear wf P_0 P_1 P_10 P_11 P_13 P_14 P_15 P_16 P_17 P_18 P_2 P_20 P_21 P_22 P_23 P_24 P_3 P_4 P_5 P_6 P_7 P_8 P_9
                        exact x_join false H ⟨rfl, trivial⟩
                    ·
                      refine sim_p 17 (v := undef) (ei := [(14, Slc.v r31.1), (118, .bool false)]) (d := (some 119)) wf (by kernel_rfl) ⟨rfl, rfl, trivial⟩ (by kernel_rfl) (by kernel_rfl) (fun _ => pf_s rfl rfl rfl) (fun P_17 => ?_)
                      refine sim_p 18 (v := undef) (ei := [(18, Slc.v r43.1), (118, .bool false)]) (d := (some 120)) wf (by kernel_rfl) ⟨rfl, rfl, trivial⟩ (by kernel_rfl) (by kernel_rfl) (fun _ => pf_s rfl rfl rfl) (fun P_18 => ?_)
                      refine sim_p 19 (v := undef) (ei := [(118, .bool false), (119, undef), (120, undef)]) (d := (some 121)) wf (by kernel_rfl) ⟨rfl, rfl, rfl, trivial⟩ (by kernel_rfl) (by kernel_rfl) (fun _ => pf_s rfl rfl rfl) (fun P_19 => ?_)
                      refine sP 20 [(118, .bool false), (121, undef)] (some 122) wf ⟨rfl, rfl, trivial⟩ (fun _ => pf_p tok rfl rfl rfl rfl) (fun P_20 => ?_)
                      refine sP 21 [(122, .bool false)] (some 123) wf ⟨rfl, trivial⟩ (fun _ => pf_p tok rfl rfl rfl rfl) (fun P_21 => ?_)
                      refine sim_gif 123 H rfl (fun hb H => ?_) (fun hb H => ?_)
                      ·
                        refine sim_c 22 [0, 1, 2, 3, 4, 5, 6, 7, 8, 9, 10, 11, 12, 13, 14, 15, 16, 17, 18, 19, 20, 21] [0, 1, 2, 3, 4, 5, 6, 7, 8, 9, 10, 11, 13, 14, 15, 16, 17, 18, 19, 20, 21] (ei := [(123, .bool true)]) law19_awake_ok (law19_awake_ref  _ _ H) wf ⟨P_21 _, P_20 _, P_19 _, P_18 _, P_17 _, P_16 _, P_15 _, P_14 _, P_13, trivial, trivial, trivial, trivial, trivial, trivial, trivial, trivial, trivial, trivial, trivial, trivial, trivial⟩ (by kernel_rfl) ⟨rfl, trivial⟩ (by kernel_rfl) rfl rfl rfl rfl rfl ?_
                        rintro _ h86 ⟨r85, rfl, H⟩
                        refine sP 23 [(123, .bool true), (124, .bool r85)] (some 125) wf ⟨rfl, rfl, trivial⟩ (fun _ => pf_p tok rfl rfl rfl rfl) (fun P_23 => ?_)
                        refine sP 24 [(125, .bool r85)] (some 8) wf ⟨rfl, trivial⟩ (fun _ => pf_p tok rfl rfl rfl rfl) (fun P_24 => ?_)
                        refine sim_end wf ⟨P_24 _, P_23 _, trivial, trivial, trivial, trivial, trivial, trivial, trivial, trivial, trivial, trivial, trivial, trivial, trivial, trivial, trivial, trivial, trivial, trivial, trivial, trivial, trivial, trivial⟩ (by kernel_rfl) ?_
                        clear wf P_0 P_1 P_10 P_11 P_13 P_14 P_15 P_16 P_17 P_18 P_19 P_2 P_20 P_21 P_23 P_24 P_3 P_4 P_5 P_6 P_7 P_8 P_9
                        exact x_join r85 H ⟨rfl, trivial⟩
                      ·
                        refine sim_p 22 (v := undef) (ei := [(123, .bool false)]) (d := (some 124)) wf (by kernel_rfl) ⟨rfl, trivial⟩ (by kernel_rfl) (by kernel_rfl) (fun _ => pf_s rfl rfl rfl) (fun P_22 => ?_)
                        refine sP 23 [(123, .bool false), (124, undef)] (some 125) wf ⟨rfl, rfl, trivial⟩ (fun _ => pf_p tok rfl rfl rfl rfl) (fun P_23 => ?_)
                        refine sP 24 [(125, .bool false)] (some 8) wf ⟨rfl, trivial⟩ (fun _ => pf_p tok rfl rfl rfl rfl) (fun P_24 => ?_)
                        refine sim_end wf ⟨P_24 _, P_23 _, P_22 _, P_21 _, P_20 _, P_19 _, P_18 _, P_17 _, P_16 _, P_15 _, P_14 _, P_13, trivial, trivial, trivial, trivial, trivial, trivial, trivial, trivial, trivial, trivial, trivial, trivial, trivial⟩ (by kernel_rfl) ?_
                        clear wf P_0 P_1 P_10 P_11 P_13 P_14 P_15 P_16 P_17 P_18 P_19 P_2 P_20 P_21 P_22 P_23 P_24 P_3 P_4 P_5 P_6 P_7 P_8 P_9
                        exact x_join false H ⟨rfl, trivial⟩
                  ·
                    refine sim_p 11 (v := undef) (ei := [(9, Slc.v r15.1), (112, .bool false)]) (d := (some 113)) wf (by kernel_rfl) ⟨rfl, rfl, trivial⟩ (by kernel_rfl) (by kernel_rfl) (fun _ => pf_s rfl rfl rfl) (fun P_11 => ?_)
                    refine sim_p 12 (v := undef) (ei := [(112, .bool false), (113, undef)]) (d := (some 114)) wf (by kernel_rfl) ⟨rfl, rfl, trivial⟩ (by kernel_rfl) (by kernel_rfl) (fun _ => pf_s rfl rfl rfl) (fun P_12 => ?_)
                    refine sim_p 13 (v := undef) (ei := [(16, .pointer (some (⟨b39, 0, none⟩ : Addr))), (112, .bool false)]) (d := (some 115)) wf (by kernel_rfl) ⟨rfl, rfl, trivial⟩ (by kernel_rfl) (by kernel_rfl) (fun _ => pf_s rfl rfl rfl) (fun P_13 => ?_)
                    refine sim_p 14 (v := undef) (ei := [(112, .bool false), (114, undef), (115, undef)]) (d := (some 116)) wf (by kernel_rfl) ⟨rfl, rfl, rfl, trivial⟩ (by kernel_rfl) (by kernel_rfl) (fun _ => pf_s rfl rfl rfl) (fun P_14 => ?_)
                    refine sP 15 [(112, .bool false), (116, undef)] (some 117) wf ⟨rfl, rfl, trivial⟩ (fun _ => pf_p tok rfl rfl rfl rfl) (fun P_15 => ?_)
                    refine sP 16 [(117, .bool false)] (some 118) wf ⟨rfl, trivial⟩ (fun _ => pf_p tok rfl rfl rfl rfl) (fun P_16 => ?_)
                    refine sim_gif 118 H rfl (fun hb H => ?_) (fun hb H => ?_)
                    ·
                      refine sP 17 [(14, Slc.v r31.1), (118, .bool true)] (some 119) wf ⟨rfl, rfl, trivial⟩ (fun _ => pf_p tok rfl rfl rfl rfl) (fun P_17 => ?_)
                      refine sP 18 [(18, Slc.v r43.1), (118, .bool true)] (some 120) wf ⟨rfl, rfl, trivial⟩ (fun _ => pf_p tok rfl rfl rfl rfl) (fun P_18 => ?_)
                      refine sim_c 19 [0, 1, 2, 3, 4, 5, 6, 7, 8, 9, 10, 11, 12, 13, 14, 15, 16, 17, 18] [0, 1, 2, 3, 4, 5, 6, 7, 8, 9, 10, 11, 12, 13, 14, 15, 16, 17, 18] (ei := [(118, .bool true), (119, Slc.v r31.1), (120, Slc.v r43.1)]) ref19_SameRows_ok (ref19_SameRows_ref _ _ _ _ H) wf ⟨P_18 _, P_17 _, P_16 _, P_15 _, P_14 _, P_13 _, P_12 _, P_11 _, P_10 _, P_9 _, P_8 _, P_7 _, P_6 _, P_5 _, P_4 _, P_3 _, P_2 _, P_1 _, P_0 _, trivial⟩ (by kernel_rfl) ⟨rfl, rfl, rfl, trivial⟩ (by kernel_rfl) rfl rfl rfl rfl rfl ?_
                      rintro _ h88 ⟨r87, rfl, H⟩
                      refine sP 20 [(118, .bool true), (121, .bool r87)] (some 122) wf ⟨rfl, rfl, trivial⟩ (fun _ => pf_p tok rfl rfl rfl rfl) (fun P_20 => ?_)
                      refine sP 21 [(122, .bool r87)] (some 123) wf ⟨rfl, trivial⟩ (fun _ => pf_p tok rfl rfl rfl rfl) (fun P_21 => ?_)
                      refine sim_gif 123 H rfl (fun hb H => ?_) (fun hb H => ?_)
                      ·
                        refine sim_c 22 [0, 1, 2, 3, 4, 5, 6, 7, 8, 9, 10, 11, 12, 13, 14, 15, 16, 17, 18, 19, 20, 21] [0, 1, 2, 3, 4, 5, 6, 7, 8, 9, 10, 11, 12, 13, 14, 15, 16, 17, 18, 20, 21] (ei := [(123, .bool true)]) law19_awake_ok (law19_awake_ref  _ _ H) wf ⟨P_21 _, P_20 _, trivial, trivial, trivial, trivial, trivial, trivial, trivial, trivial, trivial, trivial, trivial, trivial, trivial, trivial, trivial, trivial, trivial, trivial, trivial, trivial⟩ (by kernel_rfl) ⟨rfl, trivial⟩ (by kernel_rfl) rfl rfl rfl rfl rfl ?_
                        rintro _ h90 ⟨r89, rfl, H⟩
                        refine sP 23 [(123, .bool true), (124, .bool r89)] (some 125) wf ⟨rfl, rfl, trivial⟩ (fun _ => pf_p tok rfl rfl rfl rfl) (fun P_23 => ?_)
                        refine sP 24 [(125, .bool r89)] (some 8) wf ⟨rfl, trivial⟩ (fun _ => pf_p tok rfl rfl rfl rfl) (fun P_24 => ?_)
                        refine sim_end wf ⟨P_24 _, P_23 _, trivial, trivial, trivial, trivial, trivial, trivial, trivial, trivial, trivial, trivial, trivial, trivial, trivial, trivial, trivial, trivial, trivial, trivial, trivial, trivial, trivial, trivial⟩ (by kernel_rfl) ?_
                        clear wf P_0 P_1 P_10 P_11 P_12 P_13 P_14 P_15 P_16 P_17 P_18 P_2 P_20 P_21 P_23 P_24 P_3 P_4 P_5 P_6 P_7 P_8 P_9
                        exact x_join r89 H ⟨rfl, trivial⟩
                      ·
                        refine sim_p 22 (v := undef) (ei := [(123, .bool false)]) (d := (some 124)) wf (by kernel_rfl) ⟨rfl, trivial⟩ (by kernel_rfl) (by kernel_rfl) (fun _ => pf_s rfl rfl rfl) (fun P_22 => ?_)
                        refine sP 23 [(123, .bool false), (124, undef)] (some 125) wf ⟨rfl, rfl, trivial⟩ (fun _ => pf_p tok rfl rfl rfl rfl) (fun P_23 => ?_)
                        refine sP 24 [(125, .bool false)] (some 8) wf ⟨rfl, trivial⟩ (fun _ => pf_p tok rfl rfl rfl rfl) (fun P_24 => ?_)
                        refine sim_end wf ⟨P_24 _, P_23 _, P_22 _, P_21 _, P_20 _, trivial, trivial, trivial, trivial, trivial, trivial, trivial, trivial, trivial, trivial, trivial, trivial, trivial, trivial, trivial, trivial, trivial, trivial, trivial, trivial⟩ (by kernel_rfl) ?_
                        clear wf P_0 P_1 P_10 P_11 P_12 P_13 P_14 P_15 P_16 P_17 P_18 P_2 P_20 P_21 P_22 P_23 P_24 P_3 P_4 P_5 P_6 P_7 P_8 P_9
                        exact x_join false H ⟨rfl, trivial⟩
                    ·
                      refine sim_p 17 (v := undef) (ei := [(14, Slc.v r31.1), (118, .bool false)]) (d := (some 119)) wf (by kernel_rfl) ⟨rfl, rfl, trivial⟩ (by kernel_rfl) (by kernel_rfl) (fun _ => pf_s rfl rfl rfl) (fun P_17 => ?_)
                      refine sim_p 18 (v := undef) (ei := [(18, Slc.v r43.1), (118, .bool false)]) (d := (some 120)) wf (by kernel_rfl) ⟨rfl, rfl, trivial⟩ (by kernel_rfl) (by kernel_rfl) (fun _ => pf_s rfl rfl rfl) (fun P_18 => ?_)
                      refine sim_p 19 (v := undef) (ei := [(118, .bool false), (119, undef), (120, undef)]) (d := (some 121)) wf (by kernel_rfl) ⟨rfl, rfl, rfl, trivial⟩ (by kernel_rfl) (by kernel_rfl) (fun _ => pf_s rfl rfl rfl) (fun P_19 => ?_)
                      refine sP 20 [(118, .bool false), (121, undef)] (some 122) wf ⟨rfl, rfl, trivial⟩ (fun _ => pf_p tok rfl rfl rfl rfl) (fun P_20 => ?_)
                      refine sP 21 [(122, .bool false)] (some 123) wf ⟨rfl, trivial⟩ (fun _ => pf_p tok rfl rfl rfl rfl) (fun P_21 => ?_)
                      refine sim_gif 123 H rfl (fun hb H => ?_) (fun hb H => ?_)
                      ·
                        refine sim_c 22 [0, 1, 2, 3, 4, 5, 6, 7, 8, 9, 10, 11, 12, 13, 14, 15, 16, 17, 18, 19, 20, 21] [0, 1, 2, 3, 4, 5, 6, 7, 8, 9, 10, 11, 12, 13, 14, 15, 16, 17, 18, 19, 20, 21] (ei := [(123, .bool true)]) law19_awake_ok (law19_awake_ref  _ _ H) wf ⟨P_21 _, P_20 _, P_19 _, P_18 _, P_17 _, P_16 _, P_15 _, P_14 _, P_13 _, P_12 _, P_11 _, P_10 _, P_9 _, P_8 _, P_7 _, P_6 _, P_5 _, P_4 _, P_3 _, P_2 _, P_1 _, P_0 _, trivial⟩ (by kernel_rfl) ⟨rfl, trivial⟩ (by kernel_rfl) rfl rfl rfl rfl rfl ?_
                        rintro _ h92 ⟨r91, rfl, H⟩
                        refine sP 23 [(123, .bool true), (124, .bool r91)] (some 125) wf ⟨rfl, rfl, trivial⟩ (fun _ => pf_p tok rfl rfl rfl rfl) (fun P_23 => ?_)
                        refine sP 24 [(125, .bool r91)] (some 8) wf ⟨rfl, trivial⟩ (fun _ => pf_p tok rfl rfl rfl rfl) (fun P_24 => ?_)
                        refine sim_end wf ⟨P_24 _, P_23 _, trivial, trivial, trivial, trivial, trivial, trivial, trivial, trivial, trivial, trivial, trivial, trivial, trivial, trivial, trivial, trivial, trivial, trivial, trivial, trivial, trivial, trivial, trivial⟩ (by kernel_rfl) ?_
                        clear wf P_0 P_1 P_10 P_11 P_12 P_13 P_14 P_15 P_16 P_17 P_18 P_19 P_2 P_20 P_21 P_23 P_24 P_3 P_4 P_5 P_6 P_7 P_8 P_9
                        exact x_join r91 H ⟨rfl, trivial⟩
                      ·
                        refine sim_p 22 (v := undef) (ei := [(123, .bool false)]) (d := (some 124)) wf (by kernel_rfl) ⟨rfl, trivial⟩ (by kernel_rfl) (by kernel_rfl) (fun _ => pf_s rfl rfl rfl) (fun P_22 => ?_)
                        refine sP 23 [(123, .bool false), (124, undef)] (some 125) wf ⟨rfl, rfl, trivial⟩ (fun _ => pf_p tok rfl rfl rfl rfl) (fun P_23 => ?_)
                        refine sP 24 [(125, .bool false)] (some 8) wf ⟨rfl, trivial⟩ (fun _ => pf_p tok rfl rfl rfl rfl) (fun P_24 => ?_)
                        refine sim_end wf ⟨P_24 _, P_23 _, P_22 _, P_21 _, P_20 _, P_19 _, P_18 _, P_17 _, P_16 _, P_15 _, P_14 _, P_13 _, P_12 _, P_11 _, P_10 _, P_9 _, P_8 _, P_7 _, P_6 _, P_5 _, P_4 _, P_3 _, P_2 _, P_1 _, P_0 _, trivial⟩ (by kernel_rfl) ?_
                        clear wf P_0 P_1 P_10 P_11 P_12 P_13 P_14 P_15 P_16 P_17 P_18 P_19 P_2 P_20 P_21 P_22 P_23 P_24 P_3 P_4 P_5 P_6 P_7 P_8 P_9
                        exact x_join false H ⟨rfl, trivial⟩
                ·
                  refine sim_p 7 (v := undef) (ei := [(19, .int .i64 r43.2), (108, .bool false)]) (d := (some 109)) wf (by kernel_rfl) ⟨rfl, rfl, trivial⟩ (by kernel_rfl) (by kernel_rfl) (fun _ => pf_s rfl rfl rfl) (fun P_7 => ?_)
                  refine sim_p 8 (v := undef) (ei := [(108, .bool false), (109, undef)]) (d := (some 110)) wf (by kernel_rfl) ⟨rfl, rfl, trivial⟩ (by kernel_rfl) (by kernel_rfl) (fun _ => pf_s rfl rfl rfl) (fun P_8 => ?_)
                  refine sP 9 [(108, .bool false), (110, undef)] (some 111) wf ⟨rfl, rfl, trivial⟩ (fun _ => pf_p tok rfl rfl rfl rfl) (fun P_9 => ?_)
                  refine sP 10 [(111, .bool false)] (some 112) wf ⟨rfl, trivial⟩ (fun _ => pf_p tok rfl rfl rfl rfl) (fun P_10 => ?_)
                  refine sim_gif 112 H rfl (fun hb H => ?_) (fun hb H => ?_)
                  ·
                    refine sP 11 [(9, Slc.v r15.1), (112, .bool true)] (some 113) wf ⟨rfl, rfl, trivial⟩ (fun _ => pf_p tok rfl rfl rfl rfl) (fun P_11 => ?_)
                    obtain ⟨v93, hv93, H⟩ := H
                    refine sL 13 [(16, .pointer (some (⟨b39, 0, none⟩ : Addr))), (112, .bool true)] (some 115) wf ⟨rfl, rfl, trivial⟩ (pf_y rfl rfl rfl (y_lda tok rfl rfl rfl rfl rfl hv93)) (fun P_13 => ?_)
                    refine sim_c 12 [0, 1, 2, 3, 4, 5, 6, 7, 8, 9, 10, 11] [0, 1, 2, 3, 4, 5, 6, 7, 8, 9, 10, 11] (ei := [(112, .bool true), (113, Slc.v r15.1)]) law19_total_ok (law19_total_ref _ _ _ H) wf ⟨P_13, P_11 _, P_10 _, P_9 _, P_8 _, P_7 _, P_6 _, P_5 _, P_4 _, P_3 _, P_2 _, P_1 _, P_0 _, trivial⟩ (by kernel_rfl) ⟨rfl, rfl, trivial⟩ (by kernel_rfl) rfl rfl rfl rfl rfl ?_
                    rintro _ h95 ⟨r94, rfl, H⟩
                    obtain ⟨hy96, H⟩ := H
                    refine sim_re (x := ⟨13, .agg (S_api_Wide.cs v93).toArray, [(16, .pointer (some (⟨b39, 0, none⟩ : Addr))), (112, .bool true)]⟩) (pf_y rfl rfl rfl (y_lda tok rfl rfl rfl rfl rfl hy96)) (fun P_13 => ?_)
                    refine sP 14 [(112, .bool true), (114, .agg (S_api_Wide.cs r94).toArray), (115, .agg (S_api_Wide.cs v93).toArray)] (some 116) wf ⟨rfl, rfl, rfl, trivial⟩ (fun _ => pf_y rfl rfl rfl (y_eqs (op := .eql) (xs := S_api_Wide.cs r94) (ys := S_api_Wide.cs v93) (.inl rfl) rfl rfl rfl (eqv47_S_api_Wide r94 v93) (by kernel_rfl))) (fun P_14 => ?_)
                    refine sP 15 [(112, .bool true), (116, .bool (if BinOp.eql = .eql then ((r94.f_Hi == v93.f_Hi) && (r94.f_Lo == v93.f_Lo)) else !((r94.f_Hi == v93.f_Hi) && (r94.f_Lo == v93.f_Lo))))] (some 117) wf ⟨rfl, rfl, trivial⟩ (fun _ => pf_p tok rfl rfl rfl rfl) (fun P_15 => ?_)
                    refine sP 16 [(117, .bool (if BinOp.eql = .eql then ((r94.f_Hi == v93.f_Hi) && (r94.f_Lo == v93.f_Lo)) else !((r94.f_Hi == v93.f_Hi) && (r94.f_Lo == v93.f_Lo))))] (some 118) wf ⟨rfl, trivial⟩ (fun _ => pf_p tok rfl rfl rfl rfl) (fun P_16 => ?_)
                    refine sim_gif 118 H rfl (fun hb H => ?_) (fun hb H => ?_)
                    ·
                      refine sP 17 [(14, Slc.v r31.1), (118, .bool true)] (some 119) wf ⟨rfl, rfl, trivial⟩ (fun _ => pf_p tok rfl rfl rfl rfl) (fun P_17 => ?_)
                      refine sP 18 [(18, Slc.v r43.1), (118, .bool true)] (some 120) wf ⟨rfl, rfl, trivial⟩ (fun _ => pf_p tok rfl rfl rfl rfl) (fun P_18 => ?_)
                      refine sim_c 19 [0, 1, 2, 3, 4, 5, 6, 7, 8, 9, 10, 11, 12, 13, 14, 15, 16, 17, 18] [0, 1, 2, 3, 4, 5, 6, 7, 8, 9, 10, 11, 13, 14, 15, 16, 17, 18] (ei := [(118, .bool true), (119, Slc.v r31.1), (120, Slc.v r43.1)]) ref19_SameRows_ok (ref19_SameRows_ref _ _ _ _ H) wf ⟨P_18 _, P_17 _, P_16 _, P_15 _, P_14 _, P_13, trivial, trivial, trivial, trivial, trivial, trivial, trivial, trivial, trivial, trivial, trivial, trivial, trivial⟩ (by kernel_rfl) ⟨rfl, rfl, rfl, trivial⟩ (by kernel_rfl) rfl rfl rfl rfl rfl ?_
                      rintro _ h98 ⟨r97, rfl, H⟩
                      refine sP 20 [(118, .bool true), (121, .bool r97)] (some 122) wf ⟨rfl, rfl, trivial⟩ (fun _ => pf_p tok rfl rfl rfl rfl) (fun P_20 => ?_)
                      refine sP 21 [(122, .bool r97)] (some 123) wf ⟨rfl, trivial⟩ (fun _ => pf_p tok rfl rfl rfl rfl) (fun P_21 => ?_)
                      refine sim_gif 123 H rfl (fun hb H => ?_) (fun hb H => ?_)
                      ·
                        refine sim_c 22 [0, 1, 2, 3, 4, 5, 6, 7, 8, 9, 10, 11, 12, 13, 14, 15, 16, 17, 18, 19, 20, 21] [0, 1, 2, 3, 4, 5, 6, 7, 8, 9, 10, 11, 13, 14, 15, 16, 17, 18, 20, 21] (ei := [(123, .bool true)]) law19_awake_ok (law19_awake_ref  _ _ H) wf ⟨P_21 _, P_20 _, trivial, trivial, trivial, trivial, trivial, trivial, trivial, trivial, trivial, trivial, trivial, trivial, trivial, trivial, trivial, trivial, trivial, trivial, trivial⟩ (by kernel_rfl) ⟨rfl, trivial⟩ (by kernel_rfl) rfl rfl rfl rfl rfl ?_
                        rintro _ h100 ⟨r99, rfl, H⟩
                        refine sP 23 [(123, .bool true), (124, .bool r99)] (some 125) wf ⟨rfl, rfl, trivial⟩ (fun _ => pf_p tok rfl rfl rfl rfl) (fun P_23 => ?_)
                        refine sP 24 [(125, .bool r99)] (some 8) wf ⟨rfl, trivial⟩ (fun _ => pf_p tok rfl rfl rfl rfl) (fun P_24 => ?_)
                        refine sim_end wf ⟨P_24 _, P_23 _, trivial, trivial, trivial, trivial, trivial, trivial, trivial, trivial, trivial, trivial, trivial, trivial, trivial, trivial, trivial, trivial, trivial, trivial, trivial, trivial, trivial⟩ (by kernel_rfl) ?_
                        clear wf P_0 P_1 P_10 P_11 P_13 P_14 P_15 P_16 P_17 P_18 P_2 P_20 P_21 P_23 P_24 P_3 P_4 P_5 P_6 P_7 P_8 P_9
                        exact x_join r99 H ⟨rfl, trivial⟩
                      ·
                        refine sim_p 22 (v := undef) (ei := [(123, .bool false)]) (d := (some 124)) wf (by kernel_rfl) ⟨rfl, trivial⟩ (by kernel_rfl) (by kernel_rfl) (fun _ => pf_s rfl rfl rfl) (fun P_22 => ?_)
                        refine sP 23 [(123, .bool false), (124, undef)] (some 125) wf ⟨rfl, rfl, trivial⟩ (fun _ => pf_p tok rfl rfl rfl rfl) (fun P_23 => ?_)
                        refine sP 24 [(125, .bool false)] (some 8) wf ⟨rfl, trivial⟩ (fun _ => pf_p tok rfl rfl rfl rfl) (fun P_24 => ?_)
                        refine sim_end wf ⟨P_24 _, P_23 _, P_22 _, P_21 _, P_20 _, trivial, trivial, trivial, trivial, trivial, trivial, trivial, trivial, trivial, trivial, trivial, trivial, trivial, trivial, trivial, trivial, trivial, trivial, trivial⟩ (by kernel_rfl) ?_
                        clear wf P_0 P_1 P_10 P_11 P_13 P_14 P_15 P_16 P_17 P_18 P_2 P_20 P_21 P_22 P_23 P_24 P_3 P_4 P_5 P_6 P_7 P_8 P_9
                        exact x_join false H ⟨rfl, trivial⟩
                    ·
                      refine sim_p 17 (v := undef) (ei := [(14, Slc.v r31.1), (118, .bool false)]) (d := (some 119)) wf (by kernel_rfl) ⟨rfl, rfl, trivial⟩ (by kernel_rfl) (by kernel_rfl) (fun _ => pf_s rfl rfl rfl) (fun P_17 => ?_)
                      refine sim_p 18 (v := undef) (ei := [(18, Slc.v r43.1), (118, .bool false)]) (d := (some 120)) wf (by kernel_rfl) ⟨rfl, rfl, trivial⟩ (by kernel_rfl) (by kernel_rfl) (fun _ => pf_s rfl rfl rfl) (fun P_18 => ?_)
                      refine sim_p 19 (v := undef) (ei := [(118, .bool false), (119, undef), (120, undef)]) (d := (some 121)) wf (by kernel_rfl) ⟨rfl, rfl, rfl, trivial⟩ (by kernel_rfl) (by kernel_rfl) (fun _ => pf_s rfl rfl rfl) (fun P_19 => ?_)
                      refine sP 20 [(118, .bool false), (121, undef)] (some 122) wf ⟨rfl, rfl, trivial⟩ (fun _ => pf_p tok rfl rfl rfl rfl) (fun P_20 => ?_)
                      refine sP 21 [(122, .bool false)] (some 123) wf ⟨rfl, trivial⟩ (fun _ => pf_p tok rfl rfl rfl rfl) (fun P_21 => ?_)
                      refine sim_gif 123 H rfl (fun hb H => ?_) (fun hb H => ?_)
                      ·
                        refine sim_c 22 [0, 1, 2, 3, 4, 5, 6, 7, 8, 9, 10, 11, 12, 13, 14, 15, 16, 17, 18, 19, 20, 21] [0, 1, 2, 3, 4, 5, 6, 7, 8, 9, 10, 11, 13, 14, 15, 16, 17, 18, 19, 20, 21] (ei := [(123, .bool true)]) law19_awake_ok (law19_awake_ref  _ _ H) wf ⟨P_21 _, P_20 _, P_19 _, P_18 _, P_17 _, P_16 _, P_15 _, P_14 _, P_13, trivial, trivial, trivial, trivial, trivial, trivial, trivial, trivial, trivial, trivial, trivial, trivial, trivial⟩ (by kernel_rfl) ⟨rfl, trivial⟩ (by kernel_rfl) rfl rfl rfl rfl rfl ?_
                        rintro _ h102 ⟨r101, rfl, H⟩
                        refine sP 23 [(123, .bool true), (124, .bool r101)] (some 125) wf ⟨rfl, rfl, trivial⟩ (fun _ => pf_p tok rfl rfl rfl rfl) (fun P_23 => ?_)
                        refine sP 24 [(125, .bool r101)] (some 8) wf ⟨rfl, trivial⟩ (fun _ => pf_p tok rfl rfl rfl rfl) (fun P_24 => ?_)
                        refine sim_end wf ⟨P_24 _, P_23 _, trivial, trivial, trivial, trivial, trivial, trivial, trivial, trivial, trivial, trivial, trivial, trivial, trivial, trivial, trivial, trivial, trivial, trivial, trivial, trivial, trivial, trivial⟩ (by kernel_rfl) ?_
                        clear wf P_0 P_1 P_10 P_11 P_13 P_14 P_15 P_16 P_17 P_18 P_19 P_2 P_20 P_21 P_23 P_24 P_3 P_4 P_5 P_6 P_7 P_8 P_9
                        exact x_join r101 H ⟨rfl, trivial⟩
                      ·
                        refine sim_p 22 (v := undef) (ei := [(123, .bool false)]) (d := (some 124)) wf (by kernel_rfl) ⟨rfl, trivial⟩ (by kernel_rfl) (by kernel_rfl) (fun _ => pf_s rfl rfl rfl) (fun P_22 => ?_)
                        refine sP 23 [(123, .bool false), (124, undef)] (some 125) wf ⟨rfl, rfl, trivial⟩ (fun _ => pf_p tok rfl rfl rfl rfl) (fun P_23 => ?_)
                        refine sP 24 [(125, .bool false)] (some 8) wf ⟨rfl, trivial⟩ (fun _ => pf_p tok rfl rfl rfl rfl) (fun P_24 => ?_)
                        refine sim_end wf ⟨P_24 _, P_23 _, P_22 _, P_21 _, P_20 _, P_19 _, P_18 _, P_17 _, P_16 _, P_15 _, P_14 _, P_13, trivial, trivial, trivial, trivial, trivial, trivial, trivial, trivial, trivial, trivial, trivial, trivial, trivial⟩ (by kernel_rfl) ?_
                        clear wf P_0 P_1 P_10 P_11 P_13 P_14 P_15 P_16 P_17 P_18 P_19 P_2 P_20 P_21 P_22 P_23 P_24 P_3 P_4 P_5 P_6 P_7 P_8 P_9
                        exact x_join false H ⟨rfl, trivial⟩
                  ·
                    refine sim_p 11 (v := undef) (ei := [(9, Slc.v r15.1), (112, .bool false)]) (d := (some 113)) wf (by kernel_rfl) ⟨rfl, rfl, trivial⟩ (by kernel_rfl) (by kernel_rfl) (fun _ => pf_s rfl rfl rfl) (fun P_11 => ?_)
                    refine sim_p 12 (v := undef) (ei := [(112, .bool false), (113, undef)]) (d := (some 114)) wf (by kernel_rfl) ⟨rfl, rfl, trivial⟩ (by kernel_rfl) (by kernel_rfl) (fun _ => pf_s rfl rfl rfl) (fun P_12 => ?_)
                    refine sim_p 13 (v := undef) (ei := [(16, .pointer (some (⟨b39, 0, none⟩ : Addr))), (112, .bool false)]) (d := (some 115)) wf (by kernel_rfl) ⟨rfl, rfl, trivial⟩ (by kernel_rfl) (by kernel_rfl) (fun _ => pf_s rfl rfl rfl) (fun P_13 => ?_)
                    refine sim_p 14 (v := undef) (ei := [(112, .bool false), (114, undef), (115, undef)]) (d := (some 116)) wf (by kernel_rfl) ⟨rfl, rfl, rfl, trivial⟩ (by kernel_rfl) (by kernel_rfl) (fun _ => pf_s rfl rfl rfl) (fun P_14 => ?_)
                    refine sP 15 [(112, .bool false), (116, undef)] (some 117) wf ⟨rfl, rfl, trivial⟩ (fun _ => pf_p tok rfl rfl rfl rfl) (fun P_15 => ?_)
                    refine sP 16 [(117, .bool false)] (some 118) wf ⟨rfl, trivial⟩ (fun _ => pf_p tok rfl rfl rfl rfl) (fun P_16 => ?_)
                    refine sim_gif 118 H rfl (fun hb H => ?_) (fun hb H => ?_)
                    ·
                      refine sP 17 [(14, Slc.v r31.1), (118, .bool true)] (some 119) wf ⟨rfl, rfl, trivial⟩ (fun _ => pf_p tok rfl rfl rfl rfl) (fun P_17 => ?_)
                      refine sP 18 [(18, Slc.v r43.1), (118, .bool true)] (some 120) wf ⟨rfl, rfl, trivial⟩ (fun _ => pf_p tok rfl rfl rfl rfl) (fun P_18 => ?_)
                      refine sim_c 19 [0, 1, 2, 3, 4, 5, 6, 7, 8, 9, 10, 11, 12, 13, 14, 15, 16, 17, 18] [0, 1, 2, 3, 4, 5, 6, 7, 8, 9, 10, 11, 12, 13, 14, 15, 16, 17, 18] (ei := [(118, .bool true), (119, Slc.v r31.1), (120, Slc.v r43.1)]) ref19_SameRows_ok (ref19_SameRows_ref _ _ _ _ H) wf ⟨P_18 _, P_17 _, P_16 _, P_15 _, P_14 _, P_13 _, P_12 _, P_11 _, P_10 _, P_9 _, P_8 _, P_7 _, P_6 _, P_5 _, P_4 _, P_3 _, P_2 _, P_1 _, P_0 _, trivial⟩ (by kernel_rfl) ⟨rfl, rfl, rfl, trivial⟩ (by kernel_rfl) rfl rfl rfl rfl rfl ?_
                      rintro _ h104 ⟨r103, rfl, H⟩
                      refine sP 20 [(118, .bool true), (121, .bool r103)] (some 122) wf ⟨rfl, rfl, trivial⟩ (fun _ => pf_p tok rfl rfl rfl rfl) (fun P_20 => ?_)
                      refine sP 21 [(122, .bool r103)] (some 123) wf ⟨rfl, trivial⟩ (fun _ => pf_p tok rfl rfl rfl rfl) (fun P_21 => ?_)
                      refine sim_gif 123 H rfl (fun hb H => ?_) (fun hb H => ?_)
                      ·
                        refine sim_c 22 [0, 1, 2, 3, 4, 5, 6, 7, 8, 9, 10, 11, 12, 13, 14, 15, 16, 17, 18, 19, 20, 21] [0, 1, 2, 3, 4, 5, 6, 7, 8, 9, 10, 11, 12, 13, 14, 15, 16, 17, 18, 20, 21] (ei := [(123, .bool true)]) law19_awake_ok (law19_awake_ref  _ _ H) wf ⟨P_21 _, P_20 _, trivial, trivial, trivial, trivial, trivial, trivial, trivial, trivial, trivial, trivial, trivial, trivial, trivial, trivial, trivial, trivial, trivial, trivial, trivial, trivial⟩ (by kernel_rfl) ⟨rfl, trivial⟩ (by kernel_rfl) rfl rfl rfl rfl rfl ?_
                        rintro _ h106 ⟨r105, rfl, H⟩
                        refine sP 23 [(123, .bool true), (124, .bool r105)] (some 125) wf ⟨rfl, rfl, trivial⟩ (fun _ => pf_p tok rfl rfl rfl rfl) (fun P_23 => ?_)
                        refine sP 24 [(125, .bool r105)] (some 8) wf ⟨rfl, trivial⟩ (fun _ => pf_p tok rfl rfl rfl rfl) (fun P_24 => ?_)
                        refine sim_end wf ⟨P_24 _, P_23 _, trivial, trivial, trivial, trivial, trivial, trivial, trivial, trivial, trivial, trivial, trivial, trivial, trivial, trivial, trivial, trivial, trivial, trivial, trivial, trivial, trivial, trivial⟩ (by kernel_rfl) ?_
                        clear wf P_0 P_1 P_10 P_11 P_12 P_13 P_14 P_15 P_16 P_17 P_18 P_2 P_20 P_21 P_23 P_24 P_3 P_4 P_5 P_6 P_7 P_8 P_9
                        exact x_join r105 H ⟨rfl, trivial⟩
                      ·
                        refine sim_p 22 (v := undef) (ei := [(123, .bool false)]) (d := (some 124)) wf (by kernel_rfl) ⟨rfl, trivial⟩ (by kernel_rfl) (by kernel_rfl) (fun _ => pf_s rfl rfl rfl) (fun P_22 => ?_)
                        refine sP 23 [(123, .bool false), (124, undef)] (some 125) wf ⟨rfl, rfl, trivial⟩ (fun _ => pf_p tok rfl rfl rfl rfl) (fun P_23 => ?_)
                        refine sP 24 [(125, .bool false)] (some 8) wf ⟨rfl, trivial⟩ (fun _ => pf_p tok rfl rfl rfl rfl) (fun P_24 => ?_)
                        refine sim_end wf ⟨P_24 _, P_23 _, P_22 _, P_21 _, P_20 _, trivial, trivial, trivial, trivial, trivial, trivial, trivial, trivial, trivial, trivial, trivial, trivial, trivial, trivial, trivial, trivial, trivial, trivial, trivial, trivial⟩ (by kernel_rfl) ?_
                        clear wf P_0 P_1 P_10 P_11 P_12 P_13 P_14 P_15 P_16 P_17 P_18 P_2 P_20 P_21 P_22 P_23 P_24 P_3 P_4 P_5 P_6 P_7 P_8 P_9
                        exact x_join false H ⟨rfl, trivial⟩
                    ·
                      refine sim_p 17 (v := undef) (ei := [(14, Slc.v r31.1), (118, .bool false)]) (d := (some 119)) wf (by kernel_rfl) ⟨rfl, rfl, trivial⟩ (by kernel_rfl) (by kernel_rfl) (fun _ => pf_s rfl rfl rfl) (fun P_17 => ?_)
                      refine sim_p 18 (v := undef) (ei := [(18, Slc.v r43.1), (118, .bool false)]) (d := (some 120)) wf (by kernel_rfl) ⟨rfl, rfl, trivial⟩ (by kernel_rfl) (by kernel_rfl) (fun _ => pf_s rfl rfl rfl) (fun P_18 => ?_)
                      refine sim_p 19 (v := undef) (ei := [(118, .bool false), (119, undef), (120, undef)]) (d := (some 121)) wf (by kernel_rfl) ⟨rfl, rfl, rfl, trivial⟩ (by kernel_rfl) (by kernel_rfl) (fun _ => pf_s rfl rfl rfl) (fun P_19 => ?_)
                      refine sP 20 [(118, .bool false), (121, undef)] (some 122) wf ⟨rfl, rfl, trivial⟩ (fun _ => pf_p tok rfl rfl rfl rfl) (fun P_20 => ?_)
                      refine sP 21 [(122, .bool false)] (some 123) wf ⟨rfl, trivial⟩ (fun _ => pf_p tok rfl rfl rfl rfl) (fun P_21 => ?_)
                      refine sim_gif 123 H rfl (fun hb H => ?_) (fun hb H => ?_)
                      ·
                        refine sim_c 22 [0, 1, 2, 3, 4, 5, 6, 7, 8, 9, 10, 11, 12, 13, 14, 15, 16, 17, 18, 19, 20, 21] [0, 1, 2, 3, 4, 5, 6, 7, 8, 9, 10, 11, 12, 13, 14, 15, 16, 17, 18, 19, 20, 21] (ei := [(123, .bool true)]) law19_awake_ok (law19_awake_ref  _ _ H) wf ⟨P_21 _, P_20 _, P_19 _, P_18 _, P_17 _, P_16 _, P_15 _, P_14 _, P_13 _, P_12 _, P_11 _, P_10 _, P_9 _, P_8 _, P_7 _, P_6 _, P_5 _, P_4 _, P_3 _, P_2 _, P_1 _, P_0 _, trivial⟩ (by kernel_rfl) ⟨rfl, trivial⟩ (by kernel_rfl) rfl rfl rfl rfl rfl ?_
                        rintro _ h108 ⟨r107, rfl, H⟩
                        refine sP 23 [(123, .bool true), (124, .bool r107)] (some 125) wf ⟨rfl, rfl, trivial⟩ (fun _ => pf_p tok rfl rfl rfl rfl) (fun P_23 => ?_)
                        refine sP 24 [(125, .bool r107)] (some 8) wf ⟨rfl, trivial⟩ (fun _ => pf_p tok rfl rfl rfl rfl) (fun P_24 => ?_)
                        refine sim_end wf ⟨P_24 _, P_23 _, trivial, trivial, trivial, trivial, trivial, trivial, trivial, trivial, trivial, trivial, trivial, trivial, trivial, trivial, trivial, trivial, trivial, trivial, trivial, trivial, trivial, trivial, trivial⟩ (by kernel_rfl) ?_
                        clear wf P_0 P_1 P_10 P_11 P_12 P_13 P_14 P_15 P_16 P_17 P_18 P_19 P_2 P_20 P_21 P_23 P_24 P_3 P_4 P_5 P_6 P_7 P_8 P_9
                        exact x_join r107 H ⟨rfl, trivial⟩
                      ·
                        refine sim_p 22 (v := undef) (ei := [(123, .bool false)]) (d := (some 124)) wf (by kernel_rfl) ⟨rfl, trivial⟩ (by kernel_rfl) (by kernel_rfl) (fun _ => pf_s rfl rfl rfl) (fun P_22 => ?_)
                        refine sP 23 [(123, .bool false), (124, undef)] (some 125) wf ⟨rfl, rfl, trivial⟩ (fun _ => pf_p tok rfl rfl rfl rfl) (fun P_23 => ?_)
                        refine sP 24 [(125, .bool false)] (some 8) wf ⟨rfl, trivial⟩ (fun _ => pf_p tok rfl rfl rfl rfl) (fun P_24 => ?_)
                        refine sim_end wf ⟨P_24 _, P_23 _, P_22 _, P_21 _, P_20 _, P_19 _, P_18 _, P_17 _, P_16 _, P_15 _, P_14 _, P_13 _, P_12 _, P_11 _, P_10 _, P_9 _, P_8 _, P_7 _, P_6 _, P_5 _, P_4 _, P_3 _, P_2 _, P_1 _, P_0 _, trivial⟩ (by kernel_rfl) ?_
                        clear wf P_0 P_1 P_10 P_11 P_12 P_13 P_14 P_15 P_16 P_17 P_18 P_19 P_2 P_20 P_21 P_22 P_23 P_24 P_3 P_4 P_5 P_6 P_7 P_8 P_9
                        exact x_join false H ⟨rfl, trivial⟩
        ·
          refine w_gif (d := 53) H rfl (fun H => ?_) (fun H => ?_)
          ·
            refine w_skip rfl rfl ?_
            refine w_skip rfl rfl ?_
            refine w_skip rfl rfl ?_
            refine w_skip rfl rfl ?_
            refine w_p tok rfl rfl rfl ?_
            exact w_jn true H ⟨rfl, rfl, rfl, rfl, rfl, rfl, trivial⟩
          ·
            refine w_p tok rfl rfl rfl ?_
            refine w_p tok rfl rfl rfl ?_
            obtain ⟨v109, hv109, H⟩ := H
            refine w_y (y_ld tok rfl rfl rfl rfl hv109) rfl rfl ?_
            refine w_p tok rfl rfl rfl ?_
            refine w_p tok rfl rfl rfl ?_
            exact w_jn (decide (p2 > v109)) H ⟨rfl, rfl, rfl, rfl, rfl, rfl, trivial⟩
      ·
        refine w_gif (d := 47) H rfl (fun H => ?_) (fun H => ?_)
        ·
          refine w_skip rfl rfl ?_
          refine w_skip rfl rfl ?_
          refine w_skip rfl rfl ?_
          refine w_skip rfl rfl ?_
          refine w_p tok rfl rfl rfl ?_
          exact w_jn true H ⟨rfl, rfl, rfl, rfl, rfl, rfl, trivial⟩
        ·
          refine w_p tok rfl rfl rfl ?_
          refine w_p tok rfl rfl rfl ?_
          obtain ⟨v110, hv110, H⟩ := H
          refine w_y (y_ld tok rfl rfl rfl rfl hv110) rfl rfl ?_
          refine w_p tok rfl rfl rfl ?_
          refine w_p tok rfl rfl rfl ?_
          exact w_jn (decide (p2 ≤ v110)) H ⟨rfl, rfl, rfl, rfl, rfl, rfl, trivial⟩
  ·
    refine w_gif (d := 22) H rfl (fun H => ?_) (fun H => ?_)
    ·
      refine w_skip rfl rfl ?_
      refine w_skip rfl rfl ?_
      refine w_skip rfl rfl ?_
      refine w_skip rfl rfl ?_
      refine w_p tok rfl rfl rfl ?_
      exact w_jn true H ⟨rfl, rfl, rfl, rfl, rfl, trivial⟩
    ·
      refine w_p tok rfl rfl rfl ?_
      obtain ⟨v111, hv111, H⟩ := H
      refine w_y (y_ld tok rfl rfl rfl rfl hv111) rfl rfl ?_
      refine w_p tok rfl rfl rfl ?_
      refine w_p tok rfl rfl rfl ?_
      refine w_p tok rfl rfl rfl ?_
      exact w_jn (decide ((v111.size : Int) > 400)) H ⟨rfl, rfl, rfl, rfl, rfl, trivial⟩

theorem law19_by_ok : CallOk Go.Proofs.Try.prog 20 := ⟨_, Go.Proofs.Try.func20, by kernel_rfl, by kernel_rfl⟩
theorem law19_by_ref (p0 : S_api_Query) (p1 : Int) (p2 : Slc) (p3 : Int) (k : (Slc × Int) → Heap → Prop) (h : Heap) (H : law19_by p0 p1 p2 p3 k h) : CallsH Go.Proofs.Try.prog 20 #[.agg (S_api_Query.cs p0).toArray, .int .i64 p1, Slc.v p2, .int .i64 p3] h (fun v h' => ∃ r : Slc × Int, v = .tuple #[Slc.v r.1, .int .i64 r.2] ∧ k r h') := by
  refine f_enter (N := 18) Go.Proofs.Try.func20 rfl rfl rfl (fun w0 => ?_)
  unfold law19_by at H
  refine c_weak [(0, .agg (S_api_Query.cs p0).toArray), (1, .int .i64 p1), (2, Slc.v p2), (3, .int .i64 p3)] ⟨rfl, rfl, rfl, rfl, trivial⟩ ?_
  refine c_seq ?_
  refine c_region ?_
  obtain ⟨b1, h2, eb1, eh2, H⟩ := H
  refine w_h (h_box rfl rfl eb1 eh2) rfl rfl ?_
  refine w_p tok rfl rfl rfl ?_
  refine w_p tok rfl rfl rfl ?_
  refine w_end ?_
  refine x_seq ?_
  refine c_seq ?_
  refine c_region ?_
  refine w_p tok rfl rfl rfl ?_
  refine w_p tok rfl rfl rfl ?_
  obtain ⟨h3, wh3, eh3, H⟩ := H
  refine w_h (h_st tok rfl rfl rfl rfl rfl rfl wh3 eh3) rfl rfl ?_
  refine w_end ?_
  refine x_seq ?_
  refine c_seq ?_
  refine c_region ?_
  obtain ⟨v4, hv4, H⟩ := H
  refine w_y (y_lda tok rfl rfl rfl rfl rfl hv4) rfl rfl ?_
  refine w_p tok rfl rfl rfl ?_
  refine w_p tok rfl rfl rfl ?_
  refine w_call query_Run_ok (query_Run_ref _ _ _ _ _ H) rfl rfl rfl rfl ?_
  rintro _ h6 ⟨r5, rfl, H⟩
  refine w_p tok rfl rfl rfl ?_
  refine w_p tok rfl rfl rfl ?_
  refine w_p tok rfl rfl rfl ?_
  refine w_p tok rfl rfl rfl ?_
  refine w_end ?_
  refine x_seq ?_
  refine c_weak [(8, Slc.v r5.1), (9, .int .i64 r5.2)] ⟨rfl, rfl, trivial⟩ ?_
  refine c_ret ?_
  exact x_ret _ rfl _ rfl ⟨(r5.1, r5.2), rfl, H⟩

theorem law19_QueryBounds_ok : CallOk Go.Proofs.Try.prog 6 := ⟨_, Go.Proofs.Try.func6, by kernel_rfl, by kernel_rfl⟩
theorem law19_QueryBounds_ref (p0 : S_api_Query) (p1 : Slc) (p2 : Int) (k : (Bool) → Heap → Prop) (h : Heap) (H : law19_QueryBounds p0 p1 p2 k h) : CallsH Go.Proofs.Try.prog 6 #[.agg (S_api_Query.cs p0).toArray, Slc.v p1, .int .i64 p2] h (fun v h' => ∃ r : Bool, v = .bool r ∧ k r h') := by
  refine f_enter (N := 190) Go.Proofs.Try.func6 rfl rfl rfl (fun w0 => ?_)
  unfold law19_QueryBounds at H
  refine c_weak [(0, .agg (S_api_Query.cs p0).toArray), (1, Slc.v p1), (2, .int .i64 p2)] ⟨rfl, rfl, rfl, trivial⟩ ?_
  refine c_seq ?_
  refine c_region ?_
  obtain ⟨b1, h2, eb1, eh2, H⟩ := H
  refine w_h (h_box rfl rfl eb1 eh2) rfl rfl ?_
  refine w_p tok rfl rfl rfl ?_
  refine w_end ?_
  refine x_seq ?_
  refine c_seq ?_
  refine c_seq ?_
  refine c_region ?_
  refine w_p tok rfl rfl rfl ?_
  refine w_call ref13_Great_ok (ref13_Great_ref _ _ _ _ H) rfl rfl rfl rfl ?_
  rintro _ h4 ⟨r3, rfl, H⟩
  refine w_p tok rfl rfl rfl ?_
  refine w_cut 5 (α := Bool) (fun (s : Bool) => [(28, .bool s), (1, Slc.v p1), (2, .int .i64 p2), (3, .pointer (some (⟨b1, 0, none⟩ : Addr)))]) (fun (s : Bool) h => law19_QueryBounds_g1 p1 p2 (⟨b1, 0, none⟩ : Addr) s k h) ?_ ?_
  ·
    rintro t28_1 h_1 H
    replace H : law19_QueryBounds_g1 p1 p2 (⟨b1, 0, none⟩ : Addr) t28_1 k h_1 := H
    unfold law19_QueryBounds_g1 at H
    refine w_weak [(28, .bool t28_1), (1, Slc.v p1), (2, .int .i64 p2), (3, .pointer (some (⟨b1, 0, none⟩ : Addr)))] ⟨rfl, rfl, rfl, rfl, trivial⟩ ?_
    refine w_end ?_
    refine x_seq ?_
    refine c_if H rfl (fun H => ?_) (fun H => ?_)
    ·
      refine c_seq ?_
      refine c_region ?_
      refine w_call law19_awake_ok (law19_awake_ref  _ _ H) rfl rfl rfl rfl ?_
      rintro _ h6 ⟨r5, rfl, H⟩
      refine w_p tok rfl rfl rfl ?_
      refine w_end ?_
      refine x_seq ?_
      refine c_ret ?_
      refine x_tr ?_
      exact x_ret _ rfl _ rfl ⟨r5, rfl, H⟩
    ·
      refine c_skip ?_
      refine x_seq ?_
      refine c_seq ?_
      refine c_region ?_
      obtain ⟨v7, hv7, H⟩ := H
      refine w_y (y_lda tok rfl rfl rfl rfl rfl hv7) rfl rfl ?_
      refine w_p tok rfl rfl rfl ?_
      refine w_p tok rfl rfl rfl ?_
      refine w_call law19_by_ok (law19_by_ref _ _ _ _ _ _ H) rfl rfl rfl rfl ?_
      rintro _ h9 ⟨r8, rfl, H⟩
      refine w_p tok rfl rfl rfl ?_
      refine w_p tok rfl rfl rfl ?_
      refine w_p tok rfl rfl rfl ?_
      refine w_p tok rfl rfl rfl ?_
      refine w_p tok rfl rfl rfl ?_
      refine w_end ?_
      refine x_seq ?_
      refine c_weak [(1, Slc.v p1), (2, .int .i64 p2), (3, .pointer (some (⟨b1, 0, none⟩ : Addr))), (7, Slc.v r8.1), (8, .int .i64 r8.2)] ⟨rfl, rfl, rfl, rfl, rfl, trivial⟩ ?_
      refine c_seq ?_
      refine c_region ?_
      obtain ⟨v10, hv10, H⟩ := H
      refine w_y (y_lda tok rfl rfl rfl rfl rfl hv10) rfl rfl ?_
      refine w_p tok rfl rfl rfl ?_
      refine w_p tok rfl rfl rfl ?_
      refine w_call law19_by_ok (law19_by_ref _ _ _ _ _ _ H) rfl rfl rfl rfl ?_
      rintro _ h12 ⟨r11, rfl, H⟩
      refine w_p tok rfl rfl rfl ?_
      refine w_p tok rfl rfl rfl ?_
      refine w_p tok rfl rfl rfl ?_
      refine w_p tok rfl rfl rfl ?_
      refine w_p tok rfl rfl rfl ?_
      refine w_end ?_
      refine x_seq ?_
      refine c_weak [(1, Slc.v p1), (2, .int .i64 p2), (3, .pointer (some (⟨b1, 0, none⟩ : Addr))), (7, Slc.v r8.1), (8, .int .i64 r8.2), (9, Slc.v r11.1), (10, .int .i64 r11.2)] ⟨rfl, rfl, rfl, rfl, rfl, rfl, rfl, trivial⟩ ?_
      refine c_seq ?_
      refine c_region ?_
      obtain ⟨v13, hv13, H⟩ := H
      refine w_y (y_lda tok rfl rfl rfl rfl rfl hv13) rfl rfl ?_
      refine w_p tok rfl rfl rfl ?_
      refine w_p tok rfl rfl rfl ?_
      refine w_call law19_by_ok (law19_by_ref _ _ _ _ _ _ H) rfl rfl rfl rfl ?_
      rintro _ h15 ⟨r14, rfl, H⟩
      refine w_p tok rfl rfl rfl ?_
      refine w_p tok rfl rfl rfl ?_
      refine w_p tok rfl rfl rfl ?_
      refine w_p tok rfl rfl rfl ?_
      refine w_p tok rfl rfl rfl ?_
      refine w_end ?_
      refine x_seq ?_
      refine c_weak [(1, Slc.v p1), (2, .int .i64 p2), (3, .pointer (some (⟨b1, 0, none⟩ : Addr))), (7, Slc.v r8.1), (8, .int .i64 r8.2), (9, Slc.v r11.1), (10, .int .i64 r11.2), (11, Slc.v r14.1), (12, .int .i64 r14.2)] ⟨rfl, rfl, rfl, rfl, rfl, rfl, rfl, rfl, rfl, trivial⟩ ?_
      refine c_seq ?_
      refine c_region ?_
      obtain ⟨v16, hv16, H⟩ := H
      refine w_y (y_lda tok rfl rfl rfl rfl rfl hv16) rfl rfl ?_
      refine w_p tok rfl rfl rfl ?_
      refine w_p tok rfl rfl rfl ?_
      refine w_call law19_by_ok (law19_by_ref _ _ _ _ _ _ H) rfl rfl rfl rfl ?_
      rintro _ h18 ⟨r17, rfl, H⟩
      refine w_p tok rfl rfl rfl ?_
      refine w_p tok rfl rfl rfl ?_
      refine w_p tok rfl rfl rfl ?_
      refine w_p tok rfl rfl rfl ?_
      refine w_p tok rfl rfl rfl ?_
      refine w_end ?_
      refine x_seq ?_
      refine c_weak [(7, Slc.v r8.1), (8, .int .i64 r8.2), (9, Slc.v r11.1), (10, .int .i64 r11.2), (11, Slc.v r14.1), (12, .int .i64 r14.2), (13, Slc.v r17.1), (14, .int .i64 r17.2)] ⟨rfl, rfl, rfl, rfl, rfl, rfl, rfl, rfl, trivial⟩ ?_
      refine c_seq ?_
      refine c_seq ?_
      refine c_region ?_
      refine w_p tok rfl rfl rfl ?_
      refine w_p tok rfl rfl rfl ?_
      refine w_p tok rfl rfl rfl ?_
      refine w_p tok rfl rfl rfl ?_
      refine w_cutU 4 [(65, .bool ((r11.2 != r8.2) || (r14.2 != r8.2))), (7, Slc.v r8.1), (8, .int .i64 r8.2), (9, Slc.v r11.1), (11, Slc.v r14.1), (13, Slc.v r17.1), (14, .int .i64 r17.2)] ?_ ?_
      ·
        refine w_p tok rfl rfl rfl ?_
        refine w_cutU 4 [(70, .bool (((r11.2 != r8.2) || (r14.2 != r8.2)) || (r17.2 != r8.2))), (7, Slc.v r8.1), (9, Slc.v r11.1), (11, Slc.v r14.1), (13, Slc.v r17.1)] ?_ ?_
        ·
          refine w_p tok rfl rfl rfl ?_
          refine w_cutU 6 [(77, .bool ((((r11.2 != r8.2) || (r14.2 != r8.2)) || (r17.2 != r8.2)) || ((r11.1.len : Int) != (r14.1.len : Int)))), (7, Slc.v r8.1), (9, Slc.v r11.1), (11, Slc.v r14.1), (13, Slc.v r17.1)] ?_ ?_
          ·
            refine w_p tok rfl rfl rfl ?_
            refine w_cutU 6 [(84, .bool (((((r11.2 != r8.2) || (r14.2 != r8.2)) || (r17.2 != r8.2)) || ((r11.1.len : Int) != (r14.1.len : Int))) || ((r11.1.len : Int) != (r17.1.len : Int)))), (7, Slc.v r8.1), (9, Slc.v r11.1), (11, Slc.v r14.1), (13, Slc.v r17.1)] ?_ ?_
            ·
              refine w_end ?_
              refine x_seq ?_
              refine c_if H rfl (fun H => ?_) (fun H => ?_)
              ·
                refine c_seq ?_
                refine c_region ?_
                refine w_p tok rfl rfl rfl ?_
                refine w_end ?_
                refine x_seq ?_
                refine c_ret ?_
                refine x_tr ?_
                exact x_ret _ rfl _ rfl ⟨false, rfl, H⟩
              ·
                refine c_skip ?_
                refine x_seq ?_
                refine c_seq ?_
                refine c_region ?_
                refine w_p tok rfl rfl rfl ?_
                refine w_end ?_
                refine x_seq ?_
                refine c_seq ?_
                refine c_seq ?_
                refine c_region ?_
                refine w_p tok rfl rfl rfl ?_
                refine w_end ?_
                refine x_seq ?_
                refine c_block ?_
                obtain ⟨I2, μ2, H0, HI⟩ := H
                refine c_loop (σ := Int × Int) (fun (s : Int × Int) => [(15, .int .i64 s.1), (16, .int .i64 s.2), (7, Slc.v r8.1), (9, Slc.v r11.1), (11, Slc.v r14.1), (13, Slc.v r17.1)]) I2 μ2 (0, 0) H0 ⟨rfl, rfl, rfl, rfl, rfl, rfl, trivial⟩ ?_
                rintro ⟨t15_2, t16_2⟩ h_2 H
                replace H := HI t15_2 t16_2 h_2 H
                unfold law19_QueryBounds_l2b at H
                refine c_weak [(15, .int .i64 t15_2), (16, .int .i64 t16_2), (7, Slc.v r8.1), (9, Slc.v r11.1), (11, Slc.v r14.1), (13, Slc.v r17.1)] ⟨rfl, rfl, rfl, rfl, rfl, rfl, trivial⟩ ?_
                refine c_seq ?_
                refine c_seq ?_
                refine c_region ?_
                refine w_p tok rfl rfl rfl ?_
                refine w_p tok rfl rfl rfl ?_
                refine w_p tok rfl rfl rfl ?_
                refine w_p tok rfl rfl rfl ?_
                refine w_end ?_
                refine x_seq ?_
                refine c_if H rfl (fun H => ?_) (fun H => ?_)
                ·
                  refine c_skip ?_
                  refine x_seq ?_
                  refine c_seq ?_
                  refine c_block ?_
                  refine c_seq ?_
                  refine c_region ?_
                  refine w_p tok rfl rfl rfl ?_
                  refine w_p tok rfl rfl rfl ?_
                  refine w_p tok rfl rfl rfl ?_
                  refine w_end ?_
                  refine x_seq ?_
                  refine c_seq ?_
                  refine c_block ?_
                  obtain ⟨I3, μ3, H0, HI⟩ := H
                  refine c_loop (σ := Int × Int × Bool × Bool) (fun (s : Int × Int × Bool × Bool) => [(15, .int .i64 s.1), (17, .int .i64 s.2.1), (18, .bool s.2.2.1), (19, .bool s.2.2.2), (7, Slc.v r8.1), (9, Slc.v r11.1), (11, Slc.v r14.1), (13, Slc.v r17.1), (16, .int .i64 t16_2)]) I3 μ3 (t15_2, 0, false, false) H0 ⟨rfl, rfl, rfl, rfl, rfl, rfl, rfl, rfl, rfl, trivial⟩ ?_
                  rintro ⟨t15_3, t17_3, t18_3, t19_3⟩ h_3 H
                  replace H := HI t15_3 t17_3 t18_3 t19_3 h_3 H
                  unfold law19_QueryBounds_l3b at H
                  refine c_weak [(15, .int .i64 t15_3), (17, .int .i64 t17_3), (18, .bool t18_3), (19, .bool t19_3), (7, Slc.v r8.1), (9, Slc.v r11.1), (11, Slc.v r14.1), (13, Slc.v r17.1), (16, .int .i64 t16_2)] ⟨rfl, rfl, rfl, rfl, rfl, rfl, rfl, rfl, rfl, trivial⟩ ?_
                  refine c_seq ?_
                  refine c_seq ?_
                  refine c_draw (by kernel_rfl) (by kernel_rfl) ?_
                  refine q_p tok rfl rfl rfl ?_
                  refine q_p tok rfl rfl rfl ?_
                  refine q_p tok rfl rfl rfl ?_
                  refine q_p tok rfl rfl rfl ?_
                  refine q_p tok rfl rfl rfl ?_
                  refine q_cut 12 (α := Bool) (fun (s : Bool) => [(107, .bool s), (7, Slc.v r8.1), (9, Slc.v r11.1), (11, Slc.v r14.1), (13, Slc.v r17.1), (15, .int .i64 t15_3), (16, .int .i64 t16_2), (17, .int .i64 t17_3), (18, .bool t18_3), (19, .bool t19_3)]) (fun (s : Bool) => law19_QueryBounds_g4 r8.1 r11.1 r14.1 r17.1 t15_3 t16_2 t17_3 t18_3 t19_3 s k (fun s h' => I2 s h' ∧ μ2 s h' < μ2 (t15_2, t16_2) h_2) (fun s h' => I3 s h' ∧ μ3 s h' < μ3 (t15_3, t17_3, t18_3, t19_3) h_3) h_3) ?_ ?_
                  ·
                    rintro t107_4 H
                    replace H : law19_QueryBounds_g4 r8.1 r11.1 r14.1 r17.1 t15_3 t16_2 t17_3 t18_3 t19_3 t107_4 k (fun s h' => I2 s h' ∧ μ2 s h' < μ2 (t15_2, t16_2) h_2) (fun s h' => I3 s h' ∧ μ3 s h' < μ3 (t15_3, t17_3, t18_3, t19_3) h_3) h_3 := H
                    unfold law19_QueryBounds_g4 at H
                    refine q_weak [(107, .bool t107_4), (7, Slc.v r8.1), (9, Slc.v r11.1), (11, Slc.v r14.1), (13, Slc.v r17.1), (15, .int .i64 t15_3), (16, .int .i64 t16_2), (17, .int .i64 t17_3), (18, .bool t18_3), (19, .bool t19_3)] ⟨rfl, rfl, rfl, rfl, rfl, rfl, rfl, rfl, rfl, rfl, trivial⟩ ?_
                    refine q_end ?_
                    refine x_seq ?_
                    refine c_if H rfl (fun H => ?_) (fun H => ?_)
                    ·
                      refine c_skip ?_
                      refine x_seq ?_
                      refine c_block ?_
                      refine c_seq ?_
                      refine c_region ?_
                      refine w_p tok rfl rfl rfl ?_
                      refine w_p tok rfl rfl rfl ?_
                      obtain ⟨a19, ha19, la19, ua19, H⟩ := H
                      refine w_y (y_ixa' tok rfl rfl ha19 rfl rfl rfl la19 ua19) rfl rfl ?_
                      refine w_p tok rfl rfl rfl ?_
                      obtain ⟨v20, hv20, H⟩ := H
                      refine w_y (y_lda tok rfl rfl rfl rfl rfl hv20) rfl rfl ?_
                      obtain ⟨b21, h22, eb21, eh22, H⟩ := H
                      refine w_h (h_alloc tok rfl rfl eb21 eh22) rfl rfl ?_
                      obtain ⟨h23, wh23, eh23, H⟩ := H
                      refine w_h (h_sts tok rfl rfl rfl rfl rfl (oneC (by kernel_rfl)) wh23 eh23) rfl rfl ?_
                      refine w_end ?_
                      refine x_seq ?_
                      refine c_seq ?_
                      refine c_seqJ (α := Bool) (fun (s : Bool) => [(128, .bool s), (7, Slc.v r8.1), (9, Slc.v r11.1), (11, Slc.v r14.1), (13, Slc.v r17.1), (15, .int .i64 t15_3), (16, .int .i64 t16_2), (17, .int .i64 t17_3), (18, .bool t18_3), (19, .bool t19_3), (20, .pointer (some (⟨b21, 0, none⟩ : Addr)))]) (fun (s : Bool) h => law19_QueryBounds_j5 r8.1 r11.1 r14.1 r17.1 t15_3 t16_2 t17_3 t18_3 t19_3 (⟨b21, 0, none⟩ : Addr) s k (fun s h' => I2 s h' ∧ μ2 s h' < μ2 (t15_2, t16_2) h_2) (fun s h' => I3 s h' ∧ μ3 s h' < μ3 (t15_3, t17_3, t18_3, t19_3) h_3) h) ?_ ?_
                      ·
                        rintro t128_5 h_5 H
                        replace H : law19_QueryBounds_j5 r8.1 r11.1 r14.1 r17.1 t15_3 t16_2 t17_3 t18_3 t19_3 (⟨b21, 0, none⟩ : Addr) t128_5 k (fun s h' => I2 s h' ∧ μ2 s h' < μ2 (t15_2, t16_2) h_2) (fun s h' => I3 s h' ∧ μ3 s h' < μ3 (t15_3, t17_3, t18_3, t19_3) h_3) h_5 := H
                        unfold law19_QueryBounds_j5 at H
                        refine c_weak [(128, .bool t128_5), (7, Slc.v r8.1), (9, Slc.v r11.1), (11, Slc.v r14.1), (13, Slc.v r17.1), (15, .int .i64 t15_3), (16, .int .i64 t16_2), (17, .int .i64 t17_3), (18, .bool t18_3), (19, .bool t19_3), (20, .pointer (some (⟨b21, 0, none⟩ : Addr)))] ⟨rfl, rfl, rfl, rfl, rfl, rfl, rfl, rfl, rfl, rfl, rfl, trivial⟩ ?_
                        refine c_if H rfl (fun H => ?_) (fun H => ?_)
                        ·
                          refine c_seq ?_
                          refine c_region ?_
                          refine w_p tok rfl rfl rfl ?_
                          refine w_end ?_
                          refine x_seq ?_
                          refine c_weak [(6, .bool false)] ⟨rfl, trivial⟩ ?_
                          refine c_ret ?_
                          refine x_tr ?_
                          refine x_br ?_
                          refine x_tr ?_
                          refine x_br ?_
                          refine x_tr ?_
                          refine x_br ?_
                          refine x_tr ?_
                          refine x_tr ?_
                          refine x_br ?_
                          refine x_tr ?_
                          exact x_ret _ rfl _ rfl ⟨false, rfl, H⟩
                        ·
                          refine c_skip ?_
                          refine x_seq ?_
                          refine c_seq ?_
                          refine c_draw (by kernel_rfl) (by kernel_rfl) ?_
                          refine q_p tok rfl rfl rfl ?_
                          refine q_p tok rfl rfl rfl ?_
                          refine q_cut 8 (α := Bool) (fun (s : Bool) => [(138, .bool s), (7, Slc.v r8.1), (9, Slc.v r11.1), (11, Slc.v r14.1), (13, Slc.v r17.1), (15, .int .i64 t15_3), (16, .int .i64 t16_2), (17, .int .i64 t17_3), (19, .bool t19_3), (20, .pointer (some (⟨b21, 0, none⟩ : Addr)))]) (fun (s : Bool) => law19_QueryBounds_g6 r8.1 r11.1 r14.1 r17.1 t15_3 t16_2 t17_3 t19_3 (⟨b21, 0, none⟩ : Addr) s k (fun s h' => I2 s h' ∧ μ2 s h' < μ2 (t15_2, t16_2) h_2) (fun s h' => I3 s h' ∧ μ3 s h' < μ3 (t15_3, t17_3, t18_3, t19_3) h_3) h_5) ?_ ?_
                          ·
                            rintro t138_6 H
                            replace H : law19_QueryBounds_g6 r8.1 r11.1 r14.1 r17.1 t15_3 t16_2 t17_3 t19_3 (⟨b21, 0, none⟩ : Addr) t138_6 k (fun s h' => I2 s h' ∧ μ2 s h' < μ2 (t15_2, t16_2) h_2) (fun s h' => I3 s h' ∧ μ3 s h' < μ3 (t15_3, t17_3, t18_3, t19_3) h_3) h_5 := H
                            unfold law19_QueryBounds_g6 at H
                            refine q_weak [(138, .bool t138_6), (7, Slc.v r8.1), (9, Slc.v r11.1), (11, Slc.v r14.1), (13, Slc.v r17.1), (15, .int .i64 t15_3), (16, .int .i64 t16_2), (17, .int .i64 t17_3), (19, .bool t19_3), (20, .pointer (some (⟨b21, 0, none⟩ : Addr)))] ⟨rfl, rfl, rfl, rfl, rfl, rfl, rfl, rfl, rfl, rfl, trivial⟩ ?_
                            refine q_p tok rfl rfl rfl ?_
                            refine q_end ?_
                            refine x_seq ?_
                            refine c_seq ?_
                            refine c_draw (by kernel_rfl) (by kernel_rfl) ?_
                            refine q_p tok rfl rfl rfl ?_
                            refine q_p tok rfl rfl rfl ?_
                            refine q_cut 8 (α := Bool) (fun (s : Bool) => [(148, .bool s), (7, Slc.v r8.1), (9, Slc.v r11.1), (11, Slc.v r14.1), (13, Slc.v r17.1), (15, .int .i64 t15_3), (16, .int .i64 t16_2), (17, .int .i64 t17_3), (18, .bool t138_6)]) (fun (s : Bool) => law19_QueryBounds_g7 r8.1 r11.1 r14.1 r17.1 t15_3 t16_2 t17_3 t138_6 s k (fun s h' => I2 s h' ∧ μ2 s h' < μ2 (t15_2, t16_2) h_2) (fun s h' => I3 s h' ∧ μ3 s h' < μ3 (t15_3, t17_3, t18_3, t19_3) h_3) h_5) ?_ ?_
                            ·
                              rintro t148_7 H
                              replace H : law19_QueryBounds_g7 r8.1 r11.1 r14.1 r17.1 t15_3 t16_2 t17_3 t138_6 t148_7 k (fun s h' => I2 s h' ∧ μ2 s h' < μ2 (t15_2, t16_2) h_2) (fun s h' => I3 s h' ∧ μ3 s h' < μ3 (t15_3, t17_3, t18_3, t19_3) h_3) h_5 := H
                              unfold law19_QueryBounds_g7 at H
                              refine q_weak [(148, .bool t148_7), (7, Slc.v r8.1), (9, Slc.v r11.1), (11, Slc.v r14.1), (13, Slc.v r17.1), (15, .int .i64 t15_3), (16, .int .i64 t16_2), (17, .int .i64 t17_3), (18, .bool t138_6)] ⟨rfl, rfl, rfl, rfl, rfl, rfl, rfl, rfl, rfl, trivial⟩ ?_
                              refine q_p tok rfl rfl rfl ?_
                              refine q_end ?_
                              refine x_seq ?_
                              refine c_seq ?_
                              refine c_region ?_
                              refine w_p tok rfl rfl rfl ?_
                              refine w_p tok rfl rfl rfl ?_
                              obtain ⟨x24, ex24, H⟩ := H
                              refine w_pe tok rfl (congrArg (fun z => (.int .i64 z : Value)) ex24) rfl rfl ?_
                              refine w_end ?_
                              refine x_seq ?_
                              refine c_region ?_
                              refine w_p tok rfl rfl rfl ?_
                              refine w_p tok rfl rfl rfl ?_
                              obtain ⟨x25, ex25, H⟩ := H
                              refine w_pe tok rfl (congrArg (fun z => (.int .i64 z : Value)) ex25) rfl rfl ?_
                              refine w_end ?_
                              refine x_blk ?_
                              exact x_join (x25, x24, t138_6, t148_7) H ⟨rfl, rfl, rfl, rfl, rfl, rfl, rfl, rfl, rfl, trivial⟩
                            ·
                              refine q_gif (d := 140) H rfl (fun H => ?_) (fun H => ?_)
                              ·
                                refine q_skip rfl rfl ?_
                                refine q_skip rfl rfl ?_
                                refine q_skip rfl rfl ?_
                                refine q_skip rfl rfl ?_
                                refine q_skip rfl rfl ?_
                                refine q_skip rfl rfl ?_
                                refine q_skip rfl rfl ?_
                                refine q_p tok rfl rfl rfl ?_
                                exact q_jn true H ⟨rfl, rfl, rfl, rfl, rfl, rfl, rfl, rfl, rfl, trivial⟩
                              ·
                                obtain ⟨v26, hv26, H⟩ := H
                                refine q_y (y_lda tok rfl rfl rfl rfl rfl hv26) rfl rfl ?_
                                refine q_p tok rfl rfl rfl ?_
                                refine q_p tok rfl rfl rfl ?_
                                obtain ⟨a27, ha27, la27, ua27, H⟩ := H
                                refine q_y (y_ixa' tok rfl rfl ha27 rfl rfl rfl la27 ua27) rfl rfl ?_
                                refine q_p tok rfl rfl rfl ?_
                                obtain ⟨v28, hv28, H⟩ := H
                                refine q_y (y_lda tok rfl rfl rfl rfl rfl hv28) rfl rfl ?_
                                refine q_y (y_eqs (op := .eql) (xs := S_api_Wide.cs v26) (ys := S_api_Wide.cs v28) (.inl rfl) rfl rfl rfl (eqv47_S_api_Wide v26 v28) (by kernel_rfl)) rfl rfl ?_
                                refine q_p tok rfl rfl rfl ?_
                                exact q_jn (if BinOp.eql = .eql then ((v26.f_Hi == v28.f_Hi) && (v26.f_Lo == v28.f_Lo)) else !((v26.f_Hi == v28.f_Hi) && (v26.f_Lo == v28.f_Lo))) H ⟨rfl, rfl, rfl, rfl, rfl, rfl, rfl, rfl, rfl, trivial⟩
                          ·
                            refine q_gif (d := 130) H rfl (fun H => ?_) (fun H => ?_)
                            ·
                              refine q_skip rfl rfl ?_
                              refine q_skip rfl rfl ?_
                              refine q_skip rfl rfl ?_
                              refine q_skip rfl rfl ?_
                              refine q_skip rfl rfl ?_
                              refine q_skip rfl rfl ?_
                              refine q_skip rfl rfl ?_
                              refine q_p tok rfl rfl rfl ?_
                              exact q_jn true H ⟨rfl, rfl, rfl, rfl, rfl, rfl, rfl, rfl, rfl, rfl, trivial⟩
                            ·
                              obtain ⟨v29, hv29, H⟩ := H
                              refine q_y (y_lda tok rfl rfl rfl rfl rfl hv29) rfl rfl ?_
                              refine q_p tok rfl rfl rfl ?_
                              refine q_p tok rfl rfl rfl ?_
                              obtain ⟨a30, ha30, la30, ua30, H⟩ := H
                              refine q_y (y_ixa' tok rfl rfl ha30 rfl rfl rfl la30 ua30) rfl rfl ?_
                              refine q_p tok rfl rfl rfl ?_
                              obtain ⟨v31, hv31, H⟩ := H
                              refine q_y (y_lda tok rfl rfl rfl rfl rfl hv31) rfl rfl ?_
                              refine q_y (y_eqs (op := .eql) (xs := S_api_Wide.cs v29) (ys := S_api_Wide.cs v31) (.inl rfl) rfl rfl rfl (eqv47_S_api_Wide v29 v31) (by kernel_rfl)) rfl rfl ?_
                              refine q_p tok rfl rfl rfl ?_
                              exact q_jn (if BinOp.eql = .eql then ((v29.f_Hi == v31.f_Hi) && (v29.f_Lo == v31.f_Lo)) else !((v29.f_Hi == v31.f_Hi) && (v29.f_Lo == v31.f_Lo))) H ⟨rfl, rfl, rfl, rfl, rfl, rfl, rfl, rfl, rfl, rfl, trivial⟩
                      ·
                        refine c_sim [(7, Slc.v r8.1), (9, Slc.v r11.1), (11, Slc.v r14.1), (13, Slc.v r17.1), (15, .int .i64 t15_3), (16, .int .i64 t16_2), (17, .int .i64 t17_3), (18, .bool t18_3), (19, .bool t19_3), (20, .pointer (some (⟨b21, 0, none⟩ : Addr)))] (by kernel_rfl) (by kernel_rfl) ⟨rfl, rfl, rfl, rfl, rfl, rfl, rfl, rfl, rfl, rfl, trivial⟩ (fun wf => ?_)
                        obtain ⟨v32, hv32, H⟩ := H
                        refine sL 0 [(20, .pointer (some (⟨b21, 0, none⟩ : Addr)))] (some 113) wf ⟨rfl, trivial⟩ (pf_y rfl rfl rfl (y_lda tok rfl rfl rfl rfl rfl hv32)) (fun P_0 => ?_)
                        refine sP 1 [(9, Slc.v r11.1)] (some 114) wf ⟨rfl, trivial⟩ (fun _ => pf_p tok rfl rfl rfl rfl) (fun P_1 => ?_)
                        refine sP 2 [(16, .int .i64 t16_2)] (some 115) wf ⟨rfl, trivial⟩ (fun _ => pf_p tok rfl rfl rfl rfl) (fun P_2 => ?_)
                        obtain ⟨a33, ha33, la33, ua33, H⟩ := H
                        refine sP 3 [(114, Slc.v r11.1), (115, .int .i64 t16_2)] (some 116) wf ⟨rfl, rfl, trivial⟩ (fun _ => pf_y rfl rfl rfl (y_ixa' tok rfl rfl ha33 rfl rfl rfl la33 ua33)) (fun P_3 => ?_)
                        refine sP 4 [(116, .pointer (some (a33.add (t16_2.toNat * 4))))] (some 117) wf ⟨rfl, trivial⟩ (fun _ => pf_p tok rfl rfl rfl rfl) (fun P_4 => ?_)
                        obtain ⟨v34, hv34, H⟩ := H
                        refine sL 5 [(117, .pointer (some ((a33.add (t16_2.toNat * 4)).add 2)))] (some 118) wf ⟨rfl, trivial⟩ (pf_y rfl rfl rfl (y_lda tok rfl rfl rfl rfl rfl hv34)) (fun P_5 => ?_)
                        refine sim_c 6 [0, 1, 2, 3, 4, 5] [0, 1, 2, 3, 4, 5] (ei := [(113, .agg (S_api_Wide.cs v32).toArray), (118, .agg (S_api_Wide.cs v34).toArray)]) ref01_Less_ok (ref01_Less_ref _ _ _ _ H) wf ⟨P_5, P_4 _, P_3 _, P_2 _, P_1 _, P_0, trivial⟩ (by kernel_rfl) ⟨rfl, rfl, trivial⟩ (by kernel_rfl) rfl rfl rfl rfl rfl ?_
                        rintro _ h36 ⟨r35, rfl, H⟩
                        refine sP 7 [(119, .bool r35)] (some 120) wf ⟨rfl, trivial⟩ (fun _ => pf_p tok rfl rfl rfl rfl) (fun P_7 => ?_)
                        refine sim_gif 120 H rfl (fun hb H => ?_) (fun hb H => ?_)
                        ·
                          refine sim_p 8 (v := undef) (ei := [(11, Slc.v r14.1), (120, .bool true)]) (d := (some 121)) wf (by kernel_rfl) ⟨rfl, rfl, trivial⟩ (by kernel_rfl) (by kernel_rfl) (fun _ => pf_s rfl rfl rfl) (fun P_8 => ?_)
                          refine sim_p 9 (v := undef) (ei := [(16, .int .i64 t16_2), (120, .bool true)]) (d := (some 122)) wf (by kernel_rfl) ⟨rfl, rfl, trivial⟩ (by kernel_rfl) (by kernel_rfl) (fun _ => pf_s rfl rfl rfl) (fun P_9 => ?_)
                          refine sim_p 10 (v := undef) (ei := [(120, .bool true), (121, undef), (122, undef)]) (d := (some 123)) wf (by kernel_rfl) ⟨rfl, rfl, rfl, trivial⟩ (by kernel_rfl) (by kernel_rfl) (fun _ => pf_s rfl rfl rfl) (fun P_10 => ?_)
                          refine sim_p 11 (v := undef) (ei := [(120, .bool true), (123, undef)]) (d := (some 124)) wf (by kernel_rfl) ⟨rfl, rfl, trivial⟩ (by kernel_rfl) (by kernel_rfl) (fun _ => pf_s rfl rfl rfl) (fun P_11 => ?_)
                          refine sim_p 12 (v := undef) (ei := [(120, .bool true), (124, undef)]) (d := (some 125)) wf (by kernel_rfl) ⟨rfl, rfl, trivial⟩ (by kernel_rfl) (by kernel_rfl) (fun _ => pf_s rfl rfl rfl) (fun P_12 => ?_)
                          refine sim_p 13 (v := undef) (ei := [(20, .pointer (some (⟨b21, 0, none⟩ : Addr))), (120, .bool true)]) (d := (some 126)) wf (by kernel_rfl) ⟨rfl, rfl, trivial⟩ (by kernel_rfl) (by kernel_rfl) (fun _ => pf_s rfl rfl rfl) (fun P_13 => ?_)
                          refine sim_p 14 (v := undef) (ei := [(120, .bool true), (125, undef), (126, undef)]) (d := (some 127)) wf (by kernel_rfl) ⟨rfl, rfl, rfl, trivial⟩ (by kernel_rfl) (by kernel_rfl) (fun _ => pf_s rfl rfl rfl) (fun P_14 => ?_)
                          refine sP 15 [(120, .bool true), (127, undef)] (some 128) wf ⟨rfl, rfl, trivial⟩ (fun _ => pf_p tok rfl rfl rfl rfl) (fun P_15 => ?_)
                          refine sim_end wf ⟨P_15 _, P_14 _, P_13 _, P_12 _, P_11 _, P_10 _, P_9 _, P_8 _, P_7 _, trivial, trivial, trivial, trivial, trivial, trivial, trivial⟩ (by kernel_rfl) ?_
                          clear wf P_0 P_1 P_10 P_11 P_12 P_13 P_14 P_15 P_2 P_3 P_4 P_5 P_7 P_8 P_9
                          exact x_join true H ⟨rfl, rfl, rfl, rfl, rfl, rfl, rfl, rfl, rfl, rfl, rfl, trivial⟩
                        ·
                          refine sP 8 [(11, Slc.v r14.1), (120, .bool false)] (some 121) wf ⟨rfl, rfl, trivial⟩ (fun _ => pf_p tok rfl rfl rfl rfl) (fun P_8 => ?_)
                          refine sP 9 [(16, .int .i64 t16_2), (120, .bool false)] (some 122) wf ⟨rfl, rfl, trivial⟩ (fun _ => pf_p tok rfl rfl rfl rfl) (fun P_9 => ?_)
                          obtain ⟨a37, ha37, la37, ua37, H⟩ := H
                          refine sP 10 [(120, .bool false), (121, Slc.v r14.1), (122, .int .i64 t16_2)] (some 123) wf ⟨rfl, rfl, rfl, trivial⟩ (fun _ => pf_y rfl rfl rfl (y_ixa' tok rfl rfl ha37 rfl rfl rfl la37 ua37)) (fun P_10 => ?_)
                          refine sP 11 [(120, .bool false), (123, .pointer (some (a37.add (t16_2.toNat * 4))))] (some 124) wf ⟨rfl, rfl, trivial⟩ (fun _ => pf_p tok rfl rfl rfl rfl) (fun P_11 => ?_)
                          obtain ⟨v38, hv38, H⟩ := H
                          refine sL 12 [(120, .bool false), (124, .pointer (some ((a37.add (t16_2.toNat * 4)).add 2)))] (some 125) wf ⟨rfl, rfl, trivial⟩ (pf_y rfl rfl rfl (y_lda tok rfl rfl rfl rfl rfl hv38)) (fun P_12 => ?_)
                          obtain ⟨v39, hv39, H⟩ := H
                          refine sL 13 [(20, .pointer (some (⟨b21, 0, none⟩ : Addr))), (120, .bool false)] (some 126) wf ⟨rfl, rfl, trivial⟩ (pf_y rfl rfl rfl (y_lda tok rfl rfl rfl rfl rfl hv39)) (fun P_13 => ?_)
                          refine sim_c 14 [0, 1, 2, 3, 4, 5, 6, 7, 8, 9, 10, 11, 12, 13] [0, 1, 2, 3, 4, 5, 7, 8, 9, 10, 11, 12, 13] (ei := [(120, .bool false), (125, .agg (S_api_Wide.cs v38).toArray), (126, .agg (S_api_Wide.cs v39).toArray)]) ref01_Less_ok (ref01_Less_ref _ _ _ _ H) wf ⟨P_13, P_12, P_11 _, P_10 _, P_9 _, P_8 _, P_7 _, trivial, trivial, trivial, trivial, trivial, trivial, trivial⟩ (by kernel_rfl) ⟨rfl, rfl, rfl, trivial⟩ (by kernel_rfl) rfl rfl rfl rfl rfl ?_
                          rintro _ h41 ⟨r40, rfl, H⟩
                          refine sP 15 [(120, .bool false), (127, .bool r40)] (some 128) wf ⟨rfl, rfl, trivial⟩ (fun _ => pf_p tok rfl rfl rfl rfl) (fun P_15 => ?_)
                          refine sim_end wf ⟨P_15 _, trivial, trivial, trivial, trivial, trivial, trivial, trivial, trivial, trivial, trivial, trivial, trivial, trivial, trivial⟩ (by kernel_rfl) ?_
                          clear wf P_0 P_1 P_10 P_11 P_12 P_13 P_15 P_2 P_3 P_4 P_5 P_7 P_8 P_9
                          exact x_join r40 H ⟨rfl, rfl, rfl, rfl, rfl, rfl, rfl, rfl, rfl, rfl, rfl, trivial⟩
                    ·
                      refine c_exit ?_
                      refine x_te ?_
                      refine x_te ?_
                      refine x_bh ?_
                      refine x_seq ?_
                      refine c_seq ?_
                      refine c_draw (by kernel_rfl) (by kernel_rfl) ?_
                      refine q_p tok rfl rfl rfl ?_
                      refine q_p tok rfl rfl rfl ?_
                      refine q_p tok rfl rfl rfl ?_
                      refine q_cutU 3 [(158, .bool ((!t18_3) || (!t19_3))), (7, Slc.v r8.1), (9, Slc.v r11.1), (11, Slc.v r14.1), (13, Slc.v r17.1), (15, .int .i64 t15_3), (16, .int .i64 t16_2), (17, .int .i64 t17_3)] ?_ ?_
                      ·
                        refine q_p tok rfl rfl rfl ?_
                        refine q_cut 10 (α := Bool) (fun (s : Bool) => [(169, .bool s), (7, Slc.v r8.1), (9, Slc.v r11.1), (11, Slc.v r14.1), (13, Slc.v r17.1), (15, .int .i64 t15_3), (16, .int .i64 t16_2)]) (fun (s : Bool) => law19_QueryBounds_g8 r8.1 r11.1 r14.1 r17.1 t15_3 t16_2 s k (fun s h' => I2 s h' ∧ μ2 s h' < μ2 (t15_2, t16_2) h_2) (fun s h' => I3 s h' ∧ μ3 s h' < μ3 (t15_3, t17_3, t18_3, t19_3) h_3) h_3) ?_ ?_
                        ·
                          rintro t169_8 H
                          replace H : law19_QueryBounds_g8 r8.1 r11.1 r14.1 r17.1 t15_3 t16_2 t169_8 k (fun s h' => I2 s h' ∧ μ2 s h' < μ2 (t15_2, t16_2) h_2) (fun s h' => I3 s h' ∧ μ3 s h' < μ3 (t15_3, t17_3, t18_3, t19_3) h_3) h_3 := H
                          unfold law19_QueryBounds_g8 at H
                          refine q_weak [(169, .bool t169_8), (7, Slc.v r8.1), (9, Slc.v r11.1), (11, Slc.v r14.1), (13, Slc.v r17.1), (15, .int .i64 t15_3), (16, .int .i64 t16_2)] ⟨rfl, rfl, rfl, rfl, rfl, rfl, rfl, trivial⟩ ?_
                          refine q_p tok rfl rfl rfl ?_
                          refine q_cut 12 (α := Bool) (fun (s : Bool) => [(182, .bool s), (7, Slc.v r8.1), (9, Slc.v r11.1), (11, Slc.v r14.1), (13, Slc.v r17.1), (15, .int .i64 t15_3), (16, .int .i64 t16_2)]) (fun (s : Bool) => law19_QueryBounds_g9 r8.1 r11.1 r14.1 r17.1 t15_3 t16_2 s k (fun s h' => I2 s h' ∧ μ2 s h' < μ2 (t15_2, t16_2) h_2) (fun s h' => I3 s h' ∧ μ3 s h' < μ3 (t15_3, t17_3, t18_3, t19_3) h_3) h_3) ?_ ?_
                          ·
                            rintro t182_9 H
                            replace H : law19_QueryBounds_g9 r8.1 r11.1 r14.1 r17.1 t15_3 t16_2 t182_9 k (fun s h' => I2 s h' ∧ μ2 s h' < μ2 (t15_2, t16_2) h_2) (fun s h' => I3 s h' ∧ μ3 s h' < μ3 (t15_3, t17_3, t18_3, t19_3) h_3) h_3 := H
                            unfold law19_QueryBounds_g9 at H
                            refine q_weak [(182, .bool t182_9), (7, Slc.v r8.1), (9, Slc.v r11.1), (11, Slc.v r14.1), (13, Slc.v r17.1), (15, .int .i64 t15_3), (16, .int .i64 t16_2)] ⟨rfl, rfl, rfl, rfl, rfl, rfl, rfl, trivial⟩ ?_
                            refine q_end ?_
                            refine x_seq ?_
                            refine c_if H rfl (fun H => ?_) (fun H => ?_)
                            ·
                              refine c_seq ?_
                              refine c_region ?_
                              refine w_p tok rfl rfl rfl ?_
                              refine w_end ?_
                              refine x_seq ?_
                              refine c_weak [(6, .bool false)] ⟨rfl, trivial⟩ ?_
                              refine c_ret ?_
                              refine x_br ?_
                              refine x_tr ?_
                              refine x_tr ?_
                              refine x_br ?_
                              refine x_tr ?_
                              exact x_ret _ rfl _ rfl ⟨false, rfl, H⟩
                            ·
                              refine c_skip ?_
                              refine x_blk ?_
                              refine x_seq ?_
                              refine c_region ?_
                              refine w_p tok rfl rfl rfl ?_
                              refine w_p tok rfl rfl rfl ?_
                              obtain ⟨x42, ex42, H⟩ := H
                              refine w_pe tok rfl (congrArg (fun z => (.int .i64 z : Value)) ex42) rfl rfl ?_
                              refine w_end ?_
                              exact x_join (t15_3, x42) H ⟨rfl, rfl, rfl, rfl, rfl, rfl, trivial⟩
                          ·
                            refine q_gif (d := 170) H rfl (fun H => ?_) (fun H => ?_)
                            ·
                              refine q_skip rfl rfl ?_
                              refine q_skip rfl rfl ?_
                              refine q_skip rfl rfl ?_
                              refine q_skip rfl rfl ?_
                              refine q_skip rfl rfl ?_
                              refine q_skip rfl rfl ?_
                              refine q_skip rfl rfl ?_
                              refine q_skip rfl rfl ?_
                              refine q_skip rfl rfl ?_
                              refine q_skip rfl rfl ?_
                              refine q_skip rfl rfl ?_
                              refine q_p tok rfl rfl rfl ?_
                              exact q_jn true H ⟨rfl, rfl, rfl, rfl, rfl, rfl, rfl, trivial⟩
                            ·
                              refine q_p tok rfl rfl rfl ?_
                              refine q_p tok rfl rfl rfl ?_
                              obtain ⟨a43, ha43, la43, ua43, H⟩ := H
                              refine q_y (y_ixa' tok rfl rfl ha43 rfl rfl rfl la43 ua43) rfl rfl ?_
                              refine q_p tok rfl rfl rfl ?_
                              obtain ⟨v44, hv44, H⟩ := H
                              refine q_y (y_ld tok rfl rfl rfl rfl hv44) rfl rfl ?_
                              refine q_p tok rfl rfl rfl ?_
                              refine q_p tok rfl rfl rfl ?_
                              obtain ⟨a45, ha45, la45, ua45, H⟩ := H
                              refine q_y (y_ixa' tok rfl rfl ha45 rfl rfl rfl la45 ua45) rfl rfl ?_
                              refine q_p tok rfl rfl rfl ?_
                              obtain ⟨v46, hv46, H⟩ := H
                              refine q_y (y_ld tok rfl rfl rfl rfl hv46) rfl rfl ?_
                              refine q_p tok rfl rfl rfl ?_
                              refine q_p tok rfl rfl rfl ?_
                              exact q_jn (!(v44.toList == v46.toList)) H ⟨rfl, rfl, rfl, rfl, rfl, rfl, rfl, trivial⟩
                        ·
                          refine q_gif (d := 159) H rfl (fun H => ?_) (fun H => ?_)
                          ·
                            refine q_skip rfl rfl ?_
                            refine q_skip rfl rfl ?_
                            refine q_skip rfl rfl ?_
                            refine q_skip rfl rfl ?_
                            refine q_skip rfl rfl ?_
                            refine q_skip rfl rfl ?_
                            refine q_skip rfl rfl ?_
                            refine q_skip rfl rfl ?_
                            refine q_skip rfl rfl ?_
                            refine q_p tok rfl rfl rfl ?_
                            exact q_jn true H ⟨rfl, rfl, rfl, rfl, rfl, rfl, rfl, trivial⟩
                          ·
                            refine q_p tok rfl rfl rfl ?_
                            refine q_p tok rfl rfl rfl ?_
                            obtain ⟨a47, ha47, la47, ua47, H⟩ := H
                            refine q_y (y_ixa' tok rfl rfl ha47 rfl rfl rfl la47 ua47) rfl rfl ?_
                            refine q_p tok rfl rfl rfl ?_
                            obtain ⟨v48, hv48, H⟩ := H
                            refine q_y (y_lda tok rfl rfl rfl rfl rfl hv48) rfl rfl ?_
                            refine q_p tok rfl rfl rfl ?_
                            refine q_p tok rfl rfl rfl ?_
                            refine q_y (y_build tok rfl rfl rfl rfl rfl) rfl rfl ?_
                            refine q_y (y_eqs (op := .neq) (xs := S_api_Wide.cs v48) (ys := S_api_Wide.cs (⟨0, (IntKind.u64.wrap t17_3)⟩ : S_api_Wide)) (.inr rfl) rfl rfl rfl (eqv47_S_api_Wide v48 (⟨0, (IntKind.u64.wrap t17_3)⟩ : S_api_Wide)) (by kernel_rfl)) rfl rfl ?_
                            refine q_p tok rfl rfl rfl ?_
                            exact q_jn (if BinOp.neq = .eql then ((v48.f_Hi == (⟨0, (IntKind.u64.wrap t17_3)⟩ : S_api_Wide).f_Hi) && (v48.f_Lo == (⟨0, (IntKind.u64.wrap t17_3)⟩ : S_api_Wide).f_Lo)) else !((v48.f_Hi == (⟨0, (IntKind.u64.wrap t17_3)⟩ : S_api_Wide).f_Hi) && (v48.f_Lo == (⟨0, (IntKind.u64.wrap t17_3)⟩ : S_api_Wide).f_Lo))) H ⟨rfl, rfl, rfl, rfl, rfl, rfl, rfl, trivial⟩
                      ·
                        refine q_gs (d := 155) rfl (fun hb => ?_) (fun hb => ?_)
                        ·
                          refine q_skip rfl rfl ?_
                          refine q_skip rfl rfl ?_
                          refine q_p tok rfl rfl rfl ?_
                          refine q_jn () trivial ⟨?_, rfl, rfl, rfl, rfl, rfl, rfl, rfl, trivial⟩
                          exact congrArg (fun b => some (Value.bool b)) (or_t hb)
                        ·
                          refine q_p tok rfl rfl rfl ?_
                          refine q_p tok rfl rfl rfl ?_
                          refine q_p tok rfl rfl rfl ?_
                          refine q_jn () trivial ⟨?_, rfl, rfl, rfl, rfl, rfl, rfl, rfl, trivial⟩
                          exact congrArg (fun b => some (Value.bool b)) (or_f hb)
                  ·
                    refine q_gif (d := 95) H rfl (fun H => ?_) (fun H => ?_)
                    ·
                      refine q_p tok rfl rfl rfl ?_
                      refine q_p tok rfl rfl rfl ?_
                      obtain ⟨a49, ha49, la49, ua49, H⟩ := H
                      refine q_y (y_ixa' tok rfl rfl ha49 rfl rfl rfl la49 ua49) rfl rfl ?_
                      refine q_p tok rfl rfl rfl ?_
                      obtain ⟨v50, hv50, H⟩ := H
                      refine q_y (y_ld tok rfl rfl rfl rfl hv50) rfl rfl ?_
                      refine q_p tok rfl rfl rfl ?_
                      refine q_p tok rfl rfl rfl ?_
                      obtain ⟨a51, ha51, la51, ua51, H⟩ := H
                      refine q_y (y_ixa' tok rfl rfl ha51 rfl rfl rfl la51 ua51) rfl rfl ?_
                      refine q_p tok rfl rfl rfl ?_
                      obtain ⟨v52, hv52, H⟩ := H
                      refine q_y (y_ld tok rfl rfl rfl rfl hv52) rfl rfl ?_
                      refine q_p tok rfl rfl rfl ?_
                      refine q_p tok rfl rfl rfl ?_
                      exact q_jn (v50.toList == v52.toList) H ⟨rfl, rfl, rfl, rfl, rfl, rfl, rfl, rfl, rfl, rfl, trivial⟩
                    ·
                      refine q_skip rfl rfl ?_
                      refine q_skip rfl rfl ?_
                      refine q_skip rfl rfl ?_
                      refine q_skip rfl rfl ?_
                      refine q_skip rfl rfl ?_
                      refine q_skip rfl rfl ?_
                      refine q_skip rfl rfl ?_
                      refine q_skip rfl rfl ?_
                      refine q_skip rfl rfl ?_
                      refine q_skip rfl rfl ?_
                      refine q_skip rfl rfl ?_
                      refine q_p tok rfl rfl rfl ?_
                      exact q_jn false H ⟨rfl, rfl, rfl, rfl, rfl, rfl, rfl, rfl, rfl, rfl, trivial⟩
                ·
                  refine c_exit ?_
                  refine x_te ?_
                  refine x_te ?_
                  refine x_bh ?_
                  refine x_seq ?_
                  refine c_weak [(15, .int .i64 t15_2), (7, Slc.v r8.1)] ⟨rfl, rfl, trivial⟩ ?_
                  refine c_seq ?_
                  refine c_region ?_
                  refine w_p tok rfl rfl rfl ?_
                  refine w_p tok rfl rfl rfl ?_
                  refine w_p tok rfl rfl rfl ?_
                  refine w_p tok rfl rfl rfl ?_
                  refine w_p tok rfl rfl rfl ?_
                  refine w_cut 2 (α := Bool) (fun (s : Bool) => [(189, .bool s)]) (fun (s : Bool) h => law19_QueryBounds_g10 s k (fun s h' => I2 s h' ∧ μ2 s h' < μ2 (t15_2, t16_2) h_2) h) ?_ ?_
                  ·
                    rintro t189_10 h_10 H
                    replace H : law19_QueryBounds_g10 t189_10 k (fun s h' => I2 s h' ∧ μ2 s h' < μ2 (t15_2, t16_2) h_2) h_10 := H
                    unfold law19_QueryBounds_g10 at H
                    refine w_weak [(189, .bool t189_10)] ⟨rfl, trivial⟩ ?_
                    refine w_p tok rfl rfl rfl ?_
                    refine w_end ?_
                    refine x_seq ?_
                    refine c_ret ?_
                    exact x_ret _ rfl _ rfl ⟨t189_10, rfl, H⟩
                  ·
                    refine w_gif (d := 187) H rfl (fun H => ?_) (fun H => ?_)
                    ·
                      refine w_call law19_awake_ok (law19_awake_ref  _ _ H) rfl rfl rfl rfl ?_
                      rintro _ h54 ⟨r53, rfl, H⟩
                      refine w_p tok rfl rfl rfl ?_
                      exact w_jn r53 H ⟨rfl, trivial⟩
                    ·
                      refine w_skip rfl rfl ?_
                      refine w_p tok rfl rfl rfl ?_
                      exact w_jn false H ⟨rfl, trivial⟩
            ·
              refine w_gs (d := 78) rfl (fun hb => ?_) (fun hb => ?_)
              ·
                refine w_skip rfl rfl ?_
                refine w_skip rfl rfl ?_
                refine w_skip rfl rfl ?_
                refine w_skip rfl rfl ?_
                refine w_skip rfl rfl ?_
                refine w_p tok rfl rfl rfl ?_
                refine w_jn () rfl ⟨?_, rfl, rfl, rfl, rfl, trivial⟩
                exact congrArg (fun b => some (Value.bool b)) (or_t hb)
              ·
                refine w_p tok rfl rfl rfl ?_
                refine w_p tok rfl rfl rfl ?_
                refine w_p tok rfl rfl rfl ?_
                refine w_p tok rfl rfl rfl ?_
                refine w_p tok rfl rfl rfl ?_
                refine w_p tok rfl rfl rfl ?_
                refine w_jn () rfl ⟨?_, rfl, rfl, rfl, rfl, trivial⟩
                exact congrArg (fun b => some (Value.bool b)) (or_f hb)
          ·
            refine w_gs (d := 71) rfl (fun hb => ?_) (fun hb => ?_)
            ·
              refine w_skip rfl rfl ?_
              refine w_skip rfl rfl ?_
              refine w_skip rfl rfl ?_
              refine w_skip rfl rfl ?_
              refine w_skip rfl rfl ?_
              refine w_p tok rfl rfl rfl ?_
              refine w_jn () rfl ⟨?_, rfl, rfl, rfl, rfl, trivial⟩
              exact congrArg (fun b => some (Value.bool b)) (or_t hb)
            ·
              refine w_p tok rfl rfl rfl ?_
              refine w_p tok rfl rfl rfl ?_
              refine w_p tok rfl rfl rfl ?_
              refine w_p tok rfl rfl rfl ?_
              refine w_p tok rfl rfl rfl ?_
              refine w_p tok rfl rfl rfl ?_
              refine w_jn () rfl ⟨?_, rfl, rfl, rfl, rfl, trivial⟩
              exact congrArg (fun b => some (Value.bool b)) (or_f hb)
        ·
          refine w_gs (d := 66) rfl (fun hb => ?_) (fun hb => ?_)
          ·
            refine w_skip rfl rfl ?_
            refine w_skip rfl rfl ?_
            refine w_skip rfl rfl ?_
            refine w_p tok rfl rfl rfl ?_
            refine w_jn () rfl ⟨?_, rfl, rfl, rfl, rfl, trivial⟩
            exact congrArg (fun b => some (Value.bool b)) (or_t hb)
          ·
            refine w_p tok rfl rfl rfl ?_
            refine w_p tok rfl rfl rfl ?_
            refine w_p tok rfl rfl rfl ?_
            refine w_p tok rfl rfl rfl ?_
            refine w_jn () rfl ⟨?_, rfl, rfl, rfl, rfl, trivial⟩
            exact congrArg (fun b => some (Value.bool b)) (or_f hb)
      ·
        refine w_gs (d := 61) rfl (fun hb => ?_) (fun hb => ?_)
        ·
          refine w_skip rfl rfl ?_
          refine w_skip rfl rfl ?_
          refine w_skip rfl rfl ?_
          refine w_p tok rfl rfl rfl ?_
          refine w_jn () rfl ⟨?_, rfl, rfl, rfl, rfl, rfl, rfl, trivial⟩
          exact congrArg (fun b => some (Value.bool b)) (or_t hb)
        ·
          refine w_p tok rfl rfl rfl ?_
          refine w_p tok rfl rfl rfl ?_
          refine w_p tok rfl rfl rfl ?_
          refine w_p tok rfl rfl rfl ?_
          refine w_jn () rfl ⟨?_, rfl, rfl, rfl, rfl, rfl, rfl, trivial⟩
          exact congrArg (fun b => some (Value.bool b)) (or_f hb)
  ·
    refine w_gif (d := 23) H rfl (fun H => ?_) (fun H => ?_)
    ·
      refine w_skip rfl rfl ?_
      refine w_skip rfl rfl ?_
      refine w_skip rfl rfl ?_
      refine w_skip rfl rfl ?_
      refine w_p tok rfl rfl rfl ?_
      exact w_jn true H ⟨rfl, rfl, rfl, rfl, trivial⟩
    ·
      refine w_p tok rfl rfl rfl ?_
      obtain ⟨v55, hv55, H⟩ := H
      refine w_y (y_ld tok rfl rfl rfl rfl hv55) rfl rfl ?_
      refine w_p tok rfl rfl rfl ?_
      refine w_p tok rfl rfl rfl ?_
      refine w_p tok rfl rfl rfl ?_
      exact w_jn (decide ((v55.size : Int) > 400)) H ⟨rfl, rfl, rfl, rfl, trivial⟩
end Go.Q.Yg

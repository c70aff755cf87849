/- A part of the proof of statements of this seat: lemmas, no statement of their own. -/
import Derived.Test.YtidhlagdagbggaaGreatYzTab
import Derived.Test.YtidhlagdagbggaaGreatYzPc
import Derived.Test.YtidhlagdagbggaaGreatQShort
-- squeezed
set_option linter.unusedVariables false
set_option linter.unusedSimpArgs false
set_option maxRecDepth 100000
set_option maxHeartbeats 1000000
namespace Go.Q.Yz
open Go.RowKit in
theorem eqI44 (a b : S_api_Id) (w : World) : (Op.equalIn (9998 + 1) 44 (.agg (S_api_Id.cs a).toArray) (.agg (S_api_Id.cs b).toArray)).run Go.Proofs.Tryz.prog w = .ok ((a.f_N == b.f_N) && (a.f_Node == b.f_Node)) w := by
 have hS : Go.Proofs.Tryz.prog.underlying 44 = some (.struct (Go.Proofs.Tryz.prog.fieldsOf 44)) := by kernel_rfl
 have hp : Go.Proofs.Tryz.prog.stoodInHeld 44 = false := by kernel_rfl
 have u41 := Go.Proofs.Tryz.underlying41
 have a41 : ∀ w, (isAgg 41).run Go.Proofs.Tryz.prog w = .ok false w := Go.Proofs.Tryz.isAgg41
 have u42 := Go.Proofs.Tryz.underlying42
 have a42 : ∀ w, (isAgg 42).run Go.Proofs.Tryz.prog w = .ok false w := Go.Proofs.Tryz.isAgg42
 rw [run_equalIn_struct w 9998 44 _ _ hS hp]
 simp only [Program.fieldsOf, Go.Proofs.Tryz.underlying44, S_api_Id.cs]
 go_simp
 by_cases h0 : (a.f_N = b.f_N) <;> by_cases h1 : (a.f_Node = b.f_Node) <;> simp [h0, h1]
open Go.RowKit in
theorem eqv46_S_api_Piece (a b : S_api_Piece) (w : World) : (Op.equal 46 (.agg (S_api_Piece.cs a).toArray) (.agg (S_api_Piece.cs b).toArray)).run Go.Proofs.Tryz.prog w = .ok ((a.f_Series.toList == b.f_Series.toList) && (a.f_T == b.f_T) && (a.f_V == b.f_V) && ((a.f_Id.f_N == b.f_Id.f_N) && (a.f_Id.f_Node == b.f_Id.f_Node))) w := by
 have hS : Go.Proofs.Tryz.prog.underlying 46 = some (.struct (Go.Proofs.Tryz.prog.fieldsOf 46)) := by kernel_rfl
 have hp : Go.Proofs.Tryz.prog.stoodInHeld 46 = false := by kernel_rfl
 have e44 := eqI44 a.f_Id b.f_Id
 have n44 : ∀ w, (isAgg 44).run Go.Proofs.Tryz.prog w = .ok true w := Go.Proofs.Tryz.isAgg44
 have s44 : Go.Proofs.Tryz.prog.cellsOf 44 = 2 := by kernel_rfl
 have u2 := Go.Proofs.Tryz.underlying2
 have a2 : ∀ w, (isAgg 2).run Go.Proofs.Tryz.prog w = .ok false w := Go.Proofs.Tryz.isAgg2
 have u9 := Go.Proofs.Tryz.underlying9
 have a9 : ∀ w, (isAgg 9).run Go.Proofs.Tryz.prog w = .ok false w := Go.Proofs.Tryz.isAgg9
 have q2 : ∀ (x y : Int) w, (Op.equalIn (9998 + 1) 2 (.int .i64 x) (.int .i64 y)).run Go.Proofs.Tryz.prog w = .ok (x == y) w := fun x y w => by go_simp
 have q9 : ∀ (x y : ByteArray) w, (Op.equalIn (9998 + 1) 9 (.string x) (.string y)).run Go.Proofs.Tryz.prog w = .ok (x.toList == y.toList) w := fun x y w => by go_simp
 unfold Op.equal Op.maxDepth
 rw [show (10000 : Nat) = (9998 + 1) + 1 from rfl, run_equalIn_struct w (9998 + 1) 46 _ _ hS hp]
 simp only [Program.fieldsOf, Go.Proofs.Tryz.underlying46, S_api_Piece.cs]
 generalize 9998 + 1 = N at e44 q2 q9 ⊢
 go_simp
 simp only [show List.take 2 (S_api_Id.cs a.f_Id) = S_api_Id.cs a.f_Id from rfl, show List.take 2 (S_api_Id.cs b.f_Id) = S_api_Id.cs b.f_Id from rfl, e44, q2, q9, Result.andThen]
 by_cases h0 : (a.f_Series.toList = b.f_Series.toList) <;> by_cases h1 : (a.f_T = b.f_T) <;> by_cases h2 : (a.f_V = b.f_V) <;> by_cases h3 : (a.f_Id.f_N = b.f_Id.f_N) <;> by_cases h4 : (a.f_Id.f_Node = b.f_Id.f_Node) <;> simp [h0, h1, h2, h3, h4]
open Go.RowKit in
theorem eqI48 (a b : S_api_Wide) (w : World) : (Op.equalIn (9998 + 1) 48 (.agg (S_api_Wide.cs a).toArray) (.agg (S_api_Wide.cs b).toArray)).run Go.Proofs.Tryz.prog w = .ok ((a.f_Hi == b.f_Hi) && (a.f_Lo == b.f_Lo)) w := by
 have hS : Go.Proofs.Tryz.prog.underlying 48 = some (.struct (Go.Proofs.Tryz.prog.fieldsOf 48)) := by kernel_rfl
 have hp : Go.Proofs.Tryz.prog.stoodInHeld 48 = false := by kernel_rfl
 have u2 := Go.Proofs.Tryz.underlying2
 have a2 : ∀ w, (isAgg 2).run Go.Proofs.Tryz.prog w = .ok false w := Go.Proofs.Tryz.isAgg2
 have u41 := Go.Proofs.Tryz.underlying41
 have a41 : ∀ w, (isAgg 41).run Go.Proofs.Tryz.prog w = .ok false w := Go.Proofs.Tryz.isAgg41
 rw [run_equalIn_struct w 9998 48 _ _ hS hp]
 simp only [Program.fieldsOf, Go.Proofs.Tryz.underlying48, S_api_Wide.cs]
 go_simp
 by_cases h0 : (a.f_Hi = b.f_Hi) <;> by_cases h1 : (a.f_Lo = b.f_Lo) <;> simp [h0, h1]
open Go.RowKit in
theorem eqv50_S_api_Row (a b : S_api_Row) (w : World) : (Op.equal 50 (.agg (S_api_Row.cs a).toArray) (.agg (S_api_Row.cs b).toArray)).run Go.Proofs.Tryz.prog w = .ok ((a.f_Series.toList == b.f_Series.toList) && (a.f_T == b.f_T) && ((a.f_W.f_Hi == b.f_W.f_Hi) && (a.f_W.f_Lo == b.f_W.f_Lo))) w := by
 have hS : Go.Proofs.Tryz.prog.underlying 50 = some (.struct (Go.Proofs.Tryz.prog.fieldsOf 50)) := by kernel_rfl
 have hp : Go.Proofs.Tryz.prog.stoodInHeld 50 = false := by kernel_rfl
 have e48 := eqI48 a.f_W b.f_W
 have n48 : ∀ w, (isAgg 48).run Go.Proofs.Tryz.prog w = .ok true w := Go.Proofs.Tryz.isAgg48
 have s48 : Go.Proofs.Tryz.prog.cellsOf 48 = 2 := by kernel_rfl
 have u2 := Go.Proofs.Tryz.underlying2
 have a2 : ∀ w, (isAgg 2).run Go.Proofs.Tryz.prog w = .ok false w := Go.Proofs.Tryz.isAgg2
 have u9 := Go.Proofs.Tryz.underlying9
 have a9 : ∀ w, (isAgg 9).run Go.Proofs.Tryz.prog w = .ok false w := Go.Proofs.Tryz.isAgg9
 have q2 : ∀ (x y : Int) w, (Op.equalIn (9998 + 1) 2 (.int .i64 x) (.int .i64 y)).run Go.Proofs.Tryz.prog w = .ok (x == y) w := fun x y w => by go_simp
 have q9 : ∀ (x y : ByteArray) w, (Op.equalIn (9998 + 1) 9 (.string x) (.string y)).run Go.Proofs.Tryz.prog w = .ok (x.toList == y.toList) w := fun x y w => by go_simp
 unfold Op.equal Op.maxDepth
 rw [show (10000 : Nat) = (9998 + 1) + 1 from rfl, run_equalIn_struct w (9998 + 1) 50 _ _ hS hp]
 simp only [Program.fieldsOf, Go.Proofs.Tryz.underlying50, S_api_Row.cs]
 generalize 9998 + 1 = N at e48 q2 q9 ⊢
 go_simp
 simp only [show List.take 2 (S_api_Wide.cs a.f_W) = S_api_Wide.cs a.f_W from rfl, show List.take 2 (S_api_Wide.cs b.f_W) = S_api_Wide.cs b.f_W from rfl, e48, q2, q9, Result.andThen]
 by_cases h0 : (a.f_Series.toList = b.f_Series.toList) <;> by_cases h1 : (a.f_T = b.f_T) <;> by_cases h2 : (a.f_W.f_Hi = b.f_W.f_Hi) <;> by_cases h3 : (a.f_W.f_Lo = b.f_W.f_Lo) <;> simp [h0, h1, h2, h3]
open Go.RowKit in
theorem eqv44_S_api_Id (a b : S_api_Id) (w : World) : (Op.equal 44 (.agg (S_api_Id.cs a).toArray) (.agg (S_api_Id.cs b).toArray)).run Go.Proofs.Tryz.prog w = .ok ((a.f_N == b.f_N) && (a.f_Node == b.f_Node)) w := by
 have hS : Go.Proofs.Tryz.prog.underlying 44 = some (.struct (Go.Proofs.Tryz.prog.fieldsOf 44)) := by kernel_rfl
 have hp : Go.Proofs.Tryz.prog.stoodInHeld 44 = false := by kernel_rfl
 have u41 := Go.Proofs.Tryz.underlying41
 have a41 : ∀ w, (isAgg 41).run Go.Proofs.Tryz.prog w = .ok false w := Go.Proofs.Tryz.isAgg41
 have u42 := Go.Proofs.Tryz.underlying42
 have a42 : ∀ w, (isAgg 42).run Go.Proofs.Tryz.prog w = .ok false w := Go.Proofs.Tryz.isAgg42
 unfold Op.equal Op.maxDepth
 rw [show (10000 : Nat) = 9999 + 1 from rfl, run_equalIn_struct w 9999 44 _ _ hS hp]
 simp only [Program.fieldsOf, Go.Proofs.Tryz.underlying44, S_api_Id.cs]
 go_simp
 by_cases h0 : (a.f_N = b.f_N) <;> by_cases h1 : (a.f_Node = b.f_Node) <;> simp [h0, h1]
/-- quaestor quaestorref13.Great -/
def ref13_Great_l1b (t0_1 : Slc) (t1_1 : Int) (t5_1 : Int) (k : (Bool) → Heap → Prop) (nx1 : (Int) → Heap → Prop) (h_1 : Heap) : Prop :=
 if ((decide (t5_1 < (t0_1.len : Int))) && (decide (t5_1 < t1_1))) then (∃ a1 : Addr, t0_1.a = some a1 ∧ (0 : Int) ≤ t5_1 ∧ t5_1 < (t0_1.len : Int) ∧ (∃ v2 : ByteArray, cellH h_1 (a1.add (t5_1.toNat * 5)) = some (.string v2) ∧ (if (decide ((v2.size : Int) > 400)) then (k true h_1) else (∃ x3 : Int, x3 = (IntKind.i64.wrap (t5_1 + 1)) ∧ (nx1 x3 h_1))))) else (k (decide ((t0_1.len : Int) > t1_1)) h_1)
def ref13_Great_l1 (t0_1 : Slc) (t1_1 : Int) (i5 : Int) (k : (Bool) → Heap → Prop) (h : Heap) : Prop :=
 ∃ (I : Int → Heap → Prop) (μ : Int → Heap → Nat), I i5 h ∧ ∀ (t5_1 : Int) (h : Heap), I t5_1 h → ref13_Great_l1b t0_1 t1_1 t5_1 k (fun s h' => I s h' ∧ μ s h' < μ t5_1 h) h
def ref13_Great (p0 : Slc) (p1 : Int) (k : (Bool) → Heap → Prop) (h : Heap) : Prop :=
 ref13_Great_l1 p0 p1 0 k h

/-- quaestor quaestorref13.Same -/
def ref13_Same_l1b (t0_1 : Slc) (t1_1 : Slc) (t5_1 : Int) (k : (Bool) → Heap → Prop) (nx1 : (Int) → Heap → Prop) (h_1 : Heap) : Prop :=
 if (decide (t5_1 < (t0_1.len : Int))) then (∃ a1 : Addr, t0_1.a = some a1 ∧ (0 : Int) ≤ t5_1 ∧ t5_1 < (t0_1.len : Int) ∧ (∃ v2 : S_api_Piece, CellsAt h_1 (a1.add (t5_1.toNat * 5)) (S_api_Piece.cs v2) ∧ (∃ a3 : Addr, t1_1.a = some a3 ∧ (0 : Int) ≤ t5_1 ∧ t5_1 < (t1_1.len : Int) ∧ (∃ v4 : S_api_Piece, CellsAt h_1 (a3.add (t5_1.toNat * 5)) (S_api_Piece.cs v4) ∧ (if (if BinOp.neq = .eql then ((v2.f_Series.toList == v4.f_Series.toList) && (v2.f_T == v4.f_T) && (v2.f_V == v4.f_V) && ((v2.f_Id.f_N == v4.f_Id.f_N) && (v2.f_Id.f_Node == v4.f_Id.f_Node))) else !((v2.f_Series.toList == v4.f_Series.toList) && (v2.f_T == v4.f_T) && (v2.f_V == v4.f_V) && ((v2.f_Id.f_N == v4.f_Id.f_N) && (v2.f_Id.f_Node == v4.f_Id.f_Node)))) then (k false h_1) else (∃ x5 : Int, x5 = (IntKind.i64.wrap (t5_1 + 1)) ∧ (nx1 x5 h_1))))))) else (k true h_1)
def ref13_Same_l1 (t0_1 : Slc) (t1_1 : Slc) (i5 : Int) (k : (Bool) → Heap → Prop) (h : Heap) : Prop :=
 ∃ (I : Int → Heap → Prop) (μ : Int → Heap → Nat), I i5 h ∧ ∀ (t5_1 : Int) (h : Heap), I t5_1 h → ref13_Same_l1b t0_1 t1_1 t5_1 k (fun s h' => I s h' ∧ μ s h' < μ t5_1 h) h
def ref13_Same (p0 : Slc) (p1 : Slc) (k : (Bool) → Heap → Prop) (h : Heap) : Prop :=
 if ((p0.len : Int) != (p1.len : Int)) then (k false h) else (ref13_Same_l1 p0 p1 0 k h)

/-- quaestor quaestorref19.SameRows -/
def ref19_SameRows_l1b (t0_1 : Slc) (t1_1 : Slc) (t5_1 : Int) (k : (Bool) → Heap → Prop) (nx1 : (Int) → Heap → Prop) (h_1 : Heap) : Prop :=
 if (decide (t5_1 < (t0_1.len : Int))) then (∃ a1 : Addr, t0_1.a = some a1 ∧ (0 : Int) ≤ t5_1 ∧ t5_1 < (t0_1.len : Int) ∧ (∃ v2 : S_api_Row, CellsAt h_1 (a1.add (t5_1.toNat * 4)) (S_api_Row.cs v2) ∧ (∃ a3 : Addr, t1_1.a = some a3 ∧ (0 : Int) ≤ t5_1 ∧ t5_1 < (t1_1.len : Int) ∧ (∃ v4 : S_api_Row, CellsAt h_1 (a3.add (t5_1.toNat * 4)) (S_api_Row.cs v4) ∧ (if (if BinOp.neq = .eql then ((v2.f_Series.toList == v4.f_Series.toList) && (v2.f_T == v4.f_T) && ((v2.f_W.f_Hi == v4.f_W.f_Hi) && (v2.f_W.f_Lo == v4.f_W.f_Lo))) else !((v2.f_Series.toList == v4.f_Series.toList) && (v2.f_T == v4.f_T) && ((v2.f_W.f_Hi == v4.f_W.f_Hi) && (v2.f_W.f_Lo == v4.f_W.f_Lo)))) then (k false h_1) else (∃ x5 : Int, x5 = (IntKind.i64.wrap (t5_1 + 1)) ∧ (nx1 x5 h_1))))))) else (k true h_1)
def ref19_SameRows_l1 (t0_1 : Slc) (t1_1 : Slc) (i5 : Int) (k : (Bool) → Heap → Prop) (h : Heap) : Prop :=
 ∃ (I : Int → Heap → Prop) (μ : Int → Heap → Nat), I i5 h ∧ ∀ (t5_1 : Int) (h : Heap), I t5_1 h → ref19_SameRows_l1b t0_1 t1_1 t5_1 k (fun s h' => I s h' ∧ μ s h' < μ t5_1 h) h
def ref19_SameRows (p0 : Slc) (p1 : Slc) (k : (Bool) → Heap → Prop) (h : Heap) : Prop :=
 if ((p0.len : Int) != (p1.len : Int)) then (k false h) else (ref19_SameRows_l1 p0 p1 0 k h)

/-- quaestor quaestorref01.digits -/
def ref01_digits (p0 : S_api_Wide) (k : (Slc) → Heap → Prop) (h : Heap) : Prop :=
 ∃ (b1 : Nat) (h2 : Heap), b1 = h.size ∧ h2 = h.push (.cells (S_api_Wide.cs p0).toArray 48) ∧ (∃ v3 : Int, cellH h2 (⟨b1, 0, none⟩ : Addr) = some (.int .i64 v3) ∧ (∃ x4 : Int, x4 = (IntKind.u64.wrap ((IntKind.u64.wrap v3) + 9223372036854775808)) ∧ (∃ v5 : Int, cellH h2 ((⟨b1, 0, none⟩ : Addr).add 1) = some (.int .u64 v5) ∧ (∃ v6 : Int, cellH h2 ((⟨b1, 0, none⟩ : Addr).add 1) = some (.int .u64 v6) ∧ (∃ (b7 : Nat) (h8 : Heap), b7 = h2.size ∧ h8 = h2.push (.cells ([.int .u64 (Int.tmod v5 4294967296), .int .u64 (IntKind.u64.wrap (Int.tdiv v6 4294967296)), .int .u64 (Int.tmod x4 4294967296), .int .u64 (IntKind.u64.wrap (Int.tdiv x4 4294967296))]).toArray 41) ∧ (k (⟨some ⟨b7, 0, none⟩, 4, 4⟩ : Slc) h8))))))

/-- quaestor quaestorref01.Add -/
def ref01_Add_l1b (t4_1 : Addr) (t6_1 : Slc) (t7_1 : Slc) (t8_1 : Slc) (t9_1 : Int) (t10_1 : Int) (k : (S_api_Wide × Int) → Heap → Prop) (nx1 : (Slc × Int × Int) → Heap → Prop) (h_1 : Heap) : Prop :=
 if (decide (t10_1 < 4)) then (∃ a14 : Addr, t6_1.a = some a14 ∧ (0 : Int) ≤ t10_1 ∧ t10_1 < (t6_1.len : Int) ∧ (∃ v15 : Int, cellH h_1 (a14.add (t10_1.toNat * 1)) = some (.int .u64 v15) ∧ (∃ a16 : Addr, t7_1.a = some a16 ∧ (0 : Int) ≤ t10_1 ∧ t10_1 < (t7_1.len : Int) ∧ (∃ v17 : Int, cellH h_1 (a16.add (t10_1.toNat * 1)) = some (.int .u64 v17) ∧ (∃ (b18 : Nat) (h19 : Heap), b18 = h_1.size ∧ h19 = h_1.push (.cells ([.int .u64 (Int.tmod (IntKind.u64.wrap ((IntKind.u64.wrap (v15 + v17)) + t9_1)) 4294967296)]).toArray 41) ∧ (App 41 1 8 [.int .u64 0] h19 t8_1 1 ([.int .u64 (Int.tmod (IntKind.u64.wrap ((IntKind.u64.wrap (v15 + v17)) + t9_1)) 4294967296)]) (fun s20 h21 => ∃ x22 : Int, x22 = (IntKind.u64.wrap (Int.tdiv (IntKind.u64.wrap ((IntKind.u64.wrap (v15 + v17)) + t9_1)) 4294967296)) ∧ (∃ x23 : Int, x23 = (IntKind.i64.wrap (t10_1 + 1)) ∧ (nx1 (s20, x22, x23) h21))))))))) else (∃ a24 : Addr, t8_1.a = some a24 ∧ (0 : Int) ≤ 3 ∧ 3 < (t8_1.len : Int) ∧ (∃ v25 : Int, cellH h_1 (a24.add ((3 : Int).toNat * 1)) = some (.int .u64 v25) ∧ (if (((t9_1 == 0) && (!(decide (v25 ≥ 2147483648)))) || ((t9_1 == 1) && (decide (v25 ≥ 2147483648)))) then (∃ h26 : Heap, WrsAt h_1 t4_1 2 ∧ h26 = setsH h_1 t4_1 0 (S_api_Wide.cs (⟨0, 0⟩ : S_api_Wide)) ∧ (∃ v27 : S_api_Wide, CellsAt h26 t4_1 (S_api_Wide.cs v27) ∧ k (v27, 19) h26)) else (∃ a28 : Addr, t8_1.a = some a28 ∧ (0 : Int) ≤ 3 ∧ 3 < (t8_1.len : Int) ∧ (∃ v29 : Int, cellH h_1 (a28.add ((3 : Int).toNat * 1)) = some (.int .u64 v29) ∧ (∃ a30 : Addr, t8_1.a = some a30 ∧ (0 : Int) ≤ 2 ∧ 2 < (t8_1.len : Int) ∧ (∃ v31 : Int, cellH h_1 (a30.add ((2 : Int).toNat * 1)) = some (.int .u64 v31) ∧ (∃ a32 : Addr, t8_1.a = some a32 ∧ (0 : Int) ≤ 1 ∧ 1 < (t8_1.len : Int) ∧ (∃ v33 : Int, cellH h_1 (a32.add ((1 : Int).toNat * 1)) = some (.int .u64 v33) ∧ (∃ a34 : Addr, t8_1.a = some a34 ∧ (0 : Int) ≤ 0 ∧ 0 < (t8_1.len : Int) ∧ (∃ v35 : Int, cellH h_1 (a34.add ((0 : Int).toNat * 1)) = some (.int .u64 v35) ∧ (∃ h36 : Heap, WrsAt h_1 t4_1 2 ∧ h36 = setsH h_1 t4_1 0 (S_api_Wide.cs (⟨(IntKind.i64.wrap (IntKind.u64.wrap ((IntKind.u64.wrap (v29 * 4294967296)) + v31))), (IntKind.u64.wrap ((IntKind.u64.wrap (v33 * 4294967296)) + v35))⟩ : S_api_Wide)) ∧ (∃ v37 : S_api_Wide, CellsAt h36 t4_1 (S_api_Wide.cs v37) ∧ k (v37, 0) h36)))))))))))))
def ref01_Add_l1 (t4_1 : Addr) (t6_1 : Slc) (t7_1 : Slc) (i8 : Slc) (i9 : Int) (i10 : Int) (k : (S_api_Wide × Int) → Heap → Prop) (h : Heap) : Prop :=
 ∃ (I : (Slc × Int × Int) → Heap → Prop) (μ : (Slc × Int × Int) → Heap → Nat), I (i8, i9, i10) h ∧ ∀ (t8_1 : Slc) (t9_1 : Int) (t10_1 : Int) (h : Heap), I (t8_1, t9_1, t10_1) h → ref01_Add_l1b t4_1 t6_1 t7_1 t8_1 t9_1 t10_1 k (fun s h' => I s h' ∧ μ s h' < μ (t8_1, t9_1, t10_1) h) h
def ref01_Add (p0 : S_api_Wide) (p1 : S_api_Wide) (k : (S_api_Wide × Int) → Heap → Prop) (h : Heap) : Prop :=
 ∃ (b1 : Nat) (h2 : Heap), b1 = h.size ∧ h2 = h.push (.cells (S_api_Wide.cs p0).toArray 48) ∧ (∃ (b3 : Nat) (h4 : Heap), b3 = h2.size ∧ h4 = h2.push (.cells (S_api_Wide.cs p1).toArray 48) ∧ (∃ (b5 : Nat) (h6 : Heap), b5 = h4.size ∧ h6 = h4.push (.cells (S_api_Wide.cs (⟨0, 0⟩ : S_api_Wide)).toArray 48) ∧ (∃ v7 : S_api_Wide, CellsAt h6 (⟨b1, 0, none⟩ : Addr) (S_api_Wide.cs v7) ∧ (∃ v8 : S_api_Wide, CellsAt h6 (⟨b3, 0, none⟩ : Addr) (S_api_Wide.cs v8) ∧ (ref01_digits v7 (fun (r9 : Slc) h10 => CellsAt h10 (⟨b3, 0, none⟩ : Addr) (S_api_Wide.cs v8) ∧ (ref01_digits v8 (fun (r12 : Slc) h13 => ref01_Add_l1 (⟨b5, 0, none⟩ : Addr) r9 r12 (⟨none, 0, 0⟩ : Slc) 0 0 k h13) h10)) h6)))))

/-- quaestor quaestorref01.Floor -/
def ref01_Floor_j1 (t6_1 : Int) (k : (Int × Int) → Heap → Prop) (h_1 : Heap) : Prop :=
 k (t6_1, 0) h_1
def ref01_Floor (p0 : Int) (p1 : Int) (k : (Int × Int) → Heap → Prop) (h : Heap) : Prop :=
 if (p1 == 0) then (k (0, 1) h) else (if (p1 == (-1)) then (if (p0 == (-9223372036854775808)) then (k (0, 19) h) else (∃ x1 : Int, x1 = (IntKind.i64.wrap (0 - p0)) ∧ (k (x1, 0) h))) else (p1 ≠ 0 ∧ (∃ x3 : Int, x3 = (IntKind.i64.wrap (Int.tdiv p0 p1)) ∧ (if (((IntKind.i64.wrap (x3 * p1)) != p0) && (!((decide (p0 < 0)) == (decide (p1 < 0))))) then (∃ x4 : Int, x4 = (IntKind.i64.wrap (x3 - 1)) ∧ (ref01_Floor_j1 x4 k h)) else (ref01_Floor_j1 x3 k h)))))

/-- quaestor quaestorref19.wide -/
def ref19_wide (p0 : Int) (k : (S_api_Wide) → Heap → Prop) (h : Heap) : Prop :=
 ∃ (b1 : Nat) (h2 : Heap), b1 = h.size ∧ h2 = h.push (.cells (S_api_Wide.cs (⟨0, 0⟩ : S_api_Wide)).toArray 48) ∧ (if (decide (p0 < 0)) then (∃ h3 : Heap, WrsAt h2 (⟨b1, 0, none⟩ : Addr) 2 ∧ h3 = setsH h2 (⟨b1, 0, none⟩ : Addr) 0 (S_api_Wide.cs (⟨(-1), (IntKind.u64.wrap p0)⟩ : S_api_Wide)) ∧ (∃ v4 : S_api_Wide, CellsAt h3 (⟨b1, 0, none⟩ : Addr) (S_api_Wide.cs v4) ∧ k v4 h3)) else (∃ h5 : Heap, WrsAt h2 (⟨b1, 0, none⟩ : Addr) 2 ∧ h5 = setsH h2 (⟨b1, 0, none⟩ : Addr) 0 (S_api_Wide.cs (⟨0, (IntKind.u64.wrap p0)⟩ : S_api_Wide)) ∧ (∃ v6 : S_api_Wide, CellsAt h5 (⟨b1, 0, none⟩ : Addr) (S_api_Wide.cs v6) ∧ k v6 h5)))

/-- quaestor quaestorref19.apart -/
def ref19_apart (p0 : Int) (p1 : Int) (k : (Bool) → Heap → Prop) (h : Heap) : Prop :=
 ∃ x1 : Int, x1 = (IntKind.i64.wrap (p0 - p1)) ∧ (k (((decide (p1 < 0)) == (decide (x1 > p0)))) h)

/-- quaestor quaestorref15.letter -/
def ref15_letter (p0 : Int) (k : (Bool) → Heap → Prop) (h : Heap) : Prop :=
 k ((((((((decide (p0 ≥ 97)) && (decide (p0 ≤ 122))) || ((decide (p0 ≥ 65)) && (decide (p0 ≤ 90)))) || ((decide (p0 ≥ 48)) && (decide (p0 ≤ 57)))) || (p0 == 95)) || (p0 == 45)) || (p0 == 46)) || (p0 == 47)) h

/-- quaestor quaestorref15.Word -/
def ref15_Word_l1b (t0_1 : ByteArray) (t3_1 : Int) (k : (Bool) → Heap → Prop) (nx1 : (Int) → Heap → Prop) (h_1 : Heap) : Prop :=
 if (decide (t3_1 < (t0_1.size : Int))) then (∃ v1 : Int, (0 : Int) ≤ t3_1 ∧ StrAt t0_1 t3_1 v1 ∧ (ref15_letter v1 (fun (r2 : Bool) h3 => if (!r2) then (k false h3) else (∃ x4 : Int, x4 = (IntKind.i64.wrap (t3_1 + 1)) ∧ (nx1 x4 h3))) h_1)) else (k true h_1)
def ref15_Word_l1 (t0_1 : ByteArray) (i3 : Int) (k : (Bool) → Heap → Prop) (h : Heap) : Prop :=
 ∃ (I : Int → Heap → Prop) (μ : Int → Heap → Nat), I i3 h ∧ ∀ (t3_1 : Int) (h : Heap), I t3_1 h → ref15_Word_l1b t0_1 t3_1 k (fun s h' => I s h' ∧ μ s h' < μ t3_1 h) h
def ref15_Word (p0 : ByteArray) (k : (Bool) → Heap → Prop) (h : Heap) : Prop :=
 if ((decide ((p0.size : Int) < 1)) || (decide ((p0.size : Int) > 24))) then (k false h) else (ref15_Word_l1 p0 0 k h)

/-- quaestor quaestorref15.words -/
def ref15_words_g5 (t0_5 : ByteArray) (t4_5 : Slc) (t5_5 : Slc) (t6_5 : Int) (t7_5 : Int) (t43_5 : Bool) (k : (Slc × Slc) → Heap → Prop) (nx1 : (Slc × Slc × Int) → Heap → Prop) (nx2 : (Int) → Heap → Prop) (nx4 : (Int) → Heap → Prop) (h_5 : Heap) : Prop :=
 if t43_5 then (∃ x7 : Int, x7 = (IntKind.i64.wrap (t7_5 + 1)) ∧ (nx4 x7 h_5)) else (∃ s8 : ByteArray, (0 : Int) ≤ t6_5 ∧ (t6_5 : Int) ≤ t7_5 ∧ t7_5 ≤ (t0_5.size : Int) ∧ s8 = t0_5.extract t6_5.toNat t7_5.toNat ∧ (∃ (b9 : Nat) (h10 : Heap), b9 = h_5.size ∧ h10 = h_5.push (.cells ([.string s8]).toArray 9) ∧ (App 9 1 16 [.string ByteArray.empty] h10 t5_5 1 ([.string s8]) (fun s11 h12 => nx1 (t4_5, s11, t7_5) h12))))
def ref15_words_l4b (t0_4 : ByteArray) (t4_4 : Slc) (t5_4 : Slc) (t6_4 : Int) (t7_4 : Int) (k : (Slc × Slc) → Heap → Prop) (nx1 : (Slc × Slc × Int) → Heap → Prop) (nx2 : (Int) → Heap → Prop) (nx4 : (Int) → Heap → Prop) (h_4 : Heap) : Prop :=
 if (decide (t7_4 < (t0_4.size : Int))) then (∃ v13 : Int, (0 : Int) ≤ t7_4 ∧ StrAt t0_4 t7_4 v13 ∧ (ref15_letter v13 (fun (r14 : Bool) h15 => ref15_words_g5 t0_4 t4_4 t5_4 t6_4 t7_4 (!r14) k nx1 nx2 nx4 h15) h_4)) else (ref15_words_g5 t0_4 t4_4 t5_4 t6_4 t7_4 false k nx1 nx2 nx4 h_4)
def ref15_words_l4 (t0_4 : ByteArray) (t4_4 : Slc) (t5_4 : Slc) (t6_4 : Int) (i7 : Int) (k : (Slc × Slc) → Heap → Prop) (nx1 : (Slc × Slc × Int) → Heap → Prop) (nx2 : (Int) → Heap → Prop) (h : Heap) : Prop :=
 ∃ (I : Int → Heap → Prop) (μ : Int → Heap → Nat), I i7 h ∧ ∀ (t7_4 : Int) (h : Heap), I t7_4 h → ref15_words_l4b t0_4 t4_4 t5_4 t6_4 t7_4 k nx1 nx2 (fun s h' => I s h' ∧ μ s h' < μ t7_4 h) h
def ref15_words_g3 (t0_3 : ByteArray) (t4_3 : Slc) (t5_3 : Slc) (t6_3 : Int) (t7_3 : Int) (t22_3 : Bool) (k : (Slc × Slc) → Heap → Prop) (nx1 : (Slc × Slc × Int) → Heap → Prop) (nx2 : (Int) → Heap → Prop) (h_3 : Heap) : Prop :=
 if t22_3 then (∃ x1 : Int, x1 = (IntKind.i64.wrap (t7_3 + 1)) ∧ (nx2 x1 h_3)) else (∃ s2 : ByteArray, (0 : Int) ≤ t6_3 ∧ (t6_3 : Int) ≤ t7_3 ∧ t7_3 ≤ (t0_3.size : Int) ∧ s2 = t0_3.extract t6_3.toNat t7_3.toNat ∧ (∃ (b3 : Nat) (h4 : Heap), b3 = h_3.size ∧ h4 = h_3.push (.cells ([.string s2]).toArray 9) ∧ (App 9 1 16 [.string ByteArray.empty] h4 t4_3 1 ([.string s2]) (fun s5 h6 => ref15_words_l4 t0_3 s5 t5_3 t7_3 t7_3 k nx1 nx2 h6))))
def ref15_words_l2b (t0_2 : ByteArray) (t4_2 : Slc) (t5_2 : Slc) (t6_2 : Int) (t7_2 : Int) (k : (Slc × Slc) → Heap → Prop) (nx1 : (Slc × Slc × Int) → Heap → Prop) (nx2 : (Int) → Heap → Prop) (h_2 : Heap) : Prop :=
 if (decide (t7_2 < (t0_2.size : Int))) then (∃ v16 : Int, (0 : Int) ≤ t7_2 ∧ StrAt t0_2 t7_2 v16 ∧ (ref15_letter v16 (fun (r17 : Bool) h18 => ref15_words_g3 t0_2 t4_2 t5_2 t6_2 t7_2 r17 k nx1 nx2 h18) h_2)) else (ref15_words_g3 t0_2 t4_2 t5_2 t6_2 t7_2 false k nx1 nx2 h_2)
def ref15_words_l2 (t0_2 : ByteArray) (t4_2 : Slc) (t5_2 : Slc) (t6_2 : Int) (i7 : Int) (k : (Slc × Slc) → Heap → Prop) (nx1 : (Slc × Slc × Int) → Heap → Prop) (h : Heap) : Prop :=
 ∃ (I : Int → Heap → Prop) (μ : Int → Heap → Nat), I i7 h ∧ ∀ (t7_2 : Int) (h : Heap), I t7_2 h → ref15_words_l2b t0_2 t4_2 t5_2 t6_2 t7_2 k nx1 (fun s h' => I s h' ∧ μ s h' < μ t7_2 h) h
def ref15_words_l1b (t0_1 : ByteArray) (t4_1 : Slc) (t5_1 : Slc) (t6_1 : Int) (k : (Slc × Slc) → Heap → Prop) (nx1 : (Slc × Slc × Int) → Heap → Prop) (h_1 : Heap) : Prop :=
 if (decide (t6_1 < (t0_1.size : Int))) then (ref15_words_l2 t0_1 t4_1 t5_1 t6_1 t6_1 k nx1 h_1) else (k (t4_1, t5_1) h_1)
def ref15_words_l1 (t0_1 : ByteArray) (i4 : Slc) (i5 : Slc) (i6 : Int) (k : (Slc × Slc) → Heap → Prop) (h : Heap) : Prop :=
 ∃ (I : (Slc × Slc × Int) → Heap → Prop) (μ : (Slc × Slc × Int) → Heap → Nat), I (i4, i5, i6) h ∧ ∀ (t4_1 : Slc) (t5_1 : Slc) (t6_1 : Int) (h : Heap), I (t4_1, t5_1, t6_1) h → ref15_words_l1b t0_1 t4_1 t5_1 t6_1 k (fun s h' => I s h' ∧ μ s h' < μ (t4_1, t5_1, t6_1) h) h
def ref15_words (p0 : ByteArray) (k : (Slc × Slc) → Heap → Prop) (h : Heap) : Prop :=
 ref15_words_l1 p0 (⟨none, 0, 0⟩ : Slc) (⟨none, 0, 0⟩ : Slc) 0 k h

/-- quaestor quaestorref15.Selector -/
def ref15_Selector_j5 (t2_5 : Addr) (t4_5 : Addr) (t5_5 : Slc) (t6_5 : Slc) (t7_5 : Addr) (t8_5 : Int) (t10_5 : Int) (t9_5 : Int) (k : (S_api_Selector × Bool) → Heap → Prop) (nx3 : (Int) → Heap → Prop) (nx4 : (Int × Int) → Heap → Prop) (h_5 : Heap) : Prop :=
 ∃ x33 : Int, x33 = (IntKind.i64.wrap (t10_5 + 1)) ∧ (nx4 (t9_5, x33) h_5)
def ref15_Selector_g9 (t2_9 : Addr) (t4_9 : Addr) (t5_9 : Slc) (t6_9 : Slc) (t7_9 : Addr) (t8_9 : Int) (t9_9 : Int) (t122_9 : Bool) (k : (S_api_Selector × Bool) → Heap → Prop) (nx3 : (Int) → Heap → Prop) (nx4 : (Int × Int) → Heap → Prop) (h_9 : Heap) : Prop :=
 if t122_9 then (∃ v41 : S_api_Selector, CellsAt h_9 t4_9 (S_api_Selector.cs v41) ∧ (∃ h42 : Heap, WrsAt h_9 t2_9 2 ∧ h42 = setsH h_9 t2_9 0 (S_api_Selector.cs v41) ∧ (∃ v43 : S_api_Selector, CellsAt h42 t2_9 (S_api_Selector.cs v43) ∧ k (v43, false) h42))) else (∃ v44 : Slc, cellH h_9 (t7_9.add 1) = some (Slc.v v44) ∧ (∃ a45 : Addr, t5_9.a = some a45 ∧ (0 : Int) ≤ t8_9 ∧ t8_9 < (t5_9.len : Int) ∧ (∃ v46 : ByteArray, cellH h_9 (a45.add (t8_9.toNat * 1)) = some (.string v46) ∧ (∃ a47 : Addr, t5_9.a = some a47 ∧ (0 : Int) ≤ (IntKind.i64.wrap (t8_9 + 1)) ∧ (IntKind.i64.wrap (t8_9 + 1)) < (t5_9.len : Int) ∧ (∃ v48 : ByteArray, cellH h_9 (a47.add ((IntKind.i64.wrap (t8_9 + 1)).toNat * 1)) = some (.string v48) ∧ (∃ (b49 : Nat) (h50 : Heap), b49 = h_9.size ∧ h50 = h_9.push (.cells ((S_api_Question.cs (⟨v46, t9_9, v48⟩ : S_api_Question))).toArray 86) ∧ (cellH h50 (t7_9.add 1) = some (Slc.v v44) ∧ (App 86 3 40 [.string ByteArray.empty, .int .i64 0, .string ByteArray.empty] h50 v44 1 ((S_api_Question.cs (⟨v46, t9_9, v48⟩ : S_api_Question))) (fun s52 h53 => ∃ h54 : Heap, WrH h53 (t7_9.add 1) ∧ h54 = setH h53 (t7_9.add 1) (Slc.v s52) ∧ (∃ x55 : Int, x55 = (IntKind.i64.wrap (t8_9 + 2)) ∧ (nx3 x55 h54)))))))))))
def ref15_Selector_g8 (t2_8 : Addr) (t4_8 : Addr) (t5_8 : Slc) (t6_8 : Slc) (t7_8 : Addr) (t8_8 : Int) (t9_8 : Int) (t113_8 : Bool) (k : (S_api_Selector × Bool) → Heap → Prop) (nx3 : (Int) → Heap → Prop) (nx4 : (Int × Int) → Heap → Prop) (h_8 : Heap) : Prop :=
 if t113_8 then (ref15_Selector_g9 t2_8 t4_8 t5_8 t6_8 t7_8 t8_8 t9_8 true k nx3 nx4 h_8) else (∃ a56 : Addr, t5_8.a = some a56 ∧ (0 : Int) ≤ (IntKind.i64.wrap (t8_8 + 1)) ∧ (IntKind.i64.wrap (t8_8 + 1)) < (t5_8.len : Int) ∧ (∃ v57 : ByteArray, cellH h_8 (a56.add ((IntKind.i64.wrap (t8_8 + 1)).toNat * 1)) = some (.string v57) ∧ (ref15_Word v57 (fun (r58 : Bool) h59 => ref15_Selector_g9 t2_8 t4_8 t5_8 t6_8 t7_8 t8_8 t9_8 (!r58) k nx3 nx4 h59) h_8)))
def ref15_Selector_g7 (t2_7 : Addr) (t4_7 : Addr) (t5_7 : Slc) (t6_7 : Slc) (t7_7 : Addr) (t8_7 : Int) (t9_7 : Int) (t105_7 : Bool) (k : (S_api_Selector × Bool) → Heap → Prop) (nx3 : (Int) → Heap → Prop) (nx4 : (Int × Int) → Heap → Prop) (h_7 : Heap) : Prop :=
 if t105_7 then (ref15_Selector_g8 t2_7 t4_7 t5_7 t6_7 t7_7 t8_7 t9_7 true k nx3 nx4 h_7) else (∃ a60 : Addr, t5_7.a = some a60 ∧ (0 : Int) ≤ t8_7 ∧ t8_7 < (t5_7.len : Int) ∧ (∃ v61 : ByteArray, cellH h_7 (a60.add (t8_7.toNat * 1)) = some (.string v61) ∧ (ref15_Word v61 (fun (r62 : Bool) h63 => ref15_Selector_g8 t2_7 t4_7 t5_7 t6_7 t7_7 t8_7 t9_7 (!r62) k nx3 nx4 h63) h_7)))
def ref15_Selector_j6 (t2_6 : Addr) (t4_6 : Addr) (t5_6 : Slc) (t6_6 : Slc) (t7_6 : Addr) (t8_6 : Int) (t9_6 : Int) (t11_6 : ByteArray) (k : (S_api_Selector × Bool) → Heap → Prop) (nx3 : (Int) → Heap → Prop) (nx4 : (Int × Int) → Heap → Prop) (h_6 : Heap) : Prop :=
 if (decide (t9_6 < 0)) then (ref15_Selector_g7 t2_6 t4_6 t5_6 t6_6 t7_6 t8_6 t9_6 true k nx3 nx4 h_6) else (∃ a64 : Addr, t6_6.a = some a64 ∧ (0 : Int) ≤ (IntKind.i64.wrap (t8_6 + 1)) ∧ (IntKind.i64.wrap (t8_6 + 1)) < (t6_6.len : Int) ∧ (∃ v65 : ByteArray, cellH h_6 (a64.add ((IntKind.i64.wrap (t8_6 + 1)).toNat * 1)) = some (.string v65) ∧ (ref15_Selector_g7 t2_6 t4_6 t5_6 t6_6 t7_6 t8_6 t9_6 (!(v65.toList == t11_6.toList)) k nx3 nx4 h_6)))
def ref15_Selector_l4b (t2_4 : Addr) (t4_4 : Addr) (t5_4 : Slc) (t6_4 : Slc) (t7_4 : Addr) (t8_4 : Int) (t9_4 : Int) (t10_4 : Int) (k : (S_api_Selector × Bool) → Heap → Prop) (nx3 : (Int) → Heap → Prop) (nx4 : (Int × Int) → Heap → Prop) (h_4 : Heap) : Prop :=
 if (decide (t10_4 < 3)) then (∃ a34 : Addr, t6_4.a = some a34 ∧ (0 : Int) ≤ t8_4 ∧ t8_4 < (t6_4.len : Int) ∧ (∃ v35 : ByteArray, cellH h_4 (a34.add (t8_4.toNat * 1)) = some (.string v35) ∧ (∃ (b36 : Nat) (h37 : Heap), b36 = h_4.size ∧ h37 = h_4.push (.cells ([.string (⟨#[61]⟩ : ByteArray), .string (⟨#[33, 61]⟩ : ByteArray), .string (⟨#[94, 61]⟩ : ByteArray)]).toArray 9) ∧ (cellH h37 (a34.add (t8_4.toNat * 1)) = some (.string v35) ∧ (∃ a39 : Addr, (⟨some ⟨b36, 0, none⟩, 3, 3⟩ : Slc).a = some a39 ∧ (0 : Int) ≤ t10_4 ∧ t10_4 < ((⟨some ⟨b36, 0, none⟩, 3, 3⟩ : Slc).len : Int) ∧ (∃ v40 : ByteArray, cellH h37 (a39.add (t10_4.toNat * 1)) = some (.string v40) ∧ (if (v35.toList == v40.toList) then (ref15_Selector_j5 t2_4 t4_4 t5_4 t6_4 t7_4 t8_4 t10_4 t10_4 k nx3 nx4 h37) else (ref15_Selector_j5 t2_4 t4_4 t5_4 t6_4 t7_4 t8_4 t10_4 t9_4 k nx3 nx4 h37)))))))) else (if (decide ((IntKind.i64.wrap (t8_4 + 2)) ≥ (t5_4.len : Int))) then (ref15_Selector_j6 t2_4 t4_4 t5_4 t6_4 t7_4 t8_4 t9_4 (⟨#[125]⟩ : ByteArray) k nx3 nx4 h_4) else (ref15_Selector_j6 t2_4 t4_4 t5_4 t6_4 t7_4 t8_4 t9_4 (⟨#[44]⟩ : ByteArray) k nx3 nx4 h_4))
def ref15_Selector_l4 (t2_4 : Addr) (t4_4 : Addr) (t5_4 : Slc) (t6_4 : Slc) (t7_4 : Addr) (t8_4 : Int) (i9 : Int) (i10 : Int) (k : (S_api_Selector × Bool) → Heap → Prop) (nx3 : (Int) → Heap → Prop) (h : Heap) : Prop :=
 ∃ (I : (Int × Int) → Heap → Prop) (μ : (Int × Int) → Heap → Nat), I (i9, i10) h ∧ ∀ (t9_4 : Int) (t10_4 : Int) (h : Heap), I (t9_4, t10_4) h → ref15_Selector_l4b t2_4 t4_4 t5_4 t6_4 t7_4 t8_4 t9_4 t10_4 k nx3 (fun s h' => I s h' ∧ μ s h' < μ (t9_4, t10_4) h) h
def ref15_Selector_l3b (t2_3 : Addr) (t4_3 : Addr) (t5_3 : Slc) (t6_3 : Slc) (t7_3 : Addr) (t8_3 : Int) (k : (S_api_Selector × Bool) → Heap → Prop) (nx3 : (Int) → Heap → Prop) (h_3 : Heap) : Prop :=
 if (decide (t8_3 < (t5_3.len : Int))) then (∃ x32 : Int, x32 = (-1) ∧ (ref15_Selector_l4 t2_3 t4_3 t5_3 t6_3 t7_3 t8_3 x32 0 k nx3 h_3)) else (∃ v66 : S_api_Selector, CellsAt h_3 t7_3 (S_api_Selector.cs v66) ∧ (∃ h67 : Heap, WrsAt h_3 t2_3 2 ∧ h67 = setsH h_3 t2_3 0 (S_api_Selector.cs v66) ∧ (∃ v68 : S_api_Selector, CellsAt h67 t2_3 (S_api_Selector.cs v68) ∧ k (v68, true) h67)))
def ref15_Selector_l3 (t2_3 : Addr) (t4_3 : Addr) (t5_3 : Slc) (t6_3 : Slc) (t7_3 : Addr) (i8 : Int) (k : (S_api_Selector × Bool) → Heap → Prop) (h : Heap) : Prop :=
 ∃ (I : Int → Heap → Prop) (μ : Int → Heap → Nat), I i8 h ∧ ∀ (t8_3 : Int) (h : Heap), I t8_3 h → ref15_Selector_l3b t2_3 t4_3 t5_3 t6_3 t7_3 t8_3 k (fun s h' => I s h' ∧ μ s h' < μ t8_3 h) h
def ref15_Selector_g2 (t2_2 : Addr) (t4_2 : Addr) (t5_2 : Slc) (t6_2 : Slc) (t7_2 : Addr) (t48_2 : Bool) (k : (S_api_Selector × Bool) → Heap → Prop) (h_2 : Heap) : Prop :=
 if t48_2 then (∃ v21 : S_api_Selector, CellsAt h_2 t4_2 (S_api_Selector.cs v21) ∧ (∃ h22 : Heap, WrsAt h_2 t2_2 2 ∧ h22 = setsH h_2 t2_2 0 (S_api_Selector.cs v21) ∧ (∃ v23 : S_api_Selector, CellsAt h22 t2_2 (S_api_Selector.cs v23) ∧ k (v23, false) h22))) else (if ((t5_2.len : Int) == 1) then (∃ v24 : S_api_Selector, CellsAt h_2 t7_2 (S_api_Selector.cs v24) ∧ (∃ h25 : Heap, WrsAt h_2 t2_2 2 ∧ h25 = setsH h_2 t2_2 0 (S_api_Selector.cs v24) ∧ (∃ v26 : S_api_Selector, CellsAt h25 t2_2 (S_api_Selector.cs v26) ∧ k (v26, true) h25))) else (∃ a27 : Addr, t6_2.a = some a27 ∧ (0 : Int) ≤ 0 ∧ 0 < (t6_2.len : Int) ∧ (∃ v28 : ByteArray, cellH h_2 (a27.add ((0 : Int).toNat * 1)) = some (.string v28) ∧ (if (((!(v28.toList == (⟨#[123]⟩ : ByteArray).toList)) || ((Int.tmod (t5_2.len : Int) 2) == 0)) || (decide ((t5_2.len : Int) > 17))) then (∃ v29 : S_api_Selector, CellsAt h_2 t4_2 (S_api_Selector.cs v29) ∧ (∃ h30 : Heap, WrsAt h_2 t2_2 2 ∧ h30 = setsH h_2 t2_2 0 (S_api_Selector.cs v29) ∧ (∃ v31 : S_api_Selector, CellsAt h30 t2_2 (S_api_Selector.cs v31) ∧ k (v31, false) h30))) else (ref15_Selector_l3 t2_2 t4_2 t5_2 t6_2 t7_2 1 k h_2)))))
def ref15_Selector_g1 (t2_1 : Addr) (t4_1 : Addr) (t5_1 : Slc) (t6_1 : Slc) (t7_1 : Addr) (t38_1 : Bool) (k : (S_api_Selector × Bool) → Heap → Prop) (h_1 : Heap) : Prop :=
 if t38_1 then (∃ v18 : S_api_Selector, CellsAt h_1 t4_1 (S_api_Selector.cs v18) ∧ (∃ h19 : Heap, WrsAt h_1 t2_1 2 ∧ h19 = setsH h_1 t2_1 0 (S_api_Selector.cs v18) ∧ (∃ v20 : S_api_Selector, CellsAt h19 t2_1 (S_api_Selector.cs v20) ∧ k (v20, false) h19))) else (if ((t5_1.len : Int) == 1) then (∃ a69 : Addr, t6_1.a = some a69 ∧ (0 : Int) ≤ 0 ∧ 0 < (t6_1.len : Int) ∧ (∃ v70 : ByteArray, cellH h_1 (a69.add ((0 : Int).toNat * 1)) = some (.string v70) ∧ (ref15_Selector_g2 t2_1 t4_1 t5_1 t6_1 t7_1 (!(v70.toList == (⟨#[]⟩ : ByteArray).toList)) k h_1))) else (ref15_Selector_g2 t2_1 t4_1 t5_1 t6_1 t7_1 false k h_1))
def ref15_Selector (p0 : ByteArray) (k : (S_api_Selector × Bool) → Heap → Prop) (h : Heap) : Prop :=
 ∃ (b1 : Nat) (h2 : Heap), b1 = h.size ∧ h2 = h.push (.cells (S_api_Selector.cs (⟨ByteArray.empty, (⟨none, 0, 0⟩ : Slc)⟩ : S_api_Selector)).toArray 53) ∧ (∃ (b3 : Nat) (h4 : Heap), b3 = h2.size ∧ h4 = h2.push (.cells (S_api_Selector.cs (⟨ByteArray.empty, (⟨none, 0, 0⟩ : Slc)⟩ : S_api_Selector)).toArray 53) ∧ (∃ h5 : Heap, WrsAt h4 (⟨b3, 0, none⟩ : Addr) 2 ∧ h5 = setsH h4 (⟨b3, 0, none⟩ : Addr) 0 (S_api_Selector.cs (⟨ByteArray.empty, (⟨none, 0, 0⟩ : Slc)⟩ : S_api_Selector)) ∧ (ref15_words p0 (fun (r6 : Slc × Slc) h7 => if ((r6.1.len : Int) == 0) then (∃ v8 : S_api_Selector, CellsAt h7 (⟨b3, 0, none⟩ : Addr) (S_api_Selector.cs v8) ∧ (∃ h9 : Heap, WrsAt h7 (⟨b1, 0, none⟩ : Addr) 2 ∧ h9 = setsH h7 (⟨b1, 0, none⟩ : Addr) 0 (S_api_Selector.cs v8) ∧ (∃ v10 : S_api_Selector, CellsAt h9 (⟨b1, 0, none⟩ : Addr) (S_api_Selector.cs v10) ∧ k (v10, (p0.toList == (⟨#[]⟩ : ByteArray).toList)) h9))) else (∃ a11 : Addr, r6.1.a = some a11 ∧ (0 : Int) ≤ 0 ∧ 0 < (r6.1.len : Int) ∧ (∃ v12 : ByteArray, cellH h7 (a11.add ((0 : Int).toNat * 1)) = some (.string v12) ∧ (∃ (b13 : Nat) (h14 : Heap), b13 = h7.size ∧ h14 = h7.push (.cells (S_api_Selector.cs (⟨ByteArray.empty, (⟨none, 0, 0⟩ : Slc)⟩ : S_api_Selector)).toArray 53) ∧ (∃ h15 : Heap, WrsAt h14 (⟨b13, 0, none⟩ : Addr) 2 ∧ h15 = setsH h14 (⟨b13, 0, none⟩ : Addr) 0 (S_api_Selector.cs (⟨v12, (⟨none, 0, 0⟩ : Slc)⟩ : S_api_Selector)) ∧ (∃ a16 : Addr, r6.1.a = some a16 ∧ (0 : Int) ≤ 0 ∧ 0 < (r6.1.len : Int) ∧ (∃ v17 : ByteArray, cellH h15 (a16.add ((0 : Int).toNat * 1)) = some (.string v17) ∧ (if (!(v17.toList == (⟨#[]⟩ : ByteArray).toList)) then (∃ a71 : Addr, r6.1.a = some a71 ∧ (0 : Int) ≤ 0 ∧ 0 < (r6.1.len : Int) ∧ (∃ v72 : ByteArray, cellH h15 (a71.add ((0 : Int).toNat * 1)) = some (.string v72) ∧ (ref15_Word v72 (fun (r73 : Bool) h74 => ref15_Selector_g1 (⟨b1, 0, none⟩ : Addr) (⟨b3, 0, none⟩ : Addr) r6.1 r6.2 (⟨b13, 0, none⟩ : Addr) (!r73) k h74) h15))) else (ref15_Selector_g1 (⟨b1, 0, none⟩ : Addr) (⟨b3, 0, none⟩ : Addr) r6.1 r6.2 (⟨b13, 0, none⟩ : Addr) false k h15))))))))) h5)))

/-- quaestor quaestorref15.Check -/
def ref15_Check_j3 (t1_3 : Addr) (t3_3 : Int) (t58_3 : Bool) (k : (Bool) → Heap → Prop) (nx2 : (Int) → Heap → Prop) (h_3 : Heap) : Prop :=
 if t58_3 then (k false h_3) else (∃ x7 : Int, x7 = (IntKind.i64.wrap (t3_3 + 1)) ∧ (nx2 x7 h_3))
def ref15_Check_l2b (t1_2 : Addr) (t3_2 : Int) (k : (Bool) → Heap → Prop) (nx2 : (Int) → Heap → Prop) (h_2 : Heap) : Prop :=
 ∃ v6 : Slc, cellH h_2 (t1_2.add 1) = some (Slc.v v6) ∧ (if (decide (t3_2 < (v6.len : Int))) then (∃ v8 : Slc, cellH h_2 (t1_2.add 1) = some (Slc.v v8) ∧ (∃ a9 : Addr, v8.a = some a9 ∧ (0 : Int) ≤ t3_2 ∧ t3_2 < (v8.len : Int) ∧ (∃ v10 : ByteArray, cellH h_2 (a9.add (t3_2.toNat * 2)) = some (.string v10) ∧ (ref15_Word v10 (fun (r11 : Bool) h12 => if (!r11) then (if true then (ref15_Check_j3 t1_2 t3_2 true k nx2 h12) else (if (decide (t3_2 > 0)) then (∃ v13 : Slc, cellH h12 (t1_2.add 1) = some (Slc.v v13) ∧ (∃ a14 : Addr, v13.a = some a14 ∧ (0 : Int) ≤ t3_2 ∧ t3_2 < (v13.len : Int) ∧ (∃ v15 : ByteArray, cellH h12 (a14.add (t3_2.toNat * 2)) = some (.string v15) ∧ (∃ v16 : Slc, cellH h12 (t1_2.add 1) = some (Slc.v v16) ∧ (∃ a17 : Addr, v16.a = some a17 ∧ (0 : Int) ≤ (IntKind.i64.wrap (t3_2 - 1)) ∧ (IntKind.i64.wrap (t3_2 - 1)) < (v16.len : Int) ∧ (∃ v18 : ByteArray, cellH h12 (a17.add ((IntKind.i64.wrap (t3_2 - 1)).toNat * 2)) = some (.string v18) ∧ (ref15_Check_j3 t1_2 t3_2 (Op.bytesLess v15.toList v18.toList || v15.toList == v18.toList) k nx2 h12))))))) else (ref15_Check_j3 t1_2 t3_2 false k nx2 h12))) else (∃ v19 : Slc, cellH h12 (t1_2.add 1) = some (Slc.v v19) ∧ (∃ a20 : Addr, v19.a = some a20 ∧ (0 : Int) ≤ t3_2 ∧ t3_2 < (v19.len : Int) ∧ (∃ v21 : ByteArray, cellH h12 ((a20.add (t3_2.toNat * 2)).add 1) = some (.string v21) ∧ (ref15_Word v21 (fun (r22 : Bool) h23 => if (!r22) then (ref15_Check_j3 t1_2 t3_2 true k nx2 h23) else (if (decide (t3_2 > 0)) then (∃ v24 : Slc, cellH h23 (t1_2.add 1) = some (Slc.v v24) ∧ (∃ a25 : Addr, v24.a = some a25 ∧ (0 : Int) ≤ t3_2 ∧ t3_2 < (v24.len : Int) ∧ (∃ v26 : ByteArray, cellH h23 (a25.add (t3_2.toNat * 2)) = some (.string v26) ∧ (∃ v27 : Slc, cellH h23 (t1_2.add 1) = some (Slc.v v27) ∧ (∃ a28 : Addr, v27.a = some a28 ∧ (0 : Int) ≤ (IntKind.i64.wrap (t3_2 - 1)) ∧ (IntKind.i64.wrap (t3_2 - 1)) < (v27.len : Int) ∧ (∃ v29 : ByteArray, cellH h23 (a28.add ((IntKind.i64.wrap (t3_2 - 1)).toNat * 2)) = some (.string v29) ∧ (ref15_Check_j3 t1_2 t3_2 (Op.bytesLess v26.toList v29.toList || v26.toList == v29.toList) k nx2 h23))))))) else (ref15_Check_j3 t1_2 t3_2 false k nx2 h23))) h12))))) h_2)))) else (k true h_2))
def ref15_Check_l2 (t1_2 : Addr) (i3 : Int) (k : (Bool) → Heap → Prop) (h : Heap) : Prop :=
 ∃ (I : Int → Heap → Prop) (μ : Int → Heap → Nat), I i3 h ∧ ∀ (t3_2 : Int) (h : Heap), I t3_2 h → ref15_Check_l2b t1_2 t3_2 k (fun s h' => I s h' ∧ μ s h' < μ t3_2 h) h
def ref15_Check_g1 (t1_1 : Addr) (t13_1 : Bool) (k : (Bool) → Heap → Prop) (h_1 : Heap) : Prop :=
 if t13_1 then (k false h_1) else (ref15_Check_l2 t1_1 0 k h_1)
def ref15_Check (p0 : S_api_Series) (k : (Bool) → Heap → Prop) (h : Heap) : Prop :=
 ∃ (b1 : Nat) (h2 : Heap), b1 = h.size ∧ h2 = h.push (.cells (S_api_Series.cs p0).toArray 62) ∧ (∃ v3 : ByteArray, cellH h2 (⟨b1, 0, none⟩ : Addr) = some (.string v3) ∧ (ref15_Word v3 (fun (r4 : Bool) h5 => if (!r4) then (ref15_Check_g1 (⟨b1, 0, none⟩ : Addr) true k h5) else (∃ v30 : Slc, cellH h5 ((⟨b1, 0, none⟩ : Addr).add 1) = some (Slc.v v30) ∧ (ref15_Check_g1 (⟨b1, 0, none⟩ : Addr) (decide ((v30.len : Int) > 8)) k h5))) h2))

/-- quaestor quaestorref15.Parse -/
def ref15_Parse_g2 (t2_2 : Addr) (t4_2 : Addr) (t6_2 : Addr) (t7_2 : Int) (t32_2 : Bool) (k : (S_api_Series × Bool) → Heap → Prop) (nx1 : (Bool × Int) → Heap → Prop) (h_2 : Heap) : Prop :=
 ∃ v13 : Slc, cellH h_2 (t6_2.add 1) = some (Slc.v v13) ∧ (∃ v14 : Slc, cellH h_2 (t4_2.add 1) = some (Slc.v v14) ∧ (∃ a15 : Addr, v14.a = some a15 ∧ (0 : Int) ≤ t7_2 ∧ t7_2 < (v14.len : Int) ∧ (∃ v16 : ByteArray, cellH h_2 (a15.add (t7_2.toNat * 3)) = some (.string v16) ∧ (∃ v17 : Slc, cellH h_2 (t4_2.add 1) = some (Slc.v v17) ∧ (∃ a18 : Addr, v17.a = some a18 ∧ (0 : Int) ≤ t7_2 ∧ t7_2 < (v17.len : Int) ∧ (∃ v19 : ByteArray, cellH h_2 ((a18.add (t7_2.toNat * 3)).add 2) = some (.string v19) ∧ (∃ (b20 : Nat) (h21 : Heap), b20 = h_2.size ∧ h21 = h_2.push (.cells ((S_api_Label.cs (⟨v16, v19⟩ : S_api_Label))).toArray 103) ∧ (cellH h21 (t6_2.add 1) = some (Slc.v v13) ∧ (App 103 2 32 [.string ByteArray.empty, .string ByteArray.empty] h21 v13 1 ((S_api_Label.cs (⟨v16, v19⟩ : S_api_Label))) (fun s23 h24 => ∃ h25 : Heap, WrH h24 (t6_2.add 1) ∧ h25 = setH h24 (t6_2.add 1) (Slc.v s23) ∧ (∃ x26 : Int, x26 = (IntKind.i64.wrap (t7_2 + 1)) ∧ (nx1 (t32_2, x26) h25))))))))))))
def ref15_Parse_g3 (t2_3 : Addr) (t6_3 : Addr) (t57_3 : Bool) (k : (S_api_Series × Bool) → Heap → Prop) (nx1 : (Bool × Int) → Heap → Prop) (h_3 : Heap) : Prop :=
 if t57_3 then (∃ h30 : Heap, WrsAt h_3 t2_3 2 ∧ h30 = setsH h_3 t2_3 0 (S_api_Series.cs (⟨ByteArray.empty, (⟨none, 0, 0⟩ : Slc)⟩ : S_api_Series)) ∧ (∃ v31 : S_api_Series, CellsAt h30 t2_3 (S_api_Series.cs v31) ∧ k (v31, false) h30)) else (∃ v32 : S_api_Series, CellsAt h_3 t6_3 (S_api_Series.cs v32) ∧ (∃ h33 : Heap, WrsAt h_3 t2_3 2 ∧ h33 = setsH h_3 t2_3 0 (S_api_Series.cs v32) ∧ (∃ v34 : S_api_Series, CellsAt h33 t2_3 (S_api_Series.cs v34) ∧ k (v34, true) h33)))
def ref15_Parse_l1b (t2_1 : Addr) (t4_1 : Addr) (t6_1 : Addr) (t5_1 : Bool) (t7_1 : Int) (k : (S_api_Series × Bool) → Heap → Prop) (nx1 : (Bool × Int) → Heap → Prop) (h_1 : Heap) : Prop :=
 ∃ v12 : Slc, cellH h_1 (t4_1.add 1) = some (Slc.v v12) ∧ (if (decide (t7_1 < (v12.len : Int))) then (if t5_1 then (∃ v27 : Slc, cellH h_1 (t4_1.add 1) = some (Slc.v v27) ∧ (∃ a28 : Addr, v27.a = some a28 ∧ (0 : Int) ≤ t7_1 ∧ t7_1 < (v27.len : Int) ∧ (∃ v29 : Int, cellH h_1 ((a28.add (t7_1.toNat * 3)).add 1) = some (.int .i64 v29) ∧ (ref15_Parse_g2 t2_1 t4_1 t6_1 t7_1 (v29 == 0) k nx1 h_1)))) else (ref15_Parse_g2 t2_1 t4_1 t6_1 t7_1 false k nx1 h_1)) else (if (!t5_1) then (ref15_Parse_g3 t2_1 t6_1 true k nx1 h_1) else (∃ v35 : S_api_Series, CellsAt h_1 t6_1 (S_api_Series.cs v35) ∧ (ref15_Check v35 (fun (r36 : Bool) h37 => ref15_Parse_g3 t2_1 t6_1 (!r36) k nx1 h37) h_1))))
def ref15_Parse_l1 (t2_1 : Addr) (t4_1 : Addr) (t6_1 : Addr) (i5 : Bool) (i7 : Int) (k : (S_api_Series × Bool) → Heap → Prop) (h : Heap) : Prop :=
 ∃ (I : (Bool × Int) → Heap → Prop) (μ : (Bool × Int) → Heap → Nat), I (i5, i7) h ∧ ∀ (t5_1 : Bool) (t7_1 : Int) (h : Heap), I (t5_1, t7_1) h → ref15_Parse_l1b t2_1 t4_1 t6_1 t5_1 t7_1 k (fun s h' => I s h' ∧ μ s h' < μ (t5_1, t7_1) h) h
def ref15_Parse (p0 : ByteArray) (k : (S_api_Series × Bool) → Heap → Prop) (h : Heap) : Prop :=
 ∃ (b1 : Nat) (h2 : Heap), b1 = h.size ∧ h2 = h.push (.cells (S_api_Series.cs (⟨ByteArray.empty, (⟨none, 0, 0⟩ : Slc)⟩ : S_api_Series)).toArray 62) ∧ (ref15_Selector p0 (fun (r3 : S_api_Selector × Bool) h4 => ∃ (b5 : Nat) (h6 : Heap), b5 = h4.size ∧ h6 = h4.push (.cells (S_api_Selector.cs (⟨ByteArray.empty, (⟨none, 0, 0⟩ : Slc)⟩ : S_api_Selector)).toArray 53) ∧ (∃ h7 : Heap, WrsAt h6 (⟨b5, 0, none⟩ : Addr) 2 ∧ h7 = setsH h6 (⟨b5, 0, none⟩ : Addr) 0 (S_api_Selector.cs r3.1) ∧ (∃ v8 : ByteArray, cellH h7 (⟨b5, 0, none⟩ : Addr) = some (.string v8) ∧ (∃ (b9 : Nat) (h10 : Heap), b9 = h7.size ∧ h10 = h7.push (.cells (S_api_Series.cs (⟨ByteArray.empty, (⟨none, 0, 0⟩ : Slc)⟩ : S_api_Series)).toArray 62) ∧ (∃ h11 : Heap, WrsAt h10 (⟨b9, 0, none⟩ : Addr) 2 ∧ h11 = setsH h10 (⟨b9, 0, none⟩ : Addr) 0 (S_api_Series.cs (⟨v8, (⟨none, 0, 0⟩ : Slc)⟩ : S_api_Series)) ∧ (ref15_Parse_l1 (⟨b1, 0, none⟩ : Addr) (⟨b5, 0, none⟩ : Addr) (⟨b9, 0, none⟩ : Addr) r3.2 0 k h11)))))) h2)

/-- quaestor quaestorref15.Chooses -/
def ref15_Chooses_j4 (t2_4 : Addr) (t3_4 : Addr) (t5_4 : Int) (t6_4 : Addr) (t9_4 : Int) (t7_4 : Bool) (t8_4 : Bool) (k : (Bool) → Heap → Prop) (nx2 : (Int) → Heap → Prop) (nx3 : (Bool × Bool × Int) → Heap → Prop) (h_4 : Heap) : Prop :=
 ∃ x14 : Int, x14 = (IntKind.i64.wrap (t9_4 + 1)) ∧ (nx3 (t7_4, t8_4, x14) h_4)
def ref15_Chooses_g6 (t2_6 : Addr) (t3_6 : Addr) (t5_6 : Int) (t6_6 : Addr) (t7_6 : Bool) (t9_6 : Int) (t78_6 : Bool) (k : (Bool) → Heap → Prop) (nx2 : (Int) → Heap → Prop) (nx3 : (Bool × Bool × Int) → Heap → Prop) (h_6 : Heap) : Prop :=
 ref15_Chooses_j4 t2_6 t3_6 t5_6 t6_6 t9_6 t7_6 t78_6 k nx2 nx3 h_6
def ref15_Chooses_g7 (t2_7 : Addr) (t3_7 : Addr) (t5_7 : Int) (t6_7 : Addr) (t7_7 : Bool) (t9_7 : Int) (t59_7 : Bool) (t77_7 : Bool) (k : (Bool) → Heap → Prop) (nx2 : (Int) → Heap → Prop) (nx3 : (Bool × Bool × Int) → Heap → Prop) (h_7 : Heap) : Prop :=
 ref15_Chooses_g6 t2_7 t3_7 t5_7 t6_7 t7_7 t9_7 t77_7 k nx2 nx3 h_7
def ref15_Chooses_g5 (t2_5 : Addr) (t3_5 : Addr) (t5_5 : Int) (t6_5 : Addr) (t8_5 : Bool) (t9_5 : Int) (t10_5 : Addr) (t57_5 : Bool) (k : (Bool) → Heap → Prop) (nx2 : (Int) → Heap → Prop) (nx3 : (Bool × Bool × Int) → Heap → Prop) (h_5 : Heap) : Prop :=
 if t8_5 then (ref15_Chooses_g6 t2_5 t3_5 t5_5 t6_5 t57_5 t9_5 true k nx2 nx3 h_5) else (∃ v23 : ByteArray, cellH h_5 (t10_5.add 1) = some (.string v23) ∧ (∃ v24 : ByteArray, cellH h_5 (t6_5.add 2) = some (.string v24) ∧ (if (decide ((v23.size : Int) ≥ (v24.size : Int))) then (∃ v25 : ByteArray, cellH h_5 (t10_5.add 1) = some (.string v25) ∧ (∃ v26 : ByteArray, cellH h_5 (t6_5.add 2) = some (.string v26) ∧ (∃ s27 : ByteArray, (0 : Int) ≤ 0 ∧ (0 : Int) ≤ (v26.size : Int) ∧ (v26.size : Int) ≤ (v25.size : Int) ∧ s27 = v25.extract (0 : Int).toNat (v26.size : Int).toNat ∧ (∃ v28 : ByteArray, cellH h_5 (t6_5.add 2) = some (.string v28) ∧ (ref15_Chooses_g7 t2_5 t3_5 t5_5 t6_5 t57_5 t9_5 false (s27.toList == v28.toList) k nx2 nx3 h_5))))) else (ref15_Chooses_g7 t2_5 t3_5 t5_5 t6_5 t57_5 t9_5 false false k nx2 nx3 h_5))))
def ref15_Chooses_g11 (t2_11 : Addr) (t3_11 : Addr) (t5_11 : Int) (t112_11 : Bool) (k : (Bool) → Heap → Prop) (nx2 : (Int) → Heap → Prop) (nx3 : (Bool × Bool × Int) → Heap → Prop) (h_11 : Heap) : Prop :=
 if t112_11 then (k false h_11) else (∃ x32 : Int, x32 = (IntKind.i64.wrap (t5_11 + 1)) ∧ (nx2 x32 h_11))
def ref15_Chooses_g10 (t2_10 : Addr) (t3_10 : Addr) (t5_10 : Int) (t6_10 : Addr) (t107_10 : Bool) (k : (Bool) → Heap → Prop) (nx2 : (Int) → Heap → Prop) (nx3 : (Bool × Bool × Int) → Heap → Prop) (h_10 : Heap) : Prop :=
 if t107_10 then (ref15_Chooses_g11 t2_10 t3_10 t5_10 true k nx2 nx3 h_10) else (∃ v33 : Int, cellH h_10 (t6_10.add 1) = some (.int .i64 v33) ∧ (ref15_Chooses_g11 t2_10 t3_10 t5_10 (decide (v33 > 2)) k nx2 nx3 h_10))
def ref15_Chooses_g9 (t2_9 : Addr) (t3_9 : Addr) (t5_9 : Int) (t6_9 : Addr) (t102_9 : Bool) (k : (Bool) → Heap → Prop) (nx2 : (Int) → Heap → Prop) (nx3 : (Bool × Bool × Int) → Heap → Prop) (h_9 : Heap) : Prop :=
 if t102_9 then (ref15_Chooses_g10 t2_9 t3_9 t5_9 t6_9 true k nx2 nx3 h_9) else (∃ v34 : Int, cellH h_9 (t6_9.add 1) = some (.int .i64 v34) ∧ (ref15_Chooses_g10 t2_9 t3_9 t5_9 t6_9 (decide (v34 < 0)) k nx2 nx3 h_9))
def ref15_Chooses_g8 (t2_8 : Addr) (t3_8 : Addr) (t5_8 : Int) (t6_8 : Addr) (t8_8 : Bool) (t93_8 : Bool) (k : (Bool) → Heap → Prop) (nx2 : (Int) → Heap → Prop) (nx3 : (Bool × Bool × Int) → Heap → Prop) (h_8 : Heap) : Prop :=
 if t93_8 then (ref15_Chooses_g9 t2_8 t3_8 t5_8 t6_8 true k nx2 nx3 h_8) else (∃ v35 : Int, cellH h_8 (t6_8.add 1) = some (.int .i64 v35) ∧ (ref15_Chooses_g9 t2_8 t3_8 t5_8 t6_8 ((v35 == 2) && (!t8_8)) k nx2 nx3 h_8))
def ref15_Chooses_l3b (t2_3 : Addr) (t3_3 : Addr) (t5_3 : Int) (t6_3 : Addr) (t7_3 : Bool) (t8_3 : Bool) (t9_3 : Int) (k : (Bool) → Heap → Prop) (nx2 : (Int) → Heap → Prop) (nx3 : (Bool × Bool × Int) → Heap → Prop) (h_3 : Heap) : Prop :=
 ∃ v13 : Slc, cellH h_3 (t3_3.add 1) = some (Slc.v v13) ∧ (if (decide (t9_3 < (v13.len : Int))) then (∃ v15 : Slc, cellH h_3 (t3_3.add 1) = some (Slc.v v15) ∧ (∃ a16 : Addr, v15.a = some a16 ∧ (0 : Int) ≤ t9_3 ∧ t9_3 < (v15.len : Int) ∧ (∃ v17 : S_api_Label, CellsAt h_3 (a16.add (t9_3.toNat * 2)) (S_api_Label.cs v17) ∧ (∃ (b18 : Nat) (h19 : Heap), b18 = h_3.size ∧ h19 = h_3.push (.cells (S_api_Label.cs (⟨ByteArray.empty, ByteArray.empty⟩ : S_api_Label)).toArray 103) ∧ (∃ h20 : Heap, WrsAt h19 (⟨b18, 0, none⟩ : Addr) 2 ∧ h20 = setsH h19 (⟨b18, 0, none⟩ : Addr) 0 (S_api_Label.cs v17) ∧ (∃ v21 : ByteArray, cellH h20 (⟨b18, 0, none⟩ : Addr) = some (.string v21) ∧ (∃ v22 : ByteArray, cellH h20 t6_3 = some (.string v22) ∧ (if (!(v21.toList == v22.toList)) then (ref15_Chooses_j4 t2_3 t3_3 t5_3 t6_3 t9_3 t7_3 t8_3 k nx2 nx3 h20) else (if t7_3 then (ref15_Chooses_g5 t2_3 t3_3 t5_3 t6_3 t8_3 t9_3 (⟨b18, 0, none⟩ : Addr) true k nx2 nx3 h20) else (∃ v29 : ByteArray, cellH h20 ((⟨b18, 0, none⟩ : Addr).add 1) = some (.string v29) ∧ (∃ v30 : ByteArray, cellH h20 (t6_3.add 2) = some (.string v30) ∧ (ref15_Chooses_g5 t2_3 t3_3 t5_3 t6_3 t8_3 t9_3 (⟨b18, 0, none⟩ : Addr) (v29.toList == v30.toList) k nx2 nx3 h20)))))))))))) else (∃ v31 : Int, cellH h_3 (t6_3.add 1) = some (.int .i64 v31) ∧ (if ((v31 == 0) && (!t7_3)) then (ref15_Chooses_g8 t2_3 t3_3 t5_3 t6_3 t8_3 true k nx2 nx3 h_3) else (∃ v36 : Int, cellH h_3 (t6_3.add 1) = some (.int .i64 v36) ∧ (ref15_Chooses_g8 t2_3 t3_3 t5_3 t6_3 t8_3 ((v36 == 1) && t7_3) k nx2 nx3 h_3)))))
def ref15_Chooses_l3 (t2_3 : Addr) (t3_3 : Addr) (t5_3 : Int) (t6_3 : Addr) (i7 : Bool) (i8 : Bool) (i9 : Int) (k : (Bool) → Heap → Prop) (nx2 : (Int) → Heap → Prop) (h : Heap) : Prop :=
 ∃ (I : (Bool × Bool × Int) → Heap → Prop) (μ : (Bool × Bool × Int) → Heap → Nat), I (i7, i8, i9) h ∧ ∀ (t7_3 : Bool) (t8_3 : Bool) (t9_3 : Int) (h : Heap), I (t7_3, t8_3, t9_3) h → ref15_Chooses_l3b t2_3 t3_3 t5_3 t6_3 t7_3 t8_3 t9_3 k nx2 (fun s h' => I s h' ∧ μ s h' < μ (t7_3, t8_3, t9_3) h) h
def ref15_Chooses_l2b (t2_2 : Addr) (t3_2 : Addr) (t5_2 : Int) (k : (Bool) → Heap → Prop) (nx2 : (Int) → Heap → Prop) (h_2 : Heap) : Prop :=
 ∃ v6 : Slc, cellH h_2 (t2_2.add 1) = some (Slc.v v6) ∧ (if (decide (t5_2 < (v6.len : Int))) then (∃ v7 : Slc, cellH h_2 (t2_2.add 1) = some (Slc.v v7) ∧ (∃ a8 : Addr, v7.a = some a8 ∧ (0 : Int) ≤ t5_2 ∧ t5_2 < (v7.len : Int) ∧ (∃ v9 : S_api_Question, CellsAt h_2 (a8.add (t5_2.toNat * 3)) (S_api_Question.cs v9) ∧ (∃ (b10 : Nat) (h11 : Heap), b10 = h_2.size ∧ h11 = h_2.push (.cells (S_api_Question.cs (⟨ByteArray.empty, 0, ByteArray.empty⟩ : S_api_Question)).toArray 86) ∧ (∃ h12 : Heap, WrsAt h11 (⟨b10, 0, none⟩ : Addr) 3 ∧ h12 = setsH h11 (⟨b10, 0, none⟩ : Addr) 0 (S_api_Question.cs v9) ∧ (ref15_Chooses_l3 t2_2 t3_2 t5_2 (⟨b10, 0, none⟩ : Addr) false false 0 k nx2 h12)))))) else (k true h_2))
def ref15_Chooses_l2 (t2_2 : Addr) (t3_2 : Addr) (i5 : Int) (k : (Bool) → Heap → Prop) (h : Heap) : Prop :=
 ∃ (I : Int → Heap → Prop) (μ : Int → Heap → Nat), I i5 h ∧ ∀ (t5_2 : Int) (h : Heap), I t5_2 h → ref15_Chooses_l2b t2_2 t3_2 t5_2 k (fun s h' => I s h' ∧ μ s h' < μ t5_2 h) h
def ref15_Chooses_g1 (t2_1 : Addr) (t3_1 : Addr) (t20_1 : Bool) (k : (Bool) → Heap → Prop) (h_1 : Heap) : Prop :=
 if t20_1 then (k false h_1) else (ref15_Chooses_l2 t2_1 t3_1 0 k h_1)
def ref15_Chooses (p0 : S_api_Selector) (p1 : S_api_Series) (k : (Bool) → Heap → Prop) (h : Heap) : Prop :=
 ∃ (b1 : Nat) (h2 : Heap), b1 = h.size ∧ h2 = h.push (.cells (S_api_Selector.cs p0).toArray 53) ∧ (∃ (b3 : Nat) (h4 : Heap), b3 = h2.size ∧ h4 = h2.push (.cells (S_api_Series.cs p1).toArray 62) ∧ (∃ v5 : ByteArray, cellH h4 (⟨b1, 0, none⟩ : Addr) = some (.string v5) ∧ (if (!(v5.toList == (⟨#[]⟩ : ByteArray).toList)) then (∃ v37 : ByteArray, cellH h4 (⟨b1, 0, none⟩ : Addr) = some (.string v37) ∧ (∃ v38 : ByteArray, cellH h4 (⟨b3, 0, none⟩ : Addr) = some (.string v38) ∧ (ref15_Chooses_g1 (⟨b1, 0, none⟩ : Addr) (⟨b3, 0, none⟩ : Addr) (!(v37.toList == v38.toList)) k h4))) else (ref15_Chooses_g1 (⟨b1, 0, none⟩ : Addr) (⟨b3, 0, none⟩ : Addr) false k h4))))

/-- quaestor quaestorref13.Check -/
def ref13_Check_g1 (t12_1 : Bool) (k : (Bool) → Heap → Prop) (h_1 : Heap) : Prop :=
 k t12_1 h_1
def ref13_Check (p0 : S_api_Piece) (k : (Bool) → Heap → Prop) (h : Heap) : Prop :=
 ∃ (b1 : Nat) (h2 : Heap), b1 = h.size ∧ h2 = h.push (.cells (S_api_Piece.cs p0).toArray 46) ∧ (∃ v3 : ByteArray, cellH h2 (⟨b1, 0, none⟩ : Addr) = some (.string v3) ∧ (if (decide ((v3.size : Int) ≥ 1)) then (∃ v4 : ByteArray, cellH h2 (⟨b1, 0, none⟩ : Addr) = some (.string v4) ∧ (ref13_Check_g1 (decide ((v4.size : Int) ≤ 200)) k h2)) else (ref13_Check_g1 false k h2)))

/-- quaestor quaestorref13.Above -/
def ref13_Above_g1 (t23_1 : Bool) (k : (Bool) → Heap → Prop) (h_1 : Heap) : Prop :=
 k t23_1 h_1
def ref13_Above_g2 (t10_2 : Bool) (t22_2 : Bool) (k : (Bool) → Heap → Prop) (h_2 : Heap) : Prop :=
 ref13_Above_g1 t22_2 k h_2
def ref13_Above (p0 : S_api_Id) (p1 : S_api_Id) (k : (Bool) → Heap → Prop) (h : Heap) : Prop :=
 ∃ (b1 : Nat) (h2 : Heap), b1 = h.size ∧ h2 = h.push (.cells (S_api_Id.cs p0).toArray 44) ∧ (∃ (b3 : Nat) (h4 : Heap), b3 = h2.size ∧ h4 = h2.push (.cells (S_api_Id.cs p1).toArray 44) ∧ (∃ v5 : Int, cellH h4 (⟨b1, 0, none⟩ : Addr) = some (.int .u64 v5) ∧ (∃ v6 : Int, cellH h4 (⟨b3, 0, none⟩ : Addr) = some (.int .u64 v6) ∧ (if (decide (v5 > v6)) then (ref13_Above_g1 true k h4) else (∃ v7 : Int, cellH h4 (⟨b1, 0, none⟩ : Addr) = some (.int .u64 v7) ∧ (∃ v8 : Int, cellH h4 (⟨b3, 0, none⟩ : Addr) = some (.int .u64 v8) ∧ (if (v7 == v8) then (∃ v9 : Int, cellH h4 ((⟨b1, 0, none⟩ : Addr).add 1) = some (.int .u16 v9) ∧ (∃ v10 : Int, cellH h4 ((⟨b3, 0, none⟩ : Addr).add 1) = some (.int .u16 v10) ∧ (ref13_Above_g2 false (decide (v9 > v10)) k h4))) else (ref13_Above_g2 false false k h4))))))))

/-- quaestor quaestorref13.Merge -/
def ref13_Merge_j2 (t0_2 : Slc) (t4_2 : Int) (t3_2 : Slc) (k : (Slc) → Heap → Prop) (nx1 : (Slc × Int) → Heap → Prop) (h_2 : Heap) : Prop :=
 ∃ x1 : Int, x1 = (IntKind.i64.wrap (t4_2 + 1)) ∧ (nx1 (t3_2, x1) h_2)
def ref13_Merge_j7 (t0_7 : Slc) (t3_7 : Slc) (t4_7 : Int) (k : (Slc) → Heap → Prop) (nx1 : (Slc × Int) → Heap → Prop) (nx3 : (Int) → Heap → Prop) (h_7 : Heap) : Prop :=
 ref13_Merge_j2 t0_7 t4_7 t3_7 k nx1 h_7
def ref13_Merge_j8 (t0_8 : Slc) (t3_8 : Slc) (t4_8 : Int) (t5_8 : Addr) (t6_8 : Int) (t108_8 : Bool) (k : (Slc) → Heap → Prop) (nx1 : (Slc × Int) → Heap → Prop) (nx3 : (Int) → Heap → Prop) (h_8 : Heap) : Prop :=
 if t108_8 then (∃ v11 : S_api_Piece, CellsAt h_8 t5_8 (S_api_Piece.cs v11) ∧ (∃ a12 : Addr, t3_8.a = some a12 ∧ (0 : Int) ≤ t6_8 ∧ t6_8 < (t3_8.len : Int) ∧ (∃ h13 : Heap, WrsAt h_8 (a12.add (t6_8.toNat * 5)) 5 ∧ h13 = setsH h_8 (a12.add (t6_8.toNat * 5)) 0 (S_api_Piece.cs v11) ∧ (ref13_Merge_j7 t0_8 t3_8 t4_8 k nx1 nx3 h13)))) else (ref13_Merge_j7 t0_8 t3_8 t4_8 k nx1 nx3 h_8)
def ref13_Merge_g6 (t0_6 : Slc) (t3_6 : Slc) (t4_6 : Int) (t5_6 : Addr) (t6_6 : Int) (t80_6 : Bool) (k : (Slc) → Heap → Prop) (nx1 : (Slc × Int) → Heap → Prop) (nx3 : (Int) → Heap → Prop) (h_6 : Heap) : Prop :=
 if t80_6 then (∃ v14 : S_api_Id, CellsAt h_6 (t5_6.add 3) (S_api_Id.cs v14) ∧ (∃ a15 : Addr, t3_6.a = some a15 ∧ (0 : Int) ≤ t6_6 ∧ t6_6 < (t3_6.len : Int) ∧ (∃ v16 : S_api_Id, CellsAt h_6 ((a15.add (t6_6.toNat * 5)).add 3) (S_api_Id.cs v16) ∧ (ref13_Above v14 v16 (fun (r17 : Bool) h18 => if r17 then (ref13_Merge_j8 t0_6 t3_6 t4_6 t5_6 t6_6 true k nx1 nx3 h18) else (∃ v19 : S_api_Id, CellsAt h18 (t5_6.add 3) (S_api_Id.cs v19) ∧ (∃ a20 : Addr, t3_6.a = some a20 ∧ (0 : Int) ≤ t6_6 ∧ t6_6 < (t3_6.len : Int) ∧ (∃ v21 : S_api_Id, CellsAt h18 ((a20.add (t6_6.toNat * 5)).add 3) (S_api_Id.cs v21) ∧ (if (if BinOp.eql = .eql then ((v19.f_N == v21.f_N) && (v19.f_Node == v21.f_Node)) else !((v19.f_N == v21.f_N) && (v19.f_Node == v21.f_Node))) then (∃ v22 : Int, cellH h18 (t5_6.add 2) = some (.int .i64 v22) ∧ (∃ a23 : Addr, t3_6.a = some a23 ∧ (0 : Int) ≤ t6_6 ∧ t6_6 < (t3_6.len : Int) ∧ (∃ v24 : Int, cellH h18 ((a23.add (t6_6.toNat * 5)).add 2) = some (.int .i64 v24) ∧ (ref13_Merge_j8 t0_6 t3_6 t4_6 t5_6 t6_6 (decide (v22 > v24)) k nx1 nx3 h18)))) else (ref13_Merge_j8 t0_6 t3_6 t4_6 t5_6 t6_6 false k nx1 nx3 h18)))))) h_6)))) else (∃ s25 : Slc, (0 : Int) ≤ 0 ∧ (0 : Int) ≤ t6_6 ∧ (t6_6 : Int) ≤ (t3_6.cap : Int) ∧ (t3_6.cap : Int) ≤ (t3_6.cap : Int) ∧ s25 = subS t3_6 5 (0 : Int).toNat t6_6.toNat (t3_6.cap : Int).toNat ∧ (∃ l28 : List Value, SlcAt h_6 s25 l28 ∧ App 46 5 48 [.string ByteArray.empty, .int .i64 0, .int .i64 0, .int .u64 0, .int .u16 0] h_6 (⟨none, 0, 0⟩ : Slc) s25.len l28 (fun s26 h27 => ∃ v29 : S_api_Piece, CellsAt h27 t5_6 (S_api_Piece.cs v29) ∧ (∃ (b30 : Nat) (h31 : Heap), b30 = h27.size ∧ h31 = h27.push (.cells ((S_api_Piece.cs v29)).toArray 46) ∧ (App 46 5 48 [.string ByteArray.empty, .int .i64 0, .int .i64 0, .int .u64 0, .int .u16 0] h31 s26 1 ((S_api_Piece.cs v29)) (fun s32 h33 => ∃ s34 : Slc, (0 : Int) ≤ t6_6 ∧ (t6_6 : Int) ≤ (t3_6.len : Int) ∧ ((t3_6.len : Int) : Int) ≤ (t3_6.cap : Int) ∧ (t3_6.cap : Int) ≤ (t3_6.cap : Int) ∧ s34 = subS t3_6 5 t6_6.toNat (t3_6.len : Int).toNat (t3_6.cap : Int).toNat ∧ (∃ l37 : List Value, SlcAt h33 s34 l37 ∧ App 46 5 48 [.string ByteArray.empty, .int .i64 0, .int .i64 0, .int .u64 0, .int .u16 0] h33 s32 s34.len l37 (fun s35 h36 => ref13_Merge_j2 t0_6 t4_6 s35 k nx1 h36))))))))
def ref13_Merge_g5 (t0_5 : Slc) (t3_5 : Slc) (t4_5 : Int) (t5_5 : Addr) (t6_5 : Int) (t70_5 : Bool) (k : (Slc) → Heap → Prop) (nx1 : (Slc × Int) → Heap → Prop) (nx3 : (Int) → Heap → Prop) (h_5 : Heap) : Prop :=
 if t70_5 then (∃ a38 : Addr, t3_5.a = some a38 ∧ (0 : Int) ≤ t6_5 ∧ t6_5 < (t3_5.len : Int) ∧ (∃ v39 : Int, cellH h_5 ((a38.add (t6_5.toNat * 5)).add 1) = some (.int .i64 v39) ∧ (∃ v40 : Int, cellH h_5 (t5_5.add 1) = some (.int .i64 v40) ∧ (ref13_Merge_g6 t0_5 t3_5 t4_5 t5_5 t6_5 (v39 == v40) k nx1 nx3 h_5)))) else (ref13_Merge_g6 t0_5 t3_5 t4_5 t5_5 t6_5 false k nx1 nx3 h_5)
def ref13_Merge_g4 (t0_4 : Slc) (t3_4 : Slc) (t4_4 : Int) (t5_4 : Addr) (t6_4 : Int) (t54_4 : Bool) (k : (Slc) → Heap → Prop) (nx1 : (Slc × Int) → Heap → Prop) (nx3 : (Int) → Heap → Prop) (h_4 : Heap) : Prop :=
 if t54_4 then (∃ x10 : Int, x10 = (IntKind.i64.wrap (t6_4 + 1)) ∧ (nx3 x10 h_4)) else (if (decide (t6_4 < (t3_4.len : Int))) then (∃ a41 : Addr, t3_4.a = some a41 ∧ (0 : Int) ≤ t6_4 ∧ t6_4 < (t3_4.len : Int) ∧ (∃ v42 : ByteArray, cellH h_4 (a41.add (t6_4.toNat * 5)) = some (.string v42) ∧ (∃ v43 : ByteArray, cellH h_4 t5_4 = some (.string v43) ∧ (ref13_Merge_g5 t0_4 t3_4 t4_4 t5_4 t6_4 (v42.toList == v43.toList) k nx1 nx3 h_4)))) else (ref13_Merge_g5 t0_4 t3_4 t4_4 t5_4 t6_4 false k nx1 nx3 h_4))
def ref13_Merge_g9 (t0_9 : Slc) (t3_9 : Slc) (t4_9 : Int) (t5_9 : Addr) (t6_9 : Int) (t25_9 : Bool) (t53_9 : Bool) (k : (Slc) → Heap → Prop) (nx1 : (Slc × Int) → Heap → Prop) (nx3 : (Int) → Heap → Prop) (h_9 : Heap) : Prop :=
 ref13_Merge_g4 t0_9 t3_9 t4_9 t5_9 t6_9 t53_9 k nx1 nx3 h_9
def ref13_Merge_g10 (t0_10 : Slc) (t3_10 : Slc) (t4_10 : Int) (t5_10 : Addr) (t6_10 : Int) (t25_10 : Bool) (t34_10 : Bool) (t52_10 : Bool) (k : (Slc) → Heap → Prop) (nx1 : (Slc × Int) → Heap → Prop) (nx3 : (Int) → Heap → Prop) (h_10 : Heap) : Prop :=
 ref13_Merge_g9 t0_10 t3_10 t4_10 t5_10 t6_10 t25_10 t52_10 k nx1 nx3 h_10
def ref13_Merge_l3b (t0_3 : Slc) (t3_3 : Slc) (t4_3 : Int) (t5_3 : Addr) (t6_3 : Int) (k : (Slc) → Heap → Prop) (nx1 : (Slc × Int) → Heap → Prop) (nx3 : (Int) → Heap → Prop) (h_3 : Heap) : Prop :=
 if (decide (t6_3 < (t3_3.len : Int))) then (∃ a44 : Addr, t3_3.a = some a44 ∧ (0 : Int) ≤ t6_3 ∧ t6_3 < (t3_3.len : Int) ∧ (∃ v45 : ByteArray, cellH h_3 (a44.add (t6_3.toNat * 5)) = some (.string v45) ∧ (∃ v46 : ByteArray, cellH h_3 t5_3 = some (.string v46) ∧ (if (Op.bytesLess v45.toList v46.toList) then (ref13_Merge_g9 t0_3 t3_3 t4_3 t5_3 t6_3 true true k nx1 nx3 h_3) else (∃ a47 : Addr, t3_3.a = some a47 ∧ (0 : Int) ≤ t6_3 ∧ t6_3 < (t3_3.len : Int) ∧ (∃ v48 : ByteArray, cellH h_3 (a47.add (t6_3.toNat * 5)) = some (.string v48) ∧ (∃ v49 : ByteArray, cellH h_3 t5_3 = some (.string v49) ∧ (if (v48.toList == v49.toList) then (∃ a50 : Addr, t3_3.a = some a50 ∧ (0 : Int) ≤ t6_3 ∧ t6_3 < (t3_3.len : Int) ∧ (∃ v51 : Int, cellH h_3 ((a50.add (t6_3.toNat * 5)).add 1) = some (.int .i64 v51) ∧ (∃ v52 : Int, cellH h_3 (t5_3.add 1) = some (.int .i64 v52) ∧ (ref13_Merge_g10 t0_3 t3_3 t4_3 t5_3 t6_3 true false (decide (v51 < v52)) k nx1 nx3 h_3)))) else (ref13_Merge_g10 t0_3 t3_3 t4_3 t5_3 t6_3 true false false k nx1 nx3 h_3))))))))) else (ref13_Merge_g4 t0_3 t3_3 t4_3 t5_3 t6_3 false k nx1 nx3 h_3)
def ref13_Merge_l3 (t0_3 : Slc) (t3_3 : Slc) (t4_3 : Int) (t5_3 : Addr) (i6 : Int) (k : (Slc) → Heap → Prop) (nx1 : (Slc × Int) → Heap → Prop) (h : Heap) : Prop :=
 ∃ (I : Int → Heap → Prop) (μ : Int → Heap → Nat), I i6 h ∧ ∀ (t6_3 : Int) (h : Heap), I t6_3 h → ref13_Merge_l3b t0_3 t3_3 t4_3 t5_3 t6_3 k nx1 (fun s h' => I s h' ∧ μ s h' < μ t6_3 h) h
def ref13_Merge_l1b (t0_1 : Slc) (t3_1 : Slc) (t4_1 : Int) (k : (Slc) → Heap → Prop) (nx1 : (Slc × Int) → Heap → Prop) (h_1 : Heap) : Prop :=
 if (decide (t4_1 < (t0_1.len : Int))) then (∃ a2 : Addr, t0_1.a = some a2 ∧ (0 : Int) ≤ t4_1 ∧ t4_1 < (t0_1.len : Int) ∧ (∃ v3 : S_api_Piece, CellsAt h_1 (a2.add (t4_1.toNat * 5)) (S_api_Piece.cs v3) ∧ (∃ (b4 : Nat) (h5 : Heap), b4 = h_1.size ∧ h5 = h_1.push (.cells (S_api_Piece.cs (⟨ByteArray.empty, 0, 0, (⟨0, 0⟩ : S_api_Id)⟩ : S_api_Piece)).toArray 46) ∧ (∃ h6 : Heap, WrsAt h5 (⟨b4, 0, none⟩ : Addr) 5 ∧ h6 = setsH h5 (⟨b4, 0, none⟩ : Addr) 0 (S_api_Piece.cs v3) ∧ (∃ v7 : S_api_Piece, CellsAt h6 (⟨b4, 0, none⟩ : Addr) (S_api_Piece.cs v7) ∧ (ref13_Check v7 (fun (r8 : Bool) h9 => if (!r8) then (ref13_Merge_j2 t0_1 t4_1 t3_1 k nx1 h9) else (ref13_Merge_l3 t0_1 t3_1 t4_1 (⟨b4, 0, none⟩ : Addr) 0 k nx1 h9)) h6)))))) else (k t3_1 h_1)
def ref13_Merge_l1 (t0_1 : Slc) (i3 : Slc) (i4 : Int) (k : (Slc) → Heap → Prop) (h : Heap) : Prop :=
 ∃ (I : (Slc × Int) → Heap → Prop) (μ : (Slc × Int) → Heap → Nat), I (i3, i4) h ∧ ∀ (t3_1 : Slc) (t4_1 : Int) (h : Heap), I (t3_1, t4_1) h → ref13_Merge_l1b t0_1 t3_1 t4_1 k (fun s h' => I s h' ∧ μ s h' < μ (t3_1, t4_1) h) h
def ref13_Merge (p0 : Slc) (k : (Slc) → Heap → Prop) (h : Heap) : Prop :=
 ref13_Merge_l1 p0 (⟨none, 0, 0⟩ : Slc) 0 k h

/-- quaestor quaestorref19.Check -/
def ref19_Check_g2 (t30_2 : Bool) (k : (Int) → Heap → Prop) (h_2 : Heap) : Prop :=
 if t30_2 then (k 1 h_2) else (k 0 h_2)
def ref19_Check_g3 (t21_3 : Bool) (t29_3 : Bool) (k : (Int) → Heap → Prop) (h_3 : Heap) : Prop :=
 ref19_Check_g2 t29_3 k h_3
def ref19_Check_g1 (t1_1 : Addr) (t20_1 : Bool) (k : (Int) → Heap → Prop) (h_1 : Heap) : Prop :=
 if t20_1 then (ref19_Check_g2 true k h_1) else (∃ v10 : Int, cellH h_1 (t1_1.add 3) = some (.int .i64 v10) ∧ (if (v10 == 6) then (∃ v11 : Int, cellH h_1 (t1_1.add 4) = some (.int .i64 v11) ∧ (ref19_Check_g3 false (decide (v11 < 1)) k h_1)) else (ref19_Check_g3 false false k h_1)))
def ref19_Check (p0 : S_api_Query) (k : (Int) → Heap → Prop) (h : Heap) : Prop :=
 ∃ (b1 : Nat) (h2 : Heap), b1 = h.size ∧ h2 = h.push (.cells (S_api_Query.cs p0).toArray 23) ∧ (∃ v3 : ByteArray, cellH h2 (⟨b1, 0, none⟩ : Addr) = some (.string v3) ∧ (ref15_Selector v3 (fun (r4 : S_api_Selector × Bool) h5 => ∃ (b6 : Nat) (h7 : Heap), b6 = h5.size ∧ h7 = h5.push (.cells (S_api_Selector.cs (⟨ByteArray.empty, (⟨none, 0, 0⟩ : Slc)⟩ : S_api_Selector)).toArray 53) ∧ (∃ h8 : Heap, WrsAt h7 (⟨b6, 0, none⟩ : Addr) 2 ∧ h8 = setsH h7 (⟨b6, 0, none⟩ : Addr) 0 (S_api_Selector.cs r4.1) ∧ (if (!r4.2) then (k 4 h8) else (∃ v9 : Int, cellH h8 ((⟨b1, 0, none⟩ : Addr).add 3) = some (.int .i64 v9) ∧ (if (decide (v9 < 0)) then (ref19_Check_g1 (⟨b1, 0, none⟩ : Addr) true k h8) else (∃ v12 : Int, cellH h8 ((⟨b1, 0, none⟩ : Addr).add 3) = some (.int .i64 v12) ∧ (ref19_Check_g1 (⟨b1, 0, none⟩ : Addr) (decide (v12 > 6)) k h8))))))) h2))

/-- quaestor quaestorref19.Ask -/
def ref19_Ask_j2 (t2_2 : Int) (t3_2 : Addr) (t7_2 : Addr) (t9_2 : Slc) (t11_2 : Int) (t10_2 : Slc) (k : (Slc) → Heap → Prop) (nx1 : (Slc × Int) → Heap → Prop) (h_2 : Heap) : Prop :=
 ∃ x11 : Int, x11 = (IntKind.i64.wrap (t11_2 + 1)) ∧ (nx1 (t10_2, x11) h_2)
def ref19_Ask_j3 (t2_3 : Int) (t3_3 : Addr) (t7_3 : Addr) (t9_3 : Slc) (t10_3 : Slc) (t11_3 : Int) (t71_3 : Bool) (k : (Slc) → Heap → Prop) (nx1 : (Slc × Int) → Heap → Prop) (h_3 : Heap) : Prop :=
 if t71_3 then (∃ a19 : Addr, t9_3.a = some a19 ∧ (0 : Int) ≤ t11_3 ∧ t11_3 < (t9_3.len : Int) ∧ (∃ v20 : S_api_Piece, CellsAt h_3 (a19.add (t11_3.toNat * 5)) (S_api_Piece.cs v20) ∧ (∃ (b21 : Nat) (h22 : Heap), b21 = h_3.size ∧ h22 = h_3.push (.cells ((S_api_Piece.cs v20)).toArray 46) ∧ (App 46 5 48 [.string ByteArray.empty, .int .i64 0, .int .i64 0, .int .u64 0, .int .u16 0] h22 t10_3 1 ((S_api_Piece.cs v20)) (fun s23 h24 => ref19_Ask_j2 t2_3 t3_3 t7_3 t9_3 t11_3 s23 k nx1 h24))))) else (ref19_Ask_j2 t2_3 t3_3 t7_3 t9_3 t11_3 t10_3 k nx1 h_3)
def ref19_Ask_l1b (t2_1 : Int) (t3_1 : Addr) (t7_1 : Addr) (t9_1 : Slc) (t10_1 : Slc) (t11_1 : Int) (k : (Slc) → Heap → Prop) (nx1 : (Slc × Int) → Heap → Prop) (h_1 : Heap) : Prop :=
 if (decide (t11_1 < (t9_1.len : Int))) then (∃ a12 : Addr, t9_1.a = some a12 ∧ (0 : Int) ≤ t11_1 ∧ t11_1 < (t9_1.len : Int) ∧ (∃ v13 : ByteArray, cellH h_1 (a12.add (t11_1.toNat * 5)) = some (.string v13) ∧ (ref15_Parse v13 (fun (r14 : S_api_Series × Bool) h15 => ∃ (b16 : Nat) (h17 : Heap), b16 = h15.size ∧ h17 = h15.push (.cells (S_api_Series.cs (⟨ByteArray.empty, (⟨none, 0, 0⟩ : Slc)⟩ : S_api_Series)).toArray 62) ∧ (∃ h18 : Heap, WrsAt h17 (⟨b16, 0, none⟩ : Addr) 2 ∧ h18 = setsH h17 (⟨b16, 0, none⟩ : Addr) 0 (S_api_Series.cs r14.1) ∧ (if r14.2 then (∃ v25 : S_api_Selector, CellsAt h18 t7_1 (S_api_Selector.cs v25) ∧ (∃ v26 : S_api_Series, CellsAt h18 (⟨b16, 0, none⟩ : Addr) (S_api_Series.cs v26) ∧ (ref15_Chooses v25 v26 (fun (r27 : Bool) h28 => if r27 then (∃ a29 : Addr, t9_1.a = some a29 ∧ (0 : Int) ≤ t11_1 ∧ t11_1 < (t9_1.len : Int) ∧ (∃ v30 : Int, cellH h28 ((a29.add (t11_1.toNat * 5)).add 1) = some (.int .i64 v30) ∧ (∃ v31 : Int, cellH h28 (t3_1.add 1) = some (.int .i64 v31) ∧ (if (decide (v30 ≥ v31)) then (∃ a32 : Addr, t9_1.a = some a32 ∧ (0 : Int) ≤ t11_1 ∧ t11_1 < (t9_1.len : Int) ∧ (∃ v33 : Int, cellH h28 ((a32.add (t11_1.toNat * 5)).add 1) = some (.int .i64 v33) ∧ (if (decide (v33 ≥ t2_1)) then (∃ a34 : Addr, t9_1.a = some a34 ∧ (0 : Int) ≤ t11_1 ∧ t11_1 < (t9_1.len : Int) ∧ (∃ v35 : Int, cellH h28 ((a34.add (t11_1.toNat * 5)).add 1) = some (.int .i64 v35) ∧ (∃ v36 : Int, cellH h28 (t3_1.add 2) = some (.int .i64 v36) ∧ (ref19_Ask_j3 t2_1 t3_1 t7_1 t9_1 t10_1 t11_1 (decide (v35 ≤ v36)) k nx1 h28)))) else (ref19_Ask_j3 t2_1 t3_1 t7_1 t9_1 t10_1 t11_1 false k nx1 h28)))) else (if false then (∃ a37 : Addr, t9_1.a = some a37 ∧ (0 : Int) ≤ t11_1 ∧ t11_1 < (t9_1.len : Int) ∧ (∃ v38 : Int, cellH h28 ((a37.add (t11_1.toNat * 5)).add 1) = some (.int .i64 v38) ∧ (∃ v39 : Int, cellH h28 (t3_1.add 2) = some (.int .i64 v39) ∧ (ref19_Ask_j3 t2_1 t3_1 t7_1 t9_1 t10_1 t11_1 (decide (v38 ≤ v39)) k nx1 h28)))) else (ref19_Ask_j3 t2_1 t3_1 t7_1 t9_1 t10_1 t11_1 false k nx1 h28)))))) else (if false then (∃ a40 : Addr, t9_1.a = some a40 ∧ (0 : Int) ≤ t11_1 ∧ t11_1 < (t9_1.len : Int) ∧ (∃ v41 : Int, cellH h28 ((a40.add (t11_1.toNat * 5)).add 1) = some (.int .i64 v41) ∧ (if (decide (v41 ≥ t2_1)) then (∃ a42 : Addr, t9_1.a = some a42 ∧ (0 : Int) ≤ t11_1 ∧ t11_1 < (t9_1.len : Int) ∧ (∃ v43 : Int, cellH h28 ((a42.add (t11_1.toNat * 5)).add 1) = some (.int .i64 v43) ∧ (∃ v44 : Int, cellH h28 (t3_1.add 2) = some (.int .i64 v44) ∧ (ref19_Ask_j3 t2_1 t3_1 t7_1 t9_1 t10_1 t11_1 (decide (v43 ≤ v44)) k nx1 h28)))) else (ref19_Ask_j3 t2_1 t3_1 t7_1 t9_1 t10_1 t11_1 false k nx1 h28)))) else (if false then (∃ a45 : Addr, t9_1.a = some a45 ∧ (0 : Int) ≤ t11_1 ∧ t11_1 < (t9_1.len : Int) ∧ (∃ v46 : Int, cellH h28 ((a45.add (t11_1.toNat * 5)).add 1) = some (.int .i64 v46) ∧ (∃ v47 : Int, cellH h28 (t3_1.add 2) = some (.int .i64 v47) ∧ (ref19_Ask_j3 t2_1 t3_1 t7_1 t9_1 t10_1 t11_1 (decide (v46 ≤ v47)) k nx1 h28)))) else (ref19_Ask_j3 t2_1 t3_1 t7_1 t9_1 t10_1 t11_1 false k nx1 h28)))) h18))) else (if false then (∃ a48 : Addr, t9_1.a = some a48 ∧ (0 : Int) ≤ t11_1 ∧ t11_1 < (t9_1.len : Int) ∧ (∃ v49 : Int, cellH h18 ((a48.add (t11_1.toNat * 5)).add 1) = some (.int .i64 v49) ∧ (∃ v50 : Int, cellH h18 (t3_1.add 1) = some (.int .i64 v50) ∧ (if (decide (v49 ≥ v50)) then (∃ a51 : Addr, t9_1.a = some a51 ∧ (0 : Int) ≤ t11_1 ∧ t11_1 < (t9_1.len : Int) ∧ (∃ v52 : Int, cellH h18 ((a51.add (t11_1.toNat * 5)).add 1) = some (.int .i64 v52) ∧ (if (decide (v52 ≥ t2_1)) then (∃ a53 : Addr, t9_1.a = some a53 ∧ (0 : Int) ≤ t11_1 ∧ t11_1 < (t9_1.len : Int) ∧ (∃ v54 : Int, cellH h18 ((a53.add (t11_1.toNat * 5)).add 1) = some (.int .i64 v54) ∧ (∃ v55 : Int, cellH h18 (t3_1.add 2) = some (.int .i64 v55) ∧ (ref19_Ask_j3 t2_1 t3_1 t7_1 t9_1 t10_1 t11_1 (decide (v54 ≤ v55)) k nx1 h18)))) else (ref19_Ask_j3 t2_1 t3_1 t7_1 t9_1 t10_1 t11_1 false k nx1 h18)))) else (if false then (∃ a56 : Addr, t9_1.a = some a56 ∧ (0 : Int) ≤ t11_1 ∧ t11_1 < (t9_1.len : Int) ∧ (∃ v57 : Int, cellH h18 ((a56.add (t11_1.toNat * 5)).add 1) = some (.int .i64 v57) ∧ (∃ v58 : Int, cellH h18 (t3_1.add 2) = some (.int .i64 v58) ∧ (ref19_Ask_j3 t2_1 t3_1 t7_1 t9_1 t10_1 t11_1 (decide (v57 ≤ v58)) k nx1 h18)))) else (ref19_Ask_j3 t2_1 t3_1 t7_1 t9_1 t10_1 t11_1 false k nx1 h18)))))) else (if false then (∃ a59 : Addr, t9_1.a = some a59 ∧ (0 : Int) ≤ t11_1 ∧ t11_1 < (t9_1.len : Int) ∧ (∃ v60 : Int, cellH h18 ((a59.add (t11_1.toNat * 5)).add 1) = some (.int .i64 v60) ∧ (if (decide (v60 ≥ t2_1)) then (∃ a61 : Addr, t9_1.a = some a61 ∧ (0 : Int) ≤ t11_1 ∧ t11_1 < (t9_1.len : Int) ∧ (∃ v62 : Int, cellH h18 ((a61.add (t11_1.toNat * 5)).add 1) = some (.int .i64 v62) ∧ (∃ v63 : Int, cellH h18 (t3_1.add 2) = some (.int .i64 v63) ∧ (ref19_Ask_j3 t2_1 t3_1 t7_1 t9_1 t10_1 t11_1 (decide (v62 ≤ v63)) k nx1 h18)))) else (ref19_Ask_j3 t2_1 t3_1 t7_1 t9_1 t10_1 t11_1 false k nx1 h18)))) else (if false then (∃ a64 : Addr, t9_1.a = some a64 ∧ (0 : Int) ≤ t11_1 ∧ t11_1 < (t9_1.len : Int) ∧ (∃ v65 : Int, cellH h18 ((a64.add (t11_1.toNat * 5)).add 1) = some (.int .i64 v65) ∧ (∃ v66 : Int, cellH h18 (t3_1.add 2) = some (.int .i64 v66) ∧ (ref19_Ask_j3 t2_1 t3_1 t7_1 t9_1 t10_1 t11_1 (decide (v65 ≤ v66)) k nx1 h18)))) else (ref19_Ask_j3 t2_1 t3_1 t7_1 t9_1 t10_1 t11_1 false k nx1 h18))))))) h_1))) else (k t10_1 h_1)
def ref19_Ask_l1 (t2_1 : Int) (t3_1 : Addr) (t7_1 : Addr) (t9_1 : Slc) (i10 : Slc) (i11 : Int) (k : (Slc) → Heap → Prop) (h : Heap) : Prop :=
 ∃ (I : (Slc × Int) → Heap → Prop) (μ : (Slc × Int) → Heap → Nat), I (i10, i11) h ∧ ∀ (t10_1 : Slc) (t11_1 : Int) (h : Heap), I (t10_1, t11_1) h → ref19_Ask_l1b t2_1 t3_1 t7_1 t9_1 t10_1 t11_1 k (fun s h' => I s h' ∧ μ s h' < μ (t10_1, t11_1) h) h
def ref19_Ask (p0 : S_api_Query) (p1 : Slc) (p2 : Int) (k : (Slc) → Heap → Prop) (h : Heap) : Prop :=
 ∃ (b1 : Nat) (h2 : Heap), b1 = h.size ∧ h2 = h.push (.cells (S_api_Query.cs p0).toArray 23) ∧ (∃ v3 : ByteArray, cellH h2 (⟨b1, 0, none⟩ : Addr) = some (.string v3) ∧ (ref15_Selector v3 (fun (r4 : S_api_Selector × Bool) h5 => ∃ (b6 : Nat) (h7 : Heap), b6 = h5.size ∧ h7 = h5.push (.cells (S_api_Selector.cs (⟨ByteArray.empty, (⟨none, 0, 0⟩ : Slc)⟩ : S_api_Selector)).toArray 53) ∧ (∃ h8 : Heap, WrsAt h7 (⟨b6, 0, none⟩ : Addr) 2 ∧ h8 = setsH h7 (⟨b6, 0, none⟩ : Addr) 0 (S_api_Selector.cs r4.1) ∧ (ref13_Merge p1 (fun (r9 : Slc) h10 => ref19_Ask_l1 p2 (⟨b1, 0, none⟩ : Addr) (⟨b6, 0, none⟩ : Addr) r9 (⟨none, 0, 0⟩ : Slc) 0 k h10) h8))) h2))

/-- quaestor quaestorref19.Run -/
def ref19_Run_j6 (t3_6 : Addr) (t9_6 : Slc) (t12_6 : Int) (t10_6 : Slc) (k : (Slc × Int) → Heap → Prop) (nx1 : (Slc × Int) → Heap → Prop) (nx2 : (Int) → Heap → Prop) (nx4 : (Int × Int × Int) → Heap → Prop) (h_6 : Heap) : Prop :=
 nx1 (t10_6, t12_6) h_6
def ref19_Run_g8 (t3_8 : Addr) (t9_8 : Slc) (t10_8 : Slc) (t12_8 : Int) (t17_8 : Addr) (t287_8 : Bool) (k : (Slc × Int) → Heap → Prop) (nx1 : (Slc × Int) → Heap → Prop) (nx2 : (Int) → Heap → Prop) (nx4 : (Int × Int × Int) → Heap → Prop) (h_8 : Heap) : Prop :=
 if t287_8 then (∃ v43 : S_api_Row, CellsAt h_8 t17_8 (S_api_Row.cs v43) ∧ (∃ (b44 : Nat) (h45 : Heap), b44 = h_8.size ∧ h45 = h_8.push (.cells ((S_api_Row.cs v43)).toArray 50) ∧ (App 50 4 40 [.string ByteArray.empty, .int .i64 0, .int .i64 0, .int .u64 0] h45 t10_8 1 ((S_api_Row.cs v43)) (fun s46 h47 => ref19_Run_j6 t3_8 t9_8 t12_8 s46 k nx1 nx2 nx4 h47)))) else (ref19_Run_j6 t3_8 t9_8 t12_8 t10_8 k nx1 nx2 nx4 h_8)
def ref19_Run_g7 (t3_7 : Addr) (t9_7 : Slc) (t10_7 : Slc) (t11_7 : Int) (t12_7 : Int) (t17_7 : Addr) (t276_7 : Bool) (k : (Slc × Int) → Heap → Prop) (nx1 : (Slc × Int) → Heap → Prop) (nx2 : (Int) → Heap → Prop) (nx4 : (Int × Int × Int) → Heap → Prop) (h_7 : Heap) : Prop :=
 if t276_7 then (ref19_Run_g8 t3_7 t9_7 t10_7 t12_7 t17_7 true k nx1 nx2 nx4 h_7) else (∃ v48 : Int, cellH h_7 (t3_7.add 3) = some (.int .i64 v48) ∧ (ref19_Run_g8 t3_7 t9_7 t10_7 t12_7 t17_7 ((v48 == 5) && (decide ((IntKind.i64.wrap (t12_7 - t11_7)) > 1))) k nx1 nx2 nx4 h_7))
def ref19_Run_j5 (t3_5 : Addr) (t9_5 : Slc) (t11_5 : Int) (t12_5 : Int) (t17_5 : Addr) (t10_5 : Slc) (k : (Slc × Int) → Heap → Prop) (nx1 : (Slc × Int) → Heap → Prop) (nx2 : (Int) → Heap → Prop) (nx4 : (Int × Int × Int) → Heap → Prop) (h_5 : Heap) : Prop :=
 ∃ v42 : Int, cellH h_5 (t3_5.add 3) = some (.int .i64 v42) ∧ (if (decide (v42 ≥ 1)) then (∃ v49 : Int, cellH h_5 (t3_5.add 3) = some (.int .i64 v49) ∧ (ref19_Run_g7 t3_5 t9_5 t10_5 t11_5 t12_5 t17_5 (decide (v49 ≤ 4)) k nx1 nx2 nx4 h_5)) else (ref19_Run_g7 t3_5 t9_5 t10_5 t11_5 t12_5 t17_5 false k nx1 nx2 nx4 h_5))
def ref19_Run_l9b (t3_9 : Addr) (t9_9 : Slc) (t11_9 : Int) (t12_9 : Int) (t17_9 : Addr) (t10_9 : Slc) (t18_9 : Int) (k : (Slc × Int) → Heap → Prop) (nx1 : (Slc × Int) → Heap → Prop) (nx2 : (Int) → Heap → Prop) (nx4 : (Int × Int × Int) → Heap → Prop) (nx9 : (Slc × Int) → Heap → Prop) (h_9 : Heap) : Prop :=
 if (decide (t18_9 < t12_9)) then (∃ a51 : Addr, t9_9.a = some a51 ∧ (0 : Int) ≤ t18_9 ∧ t18_9 < (t9_9.len : Int) ∧ (∃ v52 : ByteArray, cellH h_9 (a51.add (t18_9.toNat * 5)) = some (.string v52) ∧ (∃ a53 : Addr, t9_9.a = some a53 ∧ (0 : Int) ≤ t18_9 ∧ t18_9 < (t9_9.len : Int) ∧ (∃ v54 : Int, cellH h_9 ((a53.add (t18_9.toNat * 5)).add 1) = some (.int .i64 v54) ∧ (∃ a55 : Addr, t9_9.a = some a55 ∧ (0 : Int) ≤ t18_9 ∧ t18_9 < (t9_9.len : Int) ∧ (∃ v56 : Int, cellH h_9 ((a55.add (t18_9.toNat * 5)).add 2) = some (.int .i64 v56) ∧ (ref19_wide v56 (fun (r57 : S_api_Wide) h58 => cellH h58 ((a53.add (t18_9.toNat * 5)).add 1) = some (.int .i64 v54) ∧ cellH h58 (a51.add (t18_9.toNat * 5)) = some (.string v52) ∧ (∃ (b61 : Nat) (h62 : Heap), b61 = h58.size ∧ h62 = h58.push (.cells ((S_api_Row.cs (⟨v52, v54, r57⟩ : S_api_Row))).toArray 50) ∧ (App 50 4 40 [.string ByteArray.empty, .int .i64 0, .int .i64 0, .int .u64 0] h62 t10_9 1 ((S_api_Row.cs (⟨v52, v54, r57⟩ : S_api_Row))) (fun s63 h64 => ∃ x65 : Int, x65 = (IntKind.i64.wrap (t18_9 + 1)) ∧ (nx9 (s63, x65) h64))))) h_9))))))) else (ref19_Run_j5 t3_9 t9_9 t11_9 t12_9 t17_9 t10_9 k nx1 nx2 nx4 h_9)
def ref19_Run_l9 (t3_9 : Addr) (t9_9 : Slc) (t11_9 : Int) (t12_9 : Int) (t17_9 : Addr) (i10 : Slc) (i18 : Int) (k : (Slc × Int) → Heap → Prop) (nx1 : (Slc × Int) → Heap → Prop) (nx2 : (Int) → Heap → Prop) (nx4 : (Int × Int × Int) → Heap → Prop) (h : Heap) : Prop :=
 ∃ (I : (Slc × Int) → Heap → Prop) (μ : (Slc × Int) → Heap → Nat), I (i10, i18) h ∧ ∀ (t10_9 : Slc) (t18_9 : Int) (h : Heap), I (t10_9, t18_9) h → ref19_Run_l9b t3_9 t9_9 t11_9 t12_9 t17_9 t10_9 t18_9 k nx1 nx2 nx4 (fun s h' => I s h' ∧ μ s h' < μ (t10_9, t18_9) h) h
def ref19_Run_g11 (t3_11 : Addr) (t9_11 : Slc) (t10_11 : Slc) (t11_11 : Int) (t12_11 : Int) (t17_11 : Addr) (t19_11 : Addr) (t20_11 : Addr) (t189_11 : Bool) (k : (Slc × Int) → Heap → Prop) (nx1 : (Slc × Int) → Heap → Prop) (nx2 : (Int) → Heap → Prop) (nx4 : (Int × Int × Int) → Heap → Prop) (h_11 : Heap) : Prop :=
 if t189_11 then (k ((⟨none, 0, 0⟩ : Slc), 19) h_11) else (∃ v81 : Int, cellH h_11 (t20_11.add 2) = some (.int .i64 v81) ∧ (∃ v82 : Int, cellH h_11 (t19_11.add 2) = some (.int .i64 v82) ∧ (∃ v83 : Int, cellH h_11 (t20_11.add 1) = some (.int .i64 v83) ∧ (∃ v84 : Int, cellH h_11 (t19_11.add 1) = some (.int .i64 v84) ∧ (ref01_Floor (IntKind.i64.wrap (v81 - v82)) (IntKind.i64.wrap (v83 - v84)) (fun (r85 : Int × Int) h86 => ref19_wide r85.1 (fun (r87 : S_api_Wide) h88 => ∃ h89 : Heap, WrsAt h88 (t17_11.add 2) 2 ∧ h89 = setsH h88 (t17_11.add 2) 0 (S_api_Wide.cs r87) ∧ (ref19_Run_j5 t3_11 t9_11 t11_11 t12_11 t17_11 t10_11 k nx1 nx2 nx4 h89)) h86) h_11)))))
def ref19_Run_j10 (t3_10 : Addr) (t9_10 : Slc) (t10_10 : Slc) (t11_10 : Int) (t12_10 : Int) (t17_10 : Addr) (t19_10 : Addr) (t20_10 : Addr) (k : (Slc × Int) → Heap → Prop) (nx1 : (Slc × Int) → Heap → Prop) (nx2 : (Int) → Heap → Prop) (nx4 : (Int × Int × Int) → Heap → Prop) (h_10 : Heap) : Prop :=
 if (decide ((IntKind.i64.wrap (t12_10 - t11_10)) > 1)) then (∃ v77 : Int, cellH h_10 (t20_10.add 2) = some (.int .i64 v77) ∧ (∃ v78 : Int, cellH h_10 (t19_10.add 2) = some (.int .i64 v78) ∧ (ref19_apart v77 v78 (fun (r79 : Bool) h80 => if (!r79) then (ref19_Run_g11 t3_10 t9_10 t10_10 t11_10 t12_10 t17_10 t19_10 t20_10 true k nx1 nx2 nx4 h80) else (∃ v90 : Int, cellH h80 (t20_10.add 1) = some (.int .i64 v90) ∧ (∃ v91 : Int, cellH h80 (t19_10.add 1) = some (.int .i64 v91) ∧ (ref19_apart v90 v91 (fun (r92 : Bool) h93 => ref19_Run_g11 t3_10 t9_10 t10_10 t11_10 t12_10 t17_10 t19_10 t20_10 (!r92) k nx1 nx2 nx4 h93) h80)))) h_10))) else (ref19_Run_j5 t3_10 t9_10 t11_10 t12_10 t17_10 t10_10 k nx1 nx2 nx4 h_10)
def ref19_Run_j13 (t3_13 : Addr) (t9_13 : Slc) (t10_13 : Slc) (t11_13 : Int) (t12_13 : Int) (t17_13 : Addr) (t24_13 : Int) (t26_13 : Addr) (t23_13 : Int) (k : (Slc × Int) → Heap → Prop) (nx1 : (Slc × Int) → Heap → Prop) (nx2 : (Int) → Heap → Prop) (nx4 : (Int × Int × Int) → Heap → Prop) (nx12 : (Slc × Int) → Heap → Prop) (h_13 : Heap) : Prop :=
 ∃ a128 : Addr, t9_13.a = some a128 ∧ (0 : Int) ≤ t11_13 ∧ t11_13 < (t9_13.len : Int) ∧ (∃ v129 : ByteArray, cellH h_13 (a128.add (t11_13.toNat * 5)) = some (.string v129) ∧ (∃ v130 : Int, cellH h_13 (t3_13.add 4) = some (.int .i64 v130) ∧ (∃ v131 : S_api_Wide, CellsAt h_13 t26_13 (S_api_Wide.cs v131) ∧ (∃ (b132 : Nat) (h133 : Heap), b132 = h_13.size ∧ h133 = h_13.push (.cells ((S_api_Row.cs (⟨v129, (IntKind.i64.wrap (t24_13 * v130)), v131⟩ : S_api_Row))).toArray 50) ∧ (App 50 4 40 [.string ByteArray.empty, .int .i64 0, .int .i64 0, .int .u64 0] h133 t10_13 1 ((S_api_Row.cs (⟨v129, (IntKind.i64.wrap (t24_13 * v130)), v131⟩ : S_api_Row))) (fun s134 h135 => nx12 (s134, t23_13) h135))))))
def ref19_Run_l14b (t3_14 : Addr) (t9_14 : Slc) (t10_14 : Slc) (t11_14 : Int) (t12_14 : Int) (t17_14 : Addr) (t24_14 : Int) (t26_14 : Addr) (t23_14 : Int) (k : (Slc × Int) → Heap → Prop) (nx1 : (Slc × Int) → Heap → Prop) (nx2 : (Int) → Heap → Prop) (nx4 : (Int × Int × Int) → Heap → Prop) (nx12 : (Slc × Int) → Heap → Prop) (nx14 : (Int) → Heap → Prop) (h_14 : Heap) : Prop :=
 if (decide (t23_14 < t12_14)) then (∃ a136 : Addr, t9_14.a = some a136 ∧ (0 : Int) ≤ t23_14 ∧ t23_14 < (t9_14.len : Int) ∧ (∃ v137 : Int, cellH h_14 ((a136.add (t23_14.toNat * 5)).add 1) = some (.int .i64 v137) ∧ (∃ v138 : Int, cellH h_14 (t3_14.add 4) = some (.int .i64 v138) ∧ (ref01_Floor v137 v138 (fun (r139 : Int × Int) h140 => if (r139.1 != t24_14) then (ref19_Run_j13 t3_14 t9_14 t10_14 t11_14 t12_14 t17_14 t24_14 t26_14 t23_14 k nx1 nx2 nx4 nx12 h140) else (∃ v141 : S_api_Wide, CellsAt h140 t26_14 (S_api_Wide.cs v141) ∧ (∃ a142 : Addr, t9_14.a = some a142 ∧ (0 : Int) ≤ t23_14 ∧ t23_14 < (t9_14.len : Int) ∧ (∃ v143 : Int, cellH h140 ((a142.add (t23_14.toNat * 5)).add 2) = some (.int .i64 v143) ∧ (ref19_wide v143 (fun (r144 : S_api_Wide) h145 => CellsAt h145 t26_14 (S_api_Wide.cs v141) ∧ (ref01_Add v141 r144 (fun (r147 : S_api_Wide × Int) h148 => ∃ h149 : Heap, WrsAt h148 t26_14 2 ∧ h149 = setsH h148 t26_14 0 (S_api_Wide.cs r147.1) ∧ (∃ x150 : Int, x150 = (IntKind.i64.wrap (t23_14 + 1)) ∧ (nx14 x150 h149))) h145)) h140))))) h_14)))) else (ref19_Run_j13 t3_14 t9_14 t10_14 t11_14 t12_14 t17_14 t24_14 t26_14 t23_14 k nx1 nx2 nx4 nx12 h_14)
def ref19_Run_l14 (t3_14 : Addr) (t9_14 : Slc) (t10_14 : Slc) (t11_14 : Int) (t12_14 : Int) (t17_14 : Addr) (t24_14 : Int) (t26_14 : Addr) (i23 : Int) (k : (Slc × Int) → Heap → Prop) (nx1 : (Slc × Int) → Heap → Prop) (nx2 : (Int) → Heap → Prop) (nx4 : (Int × Int × Int) → Heap → Prop) (nx12 : (Slc × Int) → Heap → Prop) (h : Heap) : Prop :=
 ∃ (I : Int → Heap → Prop) (μ : Int → Heap → Nat), I i23 h ∧ ∀ (t23_14 : Int) (h : Heap), I t23_14 h → ref19_Run_l14b t3_14 t9_14 t10_14 t11_14 t12_14 t17_14 t24_14 t26_14 t23_14 k nx1 nx2 nx4 nx12 (fun s h' => I s h' ∧ μ s h' < μ t23_14 h) h
def ref19_Run_l12b (t3_12 : Addr) (t9_12 : Slc) (t11_12 : Int) (t12_12 : Int) (t17_12 : Addr) (t10_12 : Slc) (t23_12 : Int) (k : (Slc × Int) → Heap → Prop) (nx1 : (Slc × Int) → Heap → Prop) (nx2 : (Int) → Heap → Prop) (nx4 : (Int × Int × Int) → Heap → Prop) (nx12 : (Slc × Int) → Heap → Prop) (h_12 : Heap) : Prop :=
 if (decide (t23_12 < t12_12)) then (∃ a120 : Addr, t9_12.a = some a120 ∧ (0 : Int) ≤ t23_12 ∧ t23_12 < (t9_12.len : Int) ∧ (∃ v121 : Int, cellH h_12 ((a120.add (t23_12.toNat * 5)).add 1) = some (.int .i64 v121) ∧ (∃ v122 : Int, cellH h_12 (t3_12.add 4) = some (.int .i64 v122) ∧ (ref01_Floor v121 v122 (fun (r123 : Int × Int) h124 => ∃ (b125 : Nat) (h126 : Heap), b125 = h124.size ∧ h126 = h124.push (.cells (S_api_Wide.cs (⟨0, 0⟩ : S_api_Wide)).toArray 48) ∧ (∃ h127 : Heap, WrsAt h126 (⟨b125, 0, none⟩ : Addr) 2 ∧ h127 = setsH h126 (⟨b125, 0, none⟩ : Addr) 0 (S_api_Wide.cs (⟨0, 0⟩ : S_api_Wide)) ∧ (ref19_Run_l14 t3_12 t9_12 t10_12 t11_12 t12_12 t17_12 r123.1 (⟨b125, 0, none⟩ : Addr) t23_12 k nx1 nx2 nx4 nx12 h127))) h_12)))) else (ref19_Run_j5 t3_12 t9_12 t11_12 t12_12 t17_12 t10_12 k nx1 nx2 nx4 h_12)
def ref19_Run_l12 (t3_12 : Addr) (t9_12 : Slc) (t11_12 : Int) (t12_12 : Int) (t17_12 : Addr) (i10 : Slc) (i23 : Int) (k : (Slc × Int) → Heap → Prop) (nx1 : (Slc × Int) → Heap → Prop) (nx2 : (Int) → Heap → Prop) (nx4 : (Int × Int × Int) → Heap → Prop) (h : Heap) : Prop :=
 ∃ (I : (Slc × Int) → Heap → Prop) (μ : (Slc × Int) → Heap → Nat), I (i10, i23) h ∧ ∀ (t10_12 : Slc) (t23_12 : Int) (h : Heap), I (t10_12, t23_12) h → ref19_Run_l12b t3_12 t9_12 t11_12 t12_12 t17_12 t10_12 t23_12 k nx1 nx2 nx4 (fun s h' => I s h' ∧ μ s h' < μ (t10_12, t23_12) h) h
def ref19_Run_l4b (t3_4 : Addr) (t9_4 : Slc) (t10_4 : Slc) (t11_4 : Int) (t12_4 : Int) (t13_4 : Addr) (t14_4 : Int) (t15_4 : Int) (t16_4 : Int) (k : (Slc × Int) → Heap → Prop) (nx1 : (Slc × Int) → Heap → Prop) (nx2 : (Int) → Heap → Prop) (nx4 : (Int × Int × Int) → Heap → Prop) (h_4 : Heap) : Prop :=
 if (decide (t16_4 < t12_4)) then (∃ v21 : S_api_Wide, CellsAt h_4 t13_4 (S_api_Wide.cs v21) ∧ (∃ a22 : Addr, t9_4.a = some a22 ∧ (0 : Int) ≤ t16_4 ∧ t16_4 < (t9_4.len : Int) ∧ (∃ v23 : Int, cellH h_4 ((a22.add (t16_4.toNat * 5)).add 2) = some (.int .i64 v23) ∧ (ref19_wide v23 (fun (r24 : S_api_Wide) h25 => CellsAt h25 t13_4 (S_api_Wide.cs v21) ∧ (ref01_Add v21 r24 (fun (r27 : S_api_Wide × Int) h28 => ∃ h29 : Heap, WrsAt h28 t13_4 2 ∧ h29 = setsH h28 t13_4 0 (S_api_Wide.cs r27.1) ∧ (∃ a30 : Addr, t9_4.a = some a30 ∧ (0 : Int) ≤ t16_4 ∧ t16_4 < (t9_4.len : Int) ∧ (∃ v31 : Int, cellH h29 ((a30.add (t16_4.toNat * 5)).add 2) = some (.int .i64 v31) ∧ (∃ x32 : Int, x32 = (if v31 < t14_4 then v31 else t14_4) ∧ (∃ a33 : Addr, t9_4.a = some a33 ∧ (0 : Int) ≤ t16_4 ∧ t16_4 < (t9_4.len : Int) ∧ (∃ v34 : Int, cellH h29 ((a33.add (t16_4.toNat * 5)).add 2) = some (.int .i64 v34) ∧ (∃ x35 : Int, x35 = (if v34 > t15_4 then v34 else t15_4) ∧ (∃ x36 : Int, x36 = (IntKind.i64.wrap (t16_4 + 1)) ∧ (nx4 (x32, x35, x36) h29))))))))) h25)) h_4)))) else (∃ a37 : Addr, t9_4.a = some a37 ∧ (0 : Int) ≤ t11_4 ∧ t11_4 < (t9_4.len : Int) ∧ (∃ v38 : ByteArray, cellH h_4 (a37.add (t11_4.toNat * 5)) = some (.string v38) ∧ (∃ (b39 : Nat) (h40 : Heap), b39 = h_4.size ∧ h40 = h_4.push (.cells (S_api_Row.cs (⟨ByteArray.empty, 0, (⟨0, 0⟩ : S_api_Wide)⟩ : S_api_Row)).toArray 50) ∧ (∃ h41 : Heap, WrsAt h40 (⟨b39, 0, none⟩ : Addr) 4 ∧ h41 = setsH h40 (⟨b39, 0, none⟩ : Addr) 0 (S_api_Row.cs (⟨v38, 0, (⟨0, 0⟩ : S_api_Wide)⟩ : S_api_Row)) ∧ (∃ v50 : Int, cellH h41 (t3_4.add 3) = some (.int .i64 v50) ∧ (if (v50 == 0) then (ref19_Run_l9 t3_4 t9_4 t11_4 t12_4 (⟨b39, 0, none⟩ : Addr) t10_4 t11_4 k nx1 nx2 nx4 h41) else (if (v50 == 1) then (ref19_wide (IntKind.i64.wrap (t12_4 - t11_4)) (fun (r66 : S_api_Wide) h67 => ∃ h68 : Heap, WrsAt h67 ((⟨b39, 0, none⟩ : Addr).add 2) 2 ∧ h68 = setsH h67 ((⟨b39, 0, none⟩ : Addr).add 2) 0 (S_api_Wide.cs r66) ∧ (ref19_Run_j5 t3_4 t9_4 t11_4 t12_4 (⟨b39, 0, none⟩ : Addr) t10_4 k nx1 nx2 nx4 h68)) h41) else (if (v50 == 2) then (∃ v69 : S_api_Wide, CellsAt h41 t13_4 (S_api_Wide.cs v69) ∧ (∃ h70 : Heap, WrsAt h41 ((⟨b39, 0, none⟩ : Addr).add 2) 2 ∧ h70 = setsH h41 ((⟨b39, 0, none⟩ : Addr).add 2) 0 (S_api_Wide.cs v69) ∧ (ref19_Run_j5 t3_4 t9_4 t11_4 t12_4 (⟨b39, 0, none⟩ : Addr) t10_4 k nx1 nx2 nx4 h70))) else (if (v50 == 3) then (ref19_wide t14_4 (fun (r71 : S_api_Wide) h72 => ∃ h73 : Heap, WrsAt h72 ((⟨b39, 0, none⟩ : Addr).add 2) 2 ∧ h73 = setsH h72 ((⟨b39, 0, none⟩ : Addr).add 2) 0 (S_api_Wide.cs r71) ∧ (ref19_Run_j5 t3_4 t9_4 t11_4 t12_4 (⟨b39, 0, none⟩ : Addr) t10_4 k nx1 nx2 nx4 h73)) h41) else (if (v50 == 4) then (ref19_wide t15_4 (fun (r74 : S_api_Wide) h75 => ∃ h76 : Heap, WrsAt h75 ((⟨b39, 0, none⟩ : Addr).add 2) 2 ∧ h76 = setsH h75 ((⟨b39, 0, none⟩ : Addr).add 2) 0 (S_api_Wide.cs r74) ∧ (ref19_Run_j5 t3_4 t9_4 t11_4 t12_4 (⟨b39, 0, none⟩ : Addr) t10_4 k nx1 nx2 nx4 h76)) h41) else (if (v50 == 5) then (∃ a94 : Addr, t9_4.a = some a94 ∧ (0 : Int) ≤ t11_4 ∧ t11_4 < (t9_4.len : Int) ∧ (∃ v95 : S_api_Piece, CellsAt h41 (a94.add (t11_4.toNat * 5)) (S_api_Piece.cs v95) ∧ (∃ a96 : Addr, t9_4.a = some a96 ∧ (0 : Int) ≤ (IntKind.i64.wrap (t12_4 - 1)) ∧ (IntKind.i64.wrap (t12_4 - 1)) < (t9_4.len : Int) ∧ (∃ v97 : S_api_Piece, CellsAt h41 (a96.add ((IntKind.i64.wrap (t12_4 - 1)).toNat * 5)) (S_api_Piece.cs v97) ∧ ((∃ (b98 : Nat) (h99 : Heap), b98 = h41.size ∧ h99 = h41.push (.cells (S_api_Piece.cs (⟨ByteArray.empty, 0, 0, (⟨0, 0⟩ : S_api_Id)⟩ : S_api_Piece)).toArray 46) ∧ (CellsAt h99 (a96.add ((IntKind.i64.wrap (t12_4 - 1)).toNat * 5)) (S_api_Piece.cs v97) ∧ CellsAt h99 (a94.add (t11_4.toNat * 5)) (S_api_Piece.cs v95) ∧ (∃ (b102 : Nat) (h103 : Heap), b102 = h99.size ∧ h103 = h99.push (.cells (S_api_Piece.cs (⟨ByteArray.empty, 0, 0, (⟨0, 0⟩ : S_api_Id)⟩ : S_api_Piece)).toArray 46) ∧ (CellsAt h103 (a96.add ((IntKind.i64.wrap (t12_4 - 1)).toNat * 5)) (S_api_Piece.cs v97) ∧ CellsAt h103 (a94.add (t11_4.toNat * 5)) (S_api_Piece.cs v95) ∧ (∃ h106 : Heap, WrsAt h103 (⟨b98, 0, none⟩ : Addr) 5 ∧ h106 = setsH h103 (⟨b98, 0, none⟩ : Addr) 0 (S_api_Piece.cs v95) ∧ (CellsAt h106 (a96.add ((IntKind.i64.wrap (t12_4 - 1)).toNat * 5)) (S_api_Piece.cs v97) ∧ (∃ h108 : Heap, WrsAt h106 (⟨b102, 0, none⟩ : Addr) 5 ∧ h108 = setsH h106 (⟨b102, 0, none⟩ : Addr) 0 (S_api_Piece.cs v97) ∧ (ref19_Run_j10 t3_4 t9_4 t10_4 t11_4 t12_4 (⟨b39, 0, none⟩ : Addr) (⟨b98, 0, none⟩ : Addr) (⟨b102, 0, none⟩ : Addr) k nx1 nx2 nx4 h108)))))))) ∧ (∃ (b109 : Nat) (h110 : Heap), b109 = h41.size ∧ h110 = h41.push (.cells (S_api_Piece.cs (⟨ByteArray.empty, 0, 0, (⟨0, 0⟩ : S_api_Id)⟩ : S_api_Piece)).toArray 46) ∧ (CellsAt h110 (a96.add ((IntKind.i64.wrap (t12_4 - 1)).toNat * 5)) (S_api_Piece.cs v97) ∧ CellsAt h110 (a94.add (t11_4.toNat * 5)) (S_api_Piece.cs v95) ∧ (∃ (b113 : Nat) (h114 : Heap), b113 = h110.size ∧ h114 = h110.push (.cells (S_api_Piece.cs (⟨ByteArray.empty, 0, 0, (⟨0, 0⟩ : S_api_Id)⟩ : S_api_Piece)).toArray 46) ∧ (CellsAt h114 (a96.add ((IntKind.i64.wrap (t12_4 - 1)).toNat * 5)) (S_api_Piece.cs v97) ∧ CellsAt h114 (a94.add (t11_4.toNat * 5)) (S_api_Piece.cs v95) ∧ (∃ h117 : Heap, WrsAt h114 (⟨b113, 0, none⟩ : Addr) 5 ∧ h117 = setsH h114 (⟨b113, 0, none⟩ : Addr) 0 (S_api_Piece.cs v95) ∧ (CellsAt h117 (a96.add ((IntKind.i64.wrap (t12_4 - 1)).toNat * 5)) (S_api_Piece.cs v97) ∧ (∃ h119 : Heap, WrsAt h117 (⟨b109, 0, none⟩ : Addr) 5 ∧ h119 = setsH h117 (⟨b109, 0, none⟩ : Addr) 0 (S_api_Piece.cs v97) ∧ (ref19_Run_j10 t3_4 t9_4 t10_4 t11_4 t12_4 (⟨b39, 0, none⟩ : Addr) (⟨b113, 0, none⟩ : Addr) (⟨b109, 0, none⟩ : Addr) k nx1 nx2 nx4 h119))))))))))))) else (if (v50 == 6) then (ref19_Run_l12 t3_4 t9_4 t11_4 t12_4 (⟨b39, 0, none⟩ : Addr) t10_4 t11_4 k nx1 nx2 nx4 h41) else (ref19_Run_j5 t3_4 t9_4 t11_4 t12_4 (⟨b39, 0, none⟩ : Addr) t10_4 k nx1 nx2 nx4 h41)))))))))))))
def ref19_Run_l4 (t3_4 : Addr) (t9_4 : Slc) (t10_4 : Slc) (t11_4 : Int) (t12_4 : Int) (t13_4 : Addr) (i14 : Int) (i15 : Int) (i16 : Int) (k : (Slc × Int) → Heap → Prop) (nx1 : (Slc × Int) → Heap → Prop) (nx2 : (Int) → Heap → Prop) (h : Heap) : Prop :=
 ∃ (I : (Int × Int × Int) → Heap → Prop) (μ : (Int × Int × Int) → Heap → Nat), I (i14, i15, i16) h ∧ ∀ (t14_4 : Int) (t15_4 : Int) (t16_4 : Int) (h : Heap), I (t14_4, t15_4, t16_4) h → ref19_Run_l4b t3_4 t9_4 t10_4 t11_4 t12_4 t13_4 t14_4 t15_4 t16_4 k nx1 nx2 (fun s h' => I s h' ∧ μ s h' < μ (t14_4, t15_4, t16_4) h) h
def ref19_Run_g3 (t3_3 : Addr) (t9_3 : Slc) (t10_3 : Slc) (t11_3 : Int) (t12_3 : Int) (t59_3 : Bool) (k : (Slc × Int) → Heap → Prop) (nx1 : (Slc × Int) → Heap → Prop) (nx2 : (Int) → Heap → Prop) (h_3 : Heap) : Prop :=
 if t59_3 then (∃ x9 : Int, x9 = (IntKind.i64.wrap (t12_3 + 1)) ∧ (nx2 x9 h_3)) else (∃ a10 : Addr, t9_3.a = some a10 ∧ (0 : Int) ≤ t11_3 ∧ t11_3 < (t9_3.len : Int) ∧ (∃ v11 : Int, cellH h_3 ((a10.add (t11_3.toNat * 5)).add 2) = some (.int .i64 v11) ∧ (∃ a12 : Addr, t9_3.a = some a12 ∧ (0 : Int) ≤ t11_3 ∧ t11_3 < (t9_3.len : Int) ∧ (∃ v13 : Int, cellH h_3 ((a12.add (t11_3.toNat * 5)).add 2) = some (.int .i64 v13) ∧ (∃ (b14 : Nat) (h15 : Heap), b14 = h_3.size ∧ h15 = h_3.push (.cells (S_api_Wide.cs (⟨0, 0⟩ : S_api_Wide)).toArray 48) ∧ (cellH h15 ((a12.add (t11_3.toNat * 5)).add 2) = some (.int .i64 v13) ∧ cellH h15 ((a10.add (t11_3.toNat * 5)).add 2) = some (.int .i64 v11) ∧ (∃ h18 : Heap, WrsAt h15 (⟨b14, 0, none⟩ : Addr) 2 ∧ h18 = setsH h15 (⟨b14, 0, none⟩ : Addr) 0 (S_api_Wide.cs (⟨0, 0⟩ : S_api_Wide)) ∧ (cellH h18 ((a12.add (t11_3.toNat * 5)).add 2) = some (.int .i64 v13) ∧ cellH h18 ((a10.add (t11_3.toNat * 5)).add 2) = some (.int .i64 v11) ∧ (ref19_Run_l4 t3_3 t9_3 t10_3 t11_3 t12_3 (⟨b14, 0, none⟩ : Addr) v11 v13 t11_3 k nx1 nx2 h18)))))))))
def ref19_Run_l2b (t3_2 : Addr) (t9_2 : Slc) (t10_2 : Slc) (t11_2 : Int) (t12_2 : Int) (k : (Slc × Int) → Heap → Prop) (nx1 : (Slc × Int) → Heap → Prop) (nx2 : (Int) → Heap → Prop) (h_2 : Heap) : Prop :=
 if (decide (t12_2 < (t9_2.len : Int))) then (∃ a151 : Addr, t9_2.a = some a151 ∧ (0 : Int) ≤ t12_2 ∧ t12_2 < (t9_2.len : Int) ∧ (∃ v152 : ByteArray, cellH h_2 (a151.add (t12_2.toNat * 5)) = some (.string v152) ∧ (∃ a153 : Addr, t9_2.a = some a153 ∧ (0 : Int) ≤ t11_2 ∧ t11_2 < (t9_2.len : Int) ∧ (∃ v154 : ByteArray, cellH h_2 (a153.add (t11_2.toNat * 5)) = some (.string v154) ∧ (ref19_Run_g3 t3_2 t9_2 t10_2 t11_2 t12_2 (v152.toList == v154.toList) k nx1 nx2 h_2))))) else (ref19_Run_g3 t3_2 t9_2 t10_2 t11_2 t12_2 false k nx1 nx2 h_2)
def ref19_Run_l2 (t3_2 : Addr) (t9_2 : Slc) (t10_2 : Slc) (t11_2 : Int) (i12 : Int) (k : (Slc × Int) → Heap → Prop) (nx1 : (Slc × Int) → Heap → Prop) (h : Heap) : Prop :=
 ∃ (I : Int → Heap → Prop) (μ : Int → Heap → Nat), I i12 h ∧ ∀ (t12_2 : Int) (h : Heap), I t12_2 h → ref19_Run_l2b t3_2 t9_2 t10_2 t11_2 t12_2 k nx1 (fun s h' => I s h' ∧ μ s h' < μ t12_2 h) h
def ref19_Run_l1b (t3_1 : Addr) (t9_1 : Slc) (t10_1 : Slc) (t11_1 : Int) (k : (Slc × Int) → Heap → Prop) (nx1 : (Slc × Int) → Heap → Prop) (h_1 : Heap) : Prop :=
 if (decide (t11_1 < (t9_1.len : Int))) then (ref19_Run_l2 t3_1 t9_1 t10_1 t11_1 t11_1 k nx1 h_1) else (k (t10_1, 0) h_1)
def ref19_Run_l1 (t3_1 : Addr) (t9_1 : Slc) (i10 : Slc) (i11 : Int) (k : (Slc × Int) → Heap → Prop) (h : Heap) : Prop :=
 ∃ (I : (Slc × Int) → Heap → Prop) (μ : (Slc × Int) → Heap → Nat), I (i10, i11) h ∧ ∀ (t10_1 : Slc) (t11_1 : Int) (h : Heap), I (t10_1, t11_1) h → ref19_Run_l1b t3_1 t9_1 t10_1 t11_1 k (fun s h' => I s h' ∧ μ s h' < μ (t10_1, t11_1) h) h
def ref19_Run (p0 : S_api_Query) (p1 : Slc) (p2 : Int) (k : (Slc × Int) → Heap → Prop) (h : Heap) : Prop :=
 ∃ (b1 : Nat) (h2 : Heap), b1 = h.size ∧ h2 = h.push (.cells (S_api_Query.cs p0).toArray 23) ∧ (∃ v3 : S_api_Query, CellsAt h2 (⟨b1, 0, none⟩ : Addr) (S_api_Query.cs v3) ∧ (ref19_Check v3 (fun (r4 : Int) h5 => if (r4 != 0) then (k ((⟨none, 0, 0⟩ : Slc), r4) h5) else (∃ v6 : S_api_Query, CellsAt h5 (⟨b1, 0, none⟩ : Addr) (S_api_Query.cs v6) ∧ (ref19_Ask v6 p1 p2 (fun (r7 : Slc) h8 => ref19_Run_l1 (⟨b1, 0, none⟩ : Addr) r7 (⟨none, 0, 0⟩ : Slc) 0 k h8) h5))) h2))

/-- quaestor quaestorlaw19.awake -/
def law19_awake_g5 (t91_5 : Bool) (k : (Bool) → Heap → Prop) (h_5 : Heap) : Prop :=
 k t91_5 h_5
def law19_awake_g4 (t6_4 : Slc) (t84_4 : Bool) (k : (Bool) → Heap → Prop) (h_4 : Heap) : Prop :=
 if t84_4 then (∃ a9 : Addr, t6_4.a = some a9 ∧ (0 : Int) ≤ 1 ∧ 1 < (t6_4.len : Int) ∧ (∃ v10 : Int, cellH h_4 ((a9.add ((1 : Int).toNat * 4)).add 1) = some (.int .i64 v10) ∧ (law19_awake_g5 (v10 == 2) k h_4))) else (law19_awake_g5 false k h_4)
def law19_awake_g3 (t6_3 : Slc) (t76_3 : Bool) (k : (Bool) → Heap → Prop) (h_3 : Heap) : Prop :=
 if t76_3 then (∃ a11 : Addr, t6_3.a = some a11 ∧ (0 : Int) ≤ 0 ∧ 0 < (t6_3.len : Int) ∧ (∃ v12 : Int, cellH h_3 (((a11.add ((0 : Int).toNat * 4)).add 2).add 1) = some (.int .u64 v12) ∧ (law19_awake_g4 t6_3 (v12 == 5) k h_3))) else (law19_awake_g4 t6_3 false k h_3)
def law19_awake_g2 (t6_2 : Slc) (t64_2 : Bool) (k : (Bool) → Heap → Prop) (h_2 : Heap) : Prop :=
 if (t64_2 && ((t6_2.len : Int) == 2)) then (∃ a13 : Addr, t6_2.a = some a13 ∧ (0 : Int) ≤ 0 ∧ 0 < (t6_2.len : Int) ∧ (∃ v14 : Int, cellH h_2 ((a13.add ((0 : Int).toNat * 4)).add 1) = some (.int .i64 v14) ∧ (law19_awake_g3 t6_2 (v14 == 0) k h_2))) else (law19_awake_g3 t6_2 false k h_2)
def law19_awake_g1 (t4_1 : Slc) (t6_1 : Slc) (t51_1 : Bool) (k : (Bool) → Heap → Prop) (h_1 : Heap) : Prop :=
 if (t51_1 && ((t4_1.len : Int) == 1)) then (∃ a15 : Addr, t4_1.a = some a15 ∧ (0 : Int) ≤ 0 ∧ 0 < (t4_1.len : Int) ∧ (∃ v16 : Int, cellH h_1 (((a15.add ((0 : Int).toNat * 4)).add 2).add 1) = some (.int .u64 v16) ∧ (law19_awake_g2 t6_1 (v16 == 2) k h_1))) else (law19_awake_g2 t6_1 false k h_1)
def law19_awake (k : (Bool) → Heap → Prop) (h : Heap) : Prop :=
 ∃ (b1 : Nat) (h2 : Heap), b1 = h.size ∧ h2 = h.push (.cells ((S_api_Piece.cs (⟨(⟨#[97]⟩ : ByteArray), 1, 5, (⟨0, 0⟩ : S_api_Id)⟩ : S_api_Piece)) ++ (S_api_Piece.cs (⟨(⟨#[97]⟩ : ByteArray), 2, 7, (⟨0, 0⟩ : S_api_Id)⟩ : S_api_Piece))).toArray 46) ∧ (query_Run (⟨ByteArray.empty, 0, 9, 2, 0⟩ : S_api_Query) (⟨some ⟨b1, 0, none⟩, 2, 2⟩ : Slc) 0 (fun (r3 : Slc × Int) h4 => query_Run (⟨ByteArray.empty, 0, 9, 5, 0⟩ : S_api_Query) (⟨some ⟨b1, 0, none⟩, 2, 2⟩ : Slc) 0 (fun (r5 : Slc × Int) h6 => query_Run (⟨ByteArray.empty, 0, 9, 6, 2⟩ : S_api_Query) (⟨some ⟨b1, 0, none⟩, 2, 2⟩ : Slc) 0 (fun (r7 : Slc × Int) h8 => if ((((r3.2 == 0) && (r5.2 == 0)) && (r7.2 == 0)) && ((r3.1.len : Int) == 1)) then (∃ a17 : Addr, r3.1.a = some a17 ∧ (0 : Int) ≤ 0 ∧ 0 < (r3.1.len : Int) ∧ (∃ v18 : Int, cellH h8 (((a17.add ((0 : Int).toNat * 4)).add 2).add 1) = some (.int .u64 v18) ∧ (law19_awake_g1 r5.1 r7.1 (v18 == 12) k h8))) else (law19_awake_g1 r5.1 r7.1 false k h8)) h6) h4) h2)

/-- quaestor quaestorlaw19.QueryRuns -/
def law19_QueryRuns_g3 (t73_3 : Bool) (k : (Bool) → Heap → Prop) (h_3 : Heap) : Prop :=
 k t73_3 h_3
def law19_QueryRuns_g4 (t82_4 : Bool) (k : (Bool) → Heap → Prop) (h_4 : Heap) : Prop :=
 k t82_4 h_4
def law19_QueryRuns_g2 (t1_2 : Slc) (t2_2 : Int) (t3_2 : Addr) (t7_2 : Int) (t8_2 : Slc) (t65_2 : Bool) (k : (Bool) → Heap → Prop) (h_2 : Heap) : Prop :=
 if t65_2 then (k false h_2) else (if (t7_2 != 0) then (if ((t8_2.len : Int) == 0) then (law19_awake  (fun (r22 : Bool) h23 => law19_QueryRuns_g3 r22 k h23) h_2) else (law19_QueryRuns_g3 false k h_2)) else (∃ v24 : S_api_Query, CellsAt h_2 t3_2 (S_api_Query.cs v24) ∧ (ref19_Ask v24 t1_2 t2_2 (fun (r25 : Slc) h26 => ref13_Same t8_2 r25 (fun (r27 : Bool) h28 => if r27 then (law19_awake  (fun (r29 : Bool) h30 => law19_QueryRuns_g4 r29 k h30) h28) else (law19_QueryRuns_g4 false k h28)) h26) h_2)))
def law19_QueryRuns_g1 (t1_1 : Slc) (t2_1 : Int) (t3_1 : Addr) (t21_1 : Bool) (k : (Bool) → Heap → Prop) (h_1 : Heap) : Prop :=
 if t21_1 then (law19_awake  (fun (r5 : Bool) h6 => k r5 h6) h_1) else (∃ v7 : S_api_Query, CellsAt h_1 t3_1 (S_api_Query.cs v7) ∧ (query_Check v7 (fun (r8 : Int) h9 => ∃ v10 : S_api_Query, CellsAt h9 t3_1 (S_api_Query.cs v10) ∧ (query_Ask v10 t1_1 t2_1 (fun (r11 : Slc × Int) h12 => ∃ v13 : S_api_Query, CellsAt h12 t3_1 (S_api_Query.cs v13) ∧ (query_Run v13 t1_1 t2_1 (fun (r14 : Slc × Int) h15 => ∃ v16 : S_api_Query, CellsAt h15 t3_1 (S_api_Query.cs v16) ∧ (ref19_Run v16 t1_1 t2_1 (fun (r17 : Slc × Int) h18 => ∃ v19 : S_api_Query, CellsAt h18 t3_1 (S_api_Query.cs v19) ∧ (ref19_Check v19 (fun (r20 : Int) h21 => if (((r8 != r20) || (r11.2 != r8)) || (r14.2 != r17.2)) then (law19_QueryRuns_g2 t1_1 t2_1 t3_1 r8 r11.1 true k h21) else (ref19_SameRows r14.1 r17.1 (fun (r31 : Bool) h32 => law19_QueryRuns_g2 t1_1 t2_1 t3_1 r8 r11.1 (!r31) k h32) h21)) h18)) h15)) h12)) h9)) h_1))
def law19_QueryRuns (p0 : S_api_Query) (p1 : Slc) (p2 : Int) (k : (Bool) → Heap → Prop) (h : Heap) : Prop :=
 ∃ (b1 : Nat) (h2 : Heap), b1 = h.size ∧ h2 = h.push (.cells (S_api_Query.cs p0).toArray 23) ∧ (ref13_Great p1 40 (fun (r3 : Bool) h4 => if r3 then (law19_QueryRuns_g1 p1 p2 (⟨b1, 0, none⟩ : Addr) true k h4) else (∃ v33 : ByteArray, cellH h4 (⟨b1, 0, none⟩ : Addr) = some (.string v33) ∧ (law19_QueryRuns_g1 p1 p2 (⟨b1, 0, none⟩ : Addr) (decide ((v33.size : Int) > 400)) k h4))) h2)

theorem ref13_Great_ok : CallOk Go.Proofs.Tryz.prog 4 := ⟨_, Go.Proofs.Tryz.func4, by kernel_rfl, by kernel_rfl⟩
theorem ref13_Great_ref (p0 : Slc) (p1 : Int) (k : (Bool) → Heap → Prop) (h : Heap) (H : ref13_Great p0 p1 k h) : CallsH Go.Proofs.Tryz.prog 4 #[Slc.v p0, .int .i64 p1] h (fun v h' => ∃ r : Bool, v = .bool r ∧ k r h') := by
 refine f_enter (N := 28) Go.Proofs.Tryz.func4 rfl rfl rfl (fun w0 => ?_)
 unfold ref13_Great at H
 refine cW [(0, Slc.v p0), (1, .int .i64 p1)] ?_
 refine c_seq (c_region ?_)
 refine wP tok ?_
 refine w_end (x_seq ?_)
 refine c_seq (c_seq (c_region ?_))
 refine wP tok ?_
 refine w_end (x_seq (c_block ?_))
 obtain ⟨I1, μ1, H0, HI⟩ := H
 refine c_loop (σ := Int) (fun (s : Int) => [(5, .int .i64 s), (0, Slc.v p0), (1, .int .i64 p1)]) I1 μ1 0 H0 ⟨rfl, rfl, rfl, trivial⟩ ?_
 rintro t5_1 h_1 H
 replace H := HI t5_1 h_1 H
 unfold ref13_Great_l1b at H
 refine cW [(5, .int .i64 t5_1), (0, Slc.v p0), (1, .int .i64 p1)] ?_
 refine c_seq (c_seq (c_region ?_))
 iterate 5 refine wP tok ?_
 refine w_cutU 4 [(14, .bool ((decide (t5_1 < (p0.len : Int))) && (decide (t5_1 < p1)))), (0, Slc.v p0), (1, .int .i64 p1), (5, .int .i64 t5_1)] ?_ ?_
 ·
  refine w_end (x_seq ?_)
  refine c_if H rfl (fun H => ?_) (fun H => ?_)
  ·
   refine c_skip (x_seq ?_)
   refine c_seq (c_block ?_)
   refine c_seq (c_region ?_)
   iterate 2 refine wP tok ?_
   obtain ⟨a1, ha1, la1, ua1, H⟩ := H
   refine w_y (y_ixa' tok rfl rfl ha1 rfl rfl rfl la1 ua1) rfl rfl ?_
   refine wP tok ?_
   obtain ⟨v2, hv2, H⟩ := H
   refine w_y (y_ld tok rfl rfl rfl rfl hv2) rfl rfl ?_
   iterate 2 refine wP tok ?_
   refine w_end (x_seq ?_)
   refine cW [(0, Slc.v p0), (1, .int .i64 p1), (5, .int .i64 t5_1), (23, .bool (decide ((v2.size : Int) > 400)))] ?_
   refine c_if H rfl (fun H => ?_) (fun H => ?_)
   ·
    refine c_seq (c_region ?_)
    refine wP tok ?_
    refine w_end (x_seq (c_ret ?_))
    refine x_br ?_
    refine x_tr (x_tr ?_)
    refine x_br ?_
    refine x_tr ?_
    exact x_ret _ rfl _ rfl ⟨true, rfl, H⟩
   ·
    refine c_skip ?_
    refine x_blk ?_
    refine x_seq (c_region ?_)
    iterate 2 refine wP tok ?_
    obtain ⟨x3, ex3, H⟩ := H
    refine w_pe tok rfl (congrArg (fun z => (.int .i64 z : Value)) ex3) rfl rfl ?_
    refine w_end ?_
    exact xJ x3 H
  ·
   refine c_exit ?_
   refine x_te (x_te ?_)
   refine x_bh ?_
   refine x_seq (c_seq (c_region ?_))
   iterate 5 refine wP tok ?_
   refine w_end (x_seq ?_)
   refine cW [(4, .bool (decide ((p0.len : Int) > p1)))] ?_
   refine c_ret ?_
   exact x_ret _ rfl _ rfl ⟨(decide ((p0.len : Int) > p1)), rfl, H⟩
 ·
  refine w_gs (d := 10) rfl (fun hb => ?_) (fun hb => ?_)
  ·
   iterate 4 refine wP tok ?_
   refine w_jn () rfl ⟨?_, rfl, rfl, rfl, trivial⟩
   exact congrArg (fun b => some (Value.bool b)) (and_t hb)
  ·
   iterate 3 refine w_skip rfl rfl ?_
   refine wP tok ?_
   refine w_jn () rfl ⟨?_, rfl, rfl, rfl, trivial⟩
   exact congrArg (fun b => some (Value.bool b)) (and_f hb)

theorem ref13_Same_ok : CallOk Go.Proofs.Tryz.prog 12 := ⟨_, Go.Proofs.Tryz.func12, by kernel_rfl, by kernel_rfl⟩
theorem ref13_Same_ref (p0 : Slc) (p1 : Slc) (k : (Bool) → Heap → Prop) (h : Heap) (H : ref13_Same p0 p1 k h) : CallsH Go.Proofs.Tryz.prog 12 #[Slc.v p0, Slc.v p1] h (fun v h' => ∃ r : Bool, v = .bool r ∧ k r h') := by
 refine f_enter (N := 26) Go.Proofs.Tryz.func12 rfl rfl rfl (fun w0 => ?_)
 unfold ref13_Same at H
 refine cW [(0, Slc.v p0), (1, Slc.v p1)] ?_
 refine c_seq (c_region ?_)
 refine wP tok ?_
 refine w_end (x_seq ?_)
 refine c_seq (c_seq (c_region ?_))
 iterate 5 refine wP tok ?_
 refine w_end (x_seq ?_)
 refine c_if H rfl (fun H => ?_) (fun H => ?_)
 ·
  refine c_seq (c_region ?_)
  refine wP tok ?_
  refine w_end (x_seq ?_)
  refine cW [(4, .bool false)] ?_
  refine c_ret (x_tr ?_)
  exact x_ret _ rfl _ rfl ⟨false, rfl, H⟩
 ·
  refine c_skip (x_seq ?_)
  refine c_seq (c_seq (c_region ?_))
  refine wP tok ?_
  refine w_end (x_seq (c_block ?_))
  obtain ⟨I1, μ1, H0, HI⟩ := H
  refine c_loop (σ := Int) (fun (s : Int) => [(5, .int .i64 s), (0, Slc.v p0), (1, Slc.v p1)]) I1 μ1 0 H0 ⟨rfl, rfl, rfl, trivial⟩ ?_
  rintro t5_1 h_1 H
  replace H := HI t5_1 h_1 H
  unfold ref13_Same_l1b at H
  refine cW [(5, .int .i64 t5_1), (0, Slc.v p0), (1, Slc.v p1)] ?_
  refine c_seq (c_seq (c_region ?_))
  iterate 4 refine wP tok ?_
  refine w_end (x_seq ?_)
  refine c_if H rfl (fun H => ?_) (fun H => ?_)
  ·
   refine c_skip (x_seq ?_)
   refine c_seq (c_block (c_seq ?_))
   refine c_draw (by kernel_rfl) (by kernel_rfl) ?_
   iterate 2 refine q_p tok rfl rfl rfl ?_
   obtain ⟨a1, ha1, la1, ua1, H⟩ := H
   refine q_y (y_ixa' tok rfl rfl ha1 rfl rfl rfl la1 ua1) rfl rfl ?_
   obtain ⟨v2, hv2, H⟩ := H
   refine q_y (y_lda tok rfl rfl rfl rfl rfl hv2) rfl rfl ?_
   iterate 2 refine q_p tok rfl rfl rfl ?_
   obtain ⟨a3, ha3, la3, ua3, H⟩ := H
   refine q_y (y_ixa' tok rfl rfl ha3 rfl rfl rfl la3 ua3) rfl rfl ?_
   obtain ⟨v4, hv4, H⟩ := H
   refine q_y (y_lda tok rfl rfl rfl rfl rfl hv4) rfl rfl ?_
   refine q_y (y_eqs (op := .neq) (xs := S_api_Piece.cs v2) (ys := S_api_Piece.cs v4) (.inr rfl) rfl rfl rfl (eqv46_S_api_Piece v2 v4) (by kernel_rfl)) rfl rfl ?_
   refine q_end ?_
   refine x_seq ?_
   refine cW [(5, .int .i64 t5_1), (0, Slc.v p0), (1, Slc.v p1), (25, .bool (if BinOp.neq = .eql then ((v2.f_Series.toList == v4.f_Series.toList) && (v2.f_T == v4.f_T) && (v2.f_V == v4.f_V) && ((v2.f_Id.f_N == v4.f_Id.f_N) && (v2.f_Id.f_Node == v4.f_Id.f_Node))) else !((v2.f_Series.toList == v4.f_Series.toList) && (v2.f_T == v4.f_T) && (v2.f_V == v4.f_V) && ((v2.f_Id.f_N == v4.f_Id.f_N) && (v2.f_Id.f_Node == v4.f_Id.f_Node)))))] ?_
   refine c_if H rfl (fun H => ?_) (fun H => ?_)
   ·
    refine c_seq (c_region ?_)
    refine wP tok ?_
    refine w_end (x_seq (c_ret ?_))
    refine x_br ?_
    refine x_tr (x_tr ?_)
    refine x_br ?_
    refine x_tr ?_
    exact x_ret _ rfl _ rfl ⟨false, rfl, H⟩
   ·
    refine c_skip ?_
    refine x_blk ?_
    refine x_seq (c_region ?_)
    iterate 2 refine wP tok ?_
    obtain ⟨x5, ex5, H⟩ := H
    refine w_pe tok rfl (congrArg (fun z => (.int .i64 z : Value)) ex5) rfl rfl ?_
    refine w_end ?_
    exact xJ x5 H
  ·
   refine c_exit ?_
   refine x_te (x_te ?_)
   refine x_bh ?_
   refine x_seq ?_
   refine cW [] ?_
   refine c_seq (c_region ?_)
   refine wP tok ?_
   refine w_end (x_seq (c_ret ?_))
   exact x_ret _ rfl _ rfl ⟨true, rfl, H⟩

theorem ref19_SameRows_ok : CallOk Go.Proofs.Tryz.prog 11 := ⟨_, Go.Proofs.Tryz.func11, by kernel_rfl, by kernel_rfl⟩
theorem ref19_SameRows_ref (p0 : Slc) (p1 : Slc) (k : (Bool) → Heap → Prop) (h : Heap) (H : ref19_SameRows p0 p1 k h) : CallsH Go.Proofs.Tryz.prog 11 #[Slc.v p0, Slc.v p1] h (fun v h' => ∃ r : Bool, v = .bool r ∧ k r h') := by
 refine f_enter (N := 26) Go.Proofs.Tryz.func11 rfl rfl rfl (fun w0 => ?_)
 unfold ref19_SameRows at H
 refine cW [(0, Slc.v p0), (1, Slc.v p1)] ?_
 refine c_seq (c_region ?_)
 refine wP tok ?_
 refine w_end (x_seq ?_)
 refine c_seq (c_seq (c_region ?_))
 iterate 5 refine wP tok ?_
 refine w_end (x_seq ?_)
 refine c_if H rfl (fun H => ?_) (fun H => ?_)
 ·
  refine c_seq (c_region ?_)
  refine wP tok ?_
  refine w_end (x_seq ?_)
  refine cW [(4, .bool false)] ?_
  refine c_ret (x_tr ?_)
  exact x_ret _ rfl _ rfl ⟨false, rfl, H⟩
 ·
  refine c_skip (x_seq ?_)
  refine c_seq (c_seq (c_region ?_))
  refine wP tok ?_
  refine w_end (x_seq (c_block ?_))
  obtain ⟨I1, μ1, H0, HI⟩ := H
  refine c_loop (σ := Int) (fun (s : Int) => [(5, .int .i64 s), (0, Slc.v p0), (1, Slc.v p1)]) I1 μ1 0 H0 ⟨rfl, rfl, rfl, trivial⟩ ?_
  rintro t5_1 h_1 H
  replace H := HI t5_1 h_1 H
  unfold ref19_SameRows_l1b at H
  refine cW [(5, .int .i64 t5_1), (0, Slc.v p0), (1, Slc.v p1)] ?_
  refine c_seq (c_seq (c_region ?_))
  iterate 4 refine wP tok ?_
  refine w_end (x_seq ?_)
  refine c_if H rfl (fun H => ?_) (fun H => ?_)
  ·
   refine c_skip (x_seq ?_)
   refine c_seq (c_block (c_seq ?_))
   refine c_draw (by kernel_rfl) (by kernel_rfl) ?_
   iterate 2 refine q_p tok rfl rfl rfl ?_
   obtain ⟨a1, ha1, la1, ua1, H⟩ := H
   refine q_y (y_ixa' tok rfl rfl ha1 rfl rfl rfl la1 ua1) rfl rfl ?_
   obtain ⟨v2, hv2, H⟩ := H
   refine q_y (y_lda tok rfl rfl rfl rfl rfl hv2) rfl rfl ?_
   iterate 2 refine q_p tok rfl rfl rfl ?_
   obtain ⟨a3, ha3, la3, ua3, H⟩ := H
   refine q_y (y_ixa' tok rfl rfl ha3 rfl rfl rfl la3 ua3) rfl rfl ?_
   obtain ⟨v4, hv4, H⟩ := H
   refine q_y (y_lda tok rfl rfl rfl rfl rfl hv4) rfl rfl ?_
   refine q_y (y_eqs (op := .neq) (xs := S_api_Row.cs v2) (ys := S_api_Row.cs v4) (.inr rfl) rfl rfl rfl (eqv50_S_api_Row v2 v4) (by kernel_rfl)) rfl rfl ?_
   refine q_end ?_
   refine x_seq ?_
   refine cW [(5, .int .i64 t5_1), (0, Slc.v p0), (1, Slc.v p1), (25, .bool (if BinOp.neq = .eql then ((v2.f_Series.toList == v4.f_Series.toList) && (v2.f_T == v4.f_T) && ((v2.f_W.f_Hi == v4.f_W.f_Hi) && (v2.f_W.f_Lo == v4.f_W.f_Lo))) else !((v2.f_Series.toList == v4.f_Series.toList) && (v2.f_T == v4.f_T) && ((v2.f_W.f_Hi == v4.f_W.f_Hi) && (v2.f_W.f_Lo == v4.f_W.f_Lo)))))] ?_
   refine c_if H rfl (fun H => ?_) (fun H => ?_)
   ·
    refine c_seq (c_region ?_)
    refine wP tok ?_
    refine w_end (x_seq (c_ret ?_))
    refine x_br ?_
    refine x_tr (x_tr ?_)
    refine x_br ?_
    refine x_tr ?_
    exact x_ret _ rfl _ rfl ⟨false, rfl, H⟩
   ·
    refine c_skip ?_
    refine x_blk ?_
    refine x_seq (c_region ?_)
    iterate 2 refine wP tok ?_
    obtain ⟨x5, ex5, H⟩ := H
    refine w_pe tok rfl (congrArg (fun z => (.int .i64 z : Value)) ex5) rfl rfl ?_
    refine w_end ?_
    exact xJ x5 H
  ·
   refine c_exit ?_
   refine x_te (x_te ?_)
   refine x_bh ?_
   refine x_seq ?_
   refine cW [] ?_
   refine c_seq (c_region ?_)
   refine wP tok ?_
   refine w_end (x_seq (c_ret ?_))
   exact x_ret _ rfl _ rfl ⟨true, rfl, H⟩

theorem ref01_digits_ok : CallOk Go.Proofs.Tryz.prog 51 := ⟨_, Go.Proofs.Tryz.func51, by kernel_rfl, by kernel_rfl⟩
theorem ref01_digits_ref (p0 : S_api_Wide) (k : (Slc) → Heap → Prop) (h : Heap) (H : ref01_digits p0 k h) : CallsH Go.Proofs.Tryz.prog 51 #[.agg (S_api_Wide.cs p0).toArray] h (fun v h' => ∃ r : Slc, v = Slc.v r ∧ k r h') := by
 refine f_enter (N := 19) Go.Proofs.Tryz.func51 rfl rfl rfl (fun w0 => ?_)
 unfold ref01_digits at H
 refine cW [(0, .agg (S_api_Wide.cs p0).toArray)] ?_
 refine c_seq (c_region ?_)
 obtain ⟨b1, h2, eb1, eh2, H⟩ := H
 refine w_h (h_box rfl rfl eb1 eh2) rfl rfl ?_
 refine wP tok ?_
 refine w_end (x_seq ?_)
 refine c_seq (c_region ?_)
 refine wP tok ?_
 obtain ⟨v3, hv3, H⟩ := H
 refine w_y (y_ld tok rfl rfl rfl rfl hv3) rfl rfl ?_
 iterate 2 refine wP tok ?_
 obtain ⟨x4, ex4, H⟩ := H
 refine w_pe tok rfl (congrArg (fun z => (.int .u64 z : Value)) ex4) rfl rfl ?_
 refine w_end (x_seq ?_)
 refine c_seq (c_region ?_)
 refine wP tok ?_
 obtain ⟨v5, hv5, H⟩ := H
 refine w_y (y_ld tok rfl rfl rfl rfl hv5) rfl rfl ?_
 iterate 2 refine wP tok ?_
 obtain ⟨v6, hv6, H⟩ := H
 refine w_y (y_ld tok rfl rfl rfl rfl hv6) rfl rfl ?_
 iterate 5 refine wP tok ?_
 obtain ⟨b7, h8, eb7, eh8, H⟩ := H
 refine w_h (h_bs tok rfl rfl rfl rfl rfl rfl rfl eb7 eh8) rfl rfl ?_
 refine wP tok ?_
 refine w_end (x_seq ?_)
 refine cW [(2, Slc.v (⟨some ⟨b7, 0, none⟩, 4, 4⟩ : Slc))] ?_
 refine c_ret ?_
 exact x_ret _ rfl _ rfl ⟨(⟨some ⟨b7, 0, none⟩, 4, 4⟩ : Slc), rfl, H⟩

theorem ref01_Add_ok : CallOk Go.Proofs.Tryz.prog 21 := ⟨_, Go.Proofs.Tryz.func21, by kernel_rfl, by kernel_rfl⟩
theorem ref01_Add_ref (p0 : S_api_Wide) (p1 : S_api_Wide) (k : (S_api_Wide × Int) → Heap → Prop) (h : Heap) (H : ref01_Add p0 p1 k h) : CallsH Go.Proofs.Tryz.prog 21 #[.agg (S_api_Wide.cs p0).toArray, .agg (S_api_Wide.cs p1).toArray] h (fun v h' => ∃ r : S_api_Wide × Int, v = .tuple #[.agg (S_api_Wide.cs r.1).toArray, .int .i64 r.2] ∧ k r h') := by
 refine f_enter (N := 75) Go.Proofs.Tryz.func21 rfl rfl rfl (fun w0 => ?_)
 unfold ref01_Add at H
 refine cW [(0, .agg (S_api_Wide.cs p0).toArray), (1, .agg (S_api_Wide.cs p1).toArray)] ?_
 refine c_seq (c_region ?_)
 obtain ⟨b1, h2, eb1, eh2, H⟩ := H
 refine w_h (h_box rfl rfl eb1 eh2) rfl rfl ?_
 obtain ⟨b3, h4, eb3, eh4, H⟩ := H
 refine w_h (h_box rfl rfl eb3 eh4) rfl rfl ?_
 obtain ⟨b5, h6, eb5, eh6, H⟩ := H
 refine w_h (h_alloc tok rfl rfl eb5 eh6) rfl rfl ?_
 refine wP tok ?_
 refine w_end (x_seq (c_seq ?_))
 refine c_sim [(2, pt b1), (3, pt b3), (4, pt b5)] (by kernel_rfl) (by kernel_rfl) ⟨rfl, rfl, rfl, trivial⟩ (fun wf => ?_)
 obtain ⟨v7, hv7, H⟩ := H
 refine sV 0 [(2, pt b1)] (some 13) wf (pf_y rfl rfl rfl (y_lda tok rfl rfl rfl rfl rfl hv7)) (fun P_0 => ?_)
 obtain ⟨v8, hv8, H⟩ := H
 refine sV 2 [(3, pt b3)] (some 15) wf (pf_y rfl rfl rfl (y_lda tok rfl rfl rfl rfl rfl hv8)) (fun P_2 => ?_)
 refine sim_c 1 [0] [0] (ei := [(13, .agg (S_api_Wide.cs v7).toArray)]) ref01_digits_ok (ref01_digits_ref _ _ _ H) wf ⟨P_2, P_0, trivial⟩ (by kernel_rfl) ⟨rfl, trivial⟩ (by kernel_rfl) rfl rfl rfl rfl rfl ?_
 rintro _ h10 ⟨r9, rfl, H⟩
 obtain ⟨hy11, H⟩ := H
 refine sim_re (x := ⟨2, .agg (S_api_Wide.cs v8).toArray, [(3, pt b3)]⟩) (pf_y rfl rfl rfl (y_lda tok rfl rfl rfl rfl rfl hy11)) (fun P_2 => ?_)
 refine sim_c 3 [0, 1, 2] [0, 2] (ei := [(15, .agg (S_api_Wide.cs v8).toArray)]) ref01_digits_ok (ref01_digits_ref _ _ _ H) wf ⟨P_2, trivial, trivial⟩ (by kernel_rfl) ⟨rfl, trivial⟩ (by kernel_rfl) rfl rfl rfl rfl rfl ?_
 rintro _ h13 ⟨r12, rfl, H⟩
 refine sT 4 [(14, Slc.v r9)] (some 6) tok wf (fun P_4 => ?_)
 refine sT 5 [(16, Slc.v r12)] (some 7) tok wf (fun P_5 => ?_)
 refine sim_end wf ⟨P_5 _, P_4 _, trivial, trivial, trivial⟩ (by kernel_rfl) ?_
 clear wf P_0 P_2 P_4 P_5
 refine x_seq (c_seq (c_region ?_))
 refine wP tok ?_
 refine w_end (x_seq ?_)
 refine c_seq (c_region ?_)
 refine wP tok ?_
 refine w_end (x_seq ?_)
 refine c_seq (c_seq (c_region ?_))
 refine wP tok ?_
 refine w_end (x_seq (c_block ?_))
 obtain ⟨I1, μ1, H0, HI⟩ := H
 refine c_loop (σ := Slc × Int × Int) (fun (s : Slc × Int × Int) => [(8, Slc.v s.1), (9, .int .u64 s.2.1), (10, .int .i64 s.2.2), (4, pt b5), (6, Slc.v r9), (7, Slc.v r12)]) I1 μ1 ((⟨none, 0, 0⟩ : Slc), 0, 0) H0 ⟨rfl, rfl, rfl, rfl, rfl, rfl, trivial⟩ ?_
 rintro ⟨t8_1, t9_1, t10_1⟩ h_1 H
 replace H := HI t8_1 t9_1 t10_1 h_1 H
 unfold ref01_Add_l1b at H
 refine cW [(8, Slc.v t8_1), (9, .int .u64 t9_1), (10, .int .i64 t10_1), (4, pt b5), (6, Slc.v r9), (7, Slc.v r12)] ?_
 refine c_seq (c_seq (c_region ?_))
 iterate 2 refine wP tok ?_
 refine w_end (x_seq ?_)
 refine c_if H rfl (fun H => ?_) (fun H => ?_)
 ·
  refine c_skip (x_seq ?_)
  refine c_seq (c_block (c_seq ?_))
  refine c_draw (by kernel_rfl) (by kernel_rfl) ?_
  iterate 2 refine q_p tok rfl rfl rfl ?_
  obtain ⟨a14, ha14, la14, ua14, H⟩ := H
  refine q_y (y_ixa' tok rfl rfl ha14 rfl rfl rfl la14 ua14) rfl rfl ?_
  obtain ⟨v15, hv15, H⟩ := H
  refine q_y (y_ld tok rfl rfl rfl rfl hv15) rfl rfl ?_
  iterate 2 refine q_p tok rfl rfl rfl ?_
  obtain ⟨a16, ha16, la16, ua16, H⟩ := H
  refine q_y (y_ixa' tok rfl rfl ha16 rfl rfl rfl la16 ua16) rfl rfl ?_
  obtain ⟨v17, hv17, H⟩ := H
  refine q_y (y_ld tok rfl rfl rfl rfl hv17) rfl rfl ?_
  iterate 4 refine q_p tok rfl rfl rfl ?_
  refine q_end ?_
  refine x_seq ?_
  refine cW [(8, Slc.v t8_1), (10, .int .i64 t10_1), (4, pt b5), (6, Slc.v r9), (7, Slc.v r12), (11, .int .u64 (IntKind.u64.wrap ((IntKind.u64.wrap (v15 + v17)) + t9_1)))] ?_
  refine c_seq (c_region ?_)
  iterate 3 refine wP tok ?_
  obtain ⟨b18, h19, eb18, eh19, H⟩ := H
  refine w_h (h_bs tok rfl rfl rfl rfl rfl rfl rfl eb18 eh19) rfl rfl ?_
  refine w_a (a_app (s := t8_1) (r := (⟨some ⟨b18, 0, none⟩, 1, 1⟩ : Slc)) tok rfl rfl rfl rfl rfl (slcAt_push eb18 eh19) H) rfl rfl ?_
  rintro _ h21 ⟨s20, rfl, H⟩
  refine wP tok ?_
  refine w_end (x_seq (c_region ?_))
  iterate 2 refine wP tok ?_
  obtain ⟨x22, ex22, H⟩ := H
  refine w_pe tok rfl (congrArg (fun z => (.int .u64 z : Value)) ex22) rfl rfl ?_
  refine w_end ?_
  refine x_blk ?_
  refine x_seq ?_
  refine cW [(8, Slc.v s20), (10, .int .i64 t10_1), (4, pt b5), (6, Slc.v r9), (7, Slc.v r12), (9, .int .u64 x22)] ?_
  refine c_region ?_
  iterate 2 refine wP tok ?_
  obtain ⟨x23, ex23, H⟩ := H
  refine w_pe tok rfl (congrArg (fun z => (.int .i64 z : Value)) ex23) rfl rfl ?_
  refine w_end ?_
  exact xJ (s20, x22, x23) H
 ·
  refine c_exit ?_
  refine x_te (x_te ?_)
  refine x_bh ?_
  refine x_seq (c_seq (c_region ?_))
  refine wP tok ?_
  obtain ⟨a24, ha24, la24, ua24, H⟩ := H
  refine w_y (y_ixa' tok rfl rfl ha24 rfl rfl rfl la24 ua24) rfl rfl ?_
  obtain ⟨v25, hv25, H⟩ := H
  refine w_y (y_ld tok rfl rfl rfl rfl hv25) rfl rfl ?_
  iterate 2 refine wP tok ?_
  refine w_end (x_seq ?_)
  refine cW [(8, Slc.v t8_1), (9, .int .u64 t9_1), (4, pt b5), (12, .bool (decide (v25 ≥ 2147483648)))] ?_
  refine c_seq (c_seq (c_region ?_))
  iterate 3 refine wP tok ?_
  refine w_cutU 3 [(48, .bool ((t9_1 == 0) && (!(decide (v25 ≥ 2147483648))))), (4, pt b5), (8, Slc.v t8_1), (9, .int .u64 t9_1), (12, .bool (decide (v25 ≥ 2147483648)))] ?_ ?_
  ·
   refine wP tok ?_
   refine w_cutU 6 [(55, .bool (((t9_1 == 0) && (!(decide (v25 ≥ 2147483648)))) || ((t9_1 == 1) && (decide (v25 ≥ 2147483648))))), (4, pt b5), (8, Slc.v t8_1)] ?_ ?_
   ·
    refine w_end (x_seq ?_)
    refine c_if H rfl (fun H => ?_) (fun H => ?_)
    ·
     refine c_seq (c_region ?_)
     refine w_y (y_build tok rfl rfl rfl rfl rfl) rfl rfl ?_
     obtain ⟨h26, wh26, eh26, H⟩ := H
     refine w_h (h_sts tok rfl rfl rfl rfl rfl (oneC (by kernel_rfl)) wh26 eh26) rfl rfl ?_
     refine wP tok ?_
     refine w_end (x_seq ?_)
     refine c_ret (x_tr ?_)
     obtain ⟨v27, hv27, H⟩ := H
     exact x_retc tok _ rfl [.agg (S_api_Wide.cs v27).toArray, .int .i64 19] ⟨⟨_, _, rfl, rfl, .inr ⟨rfl, _, rfl, rfl, hv27⟩⟩, rfl, trivial⟩ ⟨(v27, 19), rfl, H⟩
    ·
     refine c_skip (x_seq (c_seq ?_))
     refine c_sim [(4, pt b5), (8, Slc.v t8_1)] (by kernel_rfl) (by kernel_rfl) ⟨rfl, rfl, trivial⟩ (fun wf => ?_)
     refine sT 0 [(8, Slc.v t8_1)] (some 57) tok wf (fun P_0 => ?_)
     obtain ⟨a28, ha28, la28, ua28, H⟩ := H
     refine sU 1 [(57, Slc.v t8_1)] (some 58) wf (fun _ => pf_y rfl rfl rfl (y_ixa' tok rfl rfl ha28 rfl rfl rfl la28 ua28)) (fun P_1 => ?_)
     obtain ⟨v29, hv29, H⟩ := H
     refine sV 2 [(58, .pointer (some (a28.add ((3 : Int).toNat * 1))))] (some 59) wf (pf_y rfl rfl rfl (y_ld tok rfl rfl rfl rfl hv29)) (fun P_2 => ?_)
     refine sT 3 [(59, .int .u64 v29)] (some 60) tok wf (fun P_3 => ?_)
     refine sT 4 [(8, Slc.v t8_1)] (some 61) tok wf (fun P_4 => ?_)
     obtain ⟨a30, ha30, la30, ua30, H⟩ := H
     refine sU 5 [(61, Slc.v t8_1)] (some 62) wf (fun _ => pf_y rfl rfl rfl (y_ixa' tok rfl rfl ha30 rfl rfl rfl la30 ua30)) (fun P_5 => ?_)
     obtain ⟨v31, hv31, H⟩ := H
     refine sV 6 [(62, .pointer (some (a30.add ((2 : Int).toNat * 1))))] (some 63) wf (pf_y rfl rfl rfl (y_ld tok rfl rfl rfl rfl hv31)) (fun P_6 => ?_)
     refine sT 7 [(60, .int .u64 (IntKind.u64.wrap (v29 * 4294967296))), (63, .int .u64 v31)] (some 64) tok wf (fun P_7 => ?_)
     refine sT 8 [(64, .int .u64 (IntKind.u64.wrap ((IntKind.u64.wrap (v29 * 4294967296)) + v31)))] (some 65) tok wf (fun P_8 => ?_)
     refine sT 9 [(8, Slc.v t8_1)] (some 66) tok wf (fun P_9 => ?_)
     obtain ⟨a32, ha32, la32, ua32, H⟩ := H
     refine sU 10 [(66, Slc.v t8_1)] (some 67) wf (fun _ => pf_y rfl rfl rfl (y_ixa' tok rfl rfl ha32 rfl rfl rfl la32 ua32)) (fun P_10 => ?_)
     obtain ⟨v33, hv33, H⟩ := H
     refine sV 11 [(67, .pointer (some (a32.add ((1 : Int).toNat * 1))))] (some 68) wf (pf_y rfl rfl rfl (y_ld tok rfl rfl rfl rfl hv33)) (fun P_11 => ?_)
     refine sT 12 [(68, .int .u64 v33)] (some 69) tok wf (fun P_12 => ?_)
     refine sT 13 [(8, Slc.v t8_1)] (some 70) tok wf (fun P_13 => ?_)
     obtain ⟨a34, ha34, la34, ua34, H⟩ := H
     refine sU 14 [(70, Slc.v t8_1)] (some 71) wf (fun _ => pf_y rfl rfl rfl (y_ixa' tok rfl rfl ha34 rfl rfl rfl la34 ua34)) (fun P_14 => ?_)
     obtain ⟨v35, hv35, H⟩ := H
     refine sV 15 [(71, .pointer (some (a34.add ((0 : Int).toNat * 1))))] (some 72) wf (pf_y rfl rfl rfl (y_ld tok rfl rfl rfl rfl hv35)) (fun P_15 => ?_)
     refine sT 16 [(69, .int .u64 (IntKind.u64.wrap (v33 * 4294967296))), (72, .int .u64 v35)] (some 73) tok wf (fun P_16 => ?_)
     refine sU 17 [(65, .int .i64 (IntKind.i64.wrap (IntKind.u64.wrap ((IntKind.u64.wrap (v29 * 4294967296)) + v31)))), (73, .int .u64 (IntKind.u64.wrap ((IntKind.u64.wrap (v33 * 4294967296)) + v35)))] (some 74) wf (fun _ => pf_y rfl rfl rfl (y_build tok rfl rfl rfl rfl rfl)) (fun P_17 => ?_)
     obtain ⟨h36, wh36, eh36, H⟩ := H
     refine sim_h 18 [0, 1, 2, 3, 4, 5, 6, 7, 8, 9, 10, 11, 12, 13, 14, 15, 16, 17] [0, 1, 2, 3, 4, 5, 6, 7, 8, 9, 10, 11, 12, 13, 14, 15, 16, 17] (ei := [(4, pt b5), (74, .agg (S_api_Wide.cs (⟨(IntKind.i64.wrap (IntKind.u64.wrap ((IntKind.u64.wrap (v29 * 4294967296)) + v31))), (IntKind.u64.wrap ((IntKind.u64.wrap (v33 * 4294967296)) + v35))⟩ : S_api_Wide)).toArray)]) wf ⟨P_17 _, P_16 _, P_15, P_14 _, P_13 _, P_12 _, P_11, P_10 _, P_9 _, P_8 _, P_7 _, P_6, P_5 _, P_4 _, P_3 _, P_2, P_1 _, P_0 _, trivial⟩ (by kernel_rfl) ⟨rfl, rfl, trivial⟩ (by kernel_rfl) rfl rfl rfl (h_sts tok rfl rfl rfl rfl rfl (oneC (by kernel_rfl)) wh36 eh36) ?_
     refine sT 19 [] (some 5) tok wf (fun P_19 => ?_)
     refine sim_end wf ⟨P_19 _, trivial, trivial, trivial, trivial, trivial, trivial, trivial, trivial, trivial, trivial, trivial, trivial, trivial, trivial, trivial, trivial, trivial, trivial, trivial⟩ (by kernel_rfl) ?_
     clear wf P_0 P_1 P_10 P_11 P_12 P_13 P_14 P_15 P_16 P_17 P_19 P_2 P_3 P_4 P_5 P_6 P_7 P_8 P_9
     refine x_seq ?_
     refine cW [(4, pt b5), (5, .int .i64 0)] ?_
     refine c_ret ?_
     obtain ⟨v37, hv37, H⟩ := H
     exact x_retc tok _ rfl [.agg (S_api_Wide.cs v37).toArray, .int .i64 0] ⟨⟨_, _, rfl, rfl, .inr ⟨rfl, _, rfl, rfl, hv37⟩⟩, rfl, trivial⟩ ⟨(v37, 0), rfl, H⟩
   ·
    refine w_gs (d := 49) rfl (fun hb => ?_) (fun hb => ?_)
    ·
     iterate 5 refine w_skip rfl rfl ?_
     refine wP tok ?_
     refine w_jn () rfl ⟨?_, rfl, rfl, trivial⟩
     exact congrArg (fun b => some (Value.bool b)) (or_t hb)
    ·
     iterate 3 refine wP tok ?_
     refine w_cutU 2 [(54, .bool ((t9_1 == 1) && (decide (v25 ≥ 2147483648)))), (4, pt b5), (8, Slc.v t8_1), (49, .bool false)] ?_ ?_
     ·
      refine wP tok ?_
      refine w_jn () rfl ⟨?_, rfl, rfl, trivial⟩
      exact congrArg (fun b => some (Value.bool b)) (or_f hb)
     ·
      refine w_gs (d := 52) rfl (fun hb => ?_) (fun hb => ?_)
      ·
       iterate 2 refine wP tok ?_
       refine w_jn () rfl ⟨?_, rfl, rfl, rfl, trivial⟩
       exact congrArg (fun b => some (Value.bool b)) (and_t hb)
      ·
       refine w_skip rfl rfl ?_
       refine wP tok ?_
       refine w_jn () rfl ⟨?_, rfl, rfl, rfl, trivial⟩
       exact congrArg (fun b => some (Value.bool b)) (and_f hb)
  ·
   refine w_gs (d := 45) rfl (fun hb => ?_) (fun hb => ?_)
   ·
    iterate 3 refine wP tok ?_
    refine w_jn () rfl ⟨?_, rfl, rfl, rfl, rfl, trivial⟩
    exact congrArg (fun b => some (Value.bool b)) (and_t hb)
   ·
    iterate 2 refine w_skip rfl rfl ?_
    refine wP tok ?_
    refine w_jn () rfl ⟨?_, rfl, rfl, rfl, rfl, trivial⟩
    exact congrArg (fun b => some (Value.bool b)) (and_f hb)

theorem ref01_Floor_ok : CallOk Go.Proofs.Tryz.prog 24 := ⟨_, Go.Proofs.Tryz.func24, by kernel_rfl, by kernel_rfl⟩
theorem ref01_Floor_ref (p0 : Int) (p1 : Int) (k : (Int × Int) → Heap → Prop) (h : Heap) (H : ref01_Floor p0 p1 k h) : CallsH Go.Proofs.Tryz.prog 24 #[.int .i64 p0, .int .i64 p1] h (fun v h' => ∃ r : Int × Int, v = .tuple #[.int .i64 r.1, .int .i64 r.2] ∧ k r h') := by
 refine f_enter (N := 33) Go.Proofs.Tryz.func24 rfl rfl rfl (fun w0 => ?_)
 unfold ref01_Floor at H
 refine cW [(0, .int .i64 p0), (1, .int .i64 p1)] ?_
 refine c_seq (c_region ?_)
 iterate 2 refine wP tok ?_
 refine w_end (x_seq ?_)
 refine c_seq (c_seq (c_region ?_))
 iterate 2 refine wP tok ?_
 refine w_end (x_seq ?_)
 refine c_if H rfl (fun H => ?_) (fun H => ?_)
 ·
  refine c_seq (c_region ?_)
  iterate 2 refine wP tok ?_
  refine w_end (x_seq ?_)
  refine c_ret (x_tr ?_)
  exact x_ret _ rfl _ rfl ⟨(0, 1), rfl, H⟩
 ·
  refine c_skip (x_seq ?_)
  refine c_seq (c_seq (c_region ?_))
  iterate 2 refine wP tok ?_
  refine w_end (x_seq ?_)
  refine c_if H rfl (fun H => ?_) (fun H => ?_)
  ·
   refine c_seq (c_seq (c_region ?_))
   iterate 2 refine wP tok ?_
   refine w_end (x_seq ?_)
   refine cW [(0, .int .i64 p0), (12, .bool (p0 == (-9223372036854775808)))] ?_
   refine c_if H rfl (fun H => ?_) (fun H => ?_)
   ·
    refine c_seq (c_region ?_)
    iterate 2 refine wP tok ?_
    refine w_end (x_seq ?_)
    refine c_ret (x_tr (x_tr ?_))
    exact x_ret _ rfl _ rfl ⟨(0, 19), rfl, H⟩
   ·
    refine c_skip (x_seq ?_)
    refine c_seq (c_region ?_)
    iterate 2 refine wP tok ?_
    obtain ⟨x1, ex1, H⟩ := H
    refine w_pe tok rfl (congrArg (fun z => (.int .i64 z : Value)) ex1) rfl rfl ?_
    refine wP tok ?_
    refine w_end (x_seq ?_)
    refine c_ret (x_tr ?_)
    exact x_ret _ rfl _ rfl ⟨(x1, 0), rfl, H⟩
  ·
   refine c_skip (x_seq ?_)
   refine c_seq (c_region ?_)
   iterate 2 refine wP tok ?_
   obtain ⟨z2, H⟩ := H
   refine w_y (y_quo rfl rfl rfl z2) rfl rfl ?_
   obtain ⟨x3, ex3, H⟩ := H
   refine w_pe tok rfl (congrArg (fun z => (.int .i64 z : Value)) ex3) rfl rfl ?_
   refine w_end (x_seq ?_)
   refine cW [(0, .int .i64 p0), (1, .int .i64 p1), (6, .int .i64 x3)] ?_
   refine c_seqJ (α := Int) (fun (s : Int) => [(6, .int .i64 s)]) (fun (s : Int) h => ref01_Floor_j1 s k h) ?_ ?_
   ·
    rintro t6_1 h_1 H
    unfold ref01_Floor_j1 at H
    refine cW [(6, .int .i64 t6_1)] ?_
    refine c_seq (c_region ?_)
    iterate 3 refine wP tok ?_
    refine w_end (x_seq (c_ret ?_))
    exact x_ret _ rfl _ rfl ⟨(t6_1, 0), rfl, H⟩
   ·
    refine c_seq (c_region ?_)
    iterate 6 refine wP tok ?_
    refine w_cutU 6 [(29, .bool (((IntKind.i64.wrap (x3 * p1)) != p0) && (!((decide (p0 < 0)) == (decide (p1 < 0)))))), (6, .int .i64 x3)] ?_ ?_
    ·
     refine w_end (x_seq ?_)
     refine c_if H rfl (fun H => ?_) (fun H => ?_)
     ·
      refine c_region ?_
      iterate 2 refine wP tok ?_
      obtain ⟨x4, ex4, H⟩ := H
      refine w_pe tok rfl (congrArg (fun z => (.int .i64 z : Value)) ex4) rfl rfl ?_
      refine w_end ?_
      exact xJ x4 H
     ·
      refine c_skip ?_
      exact xJ x3 H
    ·
     refine w_gs (d := 23) rfl (fun hb => ?_) (fun hb => ?_)
     ·
      iterate 6 refine wP tok ?_
      refine w_jn () rfl ⟨?_, rfl, trivial⟩
      exact congrArg (fun b => some (Value.bool b)) (and_t hb)
     ·
      iterate 5 refine w_skip rfl rfl ?_
      refine wP tok ?_
      refine w_jn () rfl ⟨?_, rfl, trivial⟩
      exact congrArg (fun b => some (Value.bool b)) (and_f hb)

theorem ref19_wide_ok : CallOk Go.Proofs.Tryz.prog 22 := ⟨_, Go.Proofs.Tryz.func22, by kernel_rfl, by kernel_rfl⟩
theorem ref19_wide_ref (p0 : Int) (k : (S_api_Wide) → Heap → Prop) (h : Heap) (H : ref19_wide p0 k h) : CallsH Go.Proofs.Tryz.prog 22 #[.int .i64 p0] h (fun v h' => ∃ r : S_api_Wide, v = .agg (S_api_Wide.cs r).toArray ∧ k r h') := by
 refine f_enter (N := 11) Go.Proofs.Tryz.func22 rfl rfl rfl (fun w0 => ?_)
 unfold ref19_wide at H
 refine cW [(0, .int .i64 p0)] ?_
 refine c_seq (c_region ?_)
 obtain ⟨b1, h2, eb1, eh2, H⟩ := H
 refine w_h (h_alloc tok rfl rfl eb1 eh2) rfl rfl ?_
 refine w_end (x_seq ?_)
 refine c_seq (c_seq (c_region ?_))
 iterate 2 refine wP tok ?_
 refine w_end (x_seq ?_)
 refine c_if H rfl (fun H => ?_) (fun H => ?_)
 ·
  refine c_seq (c_region ?_)
  iterate 2 refine wP tok ?_
  refine w_y (y_build tok rfl rfl rfl rfl rfl) rfl rfl ?_
  obtain ⟨h3, wh3, eh3, H⟩ := H
  refine w_h (h_sts tok rfl rfl rfl rfl rfl (oneC (by kernel_rfl)) wh3 eh3) rfl rfl ?_
  refine w_end (x_seq ?_)
  refine c_ret (x_tr ?_)
  obtain ⟨v4, hv4, H⟩ := H
  exact x_retc tok _ rfl [.agg (S_api_Wide.cs v4).toArray] ⟨⟨_, _, rfl, rfl, .inr ⟨rfl, _, rfl, rfl, hv4⟩⟩, trivial⟩ ⟨v4, rfl, H⟩
 ·
  refine c_skip (x_seq ?_)
  refine c_seq (c_region ?_)
  iterate 2 refine wP tok ?_
  refine w_y (y_build tok rfl rfl rfl rfl rfl) rfl rfl ?_
  obtain ⟨h5, wh5, eh5, H⟩ := H
  refine w_h (h_sts tok rfl rfl rfl rfl rfl (oneC (by kernel_rfl)) wh5 eh5) rfl rfl ?_
  refine w_end (x_seq (c_ret ?_))
  obtain ⟨v6, hv6, H⟩ := H
  exact x_retc tok _ rfl [.agg (S_api_Wide.cs v6).toArray] ⟨⟨_, _, rfl, rfl, .inr ⟨rfl, _, rfl, rfl, hv6⟩⟩, trivial⟩ ⟨v6, rfl, H⟩

theorem ref19_apart_ok : CallOk Go.Proofs.Tryz.prog 23 := ⟨_, Go.Proofs.Tryz.func23, by kernel_rfl, by kernel_rfl⟩
theorem ref19_apart_ref (p0 : Int) (p1 : Int) (k : (Bool) → Heap → Prop) (h : Heap) (H : ref19_apart p0 p1 k h) : CallsH Go.Proofs.Tryz.prog 23 #[.int .i64 p0, .int .i64 p1] h (fun v h' => ∃ r : Bool, v = .bool r ∧ k r h') := by
 refine f_enter (N := 15) Go.Proofs.Tryz.func23 rfl rfl rfl (fun w0 => ?_)
 unfold ref19_apart at H
 refine cW [(0, .int .i64 p0), (1, .int .i64 p1)] ?_
 refine c_seq (c_region ?_)
 refine wP tok ?_
 refine w_end (x_seq ?_)
 refine c_seq (c_region ?_)
 iterate 3 refine wP tok ?_
 obtain ⟨x1, ex1, H⟩ := H
 refine w_pe tok rfl (congrArg (fun z => (.int .i64 z : Value)) ex1) rfl rfl ?_
 refine w_end (x_seq ?_)
 refine c_seq (c_region ?_)
 iterate 7 refine wP tok ?_
 refine w_end (x_seq ?_)
 refine cW [(4, .bool (((decide (p1 < 0)) == (decide (x1 > p0)))))] ?_
 refine c_ret ?_
 exact x_ret _ rfl _ rfl ⟨(((decide (p1 < 0)) == (decide (x1 > p0)))), rfl, H⟩

theorem ref15_letter_ok : CallOk Go.Proofs.Tryz.prog 77 := ⟨_, Go.Proofs.Tryz.func77, by kernel_rfl, by kernel_rfl⟩
theorem ref15_letter_ref (p0 : Int) (k : (Bool) → Heap → Prop) (h : Heap) (H : ref15_letter p0 k h) : CallsH Go.Proofs.Tryz.prog 77 #[.int .u8 p0] h (fun v h' => ∃ r : Bool, v = .bool r ∧ k r h') := by
 refine f_enter (N := 41) Go.Proofs.Tryz.func77 rfl rfl rfl (fun w0 => ?_)
 unfold ref15_letter at H
 refine cW [(0, .int .u8 p0)] ?_
 refine c_seq (c_region ?_)
 refine wP tok ?_
 refine w_end (x_seq ?_)
 refine c_seq (c_region ?_)
 iterate 3 refine wP tok ?_
 refine w_cutU 3 [(8, .bool ((decide (p0 ≥ 97)) && (decide (p0 ≤ 122)))), (0, .int .u8 p0)] ?_ ?_
 ·
  refine wP tok ?_
  refine w_cutU 7 [(16, .bool (((decide (p0 ≥ 97)) && (decide (p0 ≤ 122))) || ((decide (p0 ≥ 65)) && (decide (p0 ≤ 90))))), (0, .int .u8 p0)] ?_ ?_
  ·
   refine wP tok ?_
   refine w_cutU 7 [(24, .bool ((((decide (p0 ≥ 97)) && (decide (p0 ≤ 122))) || ((decide (p0 ≥ 65)) && (decide (p0 ≤ 90)))) || ((decide (p0 ≥ 48)) && (decide (p0 ≤ 57))))), (0, .int .u8 p0)] ?_ ?_
   ·
    refine wP tok ?_
    refine w_cutU 3 [(28, .bool (((((decide (p0 ≥ 97)) && (decide (p0 ≤ 122))) || ((decide (p0 ≥ 65)) && (decide (p0 ≤ 90)))) || ((decide (p0 ≥ 48)) && (decide (p0 ≤ 57)))) || (p0 == 95))), (0, .int .u8 p0)] ?_ ?_
    ·
     refine wP tok ?_
     refine w_cutU 3 [(32, .bool ((((((decide (p0 ≥ 97)) && (decide (p0 ≤ 122))) || ((decide (p0 ≥ 65)) && (decide (p0 ≤ 90)))) || ((decide (p0 ≥ 48)) && (decide (p0 ≤ 57)))) || (p0 == 95)) || (p0 == 45))), (0, .int .u8 p0)] ?_ ?_
     ·
      refine wP tok ?_
      refine w_cutU 3 [(36, .bool (((((((decide (p0 ≥ 97)) && (decide (p0 ≤ 122))) || ((decide (p0 ≥ 65)) && (decide (p0 ≤ 90)))) || ((decide (p0 ≥ 48)) && (decide (p0 ≤ 57)))) || (p0 == 95)) || (p0 == 45)) || (p0 == 46))), (0, .int .u8 p0)] ?_ ?_
      ·
       refine wP tok ?_
       refine w_cutU 3 [(40, .bool ((((((((decide (p0 ≥ 97)) && (decide (p0 ≤ 122))) || ((decide (p0 ≥ 65)) && (decide (p0 ≤ 90)))) || ((decide (p0 ≥ 48)) && (decide (p0 ≤ 57)))) || (p0 == 95)) || (p0 == 45)) || (p0 == 46)) || (p0 == 47)))] ?_ ?_
       ·
        refine wP tok ?_
        refine w_end (x_seq (c_ret ?_))
        exact x_ret _ rfl _ rfl ⟨((((((((decide (p0 ≥ 97)) && (decide (p0 ≤ 122))) || ((decide (p0 ≥ 65)) && (decide (p0 ≤ 90)))) || ((decide (p0 ≥ 48)) && (decide (p0 ≤ 57)))) || (p0 == 95)) || (p0 == 45)) || (p0 == 46)) || (p0 == 47)), rfl, H⟩
       ·
        refine w_gs (d := 37) rfl (fun hb => ?_) (fun hb => ?_)
        ·
         iterate 2 refine w_skip rfl rfl ?_
         refine wP tok ?_
         refine w_jn () rfl ⟨?_, trivial⟩
         exact congrArg (fun b => some (Value.bool b)) (or_t hb)
        ·
         iterate 3 refine wP tok ?_
         refine w_jn () rfl ⟨?_, trivial⟩
         exact congrArg (fun b => some (Value.bool b)) (or_f hb)
      ·
       refine w_gs (d := 33) rfl (fun hb => ?_) (fun hb => ?_)
       ·
        iterate 2 refine w_skip rfl rfl ?_
        refine wP tok ?_
        refine w_jn () rfl ⟨?_, rfl, trivial⟩
        exact congrArg (fun b => some (Value.bool b)) (or_t hb)
       ·
        iterate 3 refine wP tok ?_
        refine w_jn () rfl ⟨?_, rfl, trivial⟩
        exact congrArg (fun b => some (Value.bool b)) (or_f hb)
     ·
      refine w_gs (d := 29) rfl (fun hb => ?_) (fun hb => ?_)
      ·
       iterate 2 refine w_skip rfl rfl ?_
       refine wP tok ?_
       refine w_jn () rfl ⟨?_, rfl, trivial⟩
       exact congrArg (fun b => some (Value.bool b)) (or_t hb)
      ·
       iterate 3 refine wP tok ?_
       refine w_jn () rfl ⟨?_, rfl, trivial⟩
       exact congrArg (fun b => some (Value.bool b)) (or_f hb)
    ·
     refine w_gs (d := 25) rfl (fun hb => ?_) (fun hb => ?_)
     ·
      iterate 2 refine w_skip rfl rfl ?_
      refine wP tok ?_
      refine w_jn () rfl ⟨?_, rfl, trivial⟩
      exact congrArg (fun b => some (Value.bool b)) (or_t hb)
     ·
      iterate 3 refine wP tok ?_
      refine w_jn () rfl ⟨?_, rfl, trivial⟩
      exact congrArg (fun b => some (Value.bool b)) (or_f hb)
   ·
    refine w_gs (d := 17) rfl (fun hb => ?_) (fun hb => ?_)
    ·
     iterate 6 refine w_skip rfl rfl ?_
     refine wP tok ?_
     refine w_jn () rfl ⟨?_, rfl, trivial⟩
     exact congrArg (fun b => some (Value.bool b)) (or_t hb)
    ·
     iterate 3 refine wP tok ?_
     refine w_cutU 3 [(23, .bool ((decide (p0 ≥ 48)) && (decide (p0 ≤ 57)))), (0, .int .u8 p0), (17, .bool false)] ?_ ?_
     ·
      refine wP tok ?_
      refine w_jn () rfl ⟨?_, rfl, trivial⟩
      exact congrArg (fun b => some (Value.bool b)) (or_f hb)
     ·
      refine w_gs (d := 20) rfl (fun hb => ?_) (fun hb => ?_)
      ·
       iterate 3 refine wP tok ?_
       refine w_jn () rfl ⟨?_, rfl, rfl, trivial⟩
       exact congrArg (fun b => some (Value.bool b)) (and_t hb)
      ·
       iterate 2 refine w_skip rfl rfl ?_
       refine wP tok ?_
       refine w_jn () rfl ⟨?_, rfl, rfl, trivial⟩
       exact congrArg (fun b => some (Value.bool b)) (and_f hb)
  ·
   refine w_gs (d := 9) rfl (fun hb => ?_) (fun hb => ?_)
   ·
    iterate 6 refine w_skip rfl rfl ?_
    refine wP tok ?_
    refine w_jn () rfl ⟨?_, rfl, trivial⟩
    exact congrArg (fun b => some (Value.bool b)) (or_t hb)
   ·
    iterate 3 refine wP tok ?_
    refine w_cutU 3 [(15, .bool ((decide (p0 ≥ 65)) && (decide (p0 ≤ 90)))), (0, .int .u8 p0), (9, .bool false)] ?_ ?_
    ·
     refine wP tok ?_
     refine w_jn () rfl ⟨?_, rfl, trivial⟩
     exact congrArg (fun b => some (Value.bool b)) (or_f hb)
    ·
     refine w_gs (d := 12) rfl (fun hb => ?_) (fun hb => ?_)
     ·
      iterate 3 refine wP tok ?_
      refine w_jn () rfl ⟨?_, rfl, rfl, trivial⟩
      exact congrArg (fun b => some (Value.bool b)) (and_t hb)
     ·
      iterate 2 refine w_skip rfl rfl ?_
      refine wP tok ?_
      refine w_jn () rfl ⟨?_, rfl, rfl, trivial⟩
      exact congrArg (fun b => some (Value.bool b)) (and_f hb)
 ·
  refine w_gs (d := 5) rfl (fun hb => ?_) (fun hb => ?_)
  ·
   iterate 3 refine wP tok ?_
   refine w_jn () rfl ⟨?_, rfl, trivial⟩
   exact congrArg (fun b => some (Value.bool b)) (and_t hb)
  ·
   iterate 2 refine w_skip rfl rfl ?_
   refine wP tok ?_
   refine w_jn () rfl ⟨?_, rfl, trivial⟩
   exact congrArg (fun b => some (Value.bool b)) (and_f hb)

theorem ref15_Word_ok : CallOk Go.Proofs.Tryz.prog 53 := ⟨_, Go.Proofs.Tryz.func53, by kernel_rfl, by kernel_rfl⟩
theorem ref15_Word_ref (p0 : ByteArray) (k : (Bool) → Heap → Prop) (h : Heap) (H : ref15_Word p0 k h) : CallsH Go.Proofs.Tryz.prog 53 #[.string p0] h (fun v h' => ∃ r : Bool, v = .bool r ∧ k r h') := by
 refine f_enter (N := 23) Go.Proofs.Tryz.func53 rfl rfl rfl (fun w0 => ?_)
 unfold ref15_Word at H
 refine cW [(0, .string p0)] ?_
 refine c_seq (c_region ?_)
 refine wP tok ?_
 refine w_end (x_seq ?_)
 refine c_seq (c_seq (c_region ?_))
 iterate 4 refine wP tok ?_
 refine w_cutU 4 [(11, .bool ((decide ((p0.size : Int) < 1)) || (decide ((p0.size : Int) > 24)))), (0, .string p0)] ?_ ?_
 ·
  refine w_end (x_seq ?_)
  refine c_if H rfl (fun H => ?_) (fun H => ?_)
  ·
   refine c_seq (c_region ?_)
   refine wP tok ?_
   refine w_end (x_seq ?_)
   refine c_ret (x_tr ?_)
   exact x_ret _ rfl _ rfl ⟨false, rfl, H⟩
  ·
   refine c_skip (x_seq ?_)
   refine c_seq (c_seq (c_region ?_))
   refine wP tok ?_
   refine w_end (x_seq (c_block ?_))
   obtain ⟨I1, μ1, H0, HI⟩ := H
   refine c_loop (σ := Int) (fun (s : Int) => [(3, .int .i64 s), (0, .string p0)]) I1 μ1 0 H0 ⟨rfl, rfl, trivial⟩ ?_
   rintro t3_1 h_1 H
   replace H := HI t3_1 h_1 H
   unfold ref15_Word_l1b at H
   refine cW [(3, .int .i64 t3_1), (0, .string p0)] ?_
   refine c_seq (c_seq (c_region ?_))
   iterate 4 refine wP tok ?_
   refine w_end (x_seq ?_)
   refine c_if H rfl (fun H => ?_) (fun H => ?_)
   ·
    refine c_skip (x_seq ?_)
    refine c_seq (c_block ?_)
    refine c_seq (c_region ?_)
    iterate 2 refine wP tok ?_
    obtain ⟨v1, lv1, hv1, H⟩ := H
    refine w_y (y_ixs' tok rfl rfl rfl rfl lv1 hv1) rfl rfl ?_
    refine w_call ref15_letter_ok (ref15_letter_ref _ _ _ H) rfl rfl rfl rfl ?_
    rintro _ h3 ⟨r2, rfl, H⟩
    refine wP tok ?_
    refine w_end (x_seq ?_)
    refine cW [(3, .int .i64 t3_1), (0, .string p0), (22, .bool (!r2))] ?_
    refine c_if H rfl (fun H => ?_) (fun H => ?_)
    ·
     refine c_seq (c_region ?_)
     refine wP tok ?_
     refine w_end (x_seq (c_ret ?_))
     refine x_br ?_
     refine x_tr (x_tr ?_)
     refine x_br ?_
     refine x_tr ?_
     exact x_ret _ rfl _ rfl ⟨false, rfl, H⟩
    ·
     refine c_skip ?_
     refine x_blk ?_
     refine x_seq (c_region ?_)
     iterate 2 refine wP tok ?_
     obtain ⟨x4, ex4, H⟩ := H
     refine w_pe tok rfl (congrArg (fun z => (.int .i64 z : Value)) ex4) rfl rfl ?_
     refine w_end ?_
     exact xJ x4 H
   ·
    refine c_exit ?_
    refine x_te (x_te ?_)
    refine x_bh ?_
    refine x_seq (c_seq (c_region ?_))
    refine wP tok ?_
    refine w_end (x_seq (c_ret ?_))
    exact x_ret _ rfl _ rfl ⟨true, rfl, H⟩
 ·
  refine w_gs (d := 7) rfl (fun hb => ?_) (fun hb => ?_)
  ·
   iterate 3 refine w_skip rfl rfl ?_
   refine wP tok ?_
   refine w_jn () rfl ⟨?_, rfl, trivial⟩
   exact congrArg (fun b => some (Value.bool b)) (or_t hb)
  ·
   iterate 4 refine wP tok ?_
   refine w_jn () rfl ⟨?_, rfl, trivial⟩
   exact congrArg (fun b => some (Value.bool b)) (or_f hb)

theorem ref15_words_ok : CallOk Go.Proofs.Tryz.prog 52 := ⟨_, Go.Proofs.Tryz.func52, by kernel_rfl, by kernel_rfl⟩
theorem ref15_words_ref (p0 : ByteArray) (k : (Slc × Slc) → Heap → Prop) (h : Heap) (H : ref15_words p0 k h) : CallsH Go.Proofs.Tryz.prog 52 #[.string p0] h (fun v h' => ∃ r : Slc × Slc, v = .tuple #[Slc.v r.1, Slc.v r.2] ∧ k r h') := by
 refine f_enter (N := 56) Go.Proofs.Tryz.func52 rfl rfl rfl (fun w0 => ?_)
 unfold ref15_words at H
 refine cW [(0, .string p0)] ?_
 refine c_seq (c_region ?_)
 iterate 2 refine wP tok ?_
 refine w_end (x_seq ?_)
 refine c_seq (c_region ?_)
 iterate 2 refine wP tok ?_
 refine w_end (x_seq ?_)
 refine c_seq (c_region ?_)
 refine wP tok ?_
 refine w_end (x_seq ?_)
 refine c_seq (c_block ?_)
 obtain ⟨I1, μ1, H0, HI⟩ := H
 refine c_loop (σ := Slc × Slc × Int) (fun (s : Slc × Slc × Int) => [(4, Slc.v s.1), (5, Slc.v s.2.1), (6, .int .i64 s.2.2), (0, .string p0)]) I1 μ1 ((⟨none, 0, 0⟩ : Slc), (⟨none, 0, 0⟩ : Slc), 0) H0 ⟨rfl, rfl, rfl, rfl, trivial⟩ ?_
 rintro ⟨t4_1, t5_1, t6_1⟩ h_1 H
 replace H := HI t4_1 t5_1 t6_1 h_1 H
 unfold ref15_words_l1b at H
 refine cW [(4, Slc.v t4_1), (5, Slc.v t5_1), (6, .int .i64 t6_1), (0, .string p0)] ?_
 refine c_seq (c_seq (c_region ?_))
 iterate 4 refine wP tok ?_
 refine w_end (x_seq ?_)
 refine c_if H rfl (fun H => ?_) (fun H => ?_)
 ·
  refine c_skip (x_seq ?_)
  refine c_block (c_seq (c_region ?_))
  iterate 2 refine wP tok ?_
  refine w_end (x_seq ?_)
  refine c_seq (c_block ?_)
  obtain ⟨I2, μ2, H0, HI⟩ := H
  refine c_loop (σ := Int) (fun (s : Int) => [(7, .int .i64 s), (0, .string p0), (4, Slc.v t4_1), (5, Slc.v t5_1), (6, .int .i64 t6_1)]) I2 μ2 t6_1 H0 ⟨rfl, rfl, rfl, rfl, rfl, trivial⟩ ?_
  rintro t7_2 h_2 H
  replace H := HI t7_2 h_2 H
  unfold ref15_words_l2b at H
  refine cW [(7, .int .i64 t7_2), (0, .string p0), (4, Slc.v t4_1), (5, Slc.v t5_1), (6, .int .i64 t6_1)] ?_
  refine c_seq (c_seq (c_region ?_))
  iterate 5 refine wP tok ?_
  refine w_cut 5 (α := Bool) (fun (s : Bool) => [(22, .bool s), (0, .string p0), (4, Slc.v t4_1), (5, Slc.v t5_1), (6, .int .i64 t6_1), (7, .int .i64 t7_2)]) (fun (s : Bool) h => ref15_words_g3 p0 t4_1 t5_1 t6_1 t7_2 s k (fun s h' => I1 s h' ∧ μ1 s h' < μ1 (t4_1, t5_1, t6_1) h_1) (fun s h' => I2 s h' ∧ μ2 s h' < μ2 t7_2 h_2) h) ?_ ?_
  ·
   rintro t22_3 h_3 H
   unfold ref15_words_g3 at H
   refine wW [(22, .bool t22_3), (0, .string p0), (4, Slc.v t4_1), (5, Slc.v t5_1), (6, .int .i64 t6_1), (7, .int .i64 t7_2)] ?_
   refine w_end (x_seq ?_)
   refine c_if H rfl (fun H => ?_) (fun H => ?_)
   ·
    refine c_skip (x_seq ?_)
    refine c_block (c_region ?_)
    iterate 2 refine wP tok ?_
    obtain ⟨x1, ex1, H⟩ := H
    refine w_pe tok rfl (congrArg (fun z => (.int .i64 z : Value)) ex1) rfl rfl ?_
    refine w_end ?_
    refine x_blk ?_
    exact xJ x1 H
   ·
    refine c_exit ?_
    refine x_te (x_te ?_)
    refine x_bh ?_
    refine x_seq (c_seq (c_region ?_))
    iterate 4 refine wP tok ?_
    obtain ⟨s2, ps2, qs2, rs2, es2, H⟩ := H
    refine w_ye (y_sls (s := p0) (L := t6_1) (H := t7_2) tok rfl rfl rfl rfl rfl ps2 qs2 rs2) (congrArg Value.string es2) rfl rfl ?_
    obtain ⟨b3, h4, eb3, eh4, H⟩ := H
    refine w_h (h_bs tok rfl rfl rfl rfl rfl rfl rfl eb3 eh4) rfl rfl ?_
    refine w_a (a_app (s := t4_1) (r := (⟨some ⟨b3, 0, none⟩, 1, 1⟩ : Slc)) tok rfl rfl rfl rfl rfl (slcAt_push eb3 eh4) H) rfl rfl ?_
    rintro _ h6 ⟨s5, rfl, H⟩
    refine wP tok ?_
    refine w_end (x_seq ?_)
    refine cW [(0, .string p0), (4, Slc.v s5), (5, Slc.v t5_1), (7, .int .i64 t7_2)] ?_
    refine c_seq (c_region ?_)
    iterate 2 refine wP tok ?_
    refine w_end (x_seq ?_)
    refine c_seq (c_block ?_)
    obtain ⟨I4, μ4, H0, HI⟩ := H
    refine c_loop (σ := Int) (fun (s : Int) => [(7, .int .i64 s), (0, .string p0), (4, Slc.v s5), (5, Slc.v t5_1), (6, .int .i64 t7_2)]) I4 μ4 t7_2 H0 ⟨rfl, rfl, rfl, rfl, rfl, trivial⟩ ?_
    rintro t7_4 h_4 H
    replace H := HI t7_4 h_4 H
    unfold ref15_words_l4b at H
    refine cW [(7, .int .i64 t7_4), (0, .string p0), (4, Slc.v s5), (5, Slc.v t5_1), (6, .int .i64 t7_2)] ?_
    refine c_seq (c_seq (c_region ?_))
    iterate 5 refine wP tok ?_
    refine w_cut 6 (α := Bool) (fun (s : Bool) => [(43, .bool s), (0, .string p0), (4, Slc.v s5), (5, Slc.v t5_1), (6, .int .i64 t7_2), (7, .int .i64 t7_4)]) (fun (s : Bool) h => ref15_words_g5 p0 s5 t5_1 t7_2 t7_4 s k (fun s h' => I1 s h' ∧ μ1 s h' < μ1 (t4_1, t5_1, t6_1) h_1) (fun s h' => I2 s h' ∧ μ2 s h' < μ2 t7_2 h_2) (fun s h' => I4 s h' ∧ μ4 s h' < μ4 t7_4 h_4) h) ?_ ?_
    ·
     rintro t43_5 h_5 H
     unfold ref15_words_g5 at H
     refine wW [(43, .bool t43_5), (0, .string p0), (4, Slc.v s5), (5, Slc.v t5_1), (6, .int .i64 t7_2), (7, .int .i64 t7_4)] ?_
     refine w_end (x_seq ?_)
     refine c_if H rfl (fun H => ?_) (fun H => ?_)
     ·
      refine c_skip (x_seq ?_)
      refine c_block (c_region ?_)
      iterate 2 refine wP tok ?_
      obtain ⟨x7, ex7, H⟩ := H
      refine w_pe tok rfl (congrArg (fun z => (.int .i64 z : Value)) ex7) rfl rfl ?_
      refine w_end ?_
      refine x_blk ?_
      exact xJ x7 H
     ·
      refine c_exit ?_
      refine x_te (x_te ?_)
      refine x_bh ?_
      refine x_seq (c_seq (c_region ?_))
      iterate 4 refine wP tok ?_
      obtain ⟨s8, ps8, qs8, rs8, es8, H⟩ := H
      refine w_ye (y_sls (s := p0) (L := t7_2) (H := t7_4) tok rfl rfl rfl rfl rfl ps8 qs8 rs8) (congrArg Value.string es8) rfl rfl ?_
      obtain ⟨b9, h10, eb9, eh10, H⟩ := H
      refine w_h (h_bs tok rfl rfl rfl rfl rfl rfl rfl eb9 eh10) rfl rfl ?_
      refine w_a (a_app (s := t5_1) (r := (⟨some ⟨b9, 0, none⟩, 1, 1⟩ : Slc)) tok rfl rfl rfl rfl rfl (slcAt_push eb9 eh10) H) rfl rfl ?_
      rintro _ h12 ⟨s11, rfl, H⟩
      refine wP tok ?_
      refine w_end (x_seq ?_)
      refine cW [(0, .string p0), (4, Slc.v s5), (5, Slc.v s11), (7, .int .i64 t7_4)] ?_
      refine c_region ?_
      iterate 2 refine wP tok ?_
      refine w_end ?_
      refine x_blk ?_
      exact xJ (s5, s11, t7_4) H
    ·
     refine w_gif (d := 37) H rfl (fun H => ?_) (fun H => ?_)
     ·
      iterate 2 refine wP tok ?_
      obtain ⟨v13, lv13, hv13, H⟩ := H
      refine w_y (y_ixs' tok rfl rfl rfl rfl lv13 hv13) rfl rfl ?_
      refine w_call ref15_letter_ok (ref15_letter_ref _ _ _ H) rfl rfl rfl rfl ?_
      rintro _ h15 ⟨r14, rfl, H⟩
      iterate 2 refine wP tok ?_
      exact wJ (!r14) H
     ·
      iterate 5 refine w_skip rfl rfl ?_
      refine wP tok ?_
      exact wJ false H
  ·
   refine w_gif (d := 17) H rfl (fun H => ?_) (fun H => ?_)
   ·
    iterate 2 refine wP tok ?_
    obtain ⟨v16, lv16, hv16, H⟩ := H
    refine w_y (y_ixs' tok rfl rfl rfl rfl lv16 hv16) rfl rfl ?_
    refine w_call ref15_letter_ok (ref15_letter_ref _ _ _ H) rfl rfl rfl rfl ?_
    rintro _ h18 ⟨r17, rfl, H⟩
    refine wP tok ?_
    exact wJ r17 H
   ·
    iterate 4 refine w_skip rfl rfl ?_
    refine wP tok ?_
    exact wJ false H
 ·
  refine c_exit ?_
  refine x_te (x_te ?_)
  refine x_bh ?_
  refine x_seq (c_seq (c_region ?_))
  iterate 4 refine wP tok ?_
  refine w_end (x_seq ?_)
  refine cW [(2, Slc.v t4_1), (3, Slc.v t5_1)] ?_
  refine c_ret ?_
  exact x_ret _ rfl _ rfl ⟨(t4_1, t5_1), rfl, H⟩

theorem ref15_Selector_ok : CallOk Go.Proofs.Tryz.prog 25 := ⟨_, Go.Proofs.Tryz.func25, by kernel_rfl, by kernel_rfl⟩
theorem ref15_Selector_ref (p0 : ByteArray) (k : (S_api_Selector × Bool) → Heap → Prop) (h : Heap) (H : ref15_Selector p0 k h) : CallsH Go.Proofs.Tryz.prog 25 #[.string p0] h (fun v h' => ∃ r : S_api_Selector × Bool, v = .tuple #[.agg (S_api_Selector.cs r.1).toArray, .bool r.2] ∧ k r h') := by
 refine f_enter (N := 141) Go.Proofs.Tryz.func25 rfl rfl rfl (fun w0 => ?_)
 unfold ref15_Selector at H
 refine cW [(0, .string p0)] ?_
 refine c_seq (c_region ?_)
 obtain ⟨b1, h2, eb1, eh2, H⟩ := H
 refine w_h (h_alloc tok rfl rfl eb1 eh2) rfl rfl ?_
 refine wP tok ?_
 refine w_end (x_seq ?_)
 refine c_seq (c_region ?_)
 refine w_y (y_build tok rfl rfl rfl rfl rfl) rfl rfl ?_
 obtain ⟨b3, h4, eb3, eh4, H⟩ := H
 refine w_h (h_alloc tok rfl rfl eb3 eh4) rfl rfl ?_
 obtain ⟨h5, wh5, eh5, H⟩ := H
 refine w_h (h_sts tok rfl rfl rfl rfl rfl (oneC (by kernel_rfl)) wh5 eh5) rfl rfl ?_
 refine w_end (x_seq ?_)
 refine c_seq (c_region ?_)
 refine wP tok ?_
 refine w_call ref15_words_ok (ref15_words_ref _ _ _ H) rfl rfl rfl rfl ?_
 rintro _ h7 ⟨r6, rfl, H⟩
 iterate 5 refine wP tok ?_
 refine w_end (x_seq ?_)
 refine cW [(0, .string p0), (2, pt b1), (4, pt b3), (5, Slc.v r6.1), (6, Slc.v r6.2)] ?_
 refine c_seq (c_seq (c_region ?_))
 iterate 3 refine wP tok ?_
 refine w_end (x_seq ?_)
 refine c_if H rfl (fun H => ?_) (fun H => ?_)
 ·
  refine c_seq (c_region ?_)
  obtain ⟨v8, hv8, H⟩ := H
  refine w_y (y_lda tok rfl rfl rfl rfl rfl hv8) rfl rfl ?_
  iterate 2 refine wP tok ?_
  obtain ⟨h9, wh9, eh9, H⟩ := H
  refine w_h (h_sts tok rfl rfl rfl rfl rfl (oneC (by kernel_rfl)) wh9 eh9) rfl rfl ?_
  refine wP tok ?_
  refine w_end (x_seq ?_)
  refine cW [(2, pt b1), (3, .bool (p0.toList == (⟨#[]⟩ : ByteArray).toList))] ?_
  refine c_ret (x_tr ?_)
  obtain ⟨v10, hv10, H⟩ := H
  exact x_retc tok _ rfl [.agg (S_api_Selector.cs v10).toArray, .bool (p0.toList == (⟨#[]⟩ : ByteArray).toList)] ⟨⟨_, _, rfl, rfl, .inr ⟨rfl, _, rfl, rfl, hv10⟩⟩, rfl, trivial⟩ ⟨(v10, (p0.toList == (⟨#[]⟩ : ByteArray).toList)), rfl, H⟩
 ·
  refine c_skip (x_seq ?_)
  refine c_seq (c_region ?_)
  refine wP tok ?_
  obtain ⟨a11, ha11, la11, ua11, H⟩ := H
  refine w_y (y_ixa' tok rfl rfl ha11 rfl rfl rfl la11 ua11) rfl rfl ?_
  obtain ⟨v12, hv12, H⟩ := H
  refine w_y (y_ld tok rfl rfl rfl rfl hv12) rfl rfl ?_
  refine w_y (y_build tok rfl rfl rfl rfl rfl) rfl rfl ?_
  obtain ⟨b13, h14, eb13, eh14, H⟩ := H
  refine w_h (h_alloc tok rfl rfl eb13 eh14) rfl rfl ?_
  obtain ⟨h15, wh15, eh15, H⟩ := H
  refine w_h (h_sts tok rfl rfl rfl rfl rfl (oneC (by kernel_rfl)) wh15 eh15) rfl rfl ?_
  refine w_end (x_seq ?_)
  refine cW [(2, pt b1), (4, pt b3), (5, Slc.v r6.1), (6, Slc.v r6.2), (7, pt b13)] ?_
  refine c_seq (c_seq (c_region ?_))
  refine wP tok ?_
  obtain ⟨a16, ha16, la16, ua16, H⟩ := H
  refine w_y (y_ixa' tok rfl rfl ha16 rfl rfl rfl la16 ua16) rfl rfl ?_
  obtain ⟨v17, hv17, H⟩ := H
  refine w_y (y_ld tok rfl rfl rfl rfl hv17) rfl rfl ?_
  iterate 2 refine wP tok ?_
  refine w_cut 6 (α := Bool) (fun (s : Bool) => [(38, .bool s), (2, pt b1), (4, pt b3), (5, Slc.v r6.1), (6, Slc.v r6.2), (7, pt b13)]) (fun (s : Bool) h => ref15_Selector_g1 (ad b1) (ad b3) r6.1 r6.2 (ad b13) s k h) ?_ ?_
  ·
   rintro t38_1 h_1 H
   unfold ref15_Selector_g1 at H
   refine wW [(38, .bool t38_1), (2, pt b1), (4, pt b3), (5, Slc.v r6.1), (6, Slc.v r6.2), (7, pt b13)] ?_
   refine w_end (x_seq ?_)
   refine c_if H rfl (fun H => ?_) (fun H => ?_)
   ·
    refine c_seq (c_region ?_)
    obtain ⟨v18, hv18, H⟩ := H
    refine w_y (y_lda tok rfl rfl rfl rfl rfl hv18) rfl rfl ?_
    obtain ⟨h19, wh19, eh19, H⟩ := H
    refine w_h (h_sts tok rfl rfl rfl rfl rfl (oneC (by kernel_rfl)) wh19 eh19) rfl rfl ?_
    refine wP tok ?_
    refine w_end (x_seq ?_)
    refine c_ret (x_tr ?_)
    obtain ⟨v20, hv20, H⟩ := H
    exact x_retc tok _ rfl [.agg (S_api_Selector.cs v20).toArray, .bool false] ⟨⟨_, _, rfl, rfl, .inr ⟨rfl, _, rfl, rfl, hv20⟩⟩, rfl, trivial⟩ ⟨(v20, false), rfl, H⟩
   ·
    refine c_skip (x_seq ?_)
    refine c_seq (c_seq (c_region ?_))
    iterate 4 refine wP tok ?_
    refine w_cut 5 (α := Bool) (fun (s : Bool) => [(48, .bool s), (2, pt b1), (4, pt b3), (5, Slc.v r6.1), (6, Slc.v r6.2), (7, pt b13)]) (fun (s : Bool) h => ref15_Selector_g2 (ad b1) (ad b3) r6.1 r6.2 (ad b13) s k h) ?_ ?_
    ·
     rintro t48_2 h_2 H
     unfold ref15_Selector_g2 at H
     refine wW [(48, .bool t48_2), (2, pt b1), (4, pt b3), (5, Slc.v r6.1), (6, Slc.v r6.2), (7, pt b13)] ?_
     refine w_end (x_seq ?_)
     refine c_if H rfl (fun H => ?_) (fun H => ?_)
     ·
      refine c_seq (c_region ?_)
      obtain ⟨v21, hv21, H⟩ := H
      refine w_y (y_lda tok rfl rfl rfl rfl rfl hv21) rfl rfl ?_
      obtain ⟨h22, wh22, eh22, H⟩ := H
      refine w_h (h_sts tok rfl rfl rfl rfl rfl (oneC (by kernel_rfl)) wh22 eh22) rfl rfl ?_
      refine wP tok ?_
      refine w_end (x_seq ?_)
      refine c_ret (x_tr ?_)
      obtain ⟨v23, hv23, H⟩ := H
      exact x_retc tok _ rfl [.agg (S_api_Selector.cs v23).toArray, .bool false] ⟨⟨_, _, rfl, rfl, .inr ⟨rfl, _, rfl, rfl, hv23⟩⟩, rfl, trivial⟩ ⟨(v23, false), rfl, H⟩
     ·
      refine c_skip (x_seq ?_)
      refine c_seq (c_seq (c_region ?_))
      iterate 3 refine wP tok ?_
      refine w_end (x_seq ?_)
      refine c_if H rfl (fun H => ?_) (fun H => ?_)
      ·
       refine c_seq (c_region ?_)
       obtain ⟨v24, hv24, H⟩ := H
       refine w_y (y_lda tok rfl rfl rfl rfl rfl hv24) rfl rfl ?_
       obtain ⟨h25, wh25, eh25, H⟩ := H
       refine w_h (h_sts tok rfl rfl rfl rfl rfl (oneC (by kernel_rfl)) wh25 eh25) rfl rfl ?_
       refine wP tok ?_
       refine w_end (x_seq ?_)
       refine cW [(2, pt b1), (3, .bool true)] ?_
       refine c_ret (x_tr ?_)
       obtain ⟨v26, hv26, H⟩ := H
       exact x_retc tok _ rfl [.agg (S_api_Selector.cs v26).toArray, .bool true] ⟨⟨_, _, rfl, rfl, .inr ⟨rfl, _, rfl, rfl, hv26⟩⟩, rfl, trivial⟩ ⟨(v26, true), rfl, H⟩
      ·
       refine c_skip (x_seq ?_)
       refine c_seq (c_seq (c_region ?_))
       refine wP tok ?_
       obtain ⟨a27, ha27, la27, ua27, H⟩ := H
       refine w_y (y_ixa' tok rfl rfl ha27 rfl rfl rfl la27 ua27) rfl rfl ?_
       obtain ⟨v28, hv28, H⟩ := H
       refine w_y (y_ld tok rfl rfl rfl rfl hv28) rfl rfl ?_
       iterate 2 refine wP tok ?_
       refine w_cutU 5 [(63, .bool ((!(v28.toList == (⟨#[123]⟩ : ByteArray).toList)) || ((Int.tmod (r6.1.len : Int) 2) == 0))), (2, pt b1), (4, pt b3), (5, Slc.v r6.1), (6, Slc.v r6.2), (7, pt b13)] ?_ ?_
       ·
        refine wP tok ?_
        refine w_cutU 4 [(68, .bool (((!(v28.toList == (⟨#[123]⟩ : ByteArray).toList)) || ((Int.tmod (r6.1.len : Int) 2) == 0)) || (decide ((r6.1.len : Int) > 17)))), (2, pt b1), (4, pt b3), (5, Slc.v r6.1), (6, Slc.v r6.2), (7, pt b13)] ?_ ?_
        ·
         refine w_end (x_seq ?_)
         refine c_if H rfl (fun H => ?_) (fun H => ?_)
         ·
          refine c_seq (c_region ?_)
          obtain ⟨v29, hv29, H⟩ := H
          refine w_y (y_lda tok rfl rfl rfl rfl rfl hv29) rfl rfl ?_
          obtain ⟨h30, wh30, eh30, H⟩ := H
          refine w_h (h_sts tok rfl rfl rfl rfl rfl (oneC (by kernel_rfl)) wh30 eh30) rfl rfl ?_
          refine wP tok ?_
          refine w_end (x_seq ?_)
          refine c_ret (x_tr ?_)
          obtain ⟨v31, hv31, H⟩ := H
          exact x_retc tok _ rfl [.agg (S_api_Selector.cs v31).toArray, .bool false] ⟨⟨_, _, rfl, rfl, .inr ⟨rfl, _, rfl, rfl, hv31⟩⟩, rfl, trivial⟩ ⟨(v31, false), rfl, H⟩
         ·
          refine c_skip (x_seq ?_)
          refine c_seq (c_seq (c_region ?_))
          refine wP tok ?_
          refine w_end (x_seq (c_block ?_))
          obtain ⟨I3, μ3, H0, HI⟩ := H
          refine c_loop (σ := Int) (fun (s : Int) => [(8, .int .i64 s), (2, pt b1), (4, pt b3), (5, Slc.v r6.1), (6, Slc.v r6.2), (7, pt b13)]) I3 μ3 1 H0 ⟨rfl, rfl, rfl, rfl, rfl, rfl, trivial⟩ ?_
          rintro t8_3 h_3 H
          replace H := HI t8_3 h_3 H
          unfold ref15_Selector_l3b at H
          refine cW [(8, .int .i64 t8_3), (2, pt b1), (4, pt b3), (5, Slc.v r6.1), (6, Slc.v r6.2), (7, pt b13)] ?_
          refine c_seq (c_seq (c_region ?_))
          iterate 4 refine wP tok ?_
          refine w_end (x_seq ?_)
          refine c_if H rfl (fun H => ?_) (fun H => ?_)
          ·
           refine c_skip (x_seq ?_)
           refine c_seq (c_block ?_)
           refine c_seq (c_region ?_)
           obtain ⟨x32, ex32, H⟩ := H
           refine w_pe tok rfl (congrArg (fun z => (.int .i64 z : Value)) ex32) rfl rfl ?_
           refine w_end (x_seq ?_)
           refine c_seq (c_seq (c_region ?_))
           refine wP tok ?_
           refine w_end (x_seq (c_block ?_))
           obtain ⟨I4, μ4, H0, HI⟩ := H
           refine c_loop (σ := Int × Int) (fun (s : Int × Int) => [(9, .int .i64 s.1), (10, .int .i64 s.2), (2, pt b1), (4, pt b3), (5, Slc.v r6.1), (6, Slc.v r6.2), (7, pt b13), (8, .int .i64 t8_3)]) I4 μ4 (x32, 0) H0 ⟨rfl, rfl, rfl, rfl, rfl, rfl, rfl, rfl, trivial⟩ ?_
           rintro ⟨t9_4, t10_4⟩ h_4 H
           replace H := HI t9_4 t10_4 h_4 H
           unfold ref15_Selector_l4b at H
           refine cW [(9, .int .i64 t9_4), (10, .int .i64 t10_4), (2, pt b1), (4, pt b3), (5, Slc.v r6.1), (6, Slc.v r6.2), (7, pt b13), (8, .int .i64 t8_3)] ?_
           refine c_seq (c_seq (c_region ?_))
           iterate 2 refine wP tok ?_
           refine w_end (x_seq ?_)
           refine c_if H rfl (fun H => ?_) (fun H => ?_)
           ·
            refine c_skip (x_seq ?_)
            refine c_seqJ (α := Int) (fun (s : Int) => [(9, .int .i64 s), (2, pt b1), (4, pt b3), (5, Slc.v r6.1), (6, Slc.v r6.2), (7, pt b13), (8, .int .i64 t8_3), (10, .int .i64 t10_4)]) (fun (s : Int) h => ref15_Selector_j5 (ad b1) (ad b3) r6.1 r6.2 (ad b13) t8_3 t10_4 s k (fun s h' => I3 s h' ∧ μ3 s h' < μ3 t8_3 h_3) (fun s h' => I4 s h' ∧ μ4 s h' < μ4 (t9_4, t10_4) h_4) h) ?_ ?_
            ·
             rintro t9_5 h_5 H
             unfold ref15_Selector_j5 at H
             refine cW [(9, .int .i64 t9_5), (2, pt b1), (4, pt b3), (5, Slc.v r6.1), (6, Slc.v r6.2), (7, pt b13), (8, .int .i64 t8_3), (10, .int .i64 t10_4)] ?_
             refine c_region ?_
             iterate 2 refine wP tok ?_
             obtain ⟨x33, ex33, H⟩ := H
             refine w_pe tok rfl (congrArg (fun z => (.int .i64 z : Value)) ex33) rfl rfl ?_
             refine w_end ?_
             exact xJ (t9_5, x33) H
            ·
             refine c_block (c_seq ?_)
             refine c_sim [(2, pt b1), (4, pt b3), (5, Slc.v r6.1), (6, Slc.v r6.2), (7, pt b13), (8, .int .i64 t8_3), (9, .int .i64 t9_4), (10, .int .i64 t10_4)] (by kernel_rfl) (by kernel_rfl) ⟨rfl, rfl, rfl, rfl, rfl, rfl, rfl, rfl, trivial⟩ (fun wf => ?_)
             refine sT 0 [(6, Slc.v r6.2)] (some 80) tok wf (fun P_0 => ?_)
             refine sT 1 [(8, .int .i64 t8_3)] (some 81) tok wf (fun P_1 => ?_)
             obtain ⟨a34, ha34, la34, ua34, H⟩ := H
             refine sU 2 [(80, Slc.v r6.2), (81, .int .i64 t8_3)] (some 82) wf (fun _ => pf_y rfl rfl rfl (y_ixa' tok rfl rfl ha34 rfl rfl rfl la34 ua34)) (fun P_2 => ?_)
             obtain ⟨v35, hv35, H⟩ := H
             refine sV 3 [(82, .pointer (some (a34.add (t8_3.toNat * 1))))] (some 83) wf (pf_y rfl rfl rfl (y_ld tok rfl rfl rfl rfl hv35)) (fun P_3 => ?_)
             refine sT 5 [(10, .int .i64 t10_4)] (some 85) tok wf (fun P_5 => ?_)
             obtain ⟨b36, h37, eb36, eh37, H⟩ := H
             refine sim_h 4 [] [] (ei := []) wf ⟨P_5 _, P_3, P_2 _, P_1 _, P_0 _, trivial⟩ (by kernel_rfl) trivial (by kernel_rfl) rfl rfl rfl (h_bs tok rfl rfl rfl rfl rfl rfl rfl eb36 eh37) ?_
             obtain ⟨hy38, H⟩ := H
             refine sim_re (x := ⟨3, .string v35, [(82, .pointer (some (a34.add (t8_3.toNat * 1))))]⟩) (pf_y rfl rfl rfl (y_ld tok rfl rfl rfl rfl hy38)) (fun P_3 => ?_)
             obtain ⟨a39, ha39, la39, ua39, H⟩ := H
             refine sU 6 [(84, Slc.v (⟨some ⟨b36, 0, none⟩, 3, 3⟩ : Slc)), (85, .int .i64 t10_4)] (some 86) wf (fun _ => pf_y rfl rfl rfl (y_ixa' tok rfl rfl ha39 rfl rfl rfl la39 ua39)) (fun P_6 => ?_)
             obtain ⟨v40, hv40, H⟩ := H
             refine sV 7 [(86, .pointer (some (a39.add (t10_4.toNat * 1))))] (some 87) wf (pf_y rfl rfl rfl (y_ld tok rfl rfl rfl rfl hv40)) (fun P_7 => ?_)
             refine sT 8 [(83, .string v35), (87, .string v40)] (some 88) tok wf (fun P_8 => ?_)
             refine sim_end wf ⟨P_8 _, P_7, P_6 _, P_5 _, P_3, P_2 _, P_1 _, P_0 _, trivial⟩ (by kernel_rfl) ?_
             clear wf P_0 P_1 P_2 P_3 P_5 P_6 P_7 P_8
             refine x_seq ?_
             refine cW [(2, pt b1), (4, pt b3), (5, Slc.v r6.1), (6, Slc.v r6.2), (7, pt b13), (8, .int .i64 t8_3), (9, .int .i64 t9_4), (10, .int .i64 t10_4), (88, .bool (v35.toList == v40.toList))] ?_
             refine c_if H rfl (fun H => ?_) (fun H => ?_)
             ·
              refine c_region ?_
              iterate 2 refine wP tok ?_
              refine w_end ?_
              refine x_blk ?_
              exact xJ t10_4 H
             ·
              refine c_skip ?_
              refine x_blk ?_
              exact xJ t9_4 H
           ·
            refine c_exit ?_
            refine x_te (x_te ?_)
            refine x_bh ?_
            refine x_seq (c_seq (c_region ?_))
            refine wP tok ?_
            refine w_end (x_seq ?_)
            refine c_seqJ (α := ByteArray) (fun (s : ByteArray) => [(11, .string s), (2, pt b1), (4, pt b3), (5, Slc.v r6.1), (6, Slc.v r6.2), (7, pt b13), (8, .int .i64 t8_3), (9, .int .i64 t9_4)]) (fun (s : ByteArray) h => ref15_Selector_j6 (ad b1) (ad b3) r6.1 r6.2 (ad b13) t8_3 t9_4 s k (fun s h' => I3 s h' ∧ μ3 s h' < μ3 t8_3 h_3) (fun s h' => I4 s h' ∧ μ4 s h' < μ4 (t9_4, t10_4) h_4) h) ?_ ?_
            ·
             rintro t11_6 h_6 H
             unfold ref15_Selector_j6 at H
             refine cW [(11, .string t11_6), (2, pt b1), (4, pt b3), (5, Slc.v r6.1), (6, Slc.v r6.2), (7, pt b13), (8, .int .i64 t8_3), (9, .int .i64 t9_4)] ?_
             refine c_seq (c_seq (c_region ?_))
             iterate 3 refine wP tok ?_
             refine w_cut 8 (α := Bool) (fun (s : Bool) => [(105, .bool s), (2, pt b1), (4, pt b3), (5, Slc.v r6.1), (6, Slc.v r6.2), (7, pt b13), (8, .int .i64 t8_3), (9, .int .i64 t9_4)]) (fun (s : Bool) h => ref15_Selector_g7 (ad b1) (ad b3) r6.1 r6.2 (ad b13) t8_3 t9_4 s k (fun s h' => I3 s h' ∧ μ3 s h' < μ3 t8_3 h_3) (fun s h' => I4 s h' ∧ μ4 s h' < μ4 (t9_4, t10_4) h_4) h) ?_ ?_
             ·
              rintro t105_7 h_7 H
              unfold ref15_Selector_g7 at H
              refine wW [(105, .bool t105_7), (2, pt b1), (4, pt b3), (5, Slc.v r6.1), (6, Slc.v r6.2), (7, pt b13), (8, .int .i64 t8_3), (9, .int .i64 t9_4)] ?_
              refine wP tok ?_
              refine w_cut 7 (α := Bool) (fun (s : Bool) => [(113, .bool s), (2, pt b1), (4, pt b3), (5, Slc.v r6.1), (6, Slc.v r6.2), (7, pt b13), (8, .int .i64 t8_3), (9, .int .i64 t9_4)]) (fun (s : Bool) h => ref15_Selector_g8 (ad b1) (ad b3) r6.1 r6.2 (ad b13) t8_3 t9_4 s k (fun s h' => I3 s h' ∧ μ3 s h' < μ3 t8_3 h_3) (fun s h' => I4 s h' ∧ μ4 s h' < μ4 (t9_4, t10_4) h_4) h) ?_ ?_
              ·
               rintro t113_8 h_8 H
               unfold ref15_Selector_g8 at H
               refine wW [(113, .bool t113_8), (2, pt b1), (4, pt b3), (5, Slc.v r6.1), (6, Slc.v r6.2), (7, pt b13), (8, .int .i64 t8_3), (9, .int .i64 t9_4)] ?_
               refine wP tok ?_
               refine w_cut 8 (α := Bool) (fun (s : Bool) => [(122, .bool s), (2, pt b1), (4, pt b3), (5, Slc.v r6.1), (6, Slc.v r6.2), (7, pt b13), (8, .int .i64 t8_3), (9, .int .i64 t9_4)]) (fun (s : Bool) h => ref15_Selector_g9 (ad b1) (ad b3) r6.1 r6.2 (ad b13) t8_3 t9_4 s k (fun s h' => I3 s h' ∧ μ3 s h' < μ3 t8_3 h_3) (fun s h' => I4 s h' ∧ μ4 s h' < μ4 (t9_4, t10_4) h_4) h) ?_ ?_
               ·
                rintro t122_9 h_9 H
                unfold ref15_Selector_g9 at H
                refine wW [(122, .bool t122_9), (2, pt b1), (4, pt b3), (5, Slc.v r6.1), (6, Slc.v r6.2), (7, pt b13), (8, .int .i64 t8_3), (9, .int .i64 t9_4)] ?_
                refine w_end (x_seq ?_)
                refine c_if H rfl (fun H => ?_) (fun H => ?_)
                ·
                 refine c_seq (c_region ?_)
                 obtain ⟨v41, hv41, H⟩ := H
                 refine w_y (y_lda tok rfl rfl rfl rfl rfl hv41) rfl rfl ?_
                 obtain ⟨h42, wh42, eh42, H⟩ := H
                 refine w_h (h_sts tok rfl rfl rfl rfl rfl (oneC (by kernel_rfl)) wh42 eh42) rfl rfl ?_
                 refine wP tok ?_
                 refine w_end (x_seq ?_)
                 refine cW [(2, pt b1), (3, .bool false)] ?_
                 refine c_ret (x_tr ?_)
                 refine x_br ?_
                 refine x_tr (x_tr ?_)
                 refine x_br ?_
                 refine x_tr ?_
                 obtain ⟨v43, hv43, H⟩ := H
                 exact x_retc tok _ rfl [.agg (S_api_Selector.cs v43).toArray, .bool false] ⟨⟨_, _, rfl, rfl, .inr ⟨rfl, _, rfl, rfl, hv43⟩⟩, rfl, trivial⟩ ⟨(v43, false), rfl, H⟩
                ·
                 refine c_skip (x_seq ?_)
                 refine c_sim [(2, pt b1), (4, pt b3), (5, Slc.v r6.1), (6, Slc.v r6.2), (7, pt b13), (8, .int .i64 t8_3), (9, .int .i64 t9_4)] (by kernel_rfl) (by kernel_rfl) ⟨rfl, rfl, rfl, rfl, rfl, rfl, rfl, trivial⟩ (fun wf => ?_)
                 refine sT 0 [(7, pt b13)] (some 124) tok wf (fun P_0 => ?_)
                 obtain ⟨v44, hv44, H⟩ := H
                 refine sV 1 [(124, .pointer (some ((ad b13).add 1)))] (some 125) wf (pf_y rfl rfl rfl (y_ld tok rfl rfl rfl rfl hv44)) (fun P_1 => ?_)
                 refine sT 2 [(5, Slc.v r6.1)] (some 126) tok wf (fun P_2 => ?_)
                 refine sT 3 [(8, .int .i64 t8_3)] (some 127) tok wf (fun P_3 => ?_)
                 obtain ⟨a45, ha45, la45, ua45, H⟩ := H
                 refine sU 4 [(126, Slc.v r6.1), (127, .int .i64 t8_3)] (some 128) wf (fun _ => pf_y rfl rfl rfl (y_ixa' tok rfl rfl ha45 rfl rfl rfl la45 ua45)) (fun P_4 => ?_)
                 obtain ⟨v46, hv46, H⟩ := H
                 refine sV 5 [(128, .pointer (some (a45.add (t8_3.toNat * 1))))] (some 129) wf (pf_y rfl rfl rfl (y_ld tok rfl rfl rfl rfl hv46)) (fun P_5 => ?_)
                 refine sT 6 [(9, .int .i64 t9_4)] (some 130) tok wf (fun P_6 => ?_)
                 refine sT 7 [(5, Slc.v r6.1)] (some 131) tok wf (fun P_7 => ?_)
                 refine sT 8 [(8, .int .i64 t8_3)] (some 132) tok wf (fun P_8 => ?_)
                 refine sT 9 [(132, .int .i64 t8_3)] (some 133) tok wf (fun P_9 => ?_)
                 obtain ⟨a47, ha47, la47, ua47, H⟩ := H
                 refine sU 10 [(131, Slc.v r6.1), (133, .int .i64 (IntKind.i64.wrap (t8_3 + 1)))] (some 134) wf (fun _ => pf_y rfl rfl rfl (y_ixa' tok rfl rfl ha47 rfl rfl rfl la47 ua47)) (fun P_10 => ?_)
                 obtain ⟨v48, hv48, H⟩ := H
                 refine sV 11 [(134, .pointer (some (a47.add ((IntKind.i64.wrap (t8_3 + 1)).toNat * 1))))] (some 135) wf (pf_y rfl rfl rfl (y_ld tok rfl rfl rfl rfl hv48)) (fun P_11 => ?_)
                 refine sU 12 [(129, .string v46), (130, .int .i64 t9_4), (135, .string v48)] (some 136) wf (fun _ => pf_y rfl rfl rfl (y_build tok rfl rfl rfl rfl rfl)) (fun P_12 => ?_)
                 obtain ⟨b49, h50, eb49, eh50, H⟩ := H
                 refine sim_h 13 [2, 3, 4, 5, 6, 7, 8, 9, 10, 11, 12] [2, 3, 4, 5, 6, 7, 8, 9, 10, 11, 12] (ei := [(136, .agg (S_api_Question.cs (⟨v46, t9_4, v48⟩ : S_api_Question)).toArray)]) wf ⟨P_12 _, P_11, P_10 _, P_9 _, P_8 _, P_7 _, P_6 _, P_5, P_4 _, P_3 _, P_2 _, P_1, P_0 _, trivial⟩ (by kernel_rfl) ⟨rfl, trivial⟩ (by kernel_rfl) rfl rfl rfl (h_bs tok rfl rfl rfl rfl rfl rfl rfl eb49 eh50) ?_
                 obtain ⟨hy51, H⟩ := H
                 refine sim_re (x := ⟨1, Slc.v v44, [(124, .pointer (some ((ad b13).add 1)))]⟩) (pf_y rfl rfl rfl (y_ld tok rfl rfl rfl rfl hy51)) (fun P_1 => ?_)
                 refine sim_a 14 [0, 1, 2, 3, 4, 5, 6, 7, 8, 9, 10, 11, 12, 13] [0, 1, 2, 3, 4, 5, 6, 7, 8, 9, 10, 11, 12] (ei := [(125, Slc.v v44), (137, Slc.v (⟨some ⟨b49, 0, none⟩, 1, 1⟩ : Slc))]) wf ⟨trivial, trivial, trivial, trivial, trivial, trivial, trivial, trivial, trivial, trivial, trivial, P_1, P_0 _, trivial⟩ (by kernel_rfl) ⟨rfl, rfl, trivial⟩ (by kernel_rfl) rfl rfl rfl (a_app (s := v44) (r := (⟨some ⟨b49, 0, none⟩, 1, 1⟩ : Slc)) tok rfl rfl rfl rfl rfl (slcAt_push eb49 eh50) H) ?_
                 rintro _ h53 ⟨s52, rfl, H⟩
                 refine sT 15 [(7, pt b13)] (some 139) tok wf (fun P_15 => ?_)
                 obtain ⟨h54, wh54, eh54, H⟩ := H
                 refine sim_h 16 [0, 1, 2, 3, 4, 5, 6, 7, 8, 9, 10, 11, 12, 13, 14, 15] [0, 1, 2, 3, 4, 5, 6, 7, 8, 9, 10, 11, 12, 15] (ei := [(138, Slc.v s52), (139, .pointer (some ((ad b13).add 1)))]) wf ⟨P_15 _, trivial, trivial, trivial, trivial, trivial, trivial, trivial, trivial, trivial, trivial, trivial, trivial, trivial, trivial⟩ (by kernel_rfl) ⟨rfl, rfl, trivial⟩ (by kernel_rfl) rfl rfl rfl (h_st tok rfl rfl rfl rfl rfl rfl wh54 eh54) ?_
                 refine sim_end wf ⟨trivial, trivial, trivial, trivial, trivial, trivial, trivial, trivial, trivial, trivial, trivial, trivial, trivial, trivial, trivial⟩ (by kernel_rfl) ?_
                 clear wf P_0 P_1 P_10 P_11 P_12 P_15 P_2 P_3 P_4 P_5 P_6 P_7 P_8 P_9
                 refine x_blk ?_
                 refine x_seq ?_
                 refine cW [(2, pt b1), (4, pt b3), (5, Slc.v r6.1), (6, Slc.v r6.2), (7, pt b13), (8, .int .i64 t8_3)] ?_
                 refine c_region ?_
                 iterate 2 refine wP tok ?_
                 obtain ⟨x55, ex55, H⟩ := H
                 refine w_pe tok rfl (congrArg (fun z => (.int .i64 z : Value)) ex55) rfl rfl ?_
                 refine w_end ?_
                 exact xJ x55 H
               ·
                refine w_gif (d := 114) H rfl (fun H => ?_) (fun H => ?_)
                ·
                 iterate 7 refine w_skip rfl rfl ?_
                 refine wP tok ?_
                 exact wJ true H
                ·
                 iterate 3 refine wP tok ?_
                 obtain ⟨a56, ha56, la56, ua56, H⟩ := H
                 refine w_y (y_ixa' tok rfl rfl ha56 rfl rfl rfl la56 ua56) rfl rfl ?_
                 obtain ⟨v57, hv57, H⟩ := H
                 refine w_y (y_ld tok rfl rfl rfl rfl hv57) rfl rfl ?_
                 refine w_call ref15_Word_ok (ref15_Word_ref _ _ _ H) rfl rfl rfl rfl ?_
                 rintro _ h59 ⟨r58, rfl, H⟩
                 iterate 2 refine wP tok ?_
                 exact wJ (!r58) H
              ·
               refine w_gif (d := 106) H rfl (fun H => ?_) (fun H => ?_)
               ·
                iterate 6 refine w_skip rfl rfl ?_
                refine wP tok ?_
                exact wJ true H
               ·
                iterate 2 refine wP tok ?_
                obtain ⟨a60, ha60, la60, ua60, H⟩ := H
                refine w_y (y_ixa' tok rfl rfl ha60 rfl rfl rfl la60 ua60) rfl rfl ?_
                obtain ⟨v61, hv61, H⟩ := H
                refine w_y (y_ld tok rfl rfl rfl rfl hv61) rfl rfl ?_
                refine w_call ref15_Word_ok (ref15_Word_ref _ _ _ H) rfl rfl rfl rfl ?_
                rintro _ h63 ⟨r62, rfl, H⟩
                iterate 2 refine wP tok ?_
                exact wJ (!r62) H
             ·
              refine w_gif (d := 97) H rfl (fun H => ?_) (fun H => ?_)
              ·
               iterate 7 refine w_skip rfl rfl ?_
               refine wP tok ?_
               exact wJ true H
              ·
               iterate 3 refine wP tok ?_
               obtain ⟨a64, ha64, la64, ua64, H⟩ := H
               refine w_y (y_ixa' tok rfl rfl ha64 rfl rfl rfl la64 ua64) rfl rfl ?_
               obtain ⟨v65, hv65, H⟩ := H
               refine w_y (y_ld tok rfl rfl rfl rfl hv65) rfl rfl ?_
               iterate 3 refine wP tok ?_
               exact wJ (!(v65.toList == t11_6.toList)) H
            ·
             refine c_seq (c_region ?_)
             iterate 5 refine wP tok ?_
             refine w_end (x_seq ?_)
             refine cW [(9, .int .i64 t9_4), (2, pt b1), (4, pt b3), (5, Slc.v r6.1), (6, Slc.v r6.2), (7, pt b13), (8, .int .i64 t8_3), (11, .string (⟨#[44]⟩ : ByteArray)), (94, .bool (decide ((IntKind.i64.wrap (t8_3 + 2)) ≥ (r6.1.len : Int))))] ?_
             refine c_if H rfl (fun H => ?_) (fun H => ?_)
             ·
              refine c_region ?_
              refine wP tok ?_
              refine w_end ?_
              exact xJ (⟨#[125]⟩ : ByteArray) H
             ·
              refine c_skip ?_
              exact xJ (⟨#[44]⟩ : ByteArray) H
          ·
           refine c_exit ?_
           refine x_te (x_te ?_)
           refine x_bh ?_
           refine x_seq ?_
           refine cW [(2, pt b1), (7, pt b13)] ?_
           refine c_seq (c_region ?_)
           obtain ⟨v66, hv66, H⟩ := H
           refine w_y (y_lda tok rfl rfl rfl rfl rfl hv66) rfl rfl ?_
           obtain ⟨h67, wh67, eh67, H⟩ := H
           refine w_h (h_sts tok rfl rfl rfl rfl rfl (oneC (by kernel_rfl)) wh67 eh67) rfl rfl ?_
           refine wP tok ?_
           refine w_end (x_seq (c_ret ?_))
           obtain ⟨v68, hv68, H⟩ := H
           exact x_retc tok _ rfl [.agg (S_api_Selector.cs v68).toArray, .bool true] ⟨⟨_, _, rfl, rfl, .inr ⟨rfl, _, rfl, rfl, hv68⟩⟩, rfl, trivial⟩ ⟨(v68, true), rfl, H⟩
        ·
         refine w_gs (d := 64) rfl (fun hb => ?_) (fun hb => ?_)
         ·
          iterate 3 refine w_skip rfl rfl ?_
          refine wP tok ?_
          refine w_jn () rfl ⟨?_, rfl, rfl, rfl, rfl, rfl, trivial⟩
          exact congrArg (fun b => some (Value.bool b)) (or_t hb)
         ·
          iterate 4 refine wP tok ?_
          refine w_jn () rfl ⟨?_, rfl, rfl, rfl, rfl, rfl, trivial⟩
          exact congrArg (fun b => some (Value.bool b)) (or_f hb)
       ·
        refine w_gs (d := 58) rfl (fun hb => ?_) (fun hb => ?_)
        ·
         iterate 4 refine w_skip rfl rfl ?_
         refine wP tok ?_
         refine w_jn () rfl ⟨?_, rfl, rfl, rfl, rfl, rfl, trivial⟩
         exact congrArg (fun b => some (Value.bool b)) (or_t hb)
        ·
         iterate 5 refine wP tok ?_
         refine w_jn () rfl ⟨?_, rfl, rfl, rfl, rfl, rfl, trivial⟩
         exact congrArg (fun b => some (Value.bool b)) (or_f hb)
    ·
     refine w_gif (d := 43) H rfl (fun H => ?_) (fun H => ?_)
     ·
      refine wP tok ?_
      obtain ⟨a69, ha69, la69, ua69, H⟩ := H
      refine w_y (y_ixa' tok rfl rfl ha69 rfl rfl rfl la69 ua69) rfl rfl ?_
      obtain ⟨v70, hv70, H⟩ := H
      refine w_y (y_ld tok rfl rfl rfl rfl hv70) rfl rfl ?_
      iterate 2 refine wP tok ?_
      exact wJ (!(v70.toList == (⟨#[]⟩ : ByteArray).toList)) H
     ·
      iterate 4 refine w_skip rfl rfl ?_
      refine wP tok ?_
      exact wJ false H
  ·
   refine w_gif (d := 32) H rfl (fun H => ?_) (fun H => ?_)
   ·
    refine wP tok ?_
    obtain ⟨a71, ha71, la71, ua71, H⟩ := H
    refine w_y (y_ixa' tok rfl rfl ha71 rfl rfl rfl la71 ua71) rfl rfl ?_
    obtain ⟨v72, hv72, H⟩ := H
    refine w_y (y_ld tok rfl rfl rfl rfl hv72) rfl rfl ?_
    refine w_call ref15_Word_ok (ref15_Word_ref _ _ _ H) rfl rfl rfl rfl ?_
    rintro _ h74 ⟨r73, rfl, H⟩
    iterate 2 refine wP tok ?_
    exact wJ (!r73) H
   ·
    iterate 5 refine w_skip rfl rfl ?_
    refine wP tok ?_
    exact wJ false H

theorem ref15_Check_ok : CallOk Go.Proofs.Tryz.prog 56 := ⟨_, Go.Proofs.Tryz.func56, by kernel_rfl, by kernel_rfl⟩
theorem ref15_Check_ref (p0 : S_api_Series) (k : (Bool) → Heap → Prop) (h : Heap) (H : ref15_Check p0 k h) : CallsH Go.Proofs.Tryz.prog 56 #[.agg (S_api_Series.cs p0).toArray] h (fun v h' => ∃ r : Bool, v = .bool r ∧ k r h') := by
 refine f_enter (N := 59) Go.Proofs.Tryz.func56 rfl rfl rfl (fun w0 => ?_)
 unfold ref15_Check at H
 refine cW [(0, .agg (S_api_Series.cs p0).toArray)] ?_
 refine c_seq (c_region ?_)
 obtain ⟨b1, h2, eb1, eh2, H⟩ := H
 refine w_h (h_box rfl rfl eb1 eh2) rfl rfl ?_
 refine wP tok ?_
 refine w_end (x_seq ?_)
 refine c_seq (c_seq (c_region ?_))
 refine wP tok ?_
 obtain ⟨v3, hv3, H⟩ := H
 refine w_y (y_ld tok rfl rfl rfl rfl hv3) rfl rfl ?_
 refine w_call ref15_Word_ok (ref15_Word_ref _ _ _ H) rfl rfl rfl rfl ?_
 rintro _ h5 ⟨r4, rfl, H⟩
 iterate 2 refine wP tok ?_
 refine w_cut 5 (α := Bool) (fun (s : Bool) => [(13, .bool s), (1, pt b1)]) (fun (s : Bool) h => ref15_Check_g1 (ad b1) s k h) ?_ ?_
 ·
  rintro t13_1 h_1 H
  unfold ref15_Check_g1 at H
  refine wW [(13, .bool t13_1), (1, pt b1)] ?_
  refine w_end (x_seq ?_)
  refine c_if H rfl (fun H => ?_) (fun H => ?_)
  ·
   refine c_seq (c_region ?_)
   refine wP tok ?_
   refine w_end (x_seq ?_)
   refine c_ret (x_tr ?_)
   exact x_ret _ rfl _ rfl ⟨false, rfl, H⟩
  ·
   refine c_skip (x_seq ?_)
   refine c_seq (c_seq (c_region ?_))
   refine wP tok ?_
   refine w_end (x_seq (c_block ?_))
   obtain ⟨I2, μ2, H0, HI⟩ := H
   refine c_loop (σ := Int) (fun (s : Int) => [(3, .int .i64 s), (1, pt b1)]) I2 μ2 0 H0 ⟨rfl, rfl, trivial⟩ ?_
   rintro t3_2 h_2 H
   replace H := HI t3_2 h_2 H
   unfold ref15_Check_l2b at H
   refine cW [(3, .int .i64 t3_2), (1, pt b1)] ?_
   refine c_seq (c_seq (c_region ?_))
   iterate 2 refine wP tok ?_
   obtain ⟨v6, hv6, H⟩ := H
   refine w_y (y_ld tok rfl rfl rfl rfl hv6) rfl rfl ?_
   iterate 2 refine wP tok ?_
   refine w_end (x_seq ?_)
   refine c_if H rfl (fun H => ?_) (fun H => ?_)
   ·
    refine c_skip (x_seq ?_)
    refine c_seq (c_block ?_)
    refine c_seqJ (α := Bool) (fun (s : Bool) => [(58, .bool s), (1, pt b1), (3, .int .i64 t3_2)]) (fun (s : Bool) h => ref15_Check_j3 (ad b1) t3_2 s k (fun s h' => I2 s h' ∧ μ2 s h' < μ2 t3_2 h_2) h) ?_ ?_
    ·
     rintro t58_3 h_3 H
     unfold ref15_Check_j3 at H
     refine cW [(58, .bool t58_3), (1, pt b1), (3, .int .i64 t3_2)] ?_
     refine c_if H rfl (fun H => ?_) (fun H => ?_)
     ·
      refine c_seq (c_region ?_)
      refine wP tok ?_
      refine w_end (x_seq (c_ret ?_))
      refine x_br ?_
      refine x_tr (x_tr ?_)
      refine x_br ?_
      refine x_tr ?_
      exact x_ret _ rfl _ rfl ⟨false, rfl, H⟩
     ·
      refine c_skip ?_
      refine x_blk ?_
      refine x_seq (c_region ?_)
      iterate 2 refine wP tok ?_
      obtain ⟨x7, ex7, H⟩ := H
      refine w_pe tok rfl (congrArg (fun z => (.int .i64 z : Value)) ex7) rfl rfl ?_
      refine w_end ?_
      exact xJ x7 H
    ·
     refine c_sim [(1, pt b1), (3, .int .i64 t3_2)] (by kernel_rfl) (by kernel_rfl) ⟨rfl, rfl, trivial⟩ (fun wf => ?_)
     refine sT 0 [(1, pt b1)] (some 21) tok wf (fun P_0 => ?_)
     obtain ⟨v8, hv8, H⟩ := H
     refine sV 1 [(21, .pointer (some ((ad b1).add 1)))] (some 22) wf (pf_y rfl rfl rfl (y_ld tok rfl rfl rfl rfl hv8)) (fun P_1 => ?_)
     refine sT 2 [(3, .int .i64 t3_2)] (some 23) tok wf (fun P_2 => ?_)
     obtain ⟨a9, ha9, la9, ua9, H⟩ := H
     refine sU 3 [(22, Slc.v v8), (23, .int .i64 t3_2)] (some 24) wf (fun _ => pf_y rfl rfl rfl (y_ixa' tok rfl rfl ha9 rfl rfl rfl la9 ua9)) (fun P_3 => ?_)
     refine sT 4 [(24, .pointer (some (a9.add (t3_2.toNat * 2))))] (some 25) tok wf (fun P_4 => ?_)
     obtain ⟨v10, hv10, H⟩ := H
     refine sV 5 [(25, .pointer (some (a9.add (t3_2.toNat * 2))))] (some 26) wf (pf_y rfl rfl rfl (y_ld tok rfl rfl rfl rfl hv10)) (fun P_5 => ?_)
     refine sim_c 6 [0, 1, 2, 3, 4, 5] [0, 1, 2, 3, 4, 5] (ei := [(26, .string v10)]) ref15_Word_ok (ref15_Word_ref _ _ _ H) wf ⟨P_5, P_4 _, P_3 _, P_2 _, P_1, P_0 _, trivial⟩ (by kernel_rfl) ⟨rfl, trivial⟩ (by kernel_rfl) rfl rfl rfl rfl rfl ?_
     rintro _ h12 ⟨r11, rfl, H⟩
     refine sT 7 [(27, .bool r11)] (some 28) tok wf (fun P_7 => ?_)
     refine sT 8 [(28, .bool (!r11))] (some 29) tok wf (fun P_8 => ?_)
     refine sim_gif 29 H rfl (fun hb H => ?_) (fun hb H => ?_)
     ·
      refine sS 9 [(1, pt b1), (29, .bool true)] (some 30) wf (fun P_9 => ?_)
      refine sS 10 [(29, .bool true), (30, undef)] (some 31) wf (fun P_10 => ?_)
      refine sS 11 [(3, .int .i64 t3_2), (29, .bool true)] (some 32) wf (fun P_11 => ?_)
      refine sS 12 [(29, .bool true), (31, undef), (32, undef)] (some 33) wf (fun P_12 => ?_)
      refine sS 13 [(29, .bool true), (33, undef)] (some 34) wf (fun P_13 => ?_)
      refine sS 14 [(29, .bool true), (34, undef)] (some 35) wf (fun P_14 => ?_)
      refine sS 15 [(29, .bool true), (35, undef)] (some 36) wf (fun P_15 => ?_)
      refine sS 16 [(29, .bool true), (36, undef)] (some 37) wf (fun P_16 => ?_)
      refine sT 17 [(29, .bool true), (37, undef)] (some 38) tok wf (fun P_17 => ?_)
      refine sT 18 [(38, .bool true)] (some 39) tok wf (fun P_18 => ?_)
      refine sim_gif 39 H rfl (fun hb H => ?_) (fun hb H => ?_)
      ·
       refine sS 19 [(3, .int .i64 t3_2), (39, .bool true)] (some 40) wf (fun P_19 => ?_)
       refine sS 20 [(39, .bool true), (40, undef)] (some 41) wf (fun P_20 => ?_)
       refine sS 21 [(39, .bool true), (41, undef)] (some 42) wf (fun P_21 => ?_)
       refine sS 22 [(1, pt b1), (42, undef)] (some 43) wf (fun P_22 => ?_)
       refine sS 23 [(42, undef), (43, undef)] (some 44) wf (fun P_23 => ?_)
       refine sS 24 [(3, .int .i64 t3_2), (42, undef)] (some 45) wf (fun P_24 => ?_)
       refine sS 25 [(42, undef), (44, undef), (45, undef)] (some 46) wf (fun P_25 => ?_)
       refine sS 26 [(42, undef), (46, undef)] (some 47) wf (fun P_26 => ?_)
       refine sS 27 [(42, undef), (47, undef)] (some 48) wf (fun P_27 => ?_)
       refine sS 28 [(1, pt b1), (42, undef)] (some 49) wf (fun P_28 => ?_)
       refine sS 29 [(42, undef), (49, undef)] (some 50) wf (fun P_29 => ?_)
       refine sS 30 [(3, .int .i64 t3_2), (42, undef)] (some 51) wf (fun P_30 => ?_)
       refine sS 31 [(42, undef), (51, undef)] (some 52) wf (fun P_31 => ?_)
       refine sS 32 [(42, undef), (50, undef), (52, undef)] (some 53) wf (fun P_32 => ?_)
       refine sS 33 [(42, undef), (53, undef)] (some 54) wf (fun P_33 => ?_)
       refine sS 34 [(42, undef), (54, undef)] (some 55) wf (fun P_34 => ?_)
       refine sS 35 [(42, undef), (48, undef), (55, undef)] (some 56) wf (fun P_35 => ?_)
       refine sS 36 [(39, .bool true), (42, undef), (56, undef)] (some 57) wf (fun P_36 => ?_)
       refine sT 37 [(39, .bool true), (57, undef)] (some 58) tok wf (fun P_37 => ?_)
       refine sim_end wf ⟨P_37 _, P_36 _, P_35 _, P_34 _, P_33 _, P_32 _, P_31 _, P_30 _, P_29 _, P_28 _, P_27 _, P_26 _, P_25 _, P_24 _, P_23 _, P_22 _, P_21 _, P_20 _, P_19 _, P_18 _, P_17 _, P_16 _, P_15 _, P_14 _, P_13 _, P_12 _, P_11 _, P_10 _, P_9 _, P_8 _, P_7 _, trivial, trivial, trivial, trivial, trivial, trivial, trivial⟩ (by kernel_rfl) ?_
       clear wf P_0 P_1 P_10 P_11 P_12 P_13 P_14 P_15 P_16 P_17 P_18 P_19 P_2 P_20 P_21 P_22 P_23 P_24 P_25 P_26 P_27 P_28 P_29 P_3 P_30 P_31 P_32 P_33 P_34 P_35 P_36 P_37 P_4 P_5 P_7 P_8 P_9
       exact xJ true H
      ·
       refine sT 19 [(3, .int .i64 t3_2), (39, .bool false)] (some 40) tok wf (fun P_19 => ?_)
       refine sT 20 [(39, .bool false), (40, .int .i64 t3_2)] (some 41) tok wf (fun P_20 => ?_)
       refine sT 21 [(39, .bool false), (41, .bool (decide (t3_2 > 0)))] (some 42) tok wf (fun P_21 => ?_)
       refine sim_gif 42 H rfl (fun hb H => ?_) (fun hb H => ?_)
       ·
        refine sT 22 [(1, pt b1), (42, .bool true)] (some 43) tok wf (fun P_22 => ?_)
        obtain ⟨v13, hv13, H⟩ := H
        refine sV 23 [(42, .bool true), (43, .pointer (some ((ad b1).add 1)))] (some 44) wf (pf_y rfl rfl rfl (y_ld tok rfl rfl rfl rfl hv13)) (fun P_23 => ?_)
        refine sT 24 [(3, .int .i64 t3_2), (42, .bool true)] (some 45) tok wf (fun P_24 => ?_)
        obtain ⟨a14, ha14, la14, ua14, H⟩ := H
        refine sU 25 [(42, .bool true), (44, Slc.v v13), (45, .int .i64 t3_2)] (some 46) wf (fun _ => pf_y rfl rfl rfl (y_ixa' tok rfl rfl ha14 rfl rfl rfl la14 ua14)) (fun P_25 => ?_)
        refine sT 26 [(42, .bool true), (46, .pointer (some (a14.add (t3_2.toNat * 2))))] (some 47) tok wf (fun P_26 => ?_)
        obtain ⟨v15, hv15, H⟩ := H
        refine sV 27 [(42, .bool true), (47, .pointer (some (a14.add (t3_2.toNat * 2))))] (some 48) wf (pf_y rfl rfl rfl (y_ld tok rfl rfl rfl rfl hv15)) (fun P_27 => ?_)
        refine sT 28 [(1, pt b1), (42, .bool true)] (some 49) tok wf (fun P_28 => ?_)
        obtain ⟨v16, hv16, H⟩ := H
        refine sV 29 [(42, .bool true), (49, .pointer (some ((ad b1).add 1)))] (some 50) wf (pf_y rfl rfl rfl (y_ld tok rfl rfl rfl rfl hv16)) (fun P_29 => ?_)
        refine sT 30 [(3, .int .i64 t3_2), (42, .bool true)] (some 51) tok wf (fun P_30 => ?_)
        refine sT 31 [(42, .bool true), (51, .int .i64 t3_2)] (some 52) tok wf (fun P_31 => ?_)
        obtain ⟨a17, ha17, la17, ua17, H⟩ := H
        refine sU 32 [(42, .bool true), (50, Slc.v v16), (52, .int .i64 (IntKind.i64.wrap (t3_2 - 1)))] (some 53) wf (fun _ => pf_y rfl rfl rfl (y_ixa' tok rfl rfl ha17 rfl rfl rfl la17 ua17)) (fun P_32 => ?_)
        refine sT 33 [(42, .bool true), (53, .pointer (some (a17.add ((IntKind.i64.wrap (t3_2 - 1)).toNat * 2))))] (some 54) tok wf (fun P_33 => ?_)
        obtain ⟨v18, hv18, H⟩ := H
        refine sV 34 [(42, .bool true), (54, .pointer (some (a17.add ((IntKind.i64.wrap (t3_2 - 1)).toNat * 2))))] (some 55) wf (pf_y rfl rfl rfl (y_ld tok rfl rfl rfl rfl hv18)) (fun P_34 => ?_)
        refine sT 35 [(42, .bool true), (48, .string v15), (55, .string v18)] (some 56) tok wf (fun P_35 => ?_)
        refine sT 36 [(39, .bool false), (42, .bool true), (56, .bool (Op.bytesLess v15.toList v18.toList || v15.toList == v18.toList))] (some 57) tok wf (fun P_36 => ?_)
        refine sT 37 [(39, .bool false), (57, .bool (Op.bytesLess v15.toList v18.toList || v15.toList == v18.toList))] (some 58) tok wf (fun P_37 => ?_)
        refine sim_end wf ⟨P_37 _, P_36 _, P_35 _, P_34, P_33 _, P_32 _, P_31 _, P_30 _, P_29, P_28 _, P_27, P_26 _, P_25 _, P_24 _, P_23, P_22 _, P_21 _, P_20 _, P_19 _, P_18 _, P_17 _, P_16 _, P_15 _, P_14 _, P_13 _, P_12 _, P_11 _, P_10 _, P_9 _, P_8 _, P_7 _, trivial, trivial, trivial, trivial, trivial, trivial, trivial⟩ (by kernel_rfl) ?_
        clear wf P_0 P_1 P_10 P_11 P_12 P_13 P_14 P_15 P_16 P_17 P_18 P_19 P_2 P_20 P_21 P_22 P_23 P_24 P_25 P_26 P_27 P_28 P_29 P_3 P_30 P_31 P_32 P_33 P_34 P_35 P_36 P_37 P_4 P_5 P_7 P_8 P_9
        exact xJ (Op.bytesLess v15.toList v18.toList || v15.toList == v18.toList) H
       ·
        refine sS 22 [(1, pt b1), (42, .bool false)] (some 43) wf (fun P_22 => ?_)
        refine sS 23 [(42, .bool false), (43, undef)] (some 44) wf (fun P_23 => ?_)
        refine sS 24 [(3, .int .i64 t3_2), (42, .bool false)] (some 45) wf (fun P_24 => ?_)
        refine sS 25 [(42, .bool false), (44, undef), (45, undef)] (some 46) wf (fun P_25 => ?_)
        refine sS 26 [(42, .bool false), (46, undef)] (some 47) wf (fun P_26 => ?_)
        refine sS 27 [(42, .bool false), (47, undef)] (some 48) wf (fun P_27 => ?_)
        refine sS 28 [(1, pt b1), (42, .bool false)] (some 49) wf (fun P_28 => ?_)
        refine sS 29 [(42, .bool false), (49, undef)] (some 50) wf (fun P_29 => ?_)
        refine sS 30 [(3, .int .i64 t3_2), (42, .bool false)] (some 51) wf (fun P_30 => ?_)
        refine sS 31 [(42, .bool false), (51, undef)] (some 52) wf (fun P_31 => ?_)
        refine sS 32 [(42, .bool false), (50, undef), (52, undef)] (some 53) wf (fun P_32 => ?_)
        refine sS 33 [(42, .bool false), (53, undef)] (some 54) wf (fun P_33 => ?_)
        refine sS 34 [(42, .bool false), (54, undef)] (some 55) wf (fun P_34 => ?_)
        refine sS 35 [(42, .bool false), (48, undef), (55, undef)] (some 56) wf (fun P_35 => ?_)
        refine sT 36 [(39, .bool false), (42, .bool false), (56, undef)] (some 57) tok wf (fun P_36 => ?_)
        refine sT 37 [(39, .bool false), (57, .bool false)] (some 58) tok wf (fun P_37 => ?_)
        refine sim_end wf ⟨P_37 _, P_36 _, P_35 _, P_34 _, P_33 _, P_32 _, P_31 _, P_30 _, P_29 _, P_28 _, P_27 _, P_26 _, P_25 _, P_24 _, P_23 _, P_22 _, P_21 _, P_20 _, P_19 _, P_18 _, P_17 _, P_16 _, P_15 _, P_14 _, P_13 _, P_12 _, P_11 _, P_10 _, P_9 _, P_8 _, P_7 _, trivial, trivial, trivial, trivial, trivial, trivial, trivial⟩ (by kernel_rfl) ?_
        clear wf P_0 P_1 P_10 P_11 P_12 P_13 P_14 P_15 P_16 P_17 P_18 P_19 P_2 P_20 P_21 P_22 P_23 P_24 P_25 P_26 P_27 P_28 P_29 P_3 P_30 P_31 P_32 P_33 P_34 P_35 P_36 P_37 P_4 P_5 P_7 P_8 P_9
        exact xJ false H
     ·
      refine sT 9 [(1, pt b1), (29, .bool false)] (some 30) tok wf (fun P_9 => ?_)
      obtain ⟨v19, hv19, H⟩ := H
      refine sV 10 [(29, .bool false), (30, .pointer (some ((ad b1).add 1)))] (some 31) wf (pf_y rfl rfl rfl (y_ld tok rfl rfl rfl rfl hv19)) (fun P_10 => ?_)
      refine sT 11 [(3, .int .i64 t3_2), (29, .bool false)] (some 32) tok wf (fun P_11 => ?_)
      obtain ⟨a20, ha20, la20, ua20, H⟩ := H
      refine sU 12 [(29, .bool false), (31, Slc.v v19), (32, .int .i64 t3_2)] (some 33) wf (fun _ => pf_y rfl rfl rfl (y_ixa' tok rfl rfl ha20 rfl rfl rfl la20 ua20)) (fun P_12 => ?_)
      refine sT 13 [(29, .bool false), (33, .pointer (some (a20.add (t3_2.toNat * 2))))] (some 34) tok wf (fun P_13 => ?_)
      obtain ⟨v21, hv21, H⟩ := H
      refine sV 14 [(29, .bool false), (34, .pointer (some ((a20.add (t3_2.toNat * 2)).add 1)))] (some 35) wf (pf_y rfl rfl rfl (y_ld tok rfl rfl rfl rfl hv21)) (fun P_14 => ?_)
      refine sim_c 15 [0, 1, 2, 3, 4, 5, 6, 7, 8, 9, 10, 11, 12, 13, 14] [0, 1, 2, 3, 4, 5, 7, 8, 9, 10, 11, 12, 13, 14] (ei := [(29, .bool false), (35, .string v21)]) ref15_Word_ok (ref15_Word_ref _ _ _ H) wf ⟨P_14, P_13 _, P_12 _, P_11 _, P_10, P_9 _, P_8 _, P_7 _, trivial, trivial, trivial, trivial, trivial, trivial, trivial⟩ (by kernel_rfl) ⟨rfl, rfl, trivial⟩ (by kernel_rfl) rfl rfl rfl rfl rfl ?_
      rintro _ h23 ⟨r22, rfl, H⟩
      refine sT 16 [(29, .bool false), (36, .bool r22)] (some 37) tok wf (fun P_16 => ?_)
      refine sT 17 [(29, .bool false), (37, .bool (!r22))] (some 38) tok wf (fun P_17 => ?_)
      refine sT 18 [(38, .bool (!r22))] (some 39) tok wf (fun P_18 => ?_)
      refine sim_gif 39 H rfl (fun hb H => ?_) (fun hb H => ?_)
      ·
       refine sS 19 [(3, .int .i64 t3_2), (39, .bool true)] (some 40) wf (fun P_19 => ?_)
       refine sS 20 [(39, .bool true), (40, undef)] (some 41) wf (fun P_20 => ?_)
       refine sS 21 [(39, .bool true), (41, undef)] (some 42) wf (fun P_21 => ?_)
       refine sS 22 [(1, pt b1), (42, undef)] (some 43) wf (fun P_22 => ?_)
       refine sS 23 [(42, undef), (43, undef)] (some 44) wf (fun P_23 => ?_)
       refine sS 24 [(3, .int .i64 t3_2), (42, undef)] (some 45) wf (fun P_24 => ?_)
       refine sS 25 [(42, undef), (44, undef), (45, undef)] (some 46) wf (fun P_25 => ?_)
       refine sS 26 [(42, undef), (46, undef)] (some 47) wf (fun P_26 => ?_)
       refine sS 27 [(42, undef), (47, undef)] (some 48) wf (fun P_27 => ?_)
       refine sS 28 [(1, pt b1), (42, undef)] (some 49) wf (fun P_28 => ?_)
       refine sS 29 [(42, undef), (49, undef)] (some 50) wf (fun P_29 => ?_)
       refine sS 30 [(3, .int .i64 t3_2), (42, undef)] (some 51) wf (fun P_30 => ?_)
       refine sS 31 [(42, undef), (51, undef)] (some 52) wf (fun P_31 => ?_)
       refine sS 32 [(42, undef), (50, undef), (52, undef)] (some 53) wf (fun P_32 => ?_)
       refine sS 33 [(42, undef), (53, undef)] (some 54) wf (fun P_33 => ?_)
       refine sS 34 [(42, undef), (54, undef)] (some 55) wf (fun P_34 => ?_)
       refine sS 35 [(42, undef), (48, undef), (55, undef)] (some 56) wf (fun P_35 => ?_)
       refine sS 36 [(39, .bool true), (42, undef), (56, undef)] (some 57) wf (fun P_36 => ?_)
       refine sT 37 [(39, .bool true), (57, undef)] (some 58) tok wf (fun P_37 => ?_)
       refine sim_end wf ⟨P_37 _, P_36 _, P_35 _, P_34 _, P_33 _, P_32 _, P_31 _, P_30 _, P_29 _, P_28 _, P_27 _, P_26 _, P_25 _, P_24 _, P_23 _, P_22 _, P_21 _, P_20 _, P_19 _, P_18 _, P_17 _, P_16 _, trivial, trivial, trivial, trivial, trivial, trivial, trivial, trivial, trivial, trivial, trivial, trivial, trivial, trivial, trivial⟩ (by kernel_rfl) ?_
       clear wf P_0 P_1 P_10 P_11 P_12 P_13 P_14 P_16 P_17 P_18 P_19 P_2 P_20 P_21 P_22 P_23 P_24 P_25 P_26 P_27 P_28 P_29 P_3 P_30 P_31 P_32 P_33 P_34 P_35 P_36 P_37 P_4 P_5 P_7 P_8 P_9
       exact xJ true H
      ·
       refine sT 19 [(3, .int .i64 t3_2), (39, .bool false)] (some 40) tok wf (fun P_19 => ?_)
       refine sT 20 [(39, .bool false), (40, .int .i64 t3_2)] (some 41) tok wf (fun P_20 => ?_)
       refine sT 21 [(39, .bool false), (41, .bool (decide (t3_2 > 0)))] (some 42) tok wf (fun P_21 => ?_)
       refine sim_gif 42 H rfl (fun hb H => ?_) (fun hb H => ?_)
       ·
        refine sT 22 [(1, pt b1), (42, .bool true)] (some 43) tok wf (fun P_22 => ?_)
        obtain ⟨v24, hv24, H⟩ := H
        refine sV 23 [(42, .bool true), (43, .pointer (some ((ad b1).add 1)))] (some 44) wf (pf_y rfl rfl rfl (y_ld tok rfl rfl rfl rfl hv24)) (fun P_23 => ?_)
        refine sT 24 [(3, .int .i64 t3_2), (42, .bool true)] (some 45) tok wf (fun P_24 => ?_)
        obtain ⟨a25, ha25, la25, ua25, H⟩ := H
        refine sU 25 [(42, .bool true), (44, Slc.v v24), (45, .int .i64 t3_2)] (some 46) wf (fun _ => pf_y rfl rfl rfl (y_ixa' tok rfl rfl ha25 rfl rfl rfl la25 ua25)) (fun P_25 => ?_)
        refine sT 26 [(42, .bool true), (46, .pointer (some (a25.add (t3_2.toNat * 2))))] (some 47) tok wf (fun P_26 => ?_)
        obtain ⟨v26, hv26, H⟩ := H
        refine sV 27 [(42, .bool true), (47, .pointer (some (a25.add (t3_2.toNat * 2))))] (some 48) wf (pf_y rfl rfl rfl (y_ld tok rfl rfl rfl rfl hv26)) (fun P_27 => ?_)
        refine sT 28 [(1, pt b1), (42, .bool true)] (some 49) tok wf (fun P_28 => ?_)
        obtain ⟨v27, hv27, H⟩ := H
        refine sV 29 [(42, .bool true), (49, .pointer (some ((ad b1).add 1)))] (some 50) wf (pf_y rfl rfl rfl (y_ld tok rfl rfl rfl rfl hv27)) (fun P_29 => ?_)
        refine sT 30 [(3, .int .i64 t3_2), (42, .bool true)] (some 51) tok wf (fun P_30 => ?_)
        refine sT 31 [(42, .bool true), (51, .int .i64 t3_2)] (some 52) tok wf (fun P_31 => ?_)
        obtain ⟨a28, ha28, la28, ua28, H⟩ := H
        refine sU 32 [(42, .bool true), (50, Slc.v v27), (52, .int .i64 (IntKind.i64.wrap (t3_2 - 1)))] (some 53) wf (fun _ => pf_y rfl rfl rfl (y_ixa' tok rfl rfl ha28 rfl rfl rfl la28 ua28)) (fun P_32 => ?_)
        refine sT 33 [(42, .bool true), (53, .pointer (some (a28.add ((IntKind.i64.wrap (t3_2 - 1)).toNat * 2))))] (some 54) tok wf (fun P_33 => ?_)
        obtain ⟨v29, hv29, H⟩ := H
        refine sV 34 [(42, .bool true), (54, .pointer (some (a28.add ((IntKind.i64.wrap (t3_2 - 1)).toNat * 2))))] (some 55) wf (pf_y rfl rfl rfl (y_ld tok rfl rfl rfl rfl hv29)) (fun P_34 => ?_)
        refine sT 35 [(42, .bool true), (48, .string v26), (55, .string v29)] (some 56) tok wf (fun P_35 => ?_)
        refine sT 36 [(39, .bool false), (42, .bool true), (56, .bool (Op.bytesLess v26.toList v29.toList || v26.toList == v29.toList))] (some 57) tok wf (fun P_36 => ?_)
        refine sT 37 [(39, .bool false), (57, .bool (Op.bytesLess v26.toList v29.toList || v26.toList == v29.toList))] (some 58) tok wf (fun P_37 => ?_)
        refine sim_end wf ⟨P_37 _, P_36 _, P_35 _, P_34, P_33 _, P_32 _, P_31 _, P_30 _, P_29, P_28 _, P_27, P_26 _, P_25 _, P_24 _, P_23, P_22 _, P_21 _, P_20 _, P_19 _, P_18 _, P_17 _, P_16 _, trivial, trivial, trivial, trivial, trivial, trivial, trivial, trivial, trivial, trivial, trivial, trivial, trivial, trivial, trivial⟩ (by kernel_rfl) ?_
        clear wf P_0 P_1 P_10 P_11 P_12 P_13 P_14 P_16 P_17 P_18 P_19 P_2 P_20 P_21 P_22 P_23 P_24 P_25 P_26 P_27 P_28 P_29 P_3 P_30 P_31 P_32 P_33 P_34 P_35 P_36 P_37 P_4 P_5 P_7 P_8 P_9
        exact xJ (Op.bytesLess v26.toList v29.toList || v26.toList == v29.toList) H
       ·
        refine sS 22 [(1, pt b1), (42, .bool false)] (some 43) wf (fun P_22 => ?_)
        refine sS 23 [(42, .bool false), (43, undef)] (some 44) wf (fun P_23 => ?_)
        refine sS 24 [(3, .int .i64 t3_2), (42, .bool false)] (some 45) wf (fun P_24 => ?_)
        refine sS 25 [(42, .bool false), (44, undef), (45, undef)] (some 46) wf (fun P_25 => ?_)
        refine sS 26 [(42, .bool false), (46, undef)] (some 47) wf (fun P_26 => ?_)
        refine sS 27 [(42, .bool false), (47, undef)] (some 48) wf (fun P_27 => ?_)
        refine sS 28 [(1, pt b1), (42, .bool false)] (some 49) wf (fun P_28 => ?_)
        refine sS 29 [(42, .bool false), (49, undef)] (some 50) wf (fun P_29 => ?_)
        refine sS 30 [(3, .int .i64 t3_2), (42, .bool false)] (some 51) wf (fun P_30 => ?_)
        refine sS 31 [(42, .bool false), (51, undef)] (some 52) wf (fun P_31 => ?_)
        refine sS 32 [(42, .bool false), (50, undef), (52, undef)] (some 53) wf (fun P_32 => ?_)
        refine sS 33 [(42, .bool false), (53, undef)] (some 54) wf (fun P_33 => ?_)
        refine sS 34 [(42, .bool false), (54, undef)] (some 55) wf (fun P_34 => ?_)
        refine sS 35 [(42, .bool false), (48, undef), (55, undef)] (some 56) wf (fun P_35 => ?_)
        refine sT 36 [(39, .bool false), (42, .bool false), (56, undef)] (some 57) tok wf (fun P_36 => ?_)
        refine sT 37 [(39, .bool false), (57, .bool false)] (some 58) tok wf (fun P_37 => ?_)
        refine sim_end wf ⟨P_37 _, P_36 _, P_35 _, P_34 _, P_33 _, P_32 _, P_31 _, P_30 _, P_29 _, P_28 _, P_27 _, P_26 _, P_25 _, P_24 _, P_23 _, P_22 _, P_21 _, P_20 _, P_19 _, P_18 _, P_17 _, P_16 _, trivial, trivial, trivial, trivial, trivial, trivial, trivial, trivial, trivial, trivial, trivial, trivial, trivial, trivial, trivial⟩ (by kernel_rfl) ?_
        clear wf P_0 P_1 P_10 P_11 P_12 P_13 P_14 P_16 P_17 P_18 P_19 P_2 P_20 P_21 P_22 P_23 P_24 P_25 P_26 P_27 P_28 P_29 P_3 P_30 P_31 P_32 P_33 P_34 P_35 P_36 P_37 P_4 P_5 P_7 P_8 P_9
        exact xJ false H
   ·
    refine c_exit ?_
    refine x_te (x_te ?_)
    refine x_bh ?_
    refine x_seq ?_
    refine cW [] ?_
    refine c_seq (c_region ?_)
    refine wP tok ?_
    refine w_end (x_seq (c_ret ?_))
    exact x_ret _ rfl _ rfl ⟨true, rfl, H⟩
 ·
  refine w_gif (d := 8) H rfl (fun H => ?_) (fun H => ?_)
  ·
   iterate 4 refine w_skip rfl rfl ?_
   refine wP tok ?_
   exact wJ true H
  ·
   refine wP tok ?_
   obtain ⟨v30, hv30, H⟩ := H
   refine w_y (y_ld tok rfl rfl rfl rfl hv30) rfl rfl ?_
   iterate 3 refine wP tok ?_
   exact wJ (decide ((v30.len : Int) > 8)) H

theorem ref15_Parse_ok : CallOk Go.Proofs.Tryz.prog 27 := ⟨_, Go.Proofs.Tryz.func27, by kernel_rfl, by kernel_rfl⟩
theorem ref15_Parse_ref (p0 : ByteArray) (k : (S_api_Series × Bool) → Heap → Prop) (h : Heap) (H : ref15_Parse p0 k h) : CallsH Go.Proofs.Tryz.prog 27 #[.string p0] h (fun v h' => ∃ r : S_api_Series × Bool, v = .tuple #[.agg (S_api_Series.cs r.1).toArray, .bool r.2] ∧ k r h') := by
 refine f_enter (N := 60) Go.Proofs.Tryz.func27 rfl rfl rfl (fun w0 => ?_)
 unfold ref15_Parse at H
 refine cW [(0, .string p0)] ?_
 refine c_seq (c_region ?_)
 obtain ⟨b1, h2, eb1, eh2, H⟩ := H
 refine w_h (h_alloc tok rfl rfl eb1 eh2) rfl rfl ?_
 refine wP tok ?_
 refine w_end (x_seq ?_)
 refine c_seq (c_region ?_)
 refine wP tok ?_
 refine w_call ref15_Selector_ok (ref15_Selector_ref _ _ _ H) rfl rfl rfl rfl ?_
 rintro _ h4 ⟨r3, rfl, H⟩
 iterate 3 refine wP tok ?_
 obtain ⟨b5, h6, eb5, eh6, H⟩ := H
 refine w_h (h_alloc tok rfl rfl eb5 eh6) rfl rfl ?_
 obtain ⟨h7, wh7, eh7, H⟩ := H
 refine w_h (h_sts tok rfl rfl rfl rfl rfl (oneC (by kernel_rfl)) wh7 eh7) rfl rfl ?_
 refine wP tok ?_
 refine w_end (x_seq ?_)
 refine cW [(2, pt b1), (4, pt b5), (5, .bool r3.2)] ?_
 refine c_seq (c_region ?_)
 refine wP tok ?_
 obtain ⟨v8, hv8, H⟩ := H
 refine w_y (y_ld tok rfl rfl rfl rfl hv8) rfl rfl ?_
 refine w_y (y_build tok rfl rfl rfl rfl rfl) rfl rfl ?_
 obtain ⟨b9, h10, eb9, eh10, H⟩ := H
 refine w_h (h_alloc tok rfl rfl eb9 eh10) rfl rfl ?_
 obtain ⟨h11, wh11, eh11, H⟩ := H
 refine w_h (h_sts tok rfl rfl rfl rfl rfl (oneC (by kernel_rfl)) wh11 eh11) rfl rfl ?_
 refine w_end (x_seq ?_)
 refine c_seq (c_seq (c_region ?_))
 refine wP tok ?_
 refine w_end (x_seq (c_block ?_))
 obtain ⟨I1, μ1, H0, HI⟩ := H
 refine c_loop (σ := Bool × Int) (fun (s : Bool × Int) => [(5, .bool s.1), (7, .int .i64 s.2), (2, pt b1), (4, pt b5), (6, pt b9)]) I1 μ1 (r3.2, 0) H0 ⟨rfl, rfl, rfl, rfl, rfl, trivial⟩ ?_
 rintro ⟨t5_1, t7_1⟩ h_1 H
 replace H := HI t5_1 t7_1 h_1 H
 unfold ref15_Parse_l1b at H
 refine cW [(5, .bool t5_1), (7, .int .i64 t7_1), (2, pt b1), (4, pt b5), (6, pt b9)] ?_
 refine c_seq (c_seq (c_region ?_))
 iterate 2 refine wP tok ?_
 obtain ⟨v12, hv12, H⟩ := H
 refine w_y (y_ld tok rfl rfl rfl rfl hv12) rfl rfl ?_
 iterate 2 refine wP tok ?_
 refine w_end (x_seq ?_)
 refine c_if H rfl (fun H => ?_) (fun H => ?_)
 ·
  refine c_skip (x_seq ?_)
  refine c_seq (c_block ?_)
  refine c_seq (c_region ?_)
  iterate 2 refine wP tok ?_
  refine w_cut 8 (α := Bool) (fun (s : Bool) => [(32, .bool s), (2, pt b1), (4, pt b5), (6, pt b9), (7, .int .i64 t7_1)]) (fun (s : Bool) h => ref15_Parse_g2 (ad b1) (ad b5) (ad b9) t7_1 s k (fun s h' => I1 s h' ∧ μ1 s h' < μ1 (t5_1, t7_1) h_1) h) ?_ ?_
  ·
   rintro t32_2 h_2 H
   unfold ref15_Parse_g2 at H
   refine wW [(32, .bool t32_2), (2, pt b1), (4, pt b5), (6, pt b9), (7, .int .i64 t7_1)] ?_
   refine wP tok ?_
   refine w_end (x_seq ?_)
   refine c_sim [(2, pt b1), (4, pt b5), (5, .bool t32_2), (6, pt b9), (7, .int .i64 t7_1)] (by kernel_rfl) (by kernel_rfl) ⟨rfl, rfl, rfl, rfl, rfl, trivial⟩ (fun wf => ?_)
   refine sT 0 [(6, pt b9)] (some 33) tok wf (fun P_0 => ?_)
   obtain ⟨v13, hv13, H⟩ := H
   refine sV 1 [(33, .pointer (some ((ad b9).add 1)))] (some 34) wf (pf_y rfl rfl rfl (y_ld tok rfl rfl rfl rfl hv13)) (fun P_1 => ?_)
   refine sT 2 [(4, pt b5)] (some 35) tok wf (fun P_2 => ?_)
   obtain ⟨v14, hv14, H⟩ := H
   refine sV 3 [(35, .pointer (some ((ad b5).add 1)))] (some 36) wf (pf_y rfl rfl rfl (y_ld tok rfl rfl rfl rfl hv14)) (fun P_3 => ?_)
   refine sT 4 [(7, .int .i64 t7_1)] (some 37) tok wf (fun P_4 => ?_)
   obtain ⟨a15, ha15, la15, ua15, H⟩ := H
   refine sU 5 [(36, Slc.v v14), (37, .int .i64 t7_1)] (some 38) wf (fun _ => pf_y rfl rfl rfl (y_ixa' tok rfl rfl ha15 rfl rfl rfl la15 ua15)) (fun P_5 => ?_)
   refine sT 6 [(38, .pointer (some (a15.add (t7_1.toNat * 3))))] (some 39) tok wf (fun P_6 => ?_)
   obtain ⟨v16, hv16, H⟩ := H
   refine sV 7 [(39, .pointer (some (a15.add (t7_1.toNat * 3))))] (some 40) wf (pf_y rfl rfl rfl (y_ld tok rfl rfl rfl rfl hv16)) (fun P_7 => ?_)
   refine sT 8 [(4, pt b5)] (some 41) tok wf (fun P_8 => ?_)
   obtain ⟨v17, hv17, H⟩ := H
   refine sV 9 [(41, .pointer (some ((ad b5).add 1)))] (some 42) wf (pf_y rfl rfl rfl (y_ld tok rfl rfl rfl rfl hv17)) (fun P_9 => ?_)
   refine sT 10 [(7, .int .i64 t7_1)] (some 43) tok wf (fun P_10 => ?_)
   obtain ⟨a18, ha18, la18, ua18, H⟩ := H
   refine sU 11 [(42, Slc.v v17), (43, .int .i64 t7_1)] (some 44) wf (fun _ => pf_y rfl rfl rfl (y_ixa' tok rfl rfl ha18 rfl rfl rfl la18 ua18)) (fun P_11 => ?_)
   refine sT 12 [(44, .pointer (some (a18.add (t7_1.toNat * 3))))] (some 45) tok wf (fun P_12 => ?_)
   obtain ⟨v19, hv19, H⟩ := H
   refine sV 13 [(45, .pointer (some ((a18.add (t7_1.toNat * 3)).add 2)))] (some 46) wf (pf_y rfl rfl rfl (y_ld tok rfl rfl rfl rfl hv19)) (fun P_13 => ?_)
   refine sU 14 [(40, .string v16), (46, .string v19)] (some 47) wf (fun _ => pf_y rfl rfl rfl (y_build tok rfl rfl rfl rfl rfl)) (fun P_14 => ?_)
   obtain ⟨b20, h21, eb20, eh21, H⟩ := H
   refine sim_h 15 [2, 3, 4, 5, 6, 7, 8, 9, 10, 11, 12, 13, 14] [2, 3, 4, 5, 6, 7, 8, 9, 10, 11, 12, 13, 14] (ei := [(47, .agg (S_api_Label.cs (⟨v16, v19⟩ : S_api_Label)).toArray)]) wf ⟨P_14 _, P_13, P_12 _, P_11 _, P_10 _, P_9, P_8 _, P_7, P_6 _, P_5 _, P_4 _, P_3, P_2 _, P_1, P_0 _, trivial⟩ (by kernel_rfl) ⟨rfl, trivial⟩ (by kernel_rfl) rfl rfl rfl (h_bs tok rfl rfl rfl rfl rfl rfl rfl eb20 eh21) ?_
   obtain ⟨hy22, H⟩ := H
   refine sim_re (x := ⟨1, Slc.v v13, [(33, .pointer (some ((ad b9).add 1)))]⟩) (pf_y rfl rfl rfl (y_ld tok rfl rfl rfl rfl hy22)) (fun P_1 => ?_)
   refine sim_a 16 [0, 1, 2, 3, 4, 5, 6, 7, 8, 9, 10, 11, 12, 13, 14, 15] [0, 1, 2, 3, 4, 5, 6, 7, 8, 9, 10, 11, 12, 13, 14] (ei := [(34, Slc.v v13), (48, Slc.v (⟨some ⟨b20, 0, none⟩, 1, 1⟩ : Slc))]) wf ⟨trivial, trivial, trivial, trivial, trivial, trivial, trivial, trivial, trivial, trivial, trivial, trivial, trivial, P_1, P_0 _, trivial⟩ (by kernel_rfl) ⟨rfl, rfl, trivial⟩ (by kernel_rfl) rfl rfl rfl (a_app (s := v13) (r := (⟨some ⟨b20, 0, none⟩, 1, 1⟩ : Slc)) tok rfl rfl rfl rfl rfl (slcAt_push eb20 eh21) H) ?_
   rintro _ h24 ⟨s23, rfl, H⟩
   refine sT 17 [(6, pt b9)] (some 50) tok wf (fun P_17 => ?_)
   obtain ⟨h25, wh25, eh25, H⟩ := H
   refine sim_h 18 [0, 1, 2, 3, 4, 5, 6, 7, 8, 9, 10, 11, 12, 13, 14, 15, 16, 17] [0, 1, 2, 3, 4, 5, 6, 7, 8, 9, 10, 11, 12, 13, 14, 17] (ei := [(49, Slc.v s23), (50, .pointer (some ((ad b9).add 1)))]) wf ⟨P_17 _, trivial, trivial, trivial, trivial, trivial, trivial, trivial, trivial, trivial, trivial, trivial, trivial, trivial, trivial, trivial, trivial⟩ (by kernel_rfl) ⟨rfl, rfl, trivial⟩ (by kernel_rfl) rfl rfl rfl (h_st tok rfl rfl rfl rfl rfl rfl wh25 eh25) ?_
   refine sim_end wf ⟨trivial, trivial, trivial, trivial, trivial, trivial, trivial, trivial, trivial, trivial, trivial, trivial, trivial, trivial, trivial, trivial, trivial⟩ (by kernel_rfl) ?_
   clear wf P_0 P_1 P_10 P_11 P_12 P_13 P_14 P_17 P_2 P_3 P_4 P_5 P_6 P_7 P_8 P_9
   refine x_blk ?_
   refine x_seq ?_
   refine cW [(2, pt b1), (4, pt b5), (5, .bool t32_2), (6, pt b9), (7, .int .i64 t7_1)] ?_
   refine c_region ?_
   iterate 2 refine wP tok ?_
   obtain ⟨x26, ex26, H⟩ := H
   refine w_pe tok rfl (congrArg (fun z => (.int .i64 z : Value)) ex26) rfl rfl ?_
   refine w_end ?_
   exact xJ (t32_2, x26) H
  ·
   refine w_gif (d := 24) H rfl (fun H => ?_) (fun H => ?_)
   ·
    refine wP tok ?_
    obtain ⟨v27, hv27, H⟩ := H
    refine w_y (y_ld tok rfl rfl rfl rfl hv27) rfl rfl ?_
    refine wP tok ?_
    obtain ⟨a28, ha28, la28, ua28, H⟩ := H
    refine w_y (y_ixa' tok rfl rfl ha28 rfl rfl rfl la28 ua28) rfl rfl ?_
    refine wP tok ?_
    obtain ⟨v29, hv29, H⟩ := H
    refine w_y (y_ld tok rfl rfl rfl rfl hv29) rfl rfl ?_
    iterate 2 refine wP tok ?_
    exact wJ (v29 == 0) H
   ·
    iterate 7 refine w_skip rfl rfl ?_
    refine wP tok ?_
    exact wJ false H
 ·
  refine c_exit ?_
  refine x_te (x_te ?_)
  refine x_bh ?_
  refine x_seq ?_
  refine cW [(5, .bool t5_1), (2, pt b1), (6, pt b9)] ?_
  refine c_seq (c_seq (c_region ?_))
  iterate 3 refine wP tok ?_
  refine w_cut 4 (α := Bool) (fun (s : Bool) => [(57, .bool s), (2, pt b1), (6, pt b9)]) (fun (s : Bool) h => ref15_Parse_g3 (ad b1) (ad b9) s k (fun s h' => I1 s h' ∧ μ1 s h' < μ1 (t5_1, t7_1) h_1) h) ?_ ?_
  ·
   rintro t57_3 h_3 H
   unfold ref15_Parse_g3 at H
   refine wW [(57, .bool t57_3), (2, pt b1), (6, pt b9)] ?_
   refine w_end (x_seq ?_)
   refine c_if H rfl (fun H => ?_) (fun H => ?_)
   ·
    refine c_seq (c_region ?_)
    refine w_y (y_build tok rfl rfl rfl rfl rfl) rfl rfl ?_
    obtain ⟨h30, wh30, eh30, H⟩ := H
    refine w_h (h_sts tok rfl rfl rfl rfl rfl (oneC (by kernel_rfl)) wh30 eh30) rfl rfl ?_
    refine wP tok ?_
    refine w_end (x_seq ?_)
    refine c_ret (x_tr ?_)
    obtain ⟨v31, hv31, H⟩ := H
    exact x_retc tok _ rfl [.agg (S_api_Series.cs v31).toArray, .bool false] ⟨⟨_, _, rfl, rfl, .inr ⟨rfl, _, rfl, rfl, hv31⟩⟩, rfl, trivial⟩ ⟨(v31, false), rfl, H⟩
   ·
    refine c_skip (x_seq ?_)
    refine c_seq (c_region ?_)
    obtain ⟨v32, hv32, H⟩ := H
    refine w_y (y_lda tok rfl rfl rfl rfl rfl hv32) rfl rfl ?_
    obtain ⟨h33, wh33, eh33, H⟩ := H
    refine w_h (h_sts tok rfl rfl rfl rfl rfl (oneC (by kernel_rfl)) wh33 eh33) rfl rfl ?_
    refine wP tok ?_
    refine w_end (x_seq (c_ret ?_))
    obtain ⟨v34, hv34, H⟩ := H
    exact x_retc tok _ rfl [.agg (S_api_Series.cs v34).toArray, .bool true] ⟨⟨_, _, rfl, rfl, .inr ⟨rfl, _, rfl, rfl, hv34⟩⟩, rfl, trivial⟩ ⟨(v34, true), rfl, H⟩
  ·
   refine w_gif (d := 53) H rfl (fun H => ?_) (fun H => ?_)
   ·
    iterate 3 refine w_skip rfl rfl ?_
    refine wP tok ?_
    exact wJ true H
   ·
    obtain ⟨v35, hv35, H⟩ := H
    refine w_y (y_lda tok rfl rfl rfl rfl rfl hv35) rfl rfl ?_
    refine w_call ref15_Check_ok (ref15_Check_ref _ _ _ H) rfl rfl rfl rfl ?_
    rintro _ h37 ⟨r36, rfl, H⟩
    iterate 2 refine wP tok ?_
    exact wJ (!r36) H

theorem ref15_Chooses_ok : CallOk Go.Proofs.Tryz.prog 28 := ⟨_, Go.Proofs.Tryz.func28, by kernel_rfl, by kernel_rfl⟩
theorem ref15_Chooses_ref (p0 : S_api_Selector) (p1 : S_api_Series) (k : (Bool) → Heap → Prop) (h : Heap) (H : ref15_Chooses p0 p1 k h) : CallsH Go.Proofs.Tryz.prog 28 #[.agg (S_api_Selector.cs p0).toArray, .agg (S_api_Series.cs p1).toArray] h (fun v h' => ∃ r : Bool, v = .bool r ∧ k r h') := by
 refine f_enter (N := 113) Go.Proofs.Tryz.func28 rfl rfl rfl (fun w0 => ?_)
 unfold ref15_Chooses at H
 refine cW [(0, .agg (S_api_Selector.cs p0).toArray), (1, .agg (S_api_Series.cs p1).toArray)] ?_
 refine c_seq (c_region ?_)
 obtain ⟨b1, h2, eb1, eh2, H⟩ := H
 refine w_h (h_box rfl rfl eb1 eh2) rfl rfl ?_
 obtain ⟨b3, h4, eb3, eh4, H⟩ := H
 refine w_h (h_box rfl rfl eb3 eh4) rfl rfl ?_
 refine wP tok ?_
 refine w_end (x_seq ?_)
 refine c_seq (c_seq (c_region ?_))
 refine wP tok ?_
 obtain ⟨v5, hv5, H⟩ := H
 refine w_y (y_ld tok rfl rfl rfl rfl hv5) rfl rfl ?_
 iterate 2 refine wP tok ?_
 refine w_cut 6 (α := Bool) (fun (s : Bool) => [(20, .bool s), (2, pt b1), (3, pt b3)]) (fun (s : Bool) h => ref15_Chooses_g1 (ad b1) (ad b3) s k h) ?_ ?_
 ·
  rintro t20_1 h_1 H
  unfold ref15_Chooses_g1 at H
  refine wW [(20, .bool t20_1), (2, pt b1), (3, pt b3)] ?_
  refine w_end (x_seq ?_)
  refine c_if H rfl (fun H => ?_) (fun H => ?_)
  ·
   refine c_seq (c_region ?_)
   refine wP tok ?_
   refine w_end (x_seq ?_)
   refine c_ret (x_tr ?_)
   exact x_ret _ rfl _ rfl ⟨false, rfl, H⟩
  ·
   refine c_skip (x_seq ?_)
   refine c_seq (c_seq (c_region ?_))
   refine wP tok ?_
   refine w_end (x_seq (c_block ?_))
   obtain ⟨I2, μ2, H0, HI⟩ := H
   refine c_loop (σ := Int) (fun (s : Int) => [(5, .int .i64 s), (2, pt b1), (3, pt b3)]) I2 μ2 0 H0 ⟨rfl, rfl, rfl, trivial⟩ ?_
   rintro t5_2 h_2 H
   replace H := HI t5_2 h_2 H
   unfold ref15_Chooses_l2b at H
   refine cW [(5, .int .i64 t5_2), (2, pt b1), (3, pt b3)] ?_
   refine c_seq (c_seq (c_region ?_))
   iterate 2 refine wP tok ?_
   obtain ⟨v6, hv6, H⟩ := H
   refine w_y (y_ld tok rfl rfl rfl rfl hv6) rfl rfl ?_
   iterate 2 refine wP tok ?_
   refine w_end (x_seq ?_)
   refine c_if H rfl (fun H => ?_) (fun H => ?_)
   ·
    refine c_skip (x_seq ?_)
    refine c_seq (c_block ?_)
    refine c_seq (c_region ?_)
    refine wP tok ?_
    obtain ⟨v7, hv7, H⟩ := H
    refine w_y (y_ld tok rfl rfl rfl rfl hv7) rfl rfl ?_
    refine wP tok ?_
    obtain ⟨a8, ha8, la8, ua8, H⟩ := H
    refine w_y (y_ixa' tok rfl rfl ha8 rfl rfl rfl la8 ua8) rfl rfl ?_
    obtain ⟨v9, hv9, H⟩ := H
    refine w_y (y_lda tok rfl rfl rfl rfl rfl hv9) rfl rfl ?_
    obtain ⟨b10, h11, eb10, eh11, H⟩ := H
    refine w_h (h_alloc tok rfl rfl eb10 eh11) rfl rfl ?_
    obtain ⟨h12, wh12, eh12, H⟩ := H
    refine w_h (h_sts tok rfl rfl rfl rfl rfl (oneC (by kernel_rfl)) wh12 eh12) rfl rfl ?_
    refine w_end (x_seq ?_)
    refine cW [(5, .int .i64 t5_2), (2, pt b1), (3, pt b3), (6, pt b10)] ?_
    refine c_seq (c_region ?_)
    iterate 2 refine wP tok ?_
    refine w_end (x_seq ?_)
    refine c_seq (c_seq (c_region ?_))
    refine wP tok ?_
    refine w_end (x_seq (c_block ?_))
    obtain ⟨I3, μ3, H0, HI⟩ := H
    refine c_loop (σ := Bool × Bool × Int) (fun (s : Bool × Bool × Int) => [(7, .bool s.1), (8, .bool s.2.1), (9, .int .i64 s.2.2), (2, pt b1), (3, pt b3), (5, .int .i64 t5_2), (6, pt b10)]) I3 μ3 (false, false, 0) H0 ⟨rfl, rfl, rfl, rfl, rfl, rfl, rfl, trivial⟩ ?_
    rintro ⟨t7_3, t8_3, t9_3⟩ h_3 H
    replace H := HI t7_3 t8_3 t9_3 h_3 H
    unfold ref15_Chooses_l3b at H
    refine cW [(7, .bool t7_3), (8, .bool t8_3), (9, .int .i64 t9_3), (2, pt b1), (3, pt b3), (5, .int .i64 t5_2), (6, pt b10)] ?_
    refine c_seq (c_seq (c_region ?_))
    iterate 2 refine wP tok ?_
    obtain ⟨v13, hv13, H⟩ := H
    refine w_y (y_ld tok rfl rfl rfl rfl hv13) rfl rfl ?_
    iterate 2 refine wP tok ?_
    refine w_end (x_seq ?_)
    refine c_if H rfl (fun H => ?_) (fun H => ?_)
    ·
     refine c_skip (x_seq ?_)
     refine c_seqJ (α := Bool × Bool) (fun (s : Bool × Bool) => [(7, .bool s.1), (8, .bool s.2), (2, pt b1), (3, pt b3), (5, .int .i64 t5_2), (6, pt b10), (9, .int .i64 t9_3)]) (fun (s : Bool × Bool) h => ref15_Chooses_j4 (ad b1) (ad b3) t5_2 (ad b10) t9_3 s.1 s.2 k (fun s h' => I2 s h' ∧ μ2 s h' < μ2 t5_2 h_2) (fun s h' => I3 s h' ∧ μ3 s h' < μ3 (t7_3, t8_3, t9_3) h_3) h) ?_ ?_
     ·
      rintro ⟨t7_4, t8_4⟩ h_4 H
      unfold ref15_Chooses_j4 at H
      refine cW [(7, .bool t7_4), (8, .bool t8_4), (2, pt b1), (3, pt b3), (5, .int .i64 t5_2), (6, pt b10), (9, .int .i64 t9_3)] ?_
      refine c_region ?_
      iterate 2 refine wP tok ?_
      obtain ⟨x14, ex14, H⟩ := H
      refine w_pe tok rfl (congrArg (fun z => (.int .i64 z : Value)) ex14) rfl rfl ?_
      refine w_end ?_
      exact xJ (t7_4, t8_4, x14) H
     ·
      refine c_block (c_seq (c_region ?_))
      refine wP tok ?_
      obtain ⟨v15, hv15, H⟩ := H
      refine w_y (y_ld tok rfl rfl rfl rfl hv15) rfl rfl ?_
      refine wP tok ?_
      obtain ⟨a16, ha16, la16, ua16, H⟩ := H
      refine w_y (y_ixa' tok rfl rfl ha16 rfl rfl rfl la16 ua16) rfl rfl ?_
      obtain ⟨v17, hv17, H⟩ := H
      refine w_y (y_lda tok rfl rfl rfl rfl rfl hv17) rfl rfl ?_
      obtain ⟨b18, h19, eb18, eh19, H⟩ := H
      refine w_h (h_alloc tok rfl rfl eb18 eh19) rfl rfl ?_
      obtain ⟨h20, wh20, eh20, H⟩ := H
      refine w_h (h_sts tok rfl rfl rfl rfl rfl (oneC (by kernel_rfl)) wh20 eh20) rfl rfl ?_
      refine w_end (x_seq ?_)
      refine cW [(7, .bool t7_3), (8, .bool t8_3), (9, .int .i64 t9_3), (2, pt b1), (3, pt b3), (5, .int .i64 t5_2), (6, pt b10), (10, pt b18)] ?_
      refine c_seq (c_seq (c_region ?_))
      refine wP tok ?_
      obtain ⟨v21, hv21, H⟩ := H
      refine w_y (y_ld tok rfl rfl rfl rfl hv21) rfl rfl ?_
      refine wP tok ?_
      obtain ⟨v22, hv22, H⟩ := H
      refine w_y (y_ld tok rfl rfl rfl rfl hv22) rfl rfl ?_
      refine wP tok ?_
      refine w_end (x_seq ?_)
      refine c_if H rfl (fun H => ?_) (fun H => ?_)
      ·
       refine c_exit ?_
       refine x_te ?_
       refine x_bh ?_
       exact xJ (t7_3, t8_3) H
      ·
       refine c_skip (x_seq ?_)
       refine c_seq (c_region ?_)
       iterate 2 refine wP tok ?_
       refine w_cut 6 (α := Bool) (fun (s : Bool) => [(57, .bool s), (2, pt b1), (3, pt b3), (5, .int .i64 t5_2), (6, pt b10), (8, .bool t8_3), (9, .int .i64 t9_3), (10, pt b18)]) (fun (s : Bool) h => ref15_Chooses_g5 (ad b1) (ad b3) t5_2 (ad b10) t8_3 t9_3 (ad b18) s k (fun s h' => I2 s h' ∧ μ2 s h' < μ2 t5_2 h_2) (fun s h' => I3 s h' ∧ μ3 s h' < μ3 (t7_3, t8_3, t9_3) h_3) h) ?_ ?_
       ·
        rintro t57_5 h_5 H
        unfold ref15_Chooses_g5 at H
        refine wW [(57, .bool t57_5), (2, pt b1), (3, pt b3), (5, .int .i64 t5_2), (6, pt b10), (8, .bool t8_3), (9, .int .i64 t9_3), (10, pt b18)] ?_
        refine wP tok ?_
        refine w_end (x_seq ?_)
        refine c_draw (by kernel_rfl) (by kernel_rfl) ?_
        iterate 2 refine q_p tok rfl rfl rfl ?_
        refine q_cut 19 (α := Bool) (fun (s : Bool) => [(78, .bool s), (2, pt b1), (3, pt b3), (5, .int .i64 t5_2), (6, pt b10), (7, .bool t57_5), (9, .int .i64 t9_3)]) (fun (s : Bool) => ref15_Chooses_g6 (ad b1) (ad b3) t5_2 (ad b10) t57_5 t9_3 s k (fun s h' => I2 s h' ∧ μ2 s h' < μ2 t5_2 h_2) (fun s h' => I3 s h' ∧ μ3 s h' < μ3 (t7_3, t8_3, t9_3) h_3) h_5) ?_ ?_
        ·
         rintro t78_6 H
         unfold ref15_Chooses_g6 at H
         refine q_weak [(78, .bool t78_6), (2, pt b1), (3, pt b3), (5, .int .i64 t5_2), (6, pt b10), (7, .bool t57_5), (9, .int .i64 t9_3)] ⟨rfl, rfl, rfl, rfl, rfl, rfl, rfl, trivial⟩ ?_
         refine q_p tok rfl rfl rfl ?_
         refine q_end ?_
         refine x_blk ?_
         exact xJ (t57_5, t78_6) H
        ·
         refine q_gif (d := 59) H rfl (fun H => ?_) (fun H => ?_)
         ·
          iterate 18 refine q_skip rfl rfl ?_
          refine q_p tok rfl rfl rfl ?_
          exact q_jn true H ⟨rfl, rfl, rfl, rfl, rfl, rfl, rfl, trivial⟩
         ·
          refine q_p tok rfl rfl rfl ?_
          obtain ⟨v23, hv23, H⟩ := H
          refine q_y (y_ld tok rfl rfl rfl rfl hv23) rfl rfl ?_
          iterate 2 refine q_p tok rfl rfl rfl ?_
          obtain ⟨v24, hv24, H⟩ := H
          refine q_y (y_ld tok rfl rfl rfl rfl hv24) rfl rfl ?_
          iterate 3 refine q_p tok rfl rfl rfl ?_
          refine q_cut 10 (α := Bool) (fun (s : Bool) => [(77, .bool s), (2, pt b1), (3, pt b3), (5, .int .i64 t5_2), (6, pt b10), (7, .bool t57_5), (9, .int .i64 t9_3), (59, .bool false)]) (fun (s : Bool) => ref15_Chooses_g7 (ad b1) (ad b3) t5_2 (ad b10) t57_5 t9_3 false s k (fun s h' => I2 s h' ∧ μ2 s h' < μ2 t5_2 h_2) (fun s h' => I3 s h' ∧ μ3 s h' < μ3 (t7_3, t8_3, t9_3) h_3) h_5) ?_ ?_
          ·
           rintro t77_7 H
           unfold ref15_Chooses_g7 at H
           refine q_weak [(77, .bool t77_7), (2, pt b1), (3, pt b3), (5, .int .i64 t5_2), (6, pt b10), (7, .bool t57_5), (9, .int .i64 t9_3), (59, .bool false)] ⟨rfl, rfl, rfl, rfl, rfl, rfl, rfl, rfl, trivial⟩ ?_
           refine q_p tok rfl rfl rfl ?_
           exact q_jn t77_7 H ⟨rfl, rfl, rfl, rfl, rfl, rfl, rfl, trivial⟩
          ·
           refine q_gif (d := 67) H rfl (fun H => ?_) (fun H => ?_)
           ·
            refine q_p tok rfl rfl rfl ?_
            obtain ⟨v25, hv25, H⟩ := H
            refine q_y (y_ld tok rfl rfl rfl rfl hv25) rfl rfl ?_
            refine q_p tok rfl rfl rfl ?_
            obtain ⟨v26, hv26, H⟩ := H
            refine q_y (y_ld tok rfl rfl rfl rfl hv26) rfl rfl ?_
            refine q_p tok rfl rfl rfl ?_
            obtain ⟨s27, ps27, qs27, rs27, es27, H⟩ := H
            refine q_ye (y_sls (s := v25) (L := 0) (H := (v26.size : Int)) tok rfl rfl rfl rfl rfl ps27 qs27 rs27) (congrArg Value.string es27) rfl rfl ?_
            refine q_p tok rfl rfl rfl ?_
            obtain ⟨v28, hv28, H⟩ := H
            refine q_y (y_ld tok rfl rfl rfl rfl hv28) rfl rfl ?_
            iterate 2 refine q_p tok rfl rfl rfl ?_
            exact q_jn (s27.toList == v28.toList) H ⟨rfl, rfl, rfl, rfl, rfl, rfl, rfl, rfl, trivial⟩
           ·
            iterate 9 refine q_skip rfl rfl ?_
            refine q_p tok rfl rfl rfl ?_
            exact q_jn false H ⟨rfl, rfl, rfl, rfl, rfl, rfl, rfl, rfl, trivial⟩
       ·
        refine w_gif (d := 51) H rfl (fun H => ?_) (fun H => ?_)
        ·
         iterate 5 refine w_skip rfl rfl ?_
         refine wP tok ?_
         exact wJ true H
        ·
         refine wP tok ?_
         obtain ⟨v29, hv29, H⟩ := H
         refine w_y (y_ld tok rfl rfl rfl rfl hv29) rfl rfl ?_
         refine wP tok ?_
         obtain ⟨v30, hv30, H⟩ := H
         refine w_y (y_ld tok rfl rfl rfl rfl hv30) rfl rfl ?_
         iterate 2 refine wP tok ?_
         exact wJ (v29.toList == v30.toList) H
    ·
     refine c_exit ?_
     refine x_te (x_te ?_)
     refine x_bh ?_
     refine x_seq (c_seq (c_region ?_))
     refine wP tok ?_
     obtain ⟨v31, hv31, H⟩ := H
     refine w_y (y_ld tok rfl rfl rfl rfl hv31) rfl rfl ?_
     iterate 2 refine wP tok ?_
     refine w_cutU 3 [(85, .bool ((v31 == 0) && (!t7_3))), (2, pt b1), (3, pt b3), (5, .int .i64 t5_2), (6, pt b10), (7, .bool t7_3), (8, .bool t8_3)] ?_ ?_
     ·
      refine wP tok ?_
      refine w_cut 7 (α := Bool) (fun (s : Bool) => [(93, .bool s), (2, pt b1), (3, pt b3), (5, .int .i64 t5_2), (6, pt b10), (8, .bool t8_3)]) (fun (s : Bool) h => ref15_Chooses_g8 (ad b1) (ad b3) t5_2 (ad b10) t8_3 s k (fun s h' => I2 s h' ∧ μ2 s h' < μ2 t5_2 h_2) (fun s h' => I3 s h' ∧ μ3 s h' < μ3 (t7_3, t8_3, t9_3) h_3) h) ?_ ?_
      ·
       rintro t93_8 h_8 H
       unfold ref15_Chooses_g8 at H
       refine wW [(93, .bool t93_8), (2, pt b1), (3, pt b3), (5, .int .i64 t5_2), (6, pt b10), (8, .bool t8_3)] ?_
       refine wP tok ?_
       refine w_cut 8 (α := Bool) (fun (s : Bool) => [(102, .bool s), (2, pt b1), (3, pt b3), (5, .int .i64 t5_2), (6, pt b10)]) (fun (s : Bool) h => ref15_Chooses_g9 (ad b1) (ad b3) t5_2 (ad b10) s k (fun s h' => I2 s h' ∧ μ2 s h' < μ2 t5_2 h_2) (fun s h' => I3 s h' ∧ μ3 s h' < μ3 (t7_3, t8_3, t9_3) h_3) h) ?_ ?_
       ·
        rintro t102_9 h_9 H
        unfold ref15_Chooses_g9 at H
        refine wW [(102, .bool t102_9), (2, pt b1), (3, pt b3), (5, .int .i64 t5_2), (6, pt b10)] ?_
        refine wP tok ?_
        refine w_cut 4 (α := Bool) (fun (s : Bool) => [(107, .bool s), (2, pt b1), (3, pt b3), (5, .int .i64 t5_2), (6, pt b10)]) (fun (s : Bool) h => ref15_Chooses_g10 (ad b1) (ad b3) t5_2 (ad b10) s k (fun s h' => I2 s h' ∧ μ2 s h' < μ2 t5_2 h_2) (fun s h' => I3 s h' ∧ μ3 s h' < μ3 (t7_3, t8_3, t9_3) h_3) h) ?_ ?_
        ·
         rintro t107_10 h_10 H
         unfold ref15_Chooses_g10 at H
         refine wW [(107, .bool t107_10), (2, pt b1), (3, pt b3), (5, .int .i64 t5_2), (6, pt b10)] ?_
         refine wP tok ?_
         refine w_cut 4 (α := Bool) (fun (s : Bool) => [(112, .bool s), (2, pt b1), (3, pt b3), (5, .int .i64 t5_2)]) (fun (s : Bool) h => ref15_Chooses_g11 (ad b1) (ad b3) t5_2 s k (fun s h' => I2 s h' ∧ μ2 s h' < μ2 t5_2 h_2) (fun s h' => I3 s h' ∧ μ3 s h' < μ3 (t7_3, t8_3, t9_3) h_3) h) ?_ ?_
         ·
          rintro t112_11 h_11 H
          unfold ref15_Chooses_g11 at H
          refine wW [(112, .bool t112_11), (2, pt b1), (3, pt b3), (5, .int .i64 t5_2)] ?_
          refine w_end (x_seq ?_)
          refine c_if H rfl (fun H => ?_) (fun H => ?_)
          ·
           refine c_seq (c_region ?_)
           refine wP tok ?_
           refine w_end (x_seq (c_ret ?_))
           refine x_br ?_
           refine x_tr (x_tr ?_)
           refine x_br ?_
           refine x_tr ?_
           exact x_ret _ rfl _ rfl ⟨false, rfl, H⟩
          ·
           refine c_skip ?_
           refine x_blk ?_
           refine x_seq (c_region ?_)
           iterate 2 refine wP tok ?_
           obtain ⟨x32, ex32, H⟩ := H
           refine w_pe tok rfl (congrArg (fun z => (.int .i64 z : Value)) ex32) rfl rfl ?_
           refine w_end ?_
           exact xJ x32 H
         ·
          refine w_gif (d := 108) H rfl (fun H => ?_) (fun H => ?_)
          ·
           iterate 3 refine w_skip rfl rfl ?_
           refine wP tok ?_
           exact wJ true H
          ·
           refine wP tok ?_
           obtain ⟨v33, hv33, H⟩ := H
           refine w_y (y_ld tok rfl rfl rfl rfl hv33) rfl rfl ?_
           iterate 2 refine wP tok ?_
           exact wJ (decide (v33 > 2)) H
        ·
         refine w_gif (d := 103) H rfl (fun H => ?_) (fun H => ?_)
         ·
          iterate 3 refine w_skip rfl rfl ?_
          refine wP tok ?_
          exact wJ true H
         ·
          refine wP tok ?_
          obtain ⟨v34, hv34, H⟩ := H
          refine w_y (y_ld tok rfl rfl rfl rfl hv34) rfl rfl ?_
          iterate 2 refine wP tok ?_
          exact wJ (decide (v34 < 0)) H
       ·
        refine w_gif (d := 94) H rfl (fun H => ?_) (fun H => ?_)
        ·
         iterate 7 refine w_skip rfl rfl ?_
         refine wP tok ?_
         exact wJ true H
        ·
         refine wP tok ?_
         obtain ⟨v35, hv35, H⟩ := H
         refine w_y (y_ld tok rfl rfl rfl rfl hv35) rfl rfl ?_
         iterate 2 refine wP tok ?_
         refine w_cutU 3 [(101, .bool ((v35 == 2) && (!t8_3))), (2, pt b1), (3, pt b3), (5, .int .i64 t5_2), (6, pt b10), (94, .bool false)] ?_ ?_
         ·
          refine wP tok ?_
          exact wJ ((v35 == 2) && (!t8_3)) H
         ·
          refine w_gs (d := 98) rfl (fun hb => ?_) (fun hb => ?_)
          ·
           iterate 3 refine wP tok ?_
           refine w_jn () rfl ⟨?_, rfl, rfl, rfl, rfl, rfl, trivial⟩
           exact congrArg (fun b => some (Value.bool b)) (and_t hb)
          ·
           iterate 2 refine w_skip rfl rfl ?_
           refine wP tok ?_
           refine w_jn () rfl ⟨?_, rfl, rfl, rfl, rfl, rfl, trivial⟩
           exact congrArg (fun b => some (Value.bool b)) (and_f hb)
      ·
       refine w_gif (d := 86) H rfl (fun H => ?_) (fun H => ?_)
       ·
        iterate 6 refine w_skip rfl rfl ?_
        refine wP tok ?_
        exact wJ true H
       ·
        refine wP tok ?_
        obtain ⟨v36, hv36, H⟩ := H
        refine w_y (y_ld tok rfl rfl rfl rfl hv36) rfl rfl ?_
        iterate 2 refine wP tok ?_
        refine w_cutU 2 [(92, .bool ((v36 == 1) && t7_3)), (2, pt b1), (3, pt b3), (5, .int .i64 t5_2), (6, pt b10), (8, .bool t8_3), (86, .bool false)] ?_ ?_
        ·
         refine wP tok ?_
         exact wJ ((v36 == 1) && t7_3) H
        ·
         refine w_gs (d := 90) rfl (fun hb => ?_) (fun hb => ?_)
         ·
          iterate 2 refine wP tok ?_
          refine w_jn () rfl ⟨?_, rfl, rfl, rfl, rfl, rfl, rfl, trivial⟩
          exact congrArg (fun b => some (Value.bool b)) (and_t hb)
         ·
          refine w_skip rfl rfl ?_
          refine wP tok ?_
          refine w_jn () rfl ⟨?_, rfl, rfl, rfl, rfl, rfl, rfl, trivial⟩
          exact congrArg (fun b => some (Value.bool b)) (and_f hb)
     ·
      refine w_gs (d := 82) rfl (fun hb => ?_) (fun hb => ?_)
      ·
       iterate 3 refine wP tok ?_
       refine w_jn () rfl ⟨?_, rfl, rfl, rfl, rfl, rfl, rfl, trivial⟩
       exact congrArg (fun b => some (Value.bool b)) (and_t hb)
      ·
       iterate 2 refine w_skip rfl rfl ?_
       refine wP tok ?_
       refine w_jn () rfl ⟨?_, rfl, rfl, rfl, rfl, rfl, rfl, trivial⟩
       exact congrArg (fun b => some (Value.bool b)) (and_f hb)
   ·
    refine c_exit ?_
    refine x_te (x_te ?_)
    refine x_bh ?_
    refine x_seq ?_
    refine cW [] ?_
    refine c_seq (c_region ?_)
    refine wP tok ?_
    refine w_end (x_seq (c_ret ?_))
    exact x_ret _ rfl _ rfl ⟨true, rfl, H⟩
 ·
  refine w_gif (d := 14) H rfl (fun H => ?_) (fun H => ?_)
  ·
   refine wP tok ?_
   obtain ⟨v37, hv37, H⟩ := H
   refine w_y (y_ld tok rfl rfl rfl rfl hv37) rfl rfl ?_
   refine wP tok ?_
   obtain ⟨v38, hv38, H⟩ := H
   refine w_y (y_ld tok rfl rfl rfl rfl hv38) rfl rfl ?_
   iterate 2 refine wP tok ?_
   exact wJ (!(v37.toList == v38.toList)) H
  ·
   iterate 5 refine w_skip rfl rfl ?_
   refine wP tok ?_
   exact wJ false H

theorem ref13_Check_ok : CallOk Go.Proofs.Tryz.prog 54 := ⟨_, Go.Proofs.Tryz.func54, by kernel_rfl, by kernel_rfl⟩
theorem ref13_Check_ref (p0 : S_api_Piece) (k : (Bool) → Heap → Prop) (h : Heap) (H : ref13_Check p0 k h) : CallsH Go.Proofs.Tryz.prog 54 #[.agg (S_api_Piece.cs p0).toArray] h (fun v h' => ∃ r : Bool, v = .bool r ∧ k r h') := by
 refine f_enter (N := 13) Go.Proofs.Tryz.func54 rfl rfl rfl (fun w0 => ?_)
 unfold ref13_Check at H
 refine cW [(0, .agg (S_api_Piece.cs p0).toArray)] ?_
 refine c_seq (c_region ?_)
 obtain ⟨b1, h2, eb1, eh2, H⟩ := H
 refine w_h (h_box rfl rfl eb1 eh2) rfl rfl ?_
 refine wP tok ?_
 refine w_end (x_seq ?_)
 refine c_seq (c_region ?_)
 refine wP tok ?_
 obtain ⟨v3, hv3, H⟩ := H
 refine w_y (y_ld tok rfl rfl rfl rfl hv3) rfl rfl ?_
 iterate 3 refine wP tok ?_
 refine w_cut 5 (α := Bool) (fun (s : Bool) => [(12, .bool s)]) (fun (s : Bool) h => ref13_Check_g1 s k h) ?_ ?_
 ·
  rintro t12_1 h_1 H
  unfold ref13_Check_g1 at H
  refine wW [(12, .bool t12_1)] ?_
  refine wP tok ?_
  refine w_end (x_seq (c_ret ?_))
  exact x_ret _ rfl _ rfl ⟨t12_1, rfl, H⟩
 ·
  refine w_gif (d := 7) H rfl (fun H => ?_) (fun H => ?_)
  ·
   refine wP tok ?_
   obtain ⟨v4, hv4, H⟩ := H
   refine w_y (y_ld tok rfl rfl rfl rfl hv4) rfl rfl ?_
   iterate 3 refine wP tok ?_
   exact wJ (decide ((v4.size : Int) ≤ 200)) H
  ·
   iterate 4 refine w_skip rfl rfl ?_
   refine wP tok ?_
   exact wJ false H

theorem ref13_Above_ok : CallOk Go.Proofs.Tryz.prog 55 := ⟨_, Go.Proofs.Tryz.func55, by kernel_rfl, by kernel_rfl⟩
theorem ref13_Above_ref (p0 : S_api_Id) (p1 : S_api_Id) (k : (Bool) → Heap → Prop) (h : Heap) (H : ref13_Above p0 p1 k h) : CallsH Go.Proofs.Tryz.prog 55 #[.agg (S_api_Id.cs p0).toArray, .agg (S_api_Id.cs p1).toArray] h (fun v h' => ∃ r : Bool, v = .bool r ∧ k r h') := by
 refine f_enter (N := 24) Go.Proofs.Tryz.func55 rfl rfl rfl (fun w0 => ?_)
 unfold ref13_Above at H
 refine cW [(0, .agg (S_api_Id.cs p0).toArray), (1, .agg (S_api_Id.cs p1).toArray)] ?_
 refine c_seq (c_region ?_)
 obtain ⟨b1, h2, eb1, eh2, H⟩ := H
 refine w_h (h_box rfl rfl eb1 eh2) rfl rfl ?_
 obtain ⟨b3, h4, eb3, eh4, H⟩ := H
 refine w_h (h_box rfl rfl eb3 eh4) rfl rfl ?_
 refine wP tok ?_
 refine w_end (x_seq ?_)
 refine c_seq (c_region ?_)
 refine wP tok ?_
 obtain ⟨v5, hv5, H⟩ := H
 refine w_y (y_ld tok rfl rfl rfl rfl hv5) rfl rfl ?_
 refine wP tok ?_
 obtain ⟨v6, hv6, H⟩ := H
 refine w_y (y_ld tok rfl rfl rfl rfl hv6) rfl rfl ?_
 iterate 2 refine wP tok ?_
 refine w_cut 13 (α := Bool) (fun (s : Bool) => [(23, .bool s)]) (fun (s : Bool) h => ref13_Above_g1 s k h) ?_ ?_
 ·
  rintro t23_1 h_1 H
  unfold ref13_Above_g1 at H
  refine wW [(23, .bool t23_1)] ?_
  refine wP tok ?_
  refine w_end (x_seq (c_ret ?_))
  exact x_ret _ rfl _ rfl ⟨t23_1, rfl, H⟩
 ·
  refine w_gif (d := 10) H rfl (fun H => ?_) (fun H => ?_)
  ·
   iterate 12 refine w_skip rfl rfl ?_
   refine wP tok ?_
   exact wJ true H
  ·
   refine wP tok ?_
   obtain ⟨v7, hv7, H⟩ := H
   refine w_y (y_ld tok rfl rfl rfl rfl hv7) rfl rfl ?_
   refine wP tok ?_
   obtain ⟨v8, hv8, H⟩ := H
   refine w_y (y_ld tok rfl rfl rfl rfl hv8) rfl rfl ?_
   iterate 2 refine wP tok ?_
   refine w_cut 6 (α := Bool) (fun (s : Bool) => [(22, .bool s), (10, .bool false)]) (fun (s : Bool) h => ref13_Above_g2 false s k h) ?_ ?_
   ·
    rintro t22_2 h_2 H
    unfold ref13_Above_g2 at H
    refine wW [(22, .bool t22_2), (10, .bool false)] ?_
    refine wP tok ?_
    exact wJ t22_2 H
   ·
    refine w_gif (d := 16) H rfl (fun H => ?_) (fun H => ?_)
    ·
     refine wP tok ?_
     obtain ⟨v9, hv9, H⟩ := H
     refine w_y (y_ld tok rfl rfl rfl rfl hv9) rfl rfl ?_
     refine wP tok ?_
     obtain ⟨v10, hv10, H⟩ := H
     refine w_y (y_ld tok rfl rfl rfl rfl hv10) rfl rfl ?_
     iterate 2 refine wP tok ?_
     exact wJ (decide (v9 > v10)) H
    ·
     iterate 5 refine w_skip rfl rfl ?_
     refine wP tok ?_
     exact wJ false H

theorem ref13_Merge_ok : CallOk Go.Proofs.Tryz.prog 26 := ⟨_, Go.Proofs.Tryz.func26, by kernel_rfl, by kernel_rfl⟩
end Go.Q.Yz

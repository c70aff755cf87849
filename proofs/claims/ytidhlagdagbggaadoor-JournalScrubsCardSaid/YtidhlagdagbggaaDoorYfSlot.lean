/- A part of the proof of statements of this seat: lemmas, no statement of their own. -/
import Derived.Test.YtidhlagdagbggaaDoorYfTab
import Derived.Test.YtidhlagdagbggaaDoorYfSha
import Derived.Test.YtidhlagdagbggaaDoorYfDisk1
import Derived.Test.YtidhlagdagbggaaDoorQEq
set_option linter.unusedVariables false
set_option maxRecDepth 100000
set_option maxHeartbeats 1000000
namespace Go.Q.Yf
open Go.RowKit in
theorem eqv95_S_slot_head (a b : S_slot_head) (w : World) : (Op.equal 95 (.agg (S_slot_head.cs a).toArray) (.agg (S_slot_head.cs b).toArray)).run Go.Proofs.Tryd.prog w = .ok ((a.f_n == b.f_n) && (a.f_part == b.f_part) && (a.f_parts == b.f_parts) && (a.f_size == b.f_size) && (a.f_sum == b.f_sum)) w := by
  have hS : Go.Proofs.Tryd.prog.underlying 95 = some (.struct (Go.Proofs.Tryd.prog.fieldsOf 95)) := by kernel_rfl
  have hp : Go.Proofs.Tryd.prog.stoodInHeld 95 = false := by kernel_rfl
  have u3 := Go.Proofs.Tryd.underlying3
  have a3 : ∀ w, (isAgg 3).run Go.Proofs.Tryd.prog w = .ok false w := Go.Proofs.Tryd.isAgg3
  have u48 := Go.Proofs.Tryd.underlying48
  have a48 : ∀ w, (isAgg 48).run Go.Proofs.Tryd.prog w = .ok false w := Go.Proofs.Tryd.isAgg48
  unfold Op.equal Op.maxDepth
  rw [show (10000 : Nat) = 9999 + 1 from rfl, run_equalIn_struct w 9999 95 _ _ hS hp]
  simp only [Program.fieldsOf, Go.Proofs.Tryd.underlying95, S_slot_head.cs]
  go_simp
  by_cases h0 : (a.f_n = b.f_n) <;> by_cases h1 : (a.f_part = b.f_part) <;> by_cases h2 : (a.f_parts = b.f_parts) <;> by_cases h3 : (a.f_size = b.f_size) <;> by_cases h4 : (a.f_sum = b.f_sum) <;> simp [h0, h1, h2, h3, h4]
/-- slices.Clone   byte byte  -/
def slices_Clone_byte_byte (p0 : Slc) (k : (Slc) → Heap → Prop) (h : Heap) : Prop :=
  if (p0.a.isNone) then (k (⟨none, 0, 0⟩ : Slc) h) else (∃ (b1 : Nat) (h2 : Heap), b1 = h.size ∧ h2 = h.push (.cells ([]).toArray 5) ∧ (∃ l5 : List Value, SlcAt h2 p0 l5 ∧ App 5 1 1 [.int .u8 0] h2 (⟨some ⟨b1, 0, none⟩, 0, 0⟩ : Slc) p0.len l5 (fun s3 h4 => k s3 h4)))

/-- quaestor num.Put -/
def num_Put_l1b (t13_1 : Int) (t1_1 : Int) (t7_1 : Slc) (t14_1 : Int) (k : (Slc) → Heap → Prop) (nx1 : (Int × Slc × Int) → Heap → Prop) (h_1 : Heap) : Prop :=
  if (decide (t14_1 < t13_1)) then (∃ (b3 : Nat) (h4 : Heap), b3 = h_1.size ∧ h4 = h_1.push (.cells ([.int .u8 (IntKind.u8.wrap t1_1)]).toArray 5) ∧ (App 5 1 1 [.int .u8 0] h4 t7_1 1 ([.int .u8 (IntKind.u8.wrap t1_1)]) (fun s5 h6 => ∃ x7 : Int, x7 = (shr .u64 t1_1 (8 : Int).toNat) ∧ (nx1 (x7, s5, (IntKind.i64.wrap (t14_1 + 1))) h6)))) else (k t7_1 h_1)
def num_Put_l1 (t13_1 : Int) (i1 : Int) (i7 : Slc) (i14 : Int) (k : (Slc) → Heap → Prop) (h : Heap) : Prop :=
  ∃ (I : (Int × Slc × Int) → Heap → Prop) (μ : (Int × Slc × Int) → Heap → Nat), I (i1, i7, i14) h ∧ ∀ (t1_1 : Int) (t7_1 : Slc) (t14_1 : Int) (h : Heap), I (t1_1, t7_1, t14_1) h → num_Put_l1b t13_1 t1_1 t7_1 t14_1 k (fun s h' => I s h' ∧ μ s h' < μ (t1_1, t7_1, t14_1) h) h
def num_Put (p0 : Slc) (p1 : Int) (p2 : Int) (k : (Slc) → Heap → Prop) (h : Heap) : Prop :=
  slices_Clone_byte_byte p0 (fun (r1 : Slc) h2 => if (decide (p2 > 8)) then (k r1 h2) else (num_Put_l1 p2 p1 r1 0 k h2)) h

/-- quaestor slot.field -/
def slot_field (p0 : Slc) (p1 : Int) (p2 : Int) (k : (Int) → Heap → Prop) (h : Heap) : Prop :=
  ∃ s1 : Slc, (0 : Int) ≤ p1 ∧ (p1 : Int) ≤ (p0.len : Int) ∧ ((p0.len : Int) : Int) ≤ (p0.cap : Int) ∧ (p0.cap : Int) ≤ (p0.cap : Int) ∧ s1 = subS p0 1 p1.toNat (p0.len : Int).toNat (p0.cap : Int).toNat ∧ (num_Get s1 p2 (fun (r2 : Int × Int) h3 => ∃ x4 : Int, x4 = (IntKind.i64.wrap r2.1) ∧ (k x4 h3)) h)

/-- quaestor slot.headOf -/
def slot_headOf (p0 : Slc) (k : (S_slot_head) → Heap → Prop) (h : Heap) : Prop :=
  ∃ (b1 : Nat) (h2 : Heap), b1 = h.size ∧ h2 = h.push (.cells (S_slot_head.cs (⟨0, 0, 0, 0, 0⟩ : S_slot_head)).toArray 95) ∧ (num_Get p0 8 (fun (r3 : Int × Int) h4 => ∃ s5 : Slc, (0 : Int) ≤ 16 ∧ (16 : Int) ≤ (p0.len : Int) ∧ ((p0.len : Int) : Int) ≤ (p0.cap : Int) ∧ (p0.cap : Int) ≤ (p0.cap : Int) ∧ s5 = subS p0 1 (16 : Int).toNat (p0.len : Int).toNat (p0.cap : Int).toNat ∧ (num_Get s5 8 (fun (r6 : Int × Int) h7 => slot_field p0 8 2 (fun (r8 : Int) h9 => slot_field p0 10 2 (fun (r10 : Int) h11 => slot_field p0 12 4 (fun (r12 : Int) h13 => ∃ h14 : Heap, WrsAt h13 (⟨b1, 0, none⟩ : Addr) 5 ∧ h14 = setsH h13 (⟨b1, 0, none⟩ : Addr) 0 (S_slot_head.cs (⟨r3.1, r8, r10, r12, r6.1⟩ : S_slot_head)) ∧ (∃ v15 : S_slot_head, CellsAt h14 (⟨b1, 0, none⟩ : Addr) (S_slot_head.cs v15) ∧ k v15 h14)) h11) h9) h7) h4)) h2)

/-- (quaestor slot.head).bytes -/
def slot_head_bytes (p0 : S_slot_head) (k : (Slc) → Heap → Prop) (h : Heap) : Prop :=
  ∃ (b1 : Nat) (h2 : Heap), b1 = h.size ∧ h2 = h.push (.cells (S_slot_head.cs p0).toArray 95) ∧ (∃ v3 : Int, cellH h2 (⟨b1, 0, none⟩ : Addr) = some (.int .u64 v3) ∧ (num_Put (⟨none, 0, 0⟩ : Slc) v3 8 (fun (r4 : Slc) h5 => ∃ v6 : Int, cellH h5 ((⟨b1, 0, none⟩ : Addr).add 1) = some (.int .i64 v6) ∧ (num_Put r4 (IntKind.u64.wrap v6) 2 (fun (r7 : Slc) h8 => ∃ v9 : Int, cellH h8 ((⟨b1, 0, none⟩ : Addr).add 2) = some (.int .i64 v9) ∧ (num_Put r7 (IntKind.u64.wrap v9) 2 (fun (r10 : Slc) h11 => ∃ v12 : Int, cellH h11 ((⟨b1, 0, none⟩ : Addr).add 3) = some (.int .i64 v12) ∧ (num_Put r10 (IntKind.u64.wrap v12) 4 (fun (r13 : Slc) h14 => ∃ v15 : Int, cellH h14 ((⟨b1, 0, none⟩ : Addr).add 4) = some (.int .u64 v15) ∧ (num_Put r13 v15 8 (fun (r16 : Slc) h17 => k r16 h17) h14)) h11)) h8)) h5)) h2))

/-- bytes.Clone -/
def bytes_Clone (p0 : Slc) (k : (Slc) → Heap → Prop) (h : Heap) : Prop :=
  if (p0.a.isNone) then (k (⟨none, 0, 0⟩ : Slc) h) else (∃ (b1 : Nat) (h2 : Heap), b1 = h.size ∧ h2 = h.push (.cells ([]).toArray 5) ∧ (∃ l5 : List Value, SlcAt h2 p0 l5 ∧ App 5 1 1 [.int .u8 0] h2 (⟨some ⟨b1, 0, none⟩, 0, 0⟩ : Slc) p0.len l5 (fun s3 h4 => k s3 h4)))

/-- (*quaestor slot.Pair).place -/
def slot_Pair_place (p0 : Option Addr) (p1 : Int) (p2 : Int) (k : (Int) → Heap → Prop) (h : Heap) : Prop :=
  ∃ a1 : Addr, p0 = some a1 ∧ (∃ v2 : Int, cellH h (a1.add 1) = some (.int .i64 v2) ∧ (∃ v3 : Int, cellH h (a1.add 2) = some (.int .i64 v3) ∧ (k (IntKind.i64.wrap ((IntKind.i64.wrap (v2 + (IntKind.i64.wrap (p1 * v3)))) + p2)) h)))

/-- quaestor slot.parts -/
def slot_parts (p0 : Int) (k : (Int) → Heap → Prop) (h : Heap) : Prop :=
  ∃ x1 : Int, x1 = (if (IntKind.i64.wrap (Int.tdiv (IntKind.i64.wrap ((IntKind.i64.wrap (p0 + 104)) - 1)) 104)) > 1 then (IntKind.i64.wrap (Int.tdiv (IntKind.i64.wrap ((IntKind.i64.wrap (p0 + 104)) - 1)) 104)) else 1) ∧ (k x1 h)

/-- (*quaestor slot.Pair).whole -/
def slot_Pair_whole_j4 (t0_4 : Option Addr) (t1_4 : Int) (t7_4 : Slc) (t8_4 : Addr) (t9_4 : Int) (t10_4 : Slc) (t70_4 : Bool) (k : (Slc × Int × Bool) → Heap → Prop) (nx1 : (Slc × Int) → Heap → Prop) (h_4 : Heap) : Prop :=
  if t70_4 then (k ((⟨none, 0, 0⟩ : Slc), 0, false) h_4) else (∃ s20 : Slc, (0 : Int) ≤ (IntKind.i64.wrap ((t10_4.len : Int) - 104)) ∧ ((IntKind.i64.wrap ((t10_4.len : Int) - 104)) : Int) ≤ (t10_4.len : Int) ∧ ((t10_4.len : Int) : Int) ≤ (t10_4.cap : Int) ∧ (t10_4.cap : Int) ≤ (t10_4.cap : Int) ∧ s20 = subS t10_4 1 (IntKind.i64.wrap ((t10_4.len : Int) - 104)).toNat (t10_4.len : Int).toNat (t10_4.cap : Int).toNat ∧ (∃ l23 : List Value, SlcAt h_4 s20 l23 ∧ App 5 1 1 [.int .u8 0] h_4 t7_4 s20.len l23 (fun s21 h22 => ∃ x24 : Int, x24 = (IntKind.i64.wrap (t9_4 + 1)) ∧ (nx1 (s21, x24) h22))))
def slot_Pair_whole_j3 (t0_3 : Option Addr) (t1_3 : Int) (t7_3 : Slc) (t8_3 : Addr) (t9_3 : Int) (t10_3 : Slc) (t12_3 : Addr) (k : (Slc × Int × Bool) → Heap → Prop) (nx1 : (Slc × Int) → Heap → Prop) (h_3 : Heap) : Prop :=
  ∃ v15 : S_slot_head, CellsAt h_3 t8_3 (S_slot_head.cs v15) ∧ (∃ (b16 : Nat) (h17 : Heap), b16 = h_3.size ∧ h17 = h_3.push (.cells (S_slot_head.cs (⟨0, 0, 0, 0, 0⟩ : S_slot_head)).toArray 95) ∧ (∃ h18 : Heap, WrsAt h17 (⟨b16, 0, none⟩ : Addr) 5 ∧ h18 = setsH h17 (⟨b16, 0, none⟩ : Addr) 0 (S_slot_head.cs v15) ∧ (∃ h19 : Heap, WrH h18 ((⟨b16, 0, none⟩ : Addr).add 1) ∧ h19 = setH h18 ((⟨b16, 0, none⟩ : Addr).add 1) (.int .i64 t9_3) ∧ (∃ v25 : S_slot_head, CellsAt h19 t12_3 (S_slot_head.cs v25) ∧ (∃ v26 : S_slot_head, CellsAt h19 (⟨b16, 0, none⟩ : Addr) (S_slot_head.cs v26) ∧ (if (if BinOp.neq = .eql then ((v25.f_n == v26.f_n) && (v25.f_part == v26.f_part) && (v25.f_parts == v26.f_parts) && (v25.f_size == v26.f_size) && (v25.f_sum == v26.f_sum)) else !((v25.f_n == v26.f_n) && (v25.f_part == v26.f_part) && (v25.f_parts == v26.f_parts) && (v25.f_size == v26.f_size) && (v25.f_sum == v26.f_sum))) then (if true then (if true then (slot_Pair_whole_j4 t0_3 t1_3 t7_3 t8_3 t9_3 t10_3 true k nx1 h19) else (∃ v27 : Int, cellH h19 (t12_3.add 2) = some (.int .i64 v27) ∧ (∃ v28 : Int, cellH h19 (t12_3.add 3) = some (.int .i64 v28) ∧ (slot_parts v28 (fun (r29 : Int) h30 => cellH h30 (t12_3.add 2) = some (.int .i64 v27) ∧ (slot_Pair_whole_j4 t0_3 t1_3 t7_3 t8_3 t9_3 t10_3 (v27 != r29) k nx1 h30)) h19)))) else (∃ v32 : Int, cellH h19 (t12_3.add 2) = some (.int .i64 v32) ∧ (∃ a33 : Addr, t0_3 = some a33 ∧ (∃ v34 : Int, cellH h19 (a33.add 2) = some (.int .i64 v34) ∧ (if (decide (v32 > v34)) then (slot_Pair_whole_j4 t0_3 t1_3 t7_3 t8_3 t9_3 t10_3 true k nx1 h19) else (∃ v35 : Int, cellH h19 (t12_3.add 2) = some (.int .i64 v35) ∧ (∃ v36 : Int, cellH h19 (t12_3.add 3) = some (.int .i64 v36) ∧ (slot_parts v36 (fun (r37 : Int) h38 => cellH h38 (t12_3.add 2) = some (.int .i64 v35) ∧ (slot_Pair_whole_j4 t0_3 t1_3 t7_3 t8_3 t9_3 t10_3 (v35 != r37) k nx1 h38)) h19)))))))) else (∃ v40 : Int, cellH h19 (t12_3.add 2) = some (.int .i64 v40) ∧ (if (decide (v40 < 1)) then (if true then (slot_Pair_whole_j4 t0_3 t1_3 t7_3 t8_3 t9_3 t10_3 true k nx1 h19) else (∃ v41 : Int, cellH h19 (t12_3.add 2) = some (.int .i64 v41) ∧ (∃ v42 : Int, cellH h19 (t12_3.add 3) = some (.int .i64 v42) ∧ (slot_parts v42 (fun (r43 : Int) h44 => cellH h44 (t12_3.add 2) = some (.int .i64 v41) ∧ (slot_Pair_whole_j4 t0_3 t1_3 t7_3 t8_3 t9_3 t10_3 (v41 != r43) k nx1 h44)) h19)))) else (∃ v46 : Int, cellH h19 (t12_3.add 2) = some (.int .i64 v46) ∧ (∃ a47 : Addr, t0_3 = some a47 ∧ (∃ v48 : Int, cellH h19 (a47.add 2) = some (.int .i64 v48) ∧ (if (decide (v46 > v48)) then (slot_Pair_whole_j4 t0_3 t1_3 t7_3 t8_3 t9_3 t10_3 true k nx1 h19) else (∃ v49 : Int, cellH h19 (t12_3.add 2) = some (.int .i64 v49) ∧ (∃ v50 : Int, cellH h19 (t12_3.add 3) = some (.int .i64 v50) ∧ (slot_parts v50 (fun (r51 : Int) h52 => cellH h52 (t12_3.add 2) = some (.int .i64 v49) ∧ (slot_Pair_whole_j4 t0_3 t1_3 t7_3 t8_3 t9_3 t10_3 (v49 != r51) k nx1 h52)) h19)))))))))))))))
def slot_Pair_whole_g2 (t0_2 : Option Addr) (t1_2 : Int) (t7_2 : Slc) (t8_2 : Addr) (t9_2 : Int) (t21_2 : Bool) (k : (Slc × Int × Bool) → Heap → Prop) (nx1 : (Slc × Int) → Heap → Prop) (h_2 : Heap) : Prop :=
  if t21_2 then (∃ a3 : Addr, t0_2 = some a3 ∧ (∃ v4 : Option Addr, cellH h_2 a3 = some (.pointer v4) ∧ (slot_Pair_place t0_2 t1_2 t9_2 (fun (r5 : Int) h6 => cellH h6 a3 = some (.pointer v4) ∧ (disk_Disk_Read v4 r5 (fun (r8 : Slc × Int) h9 => if (r8.2 != 0) then (k ((⟨none, 0, 0⟩ : Slc), 0, false) h9) else (slot_headOf r8.1 (fun (r10 : S_slot_head) h11 => ∃ (b12 : Nat) (h13 : Heap), b12 = h11.size ∧ h13 = h11.push (.cells (S_slot_head.cs (⟨0, 0, 0, 0, 0⟩ : S_slot_head)).toArray 95) ∧ (∃ h14 : Heap, WrsAt h13 (⟨b12, 0, none⟩ : Addr) 5 ∧ h14 = setsH h13 (⟨b12, 0, none⟩ : Addr) 0 (S_slot_head.cs r10) ∧ (if (t9_2 == 0) then (∃ v54 : S_slot_head, CellsAt h14 (⟨b12, 0, none⟩ : Addr) (S_slot_head.cs v54) ∧ (∃ h55 : Heap, WrsAt h14 t8_2 5 ∧ h55 = setsH h14 t8_2 0 (S_slot_head.cs v54) ∧ (slot_Pair_whole_j3 t0_2 t1_2 t7_2 t8_2 t9_2 r8.1 (⟨b12, 0, none⟩ : Addr) k nx1 h55))) else (slot_Pair_whole_j3 t0_2 t1_2 t7_2 t8_2 t9_2 r8.1 (⟨b12, 0, none⟩ : Addr) k nx1 h14)))) h9)) h6)) h_2))) else (∃ v56 : Int, cellH h_2 (t8_2.add 3) = some (.int .i64 v56) ∧ (∃ s57 : Slc, (0 : Int) ≤ 0 ∧ (0 : Int) ≤ v56 ∧ (v56 : Int) ≤ (t7_2.cap : Int) ∧ (t7_2.cap : Int) ≤ (t7_2.cap : Int) ∧ s57 = subS t7_2 1 (0 : Int).toNat v56.toNat (t7_2.cap : Int).toNat ∧ (∃ v58 : Int, cellH h_2 (t8_2.add 4) = some (.int .u64 v58) ∧ (∃ (b59 : Nat) (h60 : Heap), b59 = h_2.size ∧ h60 = h_2.push (.cells ([Slc.v s57]).toArray 23) ∧ (cellH h60 (t8_2.add 4) = some (.int .u64 v58) ∧ (sha_Of (⟨some ⟨b59, 0, none⟩, 1, 1⟩ : Slc) (fun (r62 : List Int) h63 => cellH h63 (t8_2.add 4) = some (.int .u64 v58) ∧ (sha_Short r62 (fun (r65 : Int) h66 => cellH h66 (t8_2.add 4) = some (.int .u64 v58) ∧ (if (r65 != v58) then (k ((⟨none, 0, 0⟩ : Slc), 0, false) h66) else (∃ v68 : Int, cellH h66 t8_2 = some (.int .u64 v68) ∧ (k (s57, v68, true) h66)))) h63)) h60))))))
def slot_Pair_whole_l1b (t0_1 : Option Addr) (t1_1 : Int) (t8_1 : Addr) (t7_1 : Slc) (t9_1 : Int) (k : (Slc × Int × Bool) → Heap → Prop) (nx1 : (Slc × Int) → Heap → Prop) (h_1 : Heap) : Prop :=
  if (t9_1 == 0) then (slot_Pair_whole_g2 t0_1 t1_1 t7_1 t8_1 t9_1 true k nx1 h_1) else (∃ v69 : Int, cellH h_1 (t8_1.add 2) = some (.int .i64 v69) ∧ (slot_Pair_whole_g2 t0_1 t1_1 t7_1 t8_1 t9_1 (decide (t9_1 < v69)) k nx1 h_1))
def slot_Pair_whole_l1 (t0_1 : Option Addr) (t1_1 : Int) (t8_1 : Addr) (i7 : Slc) (i9 : Int) (k : (Slc × Int × Bool) → Heap → Prop) (h : Heap) : Prop :=
  ∃ (I : (Slc × Int) → Heap → Prop) (μ : (Slc × Int) → Heap → Nat), I (i7, i9) h ∧ ∀ (t7_1 : Slc) (t9_1 : Int) (h : Heap), I (t7_1, t9_1) h → slot_Pair_whole_l1b t0_1 t1_1 t8_1 t7_1 t9_1 k (fun s h' => I s h' ∧ μ s h' < μ (t7_1, t9_1) h) h
def slot_Pair_whole (p0 : Option Addr) (p1 : Int) (k : (Slc × Int × Bool) → Heap → Prop) (h : Heap) : Prop :=
  ∃ (b1 : Nat) (h2 : Heap), b1 = h.size ∧ h2 = h.push (.cells (S_slot_head.cs (⟨0, 0, 0, 0, 0⟩ : S_slot_head)).toArray 95) ∧ (slot_Pair_whole_l1 p0 p1 (⟨b1, 0, none⟩ : Addr) (⟨none, 0, 0⟩ : Slc) 0 k h2)

/-- (*quaestor slot.Pair).best -/
def slot_Pair_best_j2 (t0_2 : Option Addr) (t9_2 : Int) (t2_2 : Int) (t3_2 : Slc) (t4_2 : Int) (k : (Int × Slc × Int) → Heap → Prop) (nx1 : (Int × Slc × Int × Int) → Heap → Prop) (h_2 : Heap) : Prop :=
  nx1 (t2_2, t3_2, t4_2, (IntKind.i64.wrap (t9_2 + 1))) h_2
def slot_Pair_best_l1b (t0_1 : Option Addr) (t2_1 : Int) (t3_1 : Slc) (t4_1 : Int) (t9_1 : Int) (k : (Int × Slc × Int) → Heap → Prop) (nx1 : (Int × Slc × Int × Int) → Heap → Prop) (h_1 : Heap) : Prop :=
  if (decide (t9_1 < 2)) then (slot_Pair_whole t0_1 t9_1 (fun (r2 : Slc × Int × Bool) h3 => if (r2.2.2 && ((decide (t2_1 < 0)) || (decide (r2.2.1 > t4_1)))) then (slot_Pair_best_j2 t0_1 t9_1 t9_1 r2.1 r2.2.1 k nx1 h3) else (slot_Pair_best_j2 t0_1 t9_1 t2_1 t3_1 t4_1 k nx1 h3)) h_1) else (k (t2_1, t3_1, t4_1) h_1)
def slot_Pair_best_l1 (t0_1 : Option Addr) (i2 : Int) (i3 : Slc) (i4 : Int) (i9 : Int) (k : (Int × Slc × Int) → Heap → Prop) (h : Heap) : Prop :=
  ∃ (I : (Int × Slc × Int × Int) → Heap → Prop) (μ : (Int × Slc × Int × Int) → Heap → Nat), I (i2, i3, i4, i9) h ∧ ∀ (t2_1 : Int) (t3_1 : Slc) (t4_1 : Int) (t9_1 : Int) (h : Heap), I (t2_1, t3_1, t4_1, t9_1) h → slot_Pair_best_l1b t0_1 t2_1 t3_1 t4_1 t9_1 k (fun s h' => I s h' ∧ μ s h' < μ (t2_1, t3_1, t4_1, t9_1) h) h
def slot_Pair_best (p0 : Option Addr) (k : (Int × Slc × Int) → Heap → Prop) (h : Heap) : Prop :=
  ∃ x1 : Int, x1 = (-1) ∧ (slot_Pair_best_l1 p0 x1 (⟨none, 0, 0⟩ : Slc) 0 0 k h)

/-- (*quaestor slot.Pair).Load -/
def slot_Pair_Load (p0 : Option Addr) (k : (Slc × Int × Int) → Heap → Prop) (h : Heap) : Prop :=
  if (p0.isNone) then (k ((⟨none, 0, 0⟩ : Slc), 0, 6) h) else (slot_Pair_best p0 (fun (r1 : Int × Slc × Int) h2 => if (decide (r1.1 < 0)) then (k ((⟨none, 0, 0⟩ : Slc), 0, 6) h2) else (k (r1.2.1, r1.2.2, 0) h2)) h)

/-- (*quaestor slot.Pair).greatest -/
def slot_Pair_greatest_j2 (t0_2 : Option Addr) (t11_2 : Int) (t12_2 : Int) (t3_2 : Int) (k : (Int) → Heap → Prop) (nx1 : (Int × Int) → Heap → Prop) (h_2 : Heap) : Prop :=
  nx1 (t3_2, (IntKind.i64.wrap (t12_2 + 1))) h_2
def slot_Pair_greatest_l1b (t0_1 : Option Addr) (t11_1 : Int) (t3_1 : Int) (t12_1 : Int) (k : (Int) → Heap → Prop) (nx1 : (Int × Int) → Heap → Prop) (h_1 : Heap) : Prop :=
  if (decide (t12_1 < t11_1)) then (∃ a3 : Addr, t0_1 = some a3 ∧ (∃ v4 : Option Addr, cellH h_1 a3 = some (.pointer v4) ∧ (∃ v5 : Int, cellH h_1 (a3.add 1) = some (.int .i64 v5) ∧ (disk_Disk_Read v4 (IntKind.i64.wrap (v5 + t12_1)) (fun (r6 : Slc × Int) h7 => if (r6.2 == 0) then (slot_headOf r6.1 (fun (r8 : S_slot_head) h9 => ∃ x10 : Int, x10 = (if r8.f_n > t3_1 then r8.f_n else t3_1) ∧ (slot_Pair_greatest_j2 t0_1 t11_1 t12_1 x10 k nx1 h9)) h7) else (slot_Pair_greatest_j2 t0_1 t11_1 t12_1 t3_1 k nx1 h7)) h_1)))) else (k t3_1 h_1)
def slot_Pair_greatest_l1 (t0_1 : Option Addr) (t11_1 : Int) (i3 : Int) (i12 : Int) (k : (Int) → Heap → Prop) (h : Heap) : Prop :=
  ∃ (I : (Int × Int) → Heap → Prop) (μ : (Int × Int) → Heap → Nat), I (i3, i12) h ∧ ∀ (t3_1 : Int) (t12_1 : Int) (h : Heap), I (t3_1, t12_1) h → slot_Pair_greatest_l1b t0_1 t11_1 t3_1 t12_1 k (fun s h' => I s h' ∧ μ s h' < μ (t3_1, t12_1) h) h
def slot_Pair_greatest (p0 : Option Addr) (k : (Int) → Heap → Prop) (h : Heap) : Prop :=
  ∃ a1 : Addr, p0 = some a1 ∧ (∃ v2 : Int, cellH h (a1.add 2) = some (.int .i64 v2) ∧ (slot_Pair_greatest_l1 p0 (IntKind.i64.wrap (2 * v2)) 0 0 k h))

/-- (*quaestor slot.Pair).lay -/
def slot_Pair_lay_j2 (t0_2 : Option Addr) (t13_2 : Addr) (k : (Int × Int) → Heap → Prop) (h_2 : Heap) : Prop :=
  ∃ a20 : Addr, t0_2 = some a20 ∧ (∃ v21 : Option Addr, cellH h_2 a20 = some (.pointer v21) ∧ (disk_Disk_Sync v21 (fun (r22 : Int) h23 => if (r22 != 0) then (k (0, r22) h23) else (∃ v24 : Int, cellH h23 t13_2 = some (.int .u64 v24) ∧ (k (v24, 0) h23))) h_2))
def slot_Pair_lay_j4 (t0_4 : Option Addr) (t1_4 : Slc) (t2_4 : Bool) (t8_4 : Int) (t12_4 : Int) (t13_4 : Addr) (t14_4 : Int) (t54_4 : Int) (t55_4 : Int) (t15_4 : Slc) (k : (Int × Int) → Heap → Prop) (nx3 : (Int) → Heap → Prop) (h_4 : Heap) : Prop :=
  ∃ a27 : Addr, t0_4 = some a27 ∧ (∃ v28 : Option Addr, cellH h_4 a27 = some (.pointer v28) ∧ (slot_Pair_place t0_4 t12_4 t14_4 (fun (r29 : Int) h30 => cellH h30 a27 = some (.pointer v28) ∧ (disk_Disk_Write v28 r29 t15_4 (fun (r32 : Int) h33 => if (r32 != 0) then (k (0, r32) h33) else (nx3 (IntKind.i64.wrap (t55_4 + 1)) h33)) h30)) h_4))
def slot_Pair_lay_l3b (t0_3 : Option Addr) (t1_3 : Slc) (t2_3 : Bool) (t8_3 : Int) (t12_3 : Int) (t13_3 : Addr) (t54_3 : Int) (t55_3 : Int) (k : (Int × Int) → Heap → Prop) (nx3 : (Int) → Heap → Prop) (h_3 : Heap) : Prop :=
  if (decide (t55_3 < t54_3)) then (if (decide (t55_3 < t8_3)) then (∃ h34 : Heap, WrH h_3 (t13_3.add 1) ∧ h34 = setH h_3 (t13_3.add 1) (.int .i64 t55_3) ∧ (∃ v35 : S_slot_head, CellsAt h34 t13_3 (S_slot_head.cs v35) ∧ (∃ s36 : Slc, (0 : Int) ≤ (IntKind.i64.wrap (t55_3 * 104)) ∧ ((IntKind.i64.wrap (t55_3 * 104)) : Int) ≤ (if (IntKind.i64.wrap ((IntKind.i64.wrap (t55_3 * 104)) + 104)) < (t1_3.len : Int) then (IntKind.i64.wrap ((IntKind.i64.wrap (t55_3 * 104)) + 104)) else (t1_3.len : Int)) ∧ ((if (IntKind.i64.wrap ((IntKind.i64.wrap (t55_3 * 104)) + 104)) < (t1_3.len : Int) then (IntKind.i64.wrap ((IntKind.i64.wrap (t55_3 * 104)) + 104)) else (t1_3.len : Int)) : Int) ≤ (t1_3.cap : Int) ∧ (t1_3.cap : Int) ≤ (t1_3.cap : Int) ∧ s36 = subS t1_3 1 (IntKind.i64.wrap (t55_3 * 104)).toNat (if (IntKind.i64.wrap ((IntKind.i64.wrap (t55_3 * 104)) + 104)) < (t1_3.len : Int) then (IntKind.i64.wrap ((IntKind.i64.wrap (t55_3 * 104)) + 104)) else (t1_3.len : Int)).toNat (t1_3.cap : Int).toNat ∧ (slot_head_bytes v35 (fun (r37 : Slc) h38 => bytes_Clone s36 (fun (r39 : Slc) h40 => ∃ (b41 : Nat) (h42 : Heap), b41 = h40.size ∧ h42 = h40.push (.cells ([Slc.v r37, Slc.v r39]).toArray 23) ∧ (slices_Concat_byte_byte (⟨some ⟨b41, 0, none⟩, 2, 2⟩ : Slc) (fun (r43 : Slc) h44 => slot_Pair_lay_j4 t0_3 t1_3 t2_3 t8_3 t12_3 t13_3 t55_3 t54_3 t55_3 r43 k nx3 h44) h42)) h38) h34)))) else (if (!t2_3) then (slot_Pair_lay_j2 t0_3 t13_3 k h_3) else (slot_Pair_lay_j4 t0_3 t1_3 t2_3 t8_3 t12_3 t13_3 t55_3 t54_3 t55_3 (⟨none, 0, 0⟩ : Slc) k nx3 h_3))) else (slot_Pair_lay_j2 t0_3 t13_3 k h_3)
def slot_Pair_lay_l3 (t0_3 : Option Addr) (t1_3 : Slc) (t2_3 : Bool) (t8_3 : Int) (t12_3 : Int) (t13_3 : Addr) (t54_3 : Int) (i55 : Int) (k : (Int × Int) → Heap → Prop) (h : Heap) : Prop :=
  ∃ (I : Int → Heap → Prop) (μ : Int → Heap → Nat), I i55 h ∧ ∀ (t55_3 : Int) (h : Heap), I t55_3 h → slot_Pair_lay_l3b t0_3 t1_3 t2_3 t8_3 t12_3 t13_3 t54_3 t55_3 k (fun s h' => I s h' ∧ μ s h' < μ t55_3 h) h
def slot_Pair_lay_j1 (t0_1 : Option Addr) (t1_1 : Slc) (t2_1 : Bool) (t8_1 : Int) (t12_1 : Int) (k : (Int × Int) → Heap → Prop) (h_1 : Heap) : Prop :=
  slot_Pair_greatest t0_1 (fun (r9 : Int) h10 => ∃ (b11 : Nat) (h12 : Heap), b11 = h10.size ∧ h12 = h10.push (.cells ([Slc.v t1_1]).toArray 23) ∧ (sha_Of (⟨some ⟨b11, 0, none⟩, 1, 1⟩ : Slc) (fun (r13 : List Int) h14 => sha_Short r13 (fun (r15 : Int) h16 => ∃ (b17 : Nat) (h18 : Heap), b17 = h16.size ∧ h18 = h16.push (.cells (S_slot_head.cs (⟨0, 0, 0, 0, 0⟩ : S_slot_head)).toArray 95) ∧ (∃ h19 : Heap, WrsAt h18 (⟨b17, 0, none⟩ : Addr) 5 ∧ h19 = setsH h18 (⟨b17, 0, none⟩ : Addr) 0 (S_slot_head.cs (⟨(IntKind.u64.wrap (r9 + 1)), 0, t8_1, (t1_1.len : Int), r15⟩ : S_slot_head)) ∧ (∃ a25 : Addr, t0_1 = some a25 ∧ (∃ v26 : Int, cellH h19 (a25.add 2) = some (.int .i64 v26) ∧ (slot_Pair_lay_l3 t0_1 t1_1 t2_1 t8_1 t12_1 (⟨b17, 0, none⟩ : Addr) v26 0 k h19))))) h14) h12)) h_1
def slot_Pair_lay (p0 : Option Addr) (p1 : Slc) (p2 : Bool) (k : (Int × Int) → Heap → Prop) (h : Heap) : Prop :=
  slot_parts (p1.len : Int) (fun (r1 : Int) h2 => ∃ a3 : Addr, p0 = some a3 ∧ (∃ v4 : Int, cellH h2 (a3.add 2) = some (.int .i64 v4) ∧ (if (decide (r1 > v4)) then (k (0, 3) h2) else (slot_Pair_greatest p0 (fun (r5 : Int) h6 => if (decide (r5 ≥ 4611686018427387904)) then (k (0, 12) h6) else (slot_Pair_best p0 (fun (r7 : Int × Slc × Int) h8 => if (r7.1 == 0) then (slot_Pair_lay_j1 p0 p1 p2 r1 1 k h8) else (slot_Pair_lay_j1 p0 p1 p2 r1 0 k h8)) h6)) h2)))) h

/-- (*quaestor slot.Pair).Save -/
def slot_Pair_Save (p0 : Option Addr) (p1 : Slc) (k : (Int × Int) → Heap → Prop) (h : Heap) : Prop :=
  if (p0.isNone) then (k (0, 10) h) else (slot_Pair_lay p0 p1 false (fun (r1 : Int × Int) h2 => k (r1.1, r1.2) h2) h)

/-- (*quaestor slot.Pair).Wipe -/
def slot_Pair_Wipe (p0 : Option Addr) (p1 : Slc) (k : (Int × Int) → Heap → Prop) (h : Heap) : Prop :=
  if (p0.isNone) then (k (0, 10) h) else (slot_Pair_lay p0 p1 true (fun (r1 : Int × Int) h2 => if (r1.2 != 0) then (k (0, r1.2) h2) else (slot_Pair_lay p0 p1 true (fun (r3 : Int × Int) h4 => k (r3.1, r3.2) h4) h2)) h)

/-- quaestor slot.Open -/
def slot_Open (p0 : Option Addr) (p1 : Int) (p2 : Int) (k : (Option Addr × Int) → Heap → Prop) (h : Heap) : Prop :=
  if (((((p0.isNone) || (decide (p2 < 1))) || (decide (p2 > 1024))) || (decide (p1 < 0))) || (decide (p1 > (IntKind.i64.wrap (1024 - (IntKind.i64.wrap (2 * p2))))))) then (k (none, 1) h) else (∃ (b1 : Nat) (h2 : Heap), b1 = h.size ∧ h2 = h.push (.cells (S_slot_Pair.cs (⟨p0, p1, p2⟩ : S_slot_Pair)).toArray 76) ∧ (k ((some (⟨b1, 0, none⟩ : Addr)), 0) h2))

theorem slices_Clone_byte_byte_ok : CallOk Go.Proofs.Tryd.prog 53 := ⟨_, Go.Proofs.Tryd.func53, by kernel_rfl, by kernel_rfl⟩
theorem slices_Clone_byte_byte_ref (p0 : Slc) (k : (Slc) → Heap → Prop) (h : Heap) (H : slices_Clone_byte_byte p0 k h) : CallsH Go.Proofs.Tryd.prog 53 #[Slc.v p0] h (fun v h' => ∃ r : Slc, v = Slc.v r ∧ k r h') := by
  refine f_enter (N := 8) Go.Proofs.Tryd.func53 rfl rfl rfl (fun w0 => ?_)
  unfold slices_Clone_byte_byte at H
  refine c_weak [(0, Slc.v p0)] ⟨rfl, trivial⟩ ?_
  refine c_seq ?_
  refine c_region ?_
  refine w_p tok rfl rfl rfl ?_
  refine w_end ?_
  refine x_seq ?_
  refine c_seq ?_
  refine c_seq ?_
  refine c_region ?_
  refine w_p tok rfl rfl rfl ?_
  refine w_p tok rfl rfl rfl ?_
  refine w_end ?_
  refine x_seq ?_
  refine c_if H rfl (fun H => ?_) (fun H => ?_)
  ·
    refine c_seq ?_
    refine c_region ?_
    refine w_p tok rfl rfl rfl ?_
    refine w_end ?_
    refine x_seq ?_
    refine c_ret ?_
    refine x_tr ?_
    exact x_ret _ rfl _ rfl ⟨(⟨none, 0, 0⟩ : Slc), rfl, H⟩
  ·
    refine c_skip ?_
    refine x_seq ?_
    refine c_seq ?_
    refine c_region ?_
    obtain ⟨b1, h2, eb1, eh2, H⟩ := H
    refine w_h (h_bs tok rfl rfl rfl rfl rfl rfl rfl eb1 eh2) rfl rfl ?_
    refine w_p tok rfl rfl rfl ?_
    obtain ⟨l5, hl5, H⟩ := H
    refine w_a (a_app (s := (⟨some ⟨b1, 0, none⟩, 0, 0⟩ : Slc)) (r := p0) tok rfl rfl rfl rfl rfl hl5 H) rfl rfl ?_
    rintro _ h4 ⟨s3, rfl, H⟩
    refine w_p tok rfl rfl rfl ?_
    refine w_end ?_
    refine x_seq ?_
    refine c_ret ?_
    exact x_ret _ rfl _ rfl ⟨s3, rfl, H⟩

theorem num_Put_ok : CallOk Go.Proofs.Tryd.prog 38 := ⟨_, Go.Proofs.Tryd.func38, by kernel_rfl, by kernel_rfl⟩
theorem num_Put_ref (p0 : Slc) (p1 : Int) (p2 : Int) (k : (Slc) → Heap → Prop) (h : Heap) (H : num_Put p0 p1 p2 k h) : CallsH Go.Proofs.Tryd.prog 38 #[Slc.v p0, .int .u64 p1, .int .i64 p2] h (fun v h' => ∃ r : Slc, v = Slc.v r ∧ k r h') := by
  refine f_enter (N := 25) Go.Proofs.Tryd.func38 rfl rfl rfl (fun w0 => ?_)
  unfold num_Put at H
  refine c_weak [(0, Slc.v p0), (1, .int .u64 p1), (2, .int .i64 p2)] ⟨rfl, rfl, rfl, trivial⟩ ?_
  refine c_seq ?_
  refine c_region ?_
  refine w_p tok rfl rfl rfl ?_
  refine w_end ?_
  refine x_seq ?_
  refine c_seq ?_
  refine c_region ?_
  refine w_p tok rfl rfl rfl ?_
  refine w_call slices_Clone_byte_byte_ok (slices_Clone_byte_byte_ref _ _ _ H) rfl rfl rfl rfl ?_
  rintro _ h2 ⟨r1, rfl, H⟩
  refine w_p tok rfl rfl rfl ?_
  refine w_end ?_
  refine x_seq ?_
  refine c_seq ?_
  refine c_seq ?_
  refine c_region ?_
  refine w_p tok rfl rfl rfl ?_
  refine w_p tok rfl rfl rfl ?_
  refine w_end ?_
  refine x_seq ?_
  refine c_if H rfl (fun H => ?_) (fun H => ?_)
  ·
    refine c_seq ?_
    refine c_region ?_
    refine w_p tok rfl rfl rfl ?_
    refine w_p tok rfl rfl rfl ?_
    refine w_end ?_
    refine x_seq ?_
    refine c_weak [(6, Slc.v r1)] ⟨rfl, trivial⟩ ?_
    refine c_ret ?_
    refine x_tr ?_
    exact x_ret _ rfl _ rfl ⟨r1, rfl, H⟩
  ·
    refine c_skip ?_
    refine x_seq ?_
    refine c_seq ?_
    refine c_seq ?_
    refine c_region ?_
    refine w_p tok rfl rfl rfl ?_
    refine w_p tok rfl rfl rfl ?_
    refine w_end ?_
    refine x_seq ?_
    refine c_weak [(1, .int .u64 p1), (7, Slc.v r1), (13, .int .i64 p2), (14, .int .i64 0)] ⟨rfl, rfl, rfl, rfl, trivial⟩ ?_
    refine c_block ?_
    obtain ⟨I1, μ1, H0, HI⟩ := H
    refine c_loop (σ := Int × Slc × Int) (fun (s : Int × Slc × Int) => [(1, .int .u64 s.1), (7, Slc.v s.2.1), (14, .int .i64 s.2.2), (13, .int .i64 p2)]) I1 μ1 (p1, r1, 0) H0 ⟨rfl, rfl, rfl, rfl, trivial⟩ ?_
    rintro ⟨t1_1, t7_1, t14_1⟩ h_1 H
    replace H := HI t1_1 t7_1 t14_1 h_1 H
    unfold num_Put_l1b at H
    refine c_weak [(1, .int .u64 t1_1), (7, Slc.v t7_1), (14, .int .i64 t14_1), (13, .int .i64 p2)] ⟨rfl, rfl, rfl, rfl, trivial⟩ ?_
    refine c_seq ?_
    refine c_region ?_
    refine w_p tok rfl rfl rfl ?_
    refine w_end ?_
    refine x_seq ?_
    refine c_seq ?_
    refine c_if H rfl (fun H => ?_) (fun H => ?_)
    ·
      refine c_skip ?_
      refine x_seq ?_
      refine c_seq ?_
      refine c_block ?_
      refine c_seq ?_
      refine c_region ?_
      refine w_p tok rfl rfl rfl ?_
      refine w_p tok rfl rfl rfl ?_
      refine w_p tok rfl rfl rfl ?_
      obtain ⟨b3, h4, eb3, eh4, H⟩ := H
      refine w_h (h_bs tok rfl rfl rfl rfl rfl rfl rfl eb3 eh4) rfl rfl ?_
      refine w_a (a_app (s := t7_1) (r := (⟨some ⟨b3, 0, none⟩, 1, 1⟩ : Slc)) tok rfl rfl rfl rfl rfl (slcAt_push eb3 eh4) H) rfl rfl ?_
      rintro _ h6 ⟨s5, rfl, H⟩
      refine w_p tok rfl rfl rfl ?_
      refine w_end ?_
      refine x_seq ?_
      refine c_region ?_
      refine w_p tok rfl rfl rfl ?_
      refine w_p tok rfl rfl rfl ?_
      obtain ⟨x7, ex7, H⟩ := H
      refine w_pe tok rfl (congrArg (fun z => (.int .u64 z : Value)) ex7) rfl rfl ?_
      refine w_end ?_
      refine x_blk ?_
      refine x_seq ?_
      refine c_weak [(1, .int .u64 x7), (7, Slc.v s5), (14, .int .i64 t14_1), (13, .int .i64 p2)] ⟨rfl, rfl, rfl, rfl, trivial⟩ ?_
      refine c_region ?_
      refine w_p tok rfl rfl rfl ?_
      refine w_p tok rfl rfl rfl ?_
      refine w_end ?_
      exact x_join (x7, s5, (IntKind.i64.wrap (t14_1 + 1))) H ⟨rfl, rfl, rfl, rfl, trivial⟩
    ·
      refine c_exit ?_
      refine x_te ?_
      refine x_te ?_
      refine x_bh ?_
      refine x_seq ?_
      refine c_seq ?_
      refine c_region ?_
      refine w_p tok rfl rfl rfl ?_
      refine w_p tok rfl rfl rfl ?_
      refine w_end ?_
      refine x_seq ?_
      refine c_ret ?_
      exact x_ret _ rfl _ rfl ⟨t7_1, rfl, H⟩

theorem slot_field_ok : CallOk Go.Proofs.Tryd.prog 75 := ⟨_, Go.Proofs.Tryd.func75, by kernel_rfl, by kernel_rfl⟩
theorem slot_field_ref (p0 : Slc) (p1 : Int) (p2 : Int) (k : (Int) → Heap → Prop) (h : Heap) (H : slot_field p0 p1 p2 k h) : CallsH Go.Proofs.Tryd.prog 75 #[Slc.v p0, .int .i64 p1, .int .i64 p2] h (fun v h' => ∃ r : Int, v = .int .i64 r ∧ k r h') := by
  refine f_enter (N := 19) Go.Proofs.Tryd.func75 rfl rfl rfl (fun w0 => ?_)
  unfold slot_field at H
  refine c_weak [(0, Slc.v p0), (1, .int .i64 p1), (2, .int .i64 p2)] ⟨rfl, rfl, rfl, trivial⟩ ?_
  refine c_seq ?_
  refine c_region ?_
  refine w_p tok rfl rfl rfl ?_
  refine w_end ?_
  refine x_seq ?_
  refine c_seq ?_
  refine c_region ?_
  refine w_p tok rfl rfl rfl ?_
  refine w_p tok rfl rfl rfl ?_
  obtain ⟨s1, ps1, qs1, rs1, ts1, es1, H⟩ := H
  refine w_ye (y_sl (s := p0) (L := p1) (H := (p0.len : Int)) (M := (p0.cap : Int)) tok rfl rfl rfl rfl rfl rfl rfl (by simp) ps1 qs1 rs1 ts1) (congrArg Slc.v es1) rfl rfl ?_
  refine w_p tok rfl rfl rfl ?_
  refine w_call num_Get_ok (num_Get_ref _ _ _ _ H) rfl rfl rfl rfl ?_
  rintro _ h3 ⟨r2, rfl, H⟩
  refine w_p tok rfl rfl rfl ?_
  refine w_p tok rfl rfl rfl ?_
  refine w_p tok rfl rfl rfl ?_
  refine w_p tok rfl rfl rfl ?_
  refine w_p tok rfl rfl rfl ?_
  refine w_end ?_
  refine x_seq ?_
  refine c_weak [(7, .int .u64 r2.1)] ⟨rfl, trivial⟩ ?_
  refine c_seq ?_
  refine c_region ?_
  refine w_p tok rfl rfl rfl ?_
  refine w_p tok rfl rfl rfl ?_
  obtain ⟨x4, ex4, H⟩ := H
  refine w_pe tok rfl (congrArg (fun z => (.int .i64 z : Value)) ex4) rfl rfl ?_
  refine w_end ?_
  refine x_seq ?_
  refine c_ret ?_
  exact x_ret _ rfl _ rfl ⟨x4, rfl, H⟩

theorem slot_headOf_ok : CallOk Go.Proofs.Tryd.prog 60 := ⟨_, Go.Proofs.Tryd.func60, by kernel_rfl, by kernel_rfl⟩
theorem slot_headOf_ref (p0 : Slc) (k : (S_slot_head) → Heap → Prop) (h : Heap) (H : slot_headOf p0 k h) : CallsH Go.Proofs.Tryd.prog 60 #[Slc.v p0] h (fun v h' => ∃ r : S_slot_head, v = .agg (S_slot_head.cs r).toArray ∧ k r h') := by
  refine f_enter (N := 27) Go.Proofs.Tryd.func60 rfl rfl rfl (fun w0 => ?_)
  unfold slot_headOf at H
  refine c_weak [(0, Slc.v p0)] ⟨rfl, trivial⟩ ?_
  refine c_seq ?_
  refine c_region ?_
  obtain ⟨b1, h2, eb1, eh2, H⟩ := H
  refine w_h (h_alloc tok rfl rfl eb1 eh2) rfl rfl ?_
  refine w_end ?_
  refine x_seq ?_
  refine c_seq ?_
  refine c_region ?_
  refine w_p tok rfl rfl rfl ?_
  refine w_call num_Get_ok (num_Get_ref _ _ _ _ H) rfl rfl rfl rfl ?_
  rintro _ h4 ⟨r3, rfl, H⟩
  refine w_p tok rfl rfl rfl ?_
  refine w_p tok rfl rfl rfl ?_
  refine w_p tok rfl rfl rfl ?_
  refine w_p tok rfl rfl rfl ?_
  refine w_p tok rfl rfl rfl ?_
  refine w_end ?_
  refine x_seq ?_
  refine c_seq ?_
  refine c_region ?_
  refine w_p tok rfl rfl rfl ?_
  obtain ⟨s5, ps5, qs5, rs5, ts5, es5, H⟩ := H
  refine w_ye (y_sl (s := p0) (L := 16) (H := (p0.len : Int)) (M := (p0.cap : Int)) tok rfl rfl rfl rfl rfl rfl rfl (by simp) ps5 qs5 rs5 ts5) (congrArg Slc.v es5) rfl rfl ?_
  refine w_call num_Get_ok (num_Get_ref _ _ _ _ H) rfl rfl rfl rfl ?_
  rintro _ h7 ⟨r6, rfl, H⟩
  refine w_p tok rfl rfl rfl ?_
  refine w_p tok rfl rfl rfl ?_
  refine w_p tok rfl rfl rfl ?_
  refine w_p tok rfl rfl rfl ?_
  refine w_p tok rfl rfl rfl ?_
  refine w_end ?_
  refine x_seq ?_
  refine c_weak [(0, Slc.v p0), (2, .pointer (some (⟨b1, 0, none⟩ : Addr))), (3, .int .u64 r3.1), (5, .int .u64 r6.1)] ⟨rfl, rfl, rfl, rfl, trivial⟩ ?_
  refine c_seq ?_
  refine c_region ?_
  refine w_p tok rfl rfl rfl ?_
  refine w_p tok rfl rfl rfl ?_
  refine w_call slot_field_ok (slot_field_ref _ _ _ _ _ H) rfl rfl rfl rfl ?_
  rintro _ h9 ⟨r8, rfl, H⟩
  refine w_p tok rfl rfl rfl ?_
  refine w_call slot_field_ok (slot_field_ref _ _ _ _ _ H) rfl rfl rfl rfl ?_
  rintro _ h11 ⟨r10, rfl, H⟩
  refine w_p tok rfl rfl rfl ?_
  refine w_call slot_field_ok (slot_field_ref _ _ _ _ _ H) rfl rfl rfl rfl ?_
  rintro _ h13 ⟨r12, rfl, H⟩
  refine w_p tok rfl rfl rfl ?_
  refine w_y (y_build tok rfl rfl rfl rfl rfl) rfl rfl ?_
  obtain ⟨h14, wh14, eh14, H⟩ := H
  refine w_h (h_sts tok rfl rfl rfl rfl rfl (oneC (by kernel_rfl)) wh14 eh14) rfl rfl ?_
  refine w_end ?_
  refine x_seq ?_
  refine c_weak [(2, .pointer (some (⟨b1, 0, none⟩ : Addr)))] ⟨rfl, trivial⟩ ?_
  refine c_ret ?_
  obtain ⟨v15, hv15, H⟩ := H
  exact x_retc tok _ rfl [.agg (S_slot_head.cs v15).toArray] ⟨⟨_, _, rfl, rfl, .inr ⟨rfl, _, rfl, rfl, hv15⟩⟩, trivial⟩ ⟨v15, rfl, H⟩

theorem slot_head_bytes_ok : CallOk Go.Proofs.Tryd.prog 50 := ⟨_, Go.Proofs.Tryd.func50, by kernel_rfl, by kernel_rfl⟩
theorem slot_head_bytes_ref (p0 : S_slot_head) (k : (Slc) → Heap → Prop) (h : Heap) (H : slot_head_bytes p0 k h) : CallsH Go.Proofs.Tryd.prog 50 #[.agg (S_slot_head.cs p0).toArray] h (fun v h' => ∃ r : Slc, v = Slc.v r ∧ k r h') := by
  refine f_enter (N := 26) Go.Proofs.Tryd.func50 rfl rfl rfl (fun w0 => ?_)
  unfold slot_head_bytes at H
  refine c_weak [(0, .agg (S_slot_head.cs p0).toArray)] ⟨rfl, trivial⟩ ?_
  refine c_seq ?_
  refine c_region ?_
  obtain ⟨b1, h2, eb1, eh2, H⟩ := H
  refine w_h (h_box rfl rfl eb1 eh2) rfl rfl ?_
  refine w_p tok rfl rfl rfl ?_
  refine w_end ?_
  refine x_seq ?_
  refine c_seq ?_
  refine c_region ?_
  refine w_p tok rfl rfl rfl ?_
  obtain ⟨v3, hv3, H⟩ := H
  refine w_y (y_ld tok rfl rfl rfl rfl hv3) rfl rfl ?_
  refine w_call num_Put_ok (num_Put_ref _ _ _ _ _ H) rfl rfl rfl rfl ?_
  rintro _ h5 ⟨r4, rfl, H⟩
  refine w_p tok rfl rfl rfl ?_
  refine w_end ?_
  refine x_seq ?_
  refine c_seq ?_
  refine c_region ?_
  refine w_p tok rfl rfl rfl ?_
  refine w_p tok rfl rfl rfl ?_
  obtain ⟨v6, hv6, H⟩ := H
  refine w_y (y_ld tok rfl rfl rfl rfl hv6) rfl rfl ?_
  refine w_p tok rfl rfl rfl ?_
  refine w_call num_Put_ok (num_Put_ref _ _ _ _ _ H) rfl rfl rfl rfl ?_
  rintro _ h8 ⟨r7, rfl, H⟩
  refine w_p tok rfl rfl rfl ?_
  refine w_end ?_
  refine x_seq ?_
  refine c_weak [(1, .pointer (some (⟨b1, 0, none⟩ : Addr))), (3, Slc.v r7)] ⟨rfl, rfl, trivial⟩ ?_
  refine c_seq ?_
  refine c_region ?_
  refine w_p tok rfl rfl rfl ?_
  refine w_p tok rfl rfl rfl ?_
  obtain ⟨v9, hv9, H⟩ := H
  refine w_y (y_ld tok rfl rfl rfl rfl hv9) rfl rfl ?_
  refine w_p tok rfl rfl rfl ?_
  refine w_call num_Put_ok (num_Put_ref _ _ _ _ _ H) rfl rfl rfl rfl ?_
  rintro _ h11 ⟨r10, rfl, H⟩
  refine w_p tok rfl rfl rfl ?_
  refine w_end ?_
  refine x_seq ?_
  refine c_seq ?_
  refine c_region ?_
  refine w_p tok rfl rfl rfl ?_
  refine w_p tok rfl rfl rfl ?_
  obtain ⟨v12, hv12, H⟩ := H
  refine w_y (y_ld tok rfl rfl rfl rfl hv12) rfl rfl ?_
  refine w_p tok rfl rfl rfl ?_
  refine w_call num_Put_ok (num_Put_ref _ _ _ _ _ H) rfl rfl rfl rfl ?_
  rintro _ h14 ⟨r13, rfl, H⟩
  refine w_p tok rfl rfl rfl ?_
  refine w_end ?_
  refine x_seq ?_
  refine c_weak [(1, .pointer (some (⟨b1, 0, none⟩ : Addr))), (3, Slc.v r13)] ⟨rfl, rfl, trivial⟩ ?_
  refine c_seq ?_
  refine c_region ?_
  refine w_p tok rfl rfl rfl ?_
  refine w_p tok rfl rfl rfl ?_
  obtain ⟨v15, hv15, H⟩ := H
  refine w_y (y_ld tok rfl rfl rfl rfl hv15) rfl rfl ?_
  refine w_call num_Put_ok (num_Put_ref _ _ _ _ _ H) rfl rfl rfl rfl ?_
  rintro _ h17 ⟨r16, rfl, H⟩
  refine w_p tok rfl rfl rfl ?_
  refine w_end ?_
  refine x_seq ?_
  refine c_ret ?_
  exact x_ret _ rfl _ rfl ⟨r16, rfl, H⟩

theorem bytes_Clone_ok : CallOk Go.Proofs.Tryd.prog 51 := ⟨_, Go.Proofs.Tryd.func51, by kernel_rfl, by kernel_rfl⟩
theorem bytes_Clone_ref (p0 : Slc) (k : (Slc) → Heap → Prop) (h : Heap) (H : bytes_Clone p0 k h) : CallsH Go.Proofs.Tryd.prog 51 #[Slc.v p0] h (fun v h' => ∃ r : Slc, v = Slc.v r ∧ k r h') := by
  refine f_enter (N := 8) Go.Proofs.Tryd.func51 rfl rfl rfl (fun w0 => ?_)
  unfold bytes_Clone at H
  refine c_weak [(0, Slc.v p0)] ⟨rfl, trivial⟩ ?_
  refine c_seq ?_
  refine c_region ?_
  refine w_p tok rfl rfl rfl ?_
  refine w_end ?_
  refine x_seq ?_
  refine c_seq ?_
  refine c_seq ?_
  refine c_region ?_
  refine w_p tok rfl rfl rfl ?_
  refine w_p tok rfl rfl rfl ?_
  refine w_end ?_
  refine x_seq ?_
  refine c_if H rfl (fun H => ?_) (fun H => ?_)
  ·
    refine c_seq ?_
    refine c_region ?_
    refine w_p tok rfl rfl rfl ?_
    refine w_end ?_
    refine x_seq ?_
    refine c_ret ?_
    refine x_tr ?_
    exact x_ret _ rfl _ rfl ⟨(⟨none, 0, 0⟩ : Slc), rfl, H⟩
  ·
    refine c_skip ?_
    refine x_seq ?_
    refine c_seq ?_
    refine c_region ?_
    obtain ⟨b1, h2, eb1, eh2, H⟩ := H
    refine w_h (h_bs tok rfl rfl rfl rfl rfl rfl rfl eb1 eh2) rfl rfl ?_
    refine w_p tok rfl rfl rfl ?_
    obtain ⟨l5, hl5, H⟩ := H
    refine w_a (a_app (s := (⟨some ⟨b1, 0, none⟩, 0, 0⟩ : Slc)) (r := p0) tok rfl rfl rfl rfl rfl hl5 H) rfl rfl ?_
    rintro _ h4 ⟨s3, rfl, H⟩
    refine w_p tok rfl rfl rfl ?_
    refine w_end ?_
    refine x_seq ?_
    refine c_ret ?_
    exact x_ret _ rfl _ rfl ⟨s3, rfl, H⟩

theorem slot_Pair_place_ok : CallOk Go.Proofs.Tryd.prog 52 := ⟨_, Go.Proofs.Tryd.func52, by kernel_rfl, by kernel_rfl⟩
theorem slot_Pair_place_ref (p0 : Option Addr) (p1 : Int) (p2 : Int) (k : (Int) → Heap → Prop) (h : Heap) (H : slot_Pair_place p0 p1 p2 k h) : CallsH Go.Proofs.Tryd.prog 52 #[.pointer p0, .int .i64 p1, .int .i64 p2] h (fun v h' => ∃ r : Int, v = .int .i64 r ∧ k r h') := by
  refine f_enter (N := 20) Go.Proofs.Tryd.func52 rfl rfl rfl (fun w0 => ?_)
  unfold slot_Pair_place at H
  refine c_weak [(0, .pointer p0), (1, .int .i64 p1), (2, .int .i64 p2)] ⟨rfl, rfl, rfl, trivial⟩ ?_
  refine c_seq ?_
  refine c_region ?_
  refine w_p tok rfl rfl rfl ?_
  refine w_end ?_
  refine x_seq ?_
  refine c_seq ?_
  refine c_draw (by kernel_rfl) (by kernel_rfl) ?_
  refine q_p tok rfl rfl rfl ?_
  obtain ⟨a1, ha1, H⟩ := H
  refine q_y (y_nil' rfl rfl ha1) rfl rfl ?_
  refine q_p tok rfl rfl rfl ?_
  obtain ⟨v2, hv2, H⟩ := H
  refine q_y (y_ld tok rfl rfl rfl rfl hv2) rfl rfl ?_
  refine q_p tok rfl rfl rfl ?_
  refine q_p tok rfl rfl rfl ?_
  refine q_y (y_nil' rfl rfl ha1) rfl rfl ?_
  refine q_p tok rfl rfl rfl ?_
  obtain ⟨v3, hv3, H⟩ := H
  refine q_y (y_ld tok rfl rfl rfl rfl hv3) rfl rfl ?_
  refine q_p tok rfl rfl rfl ?_
  refine q_p tok rfl rfl rfl ?_
  refine q_p tok rfl rfl rfl ?_
  refine q_p tok rfl rfl rfl ?_
  refine q_p tok rfl rfl rfl ?_
  refine q_end ?_
  refine x_seq ?_
  refine c_weak [(6, .int .i64 (IntKind.i64.wrap ((IntKind.i64.wrap (v2 + (IntKind.i64.wrap (p1 * v3)))) + p2)))] ⟨rfl, trivial⟩ ?_
  refine c_ret ?_
  exact x_ret _ rfl _ rfl ⟨(IntKind.i64.wrap ((IntKind.i64.wrap (v2 + (IntKind.i64.wrap (p1 * v3)))) + p2)), rfl, H⟩

theorem slot_parts_ok : CallOk Go.Proofs.Tryd.prog 46 := ⟨_, Go.Proofs.Tryd.func46, by kernel_rfl, by kernel_rfl⟩
theorem slot_parts_ref (p0 : Int) (k : (Int) → Heap → Prop) (h : Heap) (H : slot_parts p0 k h) : CallsH Go.Proofs.Tryd.prog 46 #[.int .i64 p0] h (fun v h' => ∃ r : Int, v = .int .i64 r ∧ k r h') := by
  refine f_enter (N := 8) Go.Proofs.Tryd.func46 rfl rfl rfl (fun w0 => ?_)
  unfold slot_parts at H
  refine c_weak [(0, .int .i64 p0)] ⟨rfl, trivial⟩ ?_
  refine c_seq ?_
  refine c_region ?_
  refine w_p tok rfl rfl rfl ?_
  refine w_end ?_
  refine x_seq ?_
  refine c_seq ?_
  refine c_region ?_
  refine w_p tok rfl rfl rfl ?_
  refine w_p tok rfl rfl rfl ?_
  refine w_p tok rfl rfl rfl ?_
  refine w_p tok rfl rfl rfl ?_
  refine w_p tok rfl rfl rfl ?_
  obtain ⟨x1, ex1, H⟩ := H
  refine w_pe tok rfl (congrArg (fun z => (.int .i64 z : Value)) ex1) rfl rfl ?_
  refine w_end ?_
  refine x_seq ?_
  refine c_ret ?_
  exact x_ret _ rfl _ rfl ⟨x1, rfl, H⟩

theorem slot_Pair_whole_ok : CallOk Go.Proofs.Tryd.prog 57 := ⟨_, Go.Proofs.Tryd.func57, by kernel_rfl, by kernel_rfl⟩
theorem slot_Pair_whole_ref (p0 : Option Addr) (p1 : Int) (k : (Slc × Int × Bool) → Heap → Prop) (h : Heap) (H : slot_Pair_whole p0 p1 k h) : CallsH Go.Proofs.Tryd.prog 57 #[.pointer p0, .int .i64 p1] h (fun v h' => ∃ r : Slc × Int × Bool, v = .tuple #[Slc.v r.1, .int .u64 r.2.1, .bool r.2.2] ∧ k r h') := by
  refine f_enter (N := 92) Go.Proofs.Tryd.func57 rfl rfl rfl (fun w0 => ?_)
  unfold slot_Pair_whole at H
  refine c_weak [(0, .pointer p0), (1, .int .i64 p1)] ⟨rfl, rfl, trivial⟩ ?_
  refine c_seq ?_
  refine c_region ?_
  refine w_p tok rfl rfl rfl ?_
  refine w_p tok rfl rfl rfl ?_
  refine w_p tok rfl rfl rfl ?_
  refine w_end ?_
  refine x_seq ?_
  refine c_seq ?_
  refine c_region ?_
  refine w_p tok rfl rfl rfl ?_
  refine w_end ?_
  refine x_seq ?_
  refine c_seq ?_
  refine c_region ?_
  obtain ⟨b1, h2, eb1, eh2, H⟩ := H
  refine w_h (h_alloc tok rfl rfl eb1 eh2) rfl rfl ?_
  refine w_end ?_
  refine x_seq ?_
  refine c_seq ?_
  refine c_seq ?_
  refine c_region ?_
  refine w_p tok rfl rfl rfl ?_
  refine w_end ?_
  refine x_seq ?_
  refine c_block ?_
  obtain ⟨I1, μ1, H0, HI⟩ := H
  refine c_loop (σ := Slc × Int) (fun (s : Slc × Int) => [(7, Slc.v s.1), (9, .int .i64 s.2), (0, .pointer p0), (1, .int .i64 p1), (8, .pointer (some (⟨b1, 0, none⟩ : Addr)))]) I1 μ1 ((⟨none, 0, 0⟩ : Slc), 0) H0 ⟨rfl, rfl, rfl, rfl, rfl, trivial⟩ ?_
  rintro ⟨t7_1, t9_1⟩ h_1 H
  replace H := HI t7_1 t9_1 h_1 H
  unfold slot_Pair_whole_l1b at H
  refine c_weak [(7, Slc.v t7_1), (9, .int .i64 t9_1), (0, .pointer p0), (1, .int .i64 p1), (8, .pointer (some (⟨b1, 0, none⟩ : Addr)))] ⟨rfl, rfl, rfl, rfl, rfl, trivial⟩ ?_
  refine c_seq ?_
  refine c_seq ?_
  refine c_region ?_
  refine w_p tok rfl rfl rfl ?_
  refine w_p tok rfl rfl rfl ?_
  refine w_p tok rfl rfl rfl ?_
  refine w_cut 5 (α := Bool) (fun (s : Bool) => [(21, .bool s), (0, .pointer p0), (1, .int .i64 p1), (7, Slc.v t7_1), (8, .pointer (some (⟨b1, 0, none⟩ : Addr))), (9, .int .i64 t9_1)]) (fun (s : Bool) h => slot_Pair_whole_g2 p0 p1 t7_1 (⟨b1, 0, none⟩ : Addr) t9_1 s k (fun s h' => I1 s h' ∧ μ1 s h' < μ1 (t7_1, t9_1) h_1) h) ?_ ?_
  ·
    rintro t21_2 h_2 H
    replace H : slot_Pair_whole_g2 p0 p1 t7_1 (⟨b1, 0, none⟩ : Addr) t9_1 t21_2 k (fun s h' => I1 s h' ∧ μ1 s h' < μ1 (t7_1, t9_1) h_1) h_2 := H
    unfold slot_Pair_whole_g2 at H
    refine w_weak [(21, .bool t21_2), (0, .pointer p0), (1, .int .i64 p1), (7, Slc.v t7_1), (8, .pointer (some (⟨b1, 0, none⟩ : Addr))), (9, .int .i64 t9_1)] ⟨rfl, rfl, rfl, rfl, rfl, rfl, trivial⟩ ?_
    refine w_end ?_
    refine x_seq ?_
    refine c_if H rfl (fun H => ?_) (fun H => ?_)
    ·
      refine c_skip ?_
      refine x_seq ?_
      refine c_seq ?_
      refine c_block ?_
      refine c_seq ?_
      refine c_sim [(0, .pointer p0), (1, .int .i64 p1), (7, Slc.v t7_1), (8, .pointer (some (⟨b1, 0, none⟩ : Addr))), (9, .int .i64 t9_1)] (by kernel_rfl) (by kernel_rfl) ⟨rfl, rfl, rfl, rfl, rfl, trivial⟩ (fun wf => ?_)
      refine sim_p 0 (ei := [(0, .pointer p0)]) (d := (some 25)) wf (by kernel_rfl) ⟨rfl, trivial⟩ (by kernel_rfl) (by kernel_rfl) (fun _ => pf_p tok rfl rfl rfl rfl) (fun P_0 => ?_)
      obtain ⟨a3, ha3, H⟩ := H
      refine sim_p 1 (ei := [(25, .pointer p0)]) (d := (some 26)) wf (by kernel_rfl) ⟨rfl, trivial⟩ (by kernel_rfl) (by kernel_rfl) (fun _ => pf_y rfl rfl rfl (y_nil' rfl rfl ha3)) (fun P_1 => ?_)
      refine sim_p 2 (ei := [(26, .pointer (some a3))]) (d := (some 27)) wf (by kernel_rfl) ⟨rfl, trivial⟩ (by kernel_rfl) (by kernel_rfl) (fun _ => pf_p tok rfl rfl rfl rfl) (fun P_2 => ?_)
      obtain ⟨v4, hv4, H⟩ := H
      refine sim_l 3 (ei := [(27, .pointer (some a3))]) (d := (some 28)) wf (by kernel_rfl) ⟨rfl, trivial⟩ (by kernel_rfl) (by kernel_rfl) (pf_y rfl rfl rfl (y_ld tok rfl rfl rfl rfl hv4)) (fun P_3 => ?_)
      refine sim_p 4 (ei := [(0, .pointer p0)]) (d := (some 29)) wf (by kernel_rfl) ⟨rfl, trivial⟩ (by kernel_rfl) (by kernel_rfl) (fun _ => pf_p tok rfl rfl rfl rfl) (fun P_4 => ?_)
      refine sim_p 5 (ei := [(1, .int .i64 p1)]) (d := (some 30)) wf (by kernel_rfl) ⟨rfl, trivial⟩ (by kernel_rfl) (by kernel_rfl) (fun _ => pf_p tok rfl rfl rfl rfl) (fun P_5 => ?_)
      refine sim_p 6 (ei := [(9, .int .i64 t9_1)]) (d := (some 31)) wf (by kernel_rfl) ⟨rfl, trivial⟩ (by kernel_rfl) (by kernel_rfl) (fun _ => pf_p tok rfl rfl rfl rfl) (fun P_6 => ?_)
      refine sim_c 7 [4, 5, 6] [4, 5, 6] (ei := [(29, .pointer p0), (30, .int .i64 p1), (31, .int .i64 t9_1)]) slot_Pair_place_ok (slot_Pair_place_ref _ _ _ _ _ H) wf ⟨P_6 _, P_5 _, P_4 _, P_3, P_2 _, P_1 _, P_0 _, trivial⟩ (by kernel_rfl) ⟨rfl, rfl, rfl, trivial⟩ (by kernel_rfl) rfl rfl rfl rfl rfl ?_
      rintro _ h6 ⟨r5, rfl, H⟩
      obtain ⟨hy7, H⟩ := H
      refine sim_re (x := ⟨3, .pointer v4, [(27, .pointer (some a3))]⟩) (pf_y rfl rfl rfl (y_ld tok rfl rfl rfl rfl hy7)) (fun P_3 => ?_)
      refine sim_c 8 [0, 1, 2, 3, 4, 5, 6, 7] [0, 1, 2, 3, 4, 5, 6] (ei := [(28, .pointer v4), (32, .int .i64 r5)]) disk_Disk_Read_ok (disk_Disk_Read_ref _ _ _ _ H) wf ⟨trivial, trivial, trivial, P_3, P_2 _, P_1 _, P_0 _, trivial⟩ (by kernel_rfl) ⟨rfl, rfl, trivial⟩ (by kernel_rfl) rfl rfl rfl rfl rfl ?_
      rintro _ h9 ⟨r8, rfl, H⟩
      refine sim_p 9 (ei := [(33, .tuple #[Slc.v r8.1, .int .i64 r8.2])]) (d := (some 24)) wf (by kernel_rfl) ⟨rfl, trivial⟩ (by kernel_rfl) (by kernel_rfl) (fun _ => pf_p tok rfl rfl rfl rfl) (fun P_9 => ?_)
      refine sim_p 10 (ei := [(24, .tuple #[Slc.v r8.1, .int .i64 r8.2])]) (d := (some 34)) wf (by kernel_rfl) ⟨rfl, trivial⟩ (by kernel_rfl) (by kernel_rfl) (fun _ => pf_p tok rfl rfl rfl rfl) (fun P_10 => ?_)
      refine sim_p 11 (ei := [(24, .tuple #[Slc.v r8.1, .int .i64 r8.2])]) (d := (some 35)) wf (by kernel_rfl) ⟨rfl, trivial⟩ (by kernel_rfl) (by kernel_rfl) (fun _ => pf_p tok rfl rfl rfl rfl) (fun P_11 => ?_)
      refine sim_p 12 (ei := [(34, Slc.v r8.1)]) (d := (some 10)) wf (by kernel_rfl) ⟨rfl, trivial⟩ (by kernel_rfl) (by kernel_rfl) (fun _ => pf_p tok rfl rfl rfl rfl) (fun P_12 => ?_)
      refine sim_p 13 (ei := [(35, .int .i64 r8.2)]) (d := (some 11)) wf (by kernel_rfl) ⟨rfl, trivial⟩ (by kernel_rfl) (by kernel_rfl) (fun _ => pf_p tok rfl rfl rfl rfl) (fun P_13 => ?_)
      refine sim_end wf ⟨P_13 _, P_12 _, P_11 _, P_10 _, P_9 _, trivial, trivial, trivial, trivial, trivial, trivial, trivial, trivial⟩ (by kernel_rfl) ?_
      clear wf P_0 P_1 P_10 P_11 P_12 P_13 P_2 P_3 P_4 P_5 P_6 P_9
      refine x_seq ?_
      refine c_weak [(0, .pointer p0), (1, .int .i64 p1), (7, Slc.v t7_1), (8, .pointer (some (⟨b1, 0, none⟩ : Addr))), (9, .int .i64 t9_1), (10, Slc.v r8.1), (11, .int .i64 r8.2)] ⟨rfl, rfl, rfl, rfl, rfl, rfl, rfl, trivial⟩ ?_
      refine c_seq ?_
      refine c_seq ?_
      refine c_region ?_
      refine w_p tok rfl rfl rfl ?_
      refine w_p tok rfl rfl rfl ?_
      refine w_end ?_
      refine x_seq ?_
      refine c_if H rfl (fun H => ?_) (fun H => ?_)
      ·
        refine c_seq ?_
        refine c_region ?_
        refine w_p tok rfl rfl rfl ?_
        refine w_p tok rfl rfl rfl ?_
        refine w_p tok rfl rfl rfl ?_
        refine w_end ?_
        refine x_seq ?_
        refine c_weak [(4, Slc.v (⟨none, 0, 0⟩ : Slc)), (5, .int .u64 0), (6, .bool false)] ⟨rfl, rfl, rfl, trivial⟩ ?_
        refine c_ret ?_
        refine x_tr ?_
        refine x_br ?_
        refine x_tr ?_
        refine x_tr ?_
        refine x_br ?_
        refine x_tr ?_
        exact x_ret _ rfl _ rfl ⟨((⟨none, 0, 0⟩ : Slc), 0, false), rfl, H⟩
      ·
        refine c_skip ?_
        refine x_seq ?_
        refine c_seq ?_
        refine c_region ?_
        refine w_p tok rfl rfl rfl ?_
        refine w_call slot_headOf_ok (slot_headOf_ref _ _ _ H) rfl rfl rfl rfl ?_
        rintro _ h11 ⟨r10, rfl, H⟩
        obtain ⟨b12, h13, eb12, eh13, H⟩ := H
        refine w_h (h_alloc tok rfl rfl eb12 eh13) rfl rfl ?_
        obtain ⟨h14, wh14, eh14, H⟩ := H
        refine w_h (h_sts tok rfl rfl rfl rfl rfl (oneC (by kernel_rfl)) wh14 eh14) rfl rfl ?_
        refine w_end ?_
        refine x_seq ?_
        refine c_seqJ (α := Unit) (fun (s : Unit) => [(0, .pointer p0), (1, .int .i64 p1), (7, Slc.v t7_1), (8, .pointer (some (⟨b1, 0, none⟩ : Addr))), (9, .int .i64 t9_1), (10, Slc.v r8.1), (12, .pointer (some (⟨b12, 0, none⟩ : Addr)))]) (fun (s : Unit) h => slot_Pair_whole_j3 p0 p1 t7_1 (⟨b1, 0, none⟩ : Addr) t9_1 r8.1 (⟨b12, 0, none⟩ : Addr) k (fun s h' => I1 s h' ∧ μ1 s h' < μ1 (t7_1, t9_1) h_1) h) ?_ ?_
        ·
          rintro _ h_3 H
          replace H : slot_Pair_whole_j3 p0 p1 t7_1 (⟨b1, 0, none⟩ : Addr) t9_1 r8.1 (⟨b12, 0, none⟩ : Addr) k (fun s h' => I1 s h' ∧ μ1 s h' < μ1 (t7_1, t9_1) h_1) h_3 := H
          unfold slot_Pair_whole_j3 at H
          refine c_weak [(0, .pointer p0), (1, .int .i64 p1), (7, Slc.v t7_1), (8, .pointer (some (⟨b1, 0, none⟩ : Addr))), (9, .int .i64 t9_1), (10, Slc.v r8.1), (12, .pointer (some (⟨b12, 0, none⟩ : Addr)))] ⟨rfl, rfl, rfl, rfl, rfl, rfl, rfl, trivial⟩ ?_
          refine c_seq ?_
          refine c_region ?_
          obtain ⟨v15, hv15, H⟩ := H
          refine w_y (y_lda tok rfl rfl rfl rfl rfl hv15) rfl rfl ?_
          obtain ⟨b16, h17, eb16, eh17, H⟩ := H
          refine w_h (h_alloc tok rfl rfl eb16 eh17) rfl rfl ?_
          obtain ⟨h18, wh18, eh18, H⟩ := H
          refine w_h (h_sts tok rfl rfl rfl rfl rfl (oneC (by kernel_rfl)) wh18 eh18) rfl rfl ?_
          refine w_end ?_
          refine x_seq ?_
          refine c_seq ?_
          refine c_region ?_
          refine w_p tok rfl rfl rfl ?_
          refine w_p tok rfl rfl rfl ?_
          obtain ⟨h19, wh19, eh19, H⟩ := H
          refine w_h (h_st tok rfl rfl rfl rfl rfl rfl wh19 eh19) rfl rfl ?_
          refine w_end ?_
          refine x_seq ?_
          refine c_seq ?_
          refine c_seqJ (α := Bool) (fun (s : Bool) => [(70, .bool s), (0, .pointer p0), (1, .int .i64 p1), (7, Slc.v t7_1), (8, .pointer (some (⟨b1, 0, none⟩ : Addr))), (9, .int .i64 t9_1), (10, Slc.v r8.1)]) (fun (s : Bool) h => slot_Pair_whole_j4 p0 p1 t7_1 (⟨b1, 0, none⟩ : Addr) t9_1 r8.1 s k (fun s h' => I1 s h' ∧ μ1 s h' < μ1 (t7_1, t9_1) h_1) h) ?_ ?_
          ·
            rintro t70_4 h_4 H
            replace H : slot_Pair_whole_j4 p0 p1 t7_1 (⟨b1, 0, none⟩ : Addr) t9_1 r8.1 t70_4 k (fun s h' => I1 s h' ∧ μ1 s h' < μ1 (t7_1, t9_1) h_1) h_4 := H
            unfold slot_Pair_whole_j4 at H
            refine c_weak [(70, .bool t70_4), (0, .pointer p0), (1, .int .i64 p1), (7, Slc.v t7_1), (8, .pointer (some (⟨b1, 0, none⟩ : Addr))), (9, .int .i64 t9_1), (10, Slc.v r8.1)] ⟨rfl, rfl, rfl, rfl, rfl, rfl, rfl, trivial⟩ ?_
            refine c_if H rfl (fun H => ?_) (fun H => ?_)
            ·
              refine c_seq ?_
              refine c_region ?_
              refine w_p tok rfl rfl rfl ?_
              refine w_p tok rfl rfl rfl ?_
              refine w_p tok rfl rfl rfl ?_
              refine w_end ?_
              refine x_seq ?_
              refine c_weak [(4, Slc.v (⟨none, 0, 0⟩ : Slc)), (5, .int .u64 0), (6, .bool false)] ⟨rfl, rfl, rfl, trivial⟩ ?_
              refine c_ret ?_
              refine x_tr ?_
              refine x_br ?_
              refine x_tr ?_
              refine x_tr ?_
              refine x_br ?_
              refine x_tr ?_
              exact x_ret _ rfl _ rfl ⟨((⟨none, 0, 0⟩ : Slc), 0, false), rfl, H⟩
            ·
              refine c_skip ?_
              refine x_seq ?_
              refine c_region ?_
              refine w_p tok rfl rfl rfl ?_
              refine w_p tok rfl rfl rfl ?_
              refine w_p tok rfl rfl rfl ?_
              refine w_p tok rfl rfl rfl ?_
              refine w_p tok rfl rfl rfl ?_
              obtain ⟨s20, ps20, qs20, rs20, ts20, es20, H⟩ := H
              refine w_ye (y_sl (s := r8.1) (L := (IntKind.i64.wrap ((r8.1.len : Int) - 104))) (H := (r8.1.len : Int)) (M := (r8.1.cap : Int)) tok rfl rfl rfl rfl rfl rfl rfl (by simp) ps20 qs20 rs20 ts20) (congrArg Slc.v es20) rfl rfl ?_
              obtain ⟨l23, hl23, H⟩ := H
              refine w_a (a_app (s := t7_1) (r := s20) tok rfl rfl rfl rfl rfl hl23 H) rfl rfl ?_
              rintro _ h22 ⟨s21, rfl, H⟩
              refine w_p tok rfl rfl rfl ?_
              refine w_end ?_
              refine x_blk ?_
              refine x_seq ?_
              refine c_weak [(0, .pointer p0), (1, .int .i64 p1), (7, Slc.v s21), (8, .pointer (some (⟨b1, 0, none⟩ : Addr))), (9, .int .i64 t9_1)] ⟨rfl, rfl, rfl, rfl, rfl, trivial⟩ ?_
              refine c_region ?_
              refine w_p tok rfl rfl rfl ?_
              refine w_p tok rfl rfl rfl ?_
              obtain ⟨x24, ex24, H⟩ := H
              refine w_pe tok rfl (congrArg (fun z => (.int .i64 z : Value)) ex24) rfl rfl ?_
              refine w_end ?_
              exact x_join (s21, x24) H ⟨rfl, rfl, rfl, rfl, rfl, trivial⟩
          ·
            refine c_sim [(0, .pointer p0), (1, .int .i64 p1), (7, Slc.v t7_1), (8, .pointer (some (⟨b1, 0, none⟩ : Addr))), (9, .int .i64 t9_1), (10, Slc.v r8.1), (12, .pointer (some (⟨b12, 0, none⟩ : Addr))), (13, .pointer (some (⟨b16, 0, none⟩ : Addr)))] (by kernel_rfl) (by kernel_rfl) ⟨rfl, rfl, rfl, rfl, rfl, rfl, rfl, rfl, trivial⟩ (fun wf => ?_)
            obtain ⟨v25, hv25, H⟩ := H
            refine sim_l 0 (ei := [(12, .pointer (some (⟨b12, 0, none⟩ : Addr)))]) (d := (some 46)) wf (by kernel_rfl) ⟨rfl, trivial⟩ (by kernel_rfl) (by kernel_rfl) (pf_y rfl rfl rfl (y_lda tok rfl rfl rfl rfl rfl hv25)) (fun P_0 => ?_)
            obtain ⟨v26, hv26, H⟩ := H
            refine sim_l 1 (ei := [(13, .pointer (some (⟨b16, 0, none⟩ : Addr)))]) (d := (some 47)) wf (by kernel_rfl) ⟨rfl, trivial⟩ (by kernel_rfl) (by kernel_rfl) (pf_y rfl rfl rfl (y_lda tok rfl rfl rfl rfl rfl hv26)) (fun P_1 => ?_)
            refine sim_p 2 (ei := [(46, .agg (S_slot_head.cs v25).toArray), (47, .agg (S_slot_head.cs v26).toArray)]) (d := (some 48)) wf (by kernel_rfl) ⟨rfl, rfl, trivial⟩ (by kernel_rfl) (by kernel_rfl) (fun _ => pf_y rfl rfl rfl (y_eqs (op := .neq) (xs := S_slot_head.cs v25) (ys := S_slot_head.cs v26) (.inr rfl) rfl rfl rfl (eqv95_S_slot_head v25 v26) (by kernel_rfl))) (fun P_2 => ?_)
            refine sim_p 3 (ei := [(48, .bool (if BinOp.neq = .eql then ((v25.f_n == v26.f_n) && (v25.f_part == v26.f_part) && (v25.f_parts == v26.f_parts) && (v25.f_size == v26.f_size) && (v25.f_sum == v26.f_sum)) else !((v25.f_n == v26.f_n) && (v25.f_part == v26.f_part) && (v25.f_parts == v26.f_parts) && (v25.f_size == v26.f_size) && (v25.f_sum == v26.f_sum))))]) (d := (some 49)) wf (by kernel_rfl) ⟨rfl, trivial⟩ (by kernel_rfl) (by kernel_rfl) (fun _ => pf_p tok rfl rfl rfl rfl) (fun P_3 => ?_)
            refine sim_gif 49 H rfl (fun hb H => ?_) (fun hb H => ?_)
            ·
              refine sim_p 4 (v := undef) (ei := [(12, .pointer (some (⟨b12, 0, none⟩ : Addr))), (49, .bool true)]) (d := (some 50)) wf (by kernel_rfl) ⟨rfl, rfl, trivial⟩ (by kernel_rfl) (by kernel_rfl) (fun _ => pf_s rfl rfl rfl) (fun P_4 => ?_)
              refine sim_p 5 (v := undef) (ei := [(49, .bool true), (50, undef)]) (d := (some 51)) wf (by kernel_rfl) ⟨rfl, rfl, trivial⟩ (by kernel_rfl) (by kernel_rfl) (fun _ => pf_s rfl rfl rfl) (fun P_5 => ?_)
              refine sim_p 6 (v := undef) (ei := [(49, .bool true), (51, undef)]) (d := (some 52)) wf (by kernel_rfl) ⟨rfl, rfl, trivial⟩ (by kernel_rfl) (by kernel_rfl) (fun _ => pf_s rfl rfl rfl) (fun P_6 => ?_)
              refine sim_p 7 (ei := [(49, .bool true), (52, undef)]) (d := (some 53)) wf (by kernel_rfl) ⟨rfl, rfl, trivial⟩ (by kernel_rfl) (by kernel_rfl) (fun _ => pf_p tok rfl rfl rfl rfl) (fun P_7 => ?_)
              refine sim_p 8 (ei := [(53, .bool true)]) (d := (some 54)) wf (by kernel_rfl) ⟨rfl, trivial⟩ (by kernel_rfl) (by kernel_rfl) (fun _ => pf_p tok rfl rfl rfl rfl) (fun P_8 => ?_)
              refine sim_gif 54 H rfl (fun hb H => ?_) (fun hb H => ?_)
              ·
                refine sim_p 9 (v := undef) (ei := [(12, .pointer (some (⟨b12, 0, none⟩ : Addr))), (54, .bool true)]) (d := (some 55)) wf (by kernel_rfl) ⟨rfl, rfl, trivial⟩ (by kernel_rfl) (by kernel_rfl) (fun _ => pf_s rfl rfl rfl) (fun P_9 => ?_)
                refine sim_p 10 (v := undef) (ei := [(54, .bool true), (55, undef)]) (d := (some 56)) wf (by kernel_rfl) ⟨rfl, rfl, trivial⟩ (by kernel_rfl) (by kernel_rfl) (fun _ => pf_s rfl rfl rfl) (fun P_10 => ?_)
                refine sim_p 11 (v := undef) (ei := [(0, .pointer p0), (54, .bool true)]) (d := (some 57)) wf (by kernel_rfl) ⟨rfl, rfl, trivial⟩ (by kernel_rfl) (by kernel_rfl) (fun _ => pf_s rfl rfl rfl) (fun P_11 => ?_)
                refine sim_p 12 (v := undef) (ei := [(54, .bool true), (57, undef)]) (d := (some 58)) wf (by kernel_rfl) ⟨rfl, rfl, trivial⟩ (by kernel_rfl) (by kernel_rfl) (fun _ => pf_s rfl rfl rfl) (fun P_12 => ?_)
                refine sim_p 13 (v := undef) (ei := [(54, .bool true), (58, undef)]) (d := (some 59)) wf (by kernel_rfl) ⟨rfl, rfl, trivial⟩ (by kernel_rfl) (by kernel_rfl) (fun _ => pf_s rfl rfl rfl) (fun P_13 => ?_)
                refine sim_p 14 (v := undef) (ei := [(54, .bool true), (59, undef)]) (d := (some 60)) wf (by kernel_rfl) ⟨rfl, rfl, trivial⟩ (by kernel_rfl) (by kernel_rfl) (fun _ => pf_s rfl rfl rfl) (fun P_14 => ?_)
                refine sim_p 15 (v := undef) (ei := [(54, .bool true), (56, undef), (60, undef)]) (d := (some 61)) wf (by kernel_rfl) ⟨rfl, rfl, rfl, trivial⟩ (by kernel_rfl) (by kernel_rfl) (fun _ => pf_s rfl rfl rfl) (fun P_15 => ?_)
                refine sim_p 16 (ei := [(54, .bool true), (61, undef)]) (d := (some 62)) wf (by kernel_rfl) ⟨rfl, rfl, trivial⟩ (by kernel_rfl) (by kernel_rfl) (fun _ => pf_p tok rfl rfl rfl rfl) (fun P_16 => ?_)
                refine sim_p 17 (ei := [(62, .bool true)]) (d := (some 63)) wf (by kernel_rfl) ⟨rfl, trivial⟩ (by kernel_rfl) (by kernel_rfl) (fun _ => pf_p tok rfl rfl rfl rfl) (fun P_17 => ?_)
                refine sim_gif 63 H rfl (fun hb H => ?_) (fun hb H => ?_)
                ·
                  refine sim_p 18 (v := undef) (ei := [(12, .pointer (some (⟨b12, 0, none⟩ : Addr))), (63, .bool true)]) (d := (some 64)) wf (by kernel_rfl) ⟨rfl, rfl, trivial⟩ (by kernel_rfl) (by kernel_rfl) (fun _ => pf_s rfl rfl rfl) (fun P_18 => ?_)
                  refine sim_p 19 (v := undef) (ei := [(63, .bool true), (64, undef)]) (d := (some 65)) wf (by kernel_rfl) ⟨rfl, rfl, trivial⟩ (by kernel_rfl) (by kernel_rfl) (fun _ => pf_s rfl rfl rfl) (fun P_19 => ?_)
                  refine sim_p 20 (v := undef) (ei := [(12, .pointer (some (⟨b12, 0, none⟩ : Addr))), (63, .bool true)]) (d := (some 66)) wf (by kernel_rfl) ⟨rfl, rfl, trivial⟩ (by kernel_rfl) (by kernel_rfl) (fun _ => pf_s rfl rfl rfl) (fun P_20 => ?_)
                  refine sim_p 21 (v := undef) (ei := [(63, .bool true), (66, undef)]) (d := (some 67)) wf (by kernel_rfl) ⟨rfl, rfl, trivial⟩ (by kernel_rfl) (by kernel_rfl) (fun _ => pf_s rfl rfl rfl) (fun P_21 => ?_)
                  refine sim_p 22 (v := undef) (ei := [(63, .bool true), (67, undef)]) (d := (some 68)) wf (by kernel_rfl) ⟨rfl, rfl, trivial⟩ (by kernel_rfl) (by kernel_rfl) (fun _ => pf_s rfl rfl rfl) (fun P_22 => ?_)
                  refine sim_p 23 (v := undef) (ei := [(63, .bool true), (65, undef), (68, undef)]) (d := (some 69)) wf (by kernel_rfl) ⟨rfl, rfl, rfl, trivial⟩ (by kernel_rfl) (by kernel_rfl) (fun _ => pf_s rfl rfl rfl) (fun P_23 => ?_)
                  refine sim_p 24 (ei := [(63, .bool true), (69, undef)]) (d := (some 70)) wf (by kernel_rfl) ⟨rfl, rfl, trivial⟩ (by kernel_rfl) (by kernel_rfl) (fun _ => pf_p tok rfl rfl rfl rfl) (fun P_24 => ?_)
                  refine sim_end wf ⟨P_24 _, P_23 _, P_22 _, P_21 _, P_20 _, P_19 _, P_18 _, P_17 _, P_16 _, P_15 _, P_14 _, P_13 _, P_12 _, P_11 _, P_10 _, P_9 _, P_8 _, P_7 _, P_6 _, P_5 _, P_4 _, P_3 _, P_2 _, P_1, P_0, trivial⟩ (by kernel_rfl) ?_
                  clear wf P_0 P_1 P_10 P_11 P_12 P_13 P_14 P_15 P_16 P_17 P_18 P_19 P_2 P_20 P_21 P_22 P_23 P_24 P_3 P_4 P_5 P_6 P_7 P_8 P_9
                  exact x_join true H ⟨rfl, rfl, rfl, rfl, rfl, rfl, rfl, trivial⟩
                ·
                  refine sim_p 18 (ei := [(12, .pointer (some (⟨b12, 0, none⟩ : Addr))), (63, .bool false)]) (d := (some 64)) wf (by kernel_rfl) ⟨rfl, rfl, trivial⟩ (by kernel_rfl) (by kernel_rfl) (fun _ => pf_p tok rfl rfl rfl rfl) (fun P_18 => ?_)
                  obtain ⟨v27, hv27, H⟩ := H
                  refine sim_l 19 (ei := [(63, .bool false), (64, .pointer (some ((⟨b12, 0, none⟩ : Addr).add 2)))]) (d := (some 65)) wf (by kernel_rfl) ⟨rfl, rfl, trivial⟩ (by kernel_rfl) (by kernel_rfl) (pf_y rfl rfl rfl (y_ld tok rfl rfl rfl rfl hv27)) (fun P_19 => ?_)
                  refine sim_p 20 (ei := [(12, .pointer (some (⟨b12, 0, none⟩ : Addr))), (63, .bool false)]) (d := (some 66)) wf (by kernel_rfl) ⟨rfl, rfl, trivial⟩ (by kernel_rfl) (by kernel_rfl) (fun _ => pf_p tok rfl rfl rfl rfl) (fun P_20 => ?_)
                  obtain ⟨v28, hv28, H⟩ := H
                  refine sim_l 21 (ei := [(63, .bool false), (66, .pointer (some ((⟨b12, 0, none⟩ : Addr).add 3)))]) (d := (some 67)) wf (by kernel_rfl) ⟨rfl, rfl, trivial⟩ (by kernel_rfl) (by kernel_rfl) (pf_y rfl rfl rfl (y_ld tok rfl rfl rfl rfl hv28)) (fun P_21 => ?_)
                  refine sim_c 22 [0, 1, 2, 3, 4, 5, 6, 7, 8, 9, 10, 11, 12, 13, 14, 15, 16, 17, 20, 21] [0, 1, 2, 3, 4, 5, 6, 7, 8, 9, 10, 11, 12, 13, 14, 15, 16, 17, 20, 21] (ei := [(63, .bool false), (67, .int .i64 v28)]) slot_parts_ok (slot_parts_ref _ _ _ H) wf ⟨P_21, P_20 _, P_19, P_18 _, P_17 _, P_16 _, P_15 _, P_14 _, P_13 _, P_12 _, P_11 _, P_10 _, P_9 _, P_8 _, P_7 _, P_6 _, P_5 _, P_4 _, P_3 _, P_2 _, P_1, P_0, trivial⟩ (by kernel_rfl) ⟨rfl, rfl, trivial⟩ (by kernel_rfl) rfl rfl rfl rfl rfl ?_
                  rintro _ h30 ⟨r29, rfl, H⟩
                  obtain ⟨hy31, H⟩ := H
                  refine sim_re (x := ⟨19, .int .i64 v27, [(63, .bool false), (64, .pointer (some ((⟨b12, 0, none⟩ : Addr).add 2)))]⟩) (pf_y rfl rfl rfl (y_ld tok rfl rfl rfl rfl hy31)) (fun P_19 => ?_)
                  refine sim_p 23 (ei := [(63, .bool false), (65, .int .i64 v27), (68, .int .i64 r29)]) (d := (some 69)) wf (by kernel_rfl) ⟨rfl, rfl, rfl, trivial⟩ (by kernel_rfl) (by kernel_rfl) (fun _ => pf_p tok rfl rfl rfl rfl) (fun P_23 => ?_)
                  refine sim_p 24 (ei := [(63, .bool false), (69, .bool (v27 != r29))]) (d := (some 70)) wf (by kernel_rfl) ⟨rfl, rfl, trivial⟩ (by kernel_rfl) (by kernel_rfl) (fun _ => pf_p tok rfl rfl rfl rfl) (fun P_24 => ?_)
                  refine sim_end wf ⟨P_24 _, P_23 _, trivial, trivial, P_19, P_18 _, trivial, trivial, trivial, trivial, trivial, trivial, trivial, trivial, trivial, trivial, trivial, trivial, trivial, trivial, trivial, trivial, trivial, trivial, trivial⟩ (by kernel_rfl) ?_
                  clear wf P_0 P_1 P_10 P_11 P_12 P_13 P_14 P_15 P_16 P_17 P_18 P_19 P_2 P_20 P_21 P_23 P_24 P_3 P_4 P_5 P_6 P_7 P_8 P_9
                  exact x_join (v27 != r29) H ⟨rfl, rfl, rfl, rfl, rfl, rfl, rfl, trivial⟩
              ·
                refine sim_p 9 (ei := [(12, .pointer (some (⟨b12, 0, none⟩ : Addr))), (54, .bool false)]) (d := (some 55)) wf (by kernel_rfl) ⟨rfl, rfl, trivial⟩ (by kernel_rfl) (by kernel_rfl) (fun _ => pf_p tok rfl rfl rfl rfl) (fun P_9 => ?_)
                obtain ⟨v32, hv32, H⟩ := H
                refine sim_l 10 (ei := [(54, .bool false), (55, .pointer (some ((⟨b12, 0, none⟩ : Addr).add 2)))]) (d := (some 56)) wf (by kernel_rfl) ⟨rfl, rfl, trivial⟩ (by kernel_rfl) (by kernel_rfl) (pf_y rfl rfl rfl (y_ld tok rfl rfl rfl rfl hv32)) (fun P_10 => ?_)
                refine sim_p 11 (ei := [(0, .pointer p0), (54, .bool false)]) (d := (some 57)) wf (by kernel_rfl) ⟨rfl, rfl, trivial⟩ (by kernel_rfl) (by kernel_rfl) (fun _ => pf_p tok rfl rfl rfl rfl) (fun P_11 => ?_)
                obtain ⟨a33, ha33, H⟩ := H
                refine sim_p 12 (ei := [(54, .bool false), (57, .pointer p0)]) (d := (some 58)) wf (by kernel_rfl) ⟨rfl, rfl, trivial⟩ (by kernel_rfl) (by kernel_rfl) (fun _ => pf_y rfl rfl rfl (y_nil' rfl rfl ha33)) (fun P_12 => ?_)
                refine sim_p 13 (ei := [(54, .bool false), (58, .pointer (some a33))]) (d := (some 59)) wf (by kernel_rfl) ⟨rfl, rfl, trivial⟩ (by kernel_rfl) (by kernel_rfl) (fun _ => pf_p tok rfl rfl rfl rfl) (fun P_13 => ?_)
                obtain ⟨v34, hv34, H⟩ := H
                refine sim_l 14 (ei := [(54, .bool false), (59, .pointer (some (a33.add 2)))]) (d := (some 60)) wf (by kernel_rfl) ⟨rfl, rfl, trivial⟩ (by kernel_rfl) (by kernel_rfl) (pf_y rfl rfl rfl (y_ld tok rfl rfl rfl rfl hv34)) (fun P_14 => ?_)
                refine sim_p 15 (ei := [(54, .bool false), (56, .int .i64 v32), (60, .int .i64 v34)]) (d := (some 61)) wf (by kernel_rfl) ⟨rfl, rfl, rfl, trivial⟩ (by kernel_rfl) (by kernel_rfl) (fun _ => pf_p tok rfl rfl rfl rfl) (fun P_15 => ?_)
                refine sim_p 16 (ei := [(54, .bool false), (61, .bool (decide (v32 > v34)))]) (d := (some 62)) wf (by kernel_rfl) ⟨rfl, rfl, trivial⟩ (by kernel_rfl) (by kernel_rfl) (fun _ => pf_p tok rfl rfl rfl rfl) (fun P_16 => ?_)
                refine sim_p 17 (ei := [(62, .bool (decide (v32 > v34)))]) (d := (some 63)) wf (by kernel_rfl) ⟨rfl, trivial⟩ (by kernel_rfl) (by kernel_rfl) (fun _ => pf_p tok rfl rfl rfl rfl) (fun P_17 => ?_)
                refine sim_gif 63 H rfl (fun hb H => ?_) (fun hb H => ?_)
                ·
                  refine sim_p 18 (v := undef) (ei := [(12, .pointer (some (⟨b12, 0, none⟩ : Addr))), (63, .bool true)]) (d := (some 64)) wf (by kernel_rfl) ⟨rfl, rfl, trivial⟩ (by kernel_rfl) (by kernel_rfl) (fun _ => pf_s rfl rfl rfl) (fun P_18 => ?_)
                  refine sim_p 19 (v := undef) (ei := [(63, .bool true), (64, undef)]) (d := (some 65)) wf (by kernel_rfl) ⟨rfl, rfl, trivial⟩ (by kernel_rfl) (by kernel_rfl) (fun _ => pf_s rfl rfl rfl) (fun P_19 => ?_)
                  refine sim_p 20 (v := undef) (ei := [(12, .pointer (some (⟨b12, 0, none⟩ : Addr))), (63, .bool true)]) (d := (some 66)) wf (by kernel_rfl) ⟨rfl, rfl, trivial⟩ (by kernel_rfl) (by kernel_rfl) (fun _ => pf_s rfl rfl rfl) (fun P_20 => ?_)
                  refine sim_p 21 (v := undef) (ei := [(63, .bool true), (66, undef)]) (d := (some 67)) wf (by kernel_rfl) ⟨rfl, rfl, trivial⟩ (by kernel_rfl) (by kernel_rfl) (fun _ => pf_s rfl rfl rfl) (fun P_21 => ?_)
                  refine sim_p 22 (v := undef) (ei := [(63, .bool true), (67, undef)]) (d := (some 68)) wf (by kernel_rfl) ⟨rfl, rfl, trivial⟩ (by kernel_rfl) (by kernel_rfl) (fun _ => pf_s rfl rfl rfl) (fun P_22 => ?_)
                  refine sim_p 23 (v := undef) (ei := [(63, .bool true), (65, undef), (68, undef)]) (d := (some 69)) wf (by kernel_rfl) ⟨rfl, rfl, rfl, trivial⟩ (by kernel_rfl) (by kernel_rfl) (fun _ => pf_s rfl rfl rfl) (fun P_23 => ?_)
                  refine sim_p 24 (ei := [(63, .bool true), (69, undef)]) (d := (some 70)) wf (by kernel_rfl) ⟨rfl, rfl, trivial⟩ (by kernel_rfl) (by kernel_rfl) (fun _ => pf_p tok rfl rfl rfl rfl) (fun P_24 => ?_)
                  refine sim_end wf ⟨P_24 _, P_23 _, P_22 _, P_21 _, P_20 _, P_19 _, P_18 _, P_17 _, P_16 _, P_15 _, P_14, P_13 _, P_12 _, P_11 _, P_10, P_9 _, P_8 _, P_7 _, P_6 _, P_5 _, P_4 _, P_3 _, P_2 _, P_1, P_0, trivial⟩ (by kernel_rfl) ?_
                  clear wf P_0 P_1 P_10 P_11 P_12 P_13 P_14 P_15 P_16 P_17 P_18 P_19 P_2 P_20 P_21 P_22 P_23 P_24 P_3 P_4 P_5 P_6 P_7 P_8 P_9
                  exact x_join true H ⟨rfl, rfl, rfl, rfl, rfl, rfl, rfl, trivial⟩
                ·
                  refine sim_p 18 (ei := [(12, .pointer (some (⟨b12, 0, none⟩ : Addr))), (63, .bool false)]) (d := (some 64)) wf (by kernel_rfl) ⟨rfl, rfl, trivial⟩ (by kernel_rfl) (by kernel_rfl) (fun _ => pf_p tok rfl rfl rfl rfl) (fun P_18 => ?_)
                  obtain ⟨v35, hv35, H⟩ := H
                  refine sim_l 19 (ei := [(63, .bool false), (64, .pointer (some ((⟨b12, 0, none⟩ : Addr).add 2)))]) (d := (some 65)) wf (by kernel_rfl) ⟨rfl, rfl, trivial⟩ (by kernel_rfl) (by kernel_rfl) (pf_y rfl rfl rfl (y_ld tok rfl rfl rfl rfl hv35)) (fun P_19 => ?_)
                  refine sim_p 20 (ei := [(12, .pointer (some (⟨b12, 0, none⟩ : Addr))), (63, .bool false)]) (d := (some 66)) wf (by kernel_rfl) ⟨rfl, rfl, trivial⟩ (by kernel_rfl) (by kernel_rfl) (fun _ => pf_p tok rfl rfl rfl rfl) (fun P_20 => ?_)
                  obtain ⟨v36, hv36, H⟩ := H
                  refine sim_l 21 (ei := [(63, .bool false), (66, .pointer (some ((⟨b12, 0, none⟩ : Addr).add 3)))]) (d := (some 67)) wf (by kernel_rfl) ⟨rfl, rfl, trivial⟩ (by kernel_rfl) (by kernel_rfl) (pf_y rfl rfl rfl (y_ld tok rfl rfl rfl rfl hv36)) (fun P_21 => ?_)
                  refine sim_c 22 [0, 1, 2, 3, 4, 5, 6, 7, 8, 9, 10, 11, 12, 13, 14, 15, 16, 17, 20, 21] [0, 1, 2, 3, 4, 5, 6, 7, 8, 9, 10, 11, 12, 13, 14, 15, 16, 17, 20, 21] (ei := [(63, .bool false), (67, .int .i64 v36)]) slot_parts_ok (slot_parts_ref _ _ _ H) wf ⟨P_21, P_20 _, P_19, P_18 _, P_17 _, P_16 _, P_15 _, P_14, P_13 _, P_12 _, P_11 _, P_10, P_9 _, P_8 _, P_7 _, P_6 _, P_5 _, P_4 _, P_3 _, P_2 _, P_1, P_0, trivial⟩ (by kernel_rfl) ⟨rfl, rfl, trivial⟩ (by kernel_rfl) rfl rfl rfl rfl rfl ?_
                  rintro _ h38 ⟨r37, rfl, H⟩
                  obtain ⟨hy39, H⟩ := H
                  refine sim_re (x := ⟨19, .int .i64 v35, [(63, .bool false), (64, .pointer (some ((⟨b12, 0, none⟩ : Addr).add 2)))]⟩) (pf_y rfl rfl rfl (y_ld tok rfl rfl rfl rfl hy39)) (fun P_19 => ?_)
                  refine sim_p 23 (ei := [(63, .bool false), (65, .int .i64 v35), (68, .int .i64 r37)]) (d := (some 69)) wf (by kernel_rfl) ⟨rfl, rfl, rfl, trivial⟩ (by kernel_rfl) (by kernel_rfl) (fun _ => pf_p tok rfl rfl rfl rfl) (fun P_23 => ?_)
                  refine sim_p 24 (ei := [(63, .bool false), (69, .bool (v35 != r37))]) (d := (some 70)) wf (by kernel_rfl) ⟨rfl, rfl, trivial⟩ (by kernel_rfl) (by kernel_rfl) (fun _ => pf_p tok rfl rfl rfl rfl) (fun P_24 => ?_)
                  refine sim_end wf ⟨P_24 _, P_23 _, trivial, trivial, P_19, P_18 _, trivial, trivial, trivial, trivial, trivial, trivial, trivial, trivial, trivial, trivial, trivial, trivial, trivial, trivial, trivial, trivial, trivial, trivial, trivial⟩ (by kernel_rfl) ?_
                  clear wf P_0 P_1 P_10 P_11 P_12 P_13 P_14 P_15 P_16 P_17 P_18 P_19 P_2 P_20 P_21 P_23 P_24 P_3 P_4 P_5 P_6 P_7 P_8 P_9
                  exact x_join (v35 != r37) H ⟨rfl, rfl, rfl, rfl, rfl, rfl, rfl, trivial⟩
            ·
              refine sim_p 4 (ei := [(12, .pointer (some (⟨b12, 0, none⟩ : Addr))), (49, .bool false)]) (d := (some 50)) wf (by kernel_rfl) ⟨rfl, rfl, trivial⟩ (by kernel_rfl) (by kernel_rfl) (fun _ => pf_p tok rfl rfl rfl rfl) (fun P_4 => ?_)
              obtain ⟨v40, hv40, H⟩ := H
              refine sim_l 5 (ei := [(49, .bool false), (50, .pointer (some ((⟨b12, 0, none⟩ : Addr).add 2)))]) (d := (some 51)) wf (by kernel_rfl) ⟨rfl, rfl, trivial⟩ (by kernel_rfl) (by kernel_rfl) (pf_y rfl rfl rfl (y_ld tok rfl rfl rfl rfl hv40)) (fun P_5 => ?_)
              refine sim_p 6 (ei := [(49, .bool false), (51, .int .i64 v40)]) (d := (some 52)) wf (by kernel_rfl) ⟨rfl, rfl, trivial⟩ (by kernel_rfl) (by kernel_rfl) (fun _ => pf_p tok rfl rfl rfl rfl) (fun P_6 => ?_)
              refine sim_p 7 (ei := [(49, .bool false), (52, .bool (decide (v40 < 1)))]) (d := (some 53)) wf (by kernel_rfl) ⟨rfl, rfl, trivial⟩ (by kernel_rfl) (by kernel_rfl) (fun _ => pf_p tok rfl rfl rfl rfl) (fun P_7 => ?_)
              refine sim_p 8 (ei := [(53, .bool (decide (v40 < 1)))]) (d := (some 54)) wf (by kernel_rfl) ⟨rfl, trivial⟩ (by kernel_rfl) (by kernel_rfl) (fun _ => pf_p tok rfl rfl rfl rfl) (fun P_8 => ?_)
              refine sim_gif 54 H rfl (fun hb H => ?_) (fun hb H => ?_)
              ·
                refine sim_p 9 (v := undef) (ei := [(12, .pointer (some (⟨b12, 0, none⟩ : Addr))), (54, .bool true)]) (d := (some 55)) wf (by kernel_rfl) ⟨rfl, rfl, trivial⟩ (by kernel_rfl) (by kernel_rfl) (fun _ => pf_s rfl rfl rfl) (fun P_9 => ?_)
                refine sim_p 10 (v := undef) (ei := [(54, .bool true), (55, undef)]) (d := (some 56)) wf (by kernel_rfl) ⟨rfl, rfl, trivial⟩ (by kernel_rfl) (by kernel_rfl) (fun _ => pf_s rfl rfl rfl) (fun P_10 => ?_)
                refine sim_p 11 (v := undef) (ei := [(0, .pointer p0), (54, .bool true)]) (d := (some 57)) wf (by kernel_rfl) ⟨rfl, rfl, trivial⟩ (by kernel_rfl) (by kernel_rfl) (fun _ => pf_s rfl rfl rfl) (fun P_11 => ?_)
                refine sim_p 12 (v := undef) (ei := [(54, .bool true), (57, undef)]) (d := (some 58)) wf (by kernel_rfl) ⟨rfl, rfl, trivial⟩ (by kernel_rfl) (by kernel_rfl) (fun _ => pf_s rfl rfl rfl) (fun P_12 => ?_)
                refine sim_p 13 (v := undef) (ei := [(54, .bool true), (58, undef)]) (d := (some 59)) wf (by kernel_rfl) ⟨rfl, rfl, trivial⟩ (by kernel_rfl) (by kernel_rfl) (fun _ => pf_s rfl rfl rfl) (fun P_13 => ?_)
                refine sim_p 14 (v := undef) (ei := [(54, .bool true), (59, undef)]) (d := (some 60)) wf (by kernel_rfl) ⟨rfl, rfl, trivial⟩ (by kernel_rfl) (by kernel_rfl) (fun _ => pf_s rfl rfl rfl) (fun P_14 => ?_)
                refine sim_p 15 (v := undef) (ei := [(54, .bool true), (56, undef), (60, undef)]) (d := (some 61)) wf (by kernel_rfl) ⟨rfl, rfl, rfl, trivial⟩ (by kernel_rfl) (by kernel_rfl) (fun _ => pf_s rfl rfl rfl) (fun P_15 => ?_)
                refine sim_p 16 (ei := [(54, .bool true), (61, undef)]) (d := (some 62)) wf (by kernel_rfl) ⟨rfl, rfl, trivial⟩ (by kernel_rfl) (by kernel_rfl) (fun _ => pf_p tok rfl rfl rfl rfl) (fun P_16 => ?_)
                refine sim_p 17 (ei := [(62, .bool true)]) (d := (some 63)) wf (by kernel_rfl) ⟨rfl, trivial⟩ (by kernel_rfl) (by kernel_rfl) (fun _ => pf_p tok rfl rfl rfl rfl) (fun P_17 => ?_)
                refine sim_gif 63 H rfl (fun hb H => ?_) (fun hb H => ?_)
                ·
                  refine sim_p 18 (v := undef) (ei := [(12, .pointer (some (⟨b12, 0, none⟩ : Addr))), (63, .bool true)]) (d := (some 64)) wf (by kernel_rfl) ⟨rfl, rfl, trivial⟩ (by kernel_rfl) (by kernel_rfl) (fun _ => pf_s rfl rfl rfl) (fun P_18 => ?_)
                  refine sim_p 19 (v := undef) (ei := [(63, .bool true), (64, undef)]) (d := (some 65)) wf (by kernel_rfl) ⟨rfl, rfl, trivial⟩ (by kernel_rfl) (by kernel_rfl) (fun _ => pf_s rfl rfl rfl) (fun P_19 => ?_)
                  refine sim_p 20 (v := undef) (ei := [(12, .pointer (some (⟨b12, 0, none⟩ : Addr))), (63, .bool true)]) (d := (some 66)) wf (by kernel_rfl) ⟨rfl, rfl, trivial⟩ (by kernel_rfl) (by kernel_rfl) (fun _ => pf_s rfl rfl rfl) (fun P_20 => ?_)
                  refine sim_p 21 (v := undef) (ei := [(63, .bool true), (66, undef)]) (d := (some 67)) wf (by kernel_rfl) ⟨rfl, rfl, trivial⟩ (by kernel_rfl) (by kernel_rfl) (fun _ => pf_s rfl rfl rfl) (fun P_21 => ?_)
                  refine sim_p 22 (v := undef) (ei := [(63, .bool true), (67, undef)]) (d := (some 68)) wf (by kernel_rfl) ⟨rfl, rfl, trivial⟩ (by kernel_rfl) (by kernel_rfl) (fun _ => pf_s rfl rfl rfl) (fun P_22 => ?_)
                  refine sim_p 23 (v := undef) (ei := [(63, .bool true), (65, undef), (68, undef)]) (d := (some 69)) wf (by kernel_rfl) ⟨rfl, rfl, rfl, trivial⟩ (by kernel_rfl) (by kernel_rfl) (fun _ => pf_s rfl rfl rfl) (fun P_23 => ?_)
                  refine sim_p 24 (ei := [(63, .bool true), (69, undef)]) (d := (some 70)) wf (by kernel_rfl) ⟨rfl, rfl, trivial⟩ (by kernel_rfl) (by kernel_rfl) (fun _ => pf_p tok rfl rfl rfl rfl) (fun P_24 => ?_)
                  refine sim_end wf ⟨P_24 _, P_23 _, P_22 _, P_21 _, P_20 _, P_19 _, P_18 _, P_17 _, P_16 _, P_15 _, P_14 _, P_13 _, P_12 _, P_11 _, P_10 _, P_9 _, P_8 _, P_7 _, P_6 _, P_5, P_4 _, P_3 _, P_2 _, P_1, P_0, trivial⟩ (by kernel_rfl) ?_
                  clear wf P_0 P_1 P_10 P_11 P_12 P_13 P_14 P_15 P_16 P_17 P_18 P_19 P_2 P_20 P_21 P_22 P_23 P_24 P_3 P_4 P_5 P_6 P_7 P_8 P_9
                  exact x_join true H ⟨rfl, rfl, rfl, rfl, rfl, rfl, rfl, trivial⟩
                ·
                  refine sim_p 18 (ei := [(12, .pointer (some (⟨b12, 0, none⟩ : Addr))), (63, .bool false)]) (d := (some 64)) wf (by kernel_rfl) ⟨rfl, rfl, trivial⟩ (by kernel_rfl) (by kernel_rfl) (fun _ => pf_p tok rfl rfl rfl rfl) (fun P_18 => ?_)
                  obtain ⟨v41, hv41, H⟩ := H
                  refine sim_l 19 (ei := [(63, .bool false), (64, .pointer (some ((⟨b12, 0, none⟩ : Addr).add 2)))]) (d := (some 65)) wf (by kernel_rfl) ⟨rfl, rfl, trivial⟩ (by kernel_rfl) (by kernel_rfl) (pf_y rfl rfl rfl (y_ld tok rfl rfl rfl rfl hv41)) (fun P_19 => ?_)
                  refine sim_p 20 (ei := [(12, .pointer (some (⟨b12, 0, none⟩ : Addr))), (63, .bool false)]) (d := (some 66)) wf (by kernel_rfl) ⟨rfl, rfl, trivial⟩ (by kernel_rfl) (by kernel_rfl) (fun _ => pf_p tok rfl rfl rfl rfl) (fun P_20 => ?_)
                  obtain ⟨v42, hv42, H⟩ := H
                  refine sim_l 21 (ei := [(63, .bool false), (66, .pointer (some ((⟨b12, 0, none⟩ : Addr).add 3)))]) (d := (some 67)) wf (by kernel_rfl) ⟨rfl, rfl, trivial⟩ (by kernel_rfl) (by kernel_rfl) (pf_y rfl rfl rfl (y_ld tok rfl rfl rfl rfl hv42)) (fun P_21 => ?_)
                  refine sim_c 22 [0, 1, 2, 3, 4, 5, 6, 7, 8, 9, 10, 11, 12, 13, 14, 15, 16, 17, 20, 21] [0, 1, 2, 3, 4, 5, 6, 7, 8, 9, 10, 11, 12, 13, 14, 15, 16, 17, 20, 21] (ei := [(63, .bool false), (67, .int .i64 v42)]) slot_parts_ok (slot_parts_ref _ _ _ H) wf ⟨P_21, P_20 _, P_19, P_18 _, P_17 _, P_16 _, P_15 _, P_14 _, P_13 _, P_12 _, P_11 _, P_10 _, P_9 _, P_8 _, P_7 _, P_6 _, P_5, P_4 _, P_3 _, P_2 _, P_1, P_0, trivial⟩ (by kernel_rfl) ⟨rfl, rfl, trivial⟩ (by kernel_rfl) rfl rfl rfl rfl rfl ?_
                  rintro _ h44 ⟨r43, rfl, H⟩
                  obtain ⟨hy45, H⟩ := H
                  refine sim_re (x := ⟨19, .int .i64 v41, [(63, .bool false), (64, .pointer (some ((⟨b12, 0, none⟩ : Addr).add 2)))]⟩) (pf_y rfl rfl rfl (y_ld tok rfl rfl rfl rfl hy45)) (fun P_19 => ?_)
                  refine sim_p 23 (ei := [(63, .bool false), (65, .int .i64 v41), (68, .int .i64 r43)]) (d := (some 69)) wf (by kernel_rfl) ⟨rfl, rfl, rfl, trivial⟩ (by kernel_rfl) (by kernel_rfl) (fun _ => pf_p tok rfl rfl rfl rfl) (fun P_23 => ?_)
                  refine sim_p 24 (ei := [(63, .bool false), (69, .bool (v41 != r43))]) (d := (some 70)) wf (by kernel_rfl) ⟨rfl, rfl, trivial⟩ (by kernel_rfl) (by kernel_rfl) (fun _ => pf_p tok rfl rfl rfl rfl) (fun P_24 => ?_)
                  refine sim_end wf ⟨P_24 _, P_23 _, trivial, trivial, P_19, P_18 _, trivial, trivial, trivial, trivial, trivial, trivial, trivial, trivial, trivial, trivial, trivial, trivial, trivial, trivial, trivial, trivial, trivial, trivial, trivial⟩ (by kernel_rfl) ?_
                  clear wf P_0 P_1 P_10 P_11 P_12 P_13 P_14 P_15 P_16 P_17 P_18 P_19 P_2 P_20 P_21 P_23 P_24 P_3 P_4 P_5 P_6 P_7 P_8 P_9
                  exact x_join (v41 != r43) H ⟨rfl, rfl, rfl, rfl, rfl, rfl, rfl, trivial⟩
              ·
                refine sim_p 9 (ei := [(12, .pointer (some (⟨b12, 0, none⟩ : Addr))), (54, .bool false)]) (d := (some 55)) wf (by kernel_rfl) ⟨rfl, rfl, trivial⟩ (by kernel_rfl) (by kernel_rfl) (fun _ => pf_p tok rfl rfl rfl rfl) (fun P_9 => ?_)
                obtain ⟨v46, hv46, H⟩ := H
                refine sim_l 10 (ei := [(54, .bool false), (55, .pointer (some ((⟨b12, 0, none⟩ : Addr).add 2)))]) (d := (some 56)) wf (by kernel_rfl) ⟨rfl, rfl, trivial⟩ (by kernel_rfl) (by kernel_rfl) (pf_y rfl rfl rfl (y_ld tok rfl rfl rfl rfl hv46)) (fun P_10 => ?_)
                refine sim_p 11 (ei := [(0, .pointer p0), (54, .bool false)]) (d := (some 57)) wf (by kernel_rfl) ⟨rfl, rfl, trivial⟩ (by kernel_rfl) (by kernel_rfl) (fun _ => pf_p tok rfl rfl rfl rfl) (fun P_11 => ?_)
                obtain ⟨a47, ha47, H⟩ := H
                refine sim_p 12 (ei := [(54, .bool false), (57, .pointer p0)]) (d := (some 58)) wf (by kernel_rfl) ⟨rfl, rfl, trivial⟩ (by kernel_rfl) (by kernel_rfl) (fun _ => pf_y rfl rfl rfl (y_nil' rfl rfl ha47)) (fun P_12 => ?_)
                refine sim_p 13 (ei := [(54, .bool false), (58, .pointer (some a47))]) (d := (some 59)) wf (by kernel_rfl) ⟨rfl, rfl, trivial⟩ (by kernel_rfl) (by kernel_rfl) (fun _ => pf_p tok rfl rfl rfl rfl) (fun P_13 => ?_)
                obtain ⟨v48, hv48, H⟩ := H
                refine sim_l 14 (ei := [(54, .bool false), (59, .pointer (some (a47.add 2)))]) (d := (some 60)) wf (by kernel_rfl) ⟨rfl, rfl, trivial⟩ (by kernel_rfl) (by kernel_rfl) (pf_y rfl rfl rfl (y_ld tok rfl rfl rfl rfl hv48)) (fun P_14 => ?_)
                refine sim_p 15 (ei := [(54, .bool false), (56, .int .i64 v46), (60, .int .i64 v48)]) (d := (some 61)) wf (by kernel_rfl) ⟨rfl, rfl, rfl, trivial⟩ (by kernel_rfl) (by kernel_rfl) (fun _ => pf_p tok rfl rfl rfl rfl) (fun P_15 => ?_)
                refine sim_p 16 (ei := [(54, .bool false), (61, .bool (decide (v46 > v48)))]) (d := (some 62)) wf (by kernel_rfl) ⟨rfl, rfl, trivial⟩ (by kernel_rfl) (by kernel_rfl) (fun _ => pf_p tok rfl rfl rfl rfl) (fun P_16 => ?_)
                refine sim_p 17 (ei := [(62, .bool (decide (v46 > v48)))]) (d := (some 63)) wf (by kernel_rfl) ⟨rfl, trivial⟩ (by kernel_rfl) (by kernel_rfl) (fun _ => pf_p tok rfl rfl rfl rfl) (fun P_17 => ?_)
                refine sim_gif 63 H rfl (fun hb H => ?_) (fun hb H => ?_)
                ·
                  refine sim_p 18 (v := undef) (ei := [(12, .pointer (some (⟨b12, 0, none⟩ : Addr))), (63, .bool true)]) (d := (some 64)) wf (by kernel_rfl) ⟨rfl, rfl, trivial⟩ (by kernel_rfl) (by kernel_rfl) (fun _ => pf_s rfl rfl rfl) (fun P_18 => ?_)
                  refine sim_p 19 (v := undef) (ei := [(63, .bool true), (64, undef)]) (d := (some 65)) wf (by kernel_rfl) ⟨rfl, rfl, trivial⟩ (by kernel_rfl) (by kernel_rfl) (fun _ => pf_s rfl rfl rfl) (fun P_19 => ?_)
                  refine sim_p 20 (v := undef) (ei := [(12, .pointer (some (⟨b12, 0, none⟩ : Addr))), (63, .bool true)]) (d := (some 66)) wf (by kernel_rfl) ⟨rfl, rfl, trivial⟩ (by kernel_rfl) (by kernel_rfl) (fun _ => pf_s rfl rfl rfl) (fun P_20 => ?_)
                  refine sim_p 21 (v := undef) (ei := [(63, .bool true), (66, undef)]) (d := (some 67)) wf (by kernel_rfl) ⟨rfl, rfl, trivial⟩ (by kernel_rfl) (by kernel_rfl) (fun _ => pf_s rfl rfl rfl) (fun P_21 => ?_)
                  refine sim_p 22 (v := undef) (ei := [(63, .bool true), (67, undef)]) (d := (some 68)) wf (by kernel_rfl) ⟨rfl, rfl, trivial⟩ (by kernel_rfl) (by kernel_rfl) (fun _ => pf_s rfl rfl rfl) (fun P_22 => ?_)
                  refine sim_p 23 (v := undef) (ei := [(63, .bool true), (65, undef), (68, undef)]) (d := (some 69)) wf (by kernel_rfl) ⟨rfl, rfl, rfl, trivial⟩ (by kernel_rfl) (by kernel_rfl) (fun _ => pf_s rfl rfl rfl) (fun P_23 => ?_)
                  refine sim_p 24 (ei := [(63, .bool true), (69, undef)]) (d := (some 70)) wf (by kernel_rfl) ⟨rfl, rfl, trivial⟩ (by kernel_rfl) (by kernel_rfl) (fun _ => pf_p tok rfl rfl rfl rfl) (fun P_24 => ?_)
                  refine sim_end wf ⟨P_24 _, P_23 _, P_22 _, P_21 _, P_20 _, P_19 _, P_18 _, P_17 _, P_16 _, P_15 _, P_14, P_13 _, P_12 _, P_11 _, P_10, P_9 _, P_8 _, P_7 _, P_6 _, P_5, P_4 _, P_3 _, P_2 _, P_1, P_0, trivial⟩ (by kernel_rfl) ?_
                  clear wf P_0 P_1 P_10 P_11 P_12 P_13 P_14 P_15 P_16 P_17 P_18 P_19 P_2 P_20 P_21 P_22 P_23 P_24 P_3 P_4 P_5 P_6 P_7 P_8 P_9
                  exact x_join true H ⟨rfl, rfl, rfl, rfl, rfl, rfl, rfl, trivial⟩
                ·
                  refine sim_p 18 (ei := [(12, .pointer (some (⟨b12, 0, none⟩ : Addr))), (63, .bool false)]) (d := (some 64)) wf (by kernel_rfl) ⟨rfl, rfl, trivial⟩ (by kernel_rfl) (by kernel_rfl) (fun _ => pf_p tok rfl rfl rfl rfl) (fun P_18 => ?_)
                  obtain ⟨v49, hv49, H⟩ := H
                  refine sim_l 19 (ei := [(63, .bool false), (64, .pointer (some ((⟨b12, 0, none⟩ : Addr).add 2)))]) (d := (some 65)) wf (by kernel_rfl) ⟨rfl, rfl, trivial⟩ (by kernel_rfl) (by kernel_rfl) (pf_y rfl rfl rfl (y_ld tok rfl rfl rfl rfl hv49)) (fun P_19 => ?_)
                  refine sim_p 20 (ei := [(12, .pointer (some (⟨b12, 0, none⟩ : Addr))), (63, .bool false)]) (d := (some 66)) wf (by kernel_rfl) ⟨rfl, rfl, trivial⟩ (by kernel_rfl) (by kernel_rfl) (fun _ => pf_p tok rfl rfl rfl rfl) (fun P_20 => ?_)
                  obtain ⟨v50, hv50, H⟩ := H
                  refine sim_l 21 (ei := [(63, .bool false), (66, .pointer (some ((⟨b12, 0, none⟩ : Addr).add 3)))]) (d := (some 67)) wf (by kernel_rfl) ⟨rfl, rfl, trivial⟩ (by kernel_rfl) (by kernel_rfl) (pf_y rfl rfl rfl (y_ld tok rfl rfl rfl rfl hv50)) (fun P_21 => ?_)
                  refine sim_c 22 [0, 1, 2, 3, 4, 5, 6, 7, 8, 9, 10, 11, 12, 13, 14, 15, 16, 17, 20, 21] [0, 1, 2, 3, 4, 5, 6, 7, 8, 9, 10, 11, 12, 13, 14, 15, 16, 17, 20, 21] (ei := [(63, .bool false), (67, .int .i64 v50)]) slot_parts_ok (slot_parts_ref _ _ _ H) wf ⟨P_21, P_20 _, P_19, P_18 _, P_17 _, P_16 _, P_15 _, P_14, P_13 _, P_12 _, P_11 _, P_10, P_9 _, P_8 _, P_7 _, P_6 _, P_5, P_4 _, P_3 _, P_2 _, P_1, P_0, trivial⟩ (by kernel_rfl) ⟨rfl, rfl, trivial⟩ (by kernel_rfl) rfl rfl rfl rfl rfl ?_
                  rintro _ h52 ⟨r51, rfl, H⟩
                  obtain ⟨hy53, H⟩ := H
                  refine sim_re (x := ⟨19, .int .i64 v49, [(63, .bool false), (64, .pointer (some ((⟨b12, 0, none⟩ : Addr).add 2)))]⟩) (pf_y rfl rfl rfl (y_ld tok rfl rfl rfl rfl hy53)) (fun P_19 => ?_)
                  refine sim_p 23 (ei := [(63, .bool false), (65, .int .i64 v49), (68, .int .i64 r51)]) (d := (some 69)) wf (by kernel_rfl) ⟨rfl, rfl, rfl, trivial⟩ (by kernel_rfl) (by kernel_rfl) (fun _ => pf_p tok rfl rfl rfl rfl) (fun P_23 => ?_)
                  refine sim_p 24 (ei := [(63, .bool false), (69, .bool (v49 != r51))]) (d := (some 70)) wf (by kernel_rfl) ⟨rfl, rfl, trivial⟩ (by kernel_rfl) (by kernel_rfl) (fun _ => pf_p tok rfl rfl rfl rfl) (fun P_24 => ?_)
                  refine sim_end wf ⟨P_24 _, P_23 _, trivial, trivial, P_19, P_18 _, trivial, trivial, trivial, trivial, trivial, trivial, trivial, trivial, trivial, trivial, trivial, trivial, trivial, trivial, trivial, trivial, trivial, trivial, trivial⟩ (by kernel_rfl) ?_
                  clear wf P_0 P_1 P_10 P_11 P_12 P_13 P_14 P_15 P_16 P_17 P_18 P_19 P_2 P_20 P_21 P_23 P_24 P_3 P_4 P_5 P_6 P_7 P_8 P_9
                  exact x_join (v49 != r51) H ⟨rfl, rfl, rfl, rfl, rfl, rfl, rfl, trivial⟩
        ·
          refine c_seq ?_
          refine c_region ?_
          refine w_p tok rfl rfl rfl ?_
          refine w_p tok rfl rfl rfl ?_
          refine w_end ?_
          refine x_seq ?_
          refine c_if H rfl (fun H => ?_) (fun H => ?_)
          ·
            refine c_region ?_
            obtain ⟨v54, hv54, H⟩ := H
            refine w_y (y_lda tok rfl rfl rfl rfl rfl hv54) rfl rfl ?_
            obtain ⟨h55, wh55, eh55, H⟩ := H
            refine w_h (h_sts tok rfl rfl rfl rfl rfl (oneC (by kernel_rfl)) wh55 eh55) rfl rfl ?_
            refine w_end ?_
            exact x_join () H ⟨rfl, rfl, rfl, rfl, rfl, rfl, rfl, trivial⟩
          ·
            refine c_skip ?_
            exact x_join () H ⟨rfl, rfl, rfl, rfl, rfl, rfl, rfl, trivial⟩
    ·
      refine c_exit ?_
      refine x_te ?_
      refine x_te ?_
      refine x_bh ?_
      refine x_seq ?_
      refine c_seq ?_
      refine c_region ?_
      refine w_p tok rfl rfl rfl ?_
      refine w_p tok rfl rfl rfl ?_
      obtain ⟨v56, hv56, H⟩ := H
      refine w_y (y_ld tok rfl rfl rfl rfl hv56) rfl rfl ?_
      obtain ⟨s57, ps57, qs57, rs57, ts57, es57, H⟩ := H
      refine w_ye (y_sl (s := t7_1) (L := 0) (H := v56) (M := (t7_1.cap : Int)) tok rfl rfl rfl rfl rfl rfl rfl (by simp) ps57 qs57 rs57 ts57) (congrArg Slc.v es57) rfl rfl ?_
      refine w_p tok rfl rfl rfl ?_
      refine w_end ?_
      refine x_seq ?_
      refine c_weak [(7, Slc.v s57), (8, .pointer (some (⟨b1, 0, none⟩ : Addr)))] ⟨rfl, rfl, trivial⟩ ?_
      refine c_seq ?_
      refine c_seq ?_
      refine c_sim [(7, Slc.v s57), (8, .pointer (some (⟨b1, 0, none⟩ : Addr)))] (by kernel_rfl) (by kernel_rfl) ⟨rfl, rfl, trivial⟩ (fun wf => ?_)
      refine sim_p 0 (ei := [(7, Slc.v s57)]) (d := (some 82)) wf (by kernel_rfl) ⟨rfl, trivial⟩ (by kernel_rfl) (by kernel_rfl) (fun _ => pf_p tok rfl rfl rfl rfl) (fun P_0 => ?_)
      refine sim_p 4 (ei := [(8, .pointer (some (⟨b1, 0, none⟩ : Addr)))]) (d := (some 86)) wf (by kernel_rfl) ⟨rfl, trivial⟩ (by kernel_rfl) (by kernel_rfl) (fun _ => pf_p tok rfl rfl rfl rfl) (fun P_4 => ?_)
      obtain ⟨v58, hv58, H⟩ := H
      refine sim_l 5 (ei := [(86, .pointer (some ((⟨b1, 0, none⟩ : Addr).add 4)))]) (d := (some 87)) wf (by kernel_rfl) ⟨rfl, trivial⟩ (by kernel_rfl) (by kernel_rfl) (pf_y rfl rfl rfl (y_ld tok rfl rfl rfl rfl hv58)) (fun P_5 => ?_)
      obtain ⟨b59, h60, eb59, eh60, H⟩ := H
      refine sim_h 1 [0] [0] (ei := [(82, Slc.v s57)]) wf ⟨P_5, P_4 _, P_0 _, trivial⟩ (by kernel_rfl) ⟨rfl, trivial⟩ (by kernel_rfl) rfl rfl rfl (h_bs tok rfl rfl rfl rfl rfl rfl rfl eb59 eh60) ?_
      obtain ⟨hy61, H⟩ := H
      refine sim_re (x := ⟨5, .int .u64 v58, [(86, .pointer (some ((⟨b1, 0, none⟩ : Addr).add 4)))]⟩) (pf_y rfl rfl rfl (y_ld tok rfl rfl rfl rfl hy61)) (fun P_5 => ?_)
      refine sim_c 2 [0, 1] [0] (ei := [(83, Slc.v (⟨some ⟨b59, 0, none⟩, 1, 1⟩ : Slc))]) sha_Of_ok (sha_Of_ref _ _ _ H) wf ⟨P_5, P_4 _, trivial, trivial⟩ (by kernel_rfl) ⟨rfl, trivial⟩ (by kernel_rfl) rfl rfl rfl rfl rfl ?_
      rintro _ h63 ⟨r62, rfl, H⟩
      obtain ⟨hy64, H⟩ := H
      refine sim_re (x := ⟨5, .int .u64 v58, [(86, .pointer (some ((⟨b1, 0, none⟩ : Addr).add 4)))]⟩) (pf_y rfl rfl rfl (y_ld tok rfl rfl rfl rfl hy64)) (fun P_5 => ?_)
      refine sim_c 3 [0, 1, 2] [0] (ei := [(84, .agg (arr 32 .u8 r62).toArray)]) sha_Short_ok (sha_Short_ref _ _ _ H) wf ⟨P_5, P_4 _, trivial, trivial⟩ (by kernel_rfl) ⟨rfl, trivial⟩ (by kernel_rfl) rfl rfl rfl rfl rfl ?_
      rintro _ h66 ⟨r65, rfl, H⟩
      obtain ⟨hy67, H⟩ := H
      refine sim_re (x := ⟨5, .int .u64 v58, [(86, .pointer (some ((⟨b1, 0, none⟩ : Addr).add 4)))]⟩) (pf_y rfl rfl rfl (y_ld tok rfl rfl rfl rfl hy67)) (fun P_5 => ?_)
      refine sim_p 6 (ei := [(85, .int .u64 r65), (87, .int .u64 v58)]) (d := (some 88)) wf (by kernel_rfl) ⟨rfl, rfl, trivial⟩ (by kernel_rfl) (by kernel_rfl) (fun _ => pf_p tok rfl rfl rfl rfl) (fun P_6 => ?_)
      refine sim_end wf ⟨P_6 _, P_5, P_4 _, trivial, trivial⟩ (by kernel_rfl) ?_
      clear wf P_0 P_4 P_5 P_6
      refine x_seq ?_
      refine c_if H rfl (fun H => ?_) (fun H => ?_)
      ·
        refine c_seq ?_
        refine c_region ?_
        refine w_p tok rfl rfl rfl ?_
        refine w_p tok rfl rfl rfl ?_
        refine w_p tok rfl rfl rfl ?_
        refine w_end ?_
        refine x_seq ?_
        refine c_weak [(4, Slc.v (⟨none, 0, 0⟩ : Slc)), (5, .int .u64 0), (6, .bool false)] ⟨rfl, rfl, rfl, trivial⟩ ?_
        refine c_ret ?_
        refine x_tr ?_
        exact x_ret _ rfl _ rfl ⟨((⟨none, 0, 0⟩ : Slc), 0, false), rfl, H⟩
      ·
        refine c_skip ?_
        refine x_seq ?_
        refine c_weak [(7, Slc.v s57), (8, .pointer (some (⟨b1, 0, none⟩ : Addr)))] ⟨rfl, rfl, trivial⟩ ?_
        refine c_seq ?_
        refine c_draw (by kernel_rfl) (by kernel_rfl) ?_
        refine q_p tok rfl rfl rfl ?_
        refine q_p tok rfl rfl rfl ?_
        obtain ⟨v68, hv68, H⟩ := H
        refine q_y (y_ld tok rfl rfl rfl rfl hv68) rfl rfl ?_
        refine q_p tok rfl rfl rfl ?_
        refine q_p tok rfl rfl rfl ?_
        refine q_p tok rfl rfl rfl ?_
        refine q_end ?_
        refine x_seq ?_
        refine c_ret ?_
        exact x_ret _ rfl _ rfl ⟨(s57, v68, true), rfl, H⟩
  ·
    refine w_gif (d := 16) H rfl (fun H => ?_) (fun H => ?_)
    ·
      refine w_skip rfl rfl ?_
      refine w_skip rfl rfl ?_
      refine w_skip rfl rfl ?_
      refine w_skip rfl rfl ?_
      refine w_p tok rfl rfl rfl ?_
      exact w_jn true H ⟨rfl, rfl, rfl, rfl, rfl, rfl, trivial⟩
    ·
      refine w_p tok rfl rfl rfl ?_
      refine w_p tok rfl rfl rfl ?_
      obtain ⟨v69, hv69, H⟩ := H
      refine w_y (y_ld tok rfl rfl rfl rfl hv69) rfl rfl ?_
      refine w_p tok rfl rfl rfl ?_
      refine w_p tok rfl rfl rfl ?_
      exact w_jn (decide (t9_1 < v69)) H ⟨rfl, rfl, rfl, rfl, rfl, rfl, trivial⟩

theorem slot_Pair_best_ok : CallOk Go.Proofs.Tryd.prog 42 := ⟨_, Go.Proofs.Tryd.func42, by kernel_rfl, by kernel_rfl⟩
theorem slot_Pair_best_ref (p0 : Option Addr) (k : (Int × Slc × Int) → Heap → Prop) (h : Heap) (H : slot_Pair_best p0 k h) : CallsH Go.Proofs.Tryd.prog 42 #[.pointer p0] h (fun v h' => ∃ r : Int × Slc × Int, v = .tuple #[.int .i64 r.1, Slc.v r.2.1, .int .u64 r.2.2] ∧ k r h') := by
  refine f_enter (N := 36) Go.Proofs.Tryd.func42 rfl rfl rfl (fun w0 => ?_)
  unfold slot_Pair_best at H
  refine c_weak [(0, .pointer p0)] ⟨rfl, trivial⟩ ?_
  refine c_seq ?_
  refine c_region ?_
  refine w_p tok rfl rfl rfl ?_
  refine w_p tok rfl rfl rfl ?_
  refine w_p tok rfl rfl rfl ?_
  refine w_end ?_
  refine x_seq ?_
  refine c_seq ?_
  refine c_region ?_
  obtain ⟨x1, ex1, H⟩ := H
  refine w_pe tok rfl (congrArg (fun z => (.int .i64 z : Value)) ex1) rfl rfl ?_
  refine w_end ?_
  refine x_seq ?_
  refine c_seq ?_
  refine c_seq ?_
  refine c_region ?_
  refine w_p tok rfl rfl rfl ?_
  refine w_end ?_
  refine x_seq ?_
  refine c_block ?_
  obtain ⟨I1, μ1, H0, HI⟩ := H
  refine c_loop (σ := Int × Slc × Int × Int) (fun (s : Int × Slc × Int × Int) => [(2, .int .i64 s.1), (3, Slc.v s.2.1), (4, .int .u64 s.2.2.1), (9, .int .i64 s.2.2.2), (0, .pointer p0)]) I1 μ1 (x1, (⟨none, 0, 0⟩ : Slc), 0, 0) H0 ⟨rfl, rfl, rfl, rfl, rfl, trivial⟩ ?_
  rintro ⟨t2_1, t3_1, t4_1, t9_1⟩ h_1 H
  replace H := HI t2_1 t3_1 t4_1 t9_1 h_1 H
  unfold slot_Pair_best_l1b at H
  refine c_weak [(2, .int .i64 t2_1), (3, Slc.v t3_1), (4, .int .u64 t4_1), (9, .int .i64 t9_1), (0, .pointer p0)] ⟨rfl, rfl, rfl, rfl, rfl, trivial⟩ ?_
  refine c_seq ?_
  refine c_region ?_
  refine w_p tok rfl rfl rfl ?_
  refine w_end ?_
  refine x_seq ?_
  refine c_seq ?_
  refine c_if H rfl (fun H => ?_) (fun H => ?_)
  ·
    refine c_skip ?_
    refine x_seq ?_
    refine c_seqJ (α := Int × Slc × Int) (fun (s : Int × Slc × Int) => [(2, .int .i64 s.1), (3, Slc.v s.2.1), (4, .int .u64 s.2.2), (0, .pointer p0), (9, .int .i64 t9_1)]) (fun (s : Int × Slc × Int) h => slot_Pair_best_j2 p0 t9_1 s.1 s.2.1 s.2.2 k (fun s h' => I1 s h' ∧ μ1 s h' < μ1 (t2_1, t3_1, t4_1, t9_1) h_1) h) ?_ ?_
    ·
      rintro ⟨t2_2, t3_2, t4_2⟩ h_2 H
      replace H : slot_Pair_best_j2 p0 t9_1 t2_2 t3_2 t4_2 k (fun s h' => I1 s h' ∧ μ1 s h' < μ1 (t2_1, t3_1, t4_1, t9_1) h_1) h_2 := H
      unfold slot_Pair_best_j2 at H
      refine c_weak [(2, .int .i64 t2_2), (3, Slc.v t3_2), (4, .int .u64 t4_2), (0, .pointer p0), (9, .int .i64 t9_1)] ⟨rfl, rfl, rfl, rfl, rfl, trivial⟩ ?_
      refine c_region ?_
      refine w_p tok rfl rfl rfl ?_
      refine w_p tok rfl rfl rfl ?_
      refine w_end ?_
      exact x_join (t2_2, t3_2, t4_2, (IntKind.i64.wrap (t9_1 + 1))) H ⟨rfl, rfl, rfl, rfl, rfl, trivial⟩
    ·
      refine c_block ?_
      refine c_seq ?_
      refine c_region ?_
      refine w_p tok rfl rfl rfl ?_
      refine w_p tok rfl rfl rfl ?_
      refine w_end ?_
      refine x_seq ?_
      refine c_seq ?_
      refine c_region ?_
      refine w_p tok rfl rfl rfl ?_
      refine w_p tok rfl rfl rfl ?_
      refine w_call slot_Pair_whole_ok (slot_Pair_whole_ref _ _ _ _ H) rfl rfl rfl rfl ?_
      rintro _ h3 ⟨r2, rfl, H⟩
      refine w_p tok rfl rfl rfl ?_
      refine w_p tok rfl rfl rfl ?_
      refine w_p tok rfl rfl rfl ?_
      refine w_p tok rfl rfl rfl ?_
      refine w_p tok rfl rfl rfl ?_
      refine w_p tok rfl rfl rfl ?_
      refine w_p tok rfl rfl rfl ?_
      refine w_end ?_
      refine x_seq ?_
      refine c_weak [(2, .int .i64 t2_1), (3, Slc.v t3_1), (4, .int .u64 t4_1), (9, .int .i64 t9_1), (0, .pointer p0), (5, .int .i64 t9_1), (6, Slc.v r2.1), (7, .int .u64 r2.2.1), (8, .bool r2.2.2)] ⟨rfl, rfl, rfl, rfl, rfl, rfl, rfl, rfl, rfl, trivial⟩ ?_
      refine c_seq ?_
      refine c_region ?_
      refine w_p tok rfl rfl rfl ?_
      refine w_p tok rfl rfl rfl ?_
      refine w_cutU 8 [(28, .bool (r2.2.2 && ((decide (t2_1 < 0)) || (decide (r2.2.1 > t4_1))))), (0, .pointer p0), (2, .int .i64 t2_1), (3, Slc.v t3_1), (4, .int .u64 t4_1), (5, .int .i64 t9_1), (6, Slc.v r2.1), (7, .int .u64 r2.2.1), (9, .int .i64 t9_1)] ?_ ?_
      ·
        refine w_end ?_
        refine x_seq ?_
        refine c_if H rfl (fun H => ?_) (fun H => ?_)
        ·
          refine c_region ?_
          refine w_p tok rfl rfl rfl ?_
          refine w_p tok rfl rfl rfl ?_
          refine w_p tok rfl rfl rfl ?_
          refine w_p tok rfl rfl rfl ?_
          refine w_p tok rfl rfl rfl ?_
          refine w_p tok rfl rfl rfl ?_
          refine w_end ?_
          refine x_blk ?_
          exact x_join (t9_1, r2.1, r2.2.1) H ⟨rfl, rfl, rfl, rfl, rfl, trivial⟩
        ·
          refine c_skip ?_
          refine x_blk ?_
          exact x_join (t2_1, t3_1, t4_1) H ⟨rfl, rfl, rfl, rfl, rfl, trivial⟩
      ·
        refine w_gs (d := 20) rfl (fun hb => ?_) (fun hb => ?_)
        ·
          refine w_p tok rfl rfl rfl ?_
          refine w_p tok rfl rfl rfl ?_
          refine w_p tok rfl rfl rfl ?_
          refine w_cutU 4 [(27, .bool ((decide (t2_1 < 0)) || (decide (r2.2.1 > t4_1)))), (0, .pointer p0), (2, .int .i64 t2_1), (3, Slc.v t3_1), (4, .int .u64 t4_1), (5, .int .i64 t9_1), (6, Slc.v r2.1), (7, .int .u64 r2.2.1), (9, .int .i64 t9_1), (20, .bool true)] ?_ ?_
          ·
            refine w_p tok rfl rfl rfl ?_
            refine w_jn () rfl ⟨?_, rfl, rfl, rfl, rfl, rfl, rfl, rfl, rfl, trivial⟩
            exact congrArg (fun b => some (Value.bool b)) (and_t hb)
          ·
            refine w_gs (d := 23) rfl (fun hb => ?_) (fun hb => ?_)
            ·
              refine w_skip rfl rfl ?_
              refine w_skip rfl rfl ?_
              refine w_skip rfl rfl ?_
              refine w_p tok rfl rfl rfl ?_
              refine w_jn () rfl ⟨?_, rfl, rfl, rfl, rfl, rfl, rfl, rfl, rfl, rfl, trivial⟩
              exact congrArg (fun b => some (Value.bool b)) (or_t hb)
            ·
              refine w_p tok rfl rfl rfl ?_
              refine w_p tok rfl rfl rfl ?_
              refine w_p tok rfl rfl rfl ?_
              refine w_p tok rfl rfl rfl ?_
              refine w_jn () rfl ⟨?_, rfl, rfl, rfl, rfl, rfl, rfl, rfl, rfl, rfl, trivial⟩
              exact congrArg (fun b => some (Value.bool b)) (or_f hb)
        ·
          refine w_skip rfl rfl ?_
          refine w_skip rfl rfl ?_
          refine w_skip rfl rfl ?_
          refine w_skip rfl rfl ?_
          refine w_skip rfl rfl ?_
          refine w_skip rfl rfl ?_
          refine w_skip rfl rfl ?_
          refine w_p tok rfl rfl rfl ?_
          refine w_jn () rfl ⟨?_, rfl, rfl, rfl, rfl, rfl, rfl, rfl, rfl, trivial⟩
          exact congrArg (fun b => some (Value.bool b)) (and_f hb)
  ·
    refine c_exit ?_
    refine x_te ?_
    refine x_te ?_
    refine x_bh ?_
    refine x_seq ?_
    refine c_seq ?_
    refine c_region ?_
    refine w_p tok rfl rfl rfl ?_
    refine w_p tok rfl rfl rfl ?_
    refine w_p tok rfl rfl rfl ?_
    refine w_p tok rfl rfl rfl ?_
    refine w_p tok rfl rfl rfl ?_
    refine w_p tok rfl rfl rfl ?_
    refine w_end ?_
    refine x_seq ?_
    refine c_ret ?_
    exact x_ret _ rfl _ rfl ⟨(t2_1, t3_1, t4_1), rfl, H⟩

theorem slot_Pair_Load_ok : CallOk Go.Proofs.Tryd.prog 29 := ⟨_, Go.Proofs.Tryd.func29, by kernel_rfl, by kernel_rfl⟩
theorem slot_Pair_Load_ref (p0 : Option Addr) (k : (Slc × Int × Int) → Heap → Prop) (h : Heap) (H : slot_Pair_Load p0 k h) : CallsH Go.Proofs.Tryd.prog 29 #[.pointer p0] h (fun v h' => ∃ r : Slc × Int × Int, v = .tuple #[Slc.v r.1, .int .u64 r.2.1, .int .i64 r.2.2] ∧ k r h') := by
  refine f_enter (N := 18) Go.Proofs.Tryd.func29 rfl rfl rfl (fun w0 => ?_)
  unfold slot_Pair_Load at H
  refine c_weak [(0, .pointer p0)] ⟨rfl, trivial⟩ ?_
  refine c_seq ?_
  refine c_region ?_
  refine w_p tok rfl rfl rfl ?_
  refine w_p tok rfl rfl rfl ?_
  refine w_p tok rfl rfl rfl ?_
  refine w_end ?_
  refine x_seq ?_
  refine c_seq ?_
  refine c_seq ?_
  refine c_region ?_
  refine w_p tok rfl rfl rfl ?_
  refine w_p tok rfl rfl rfl ?_
  refine w_end ?_
  refine x_seq ?_
  refine c_if H rfl (fun H => ?_) (fun H => ?_)
  ·
    refine c_seq ?_
    refine c_region ?_
    refine w_p tok rfl rfl rfl ?_
    refine w_p tok rfl rfl rfl ?_
    refine w_p tok rfl rfl rfl ?_
    refine w_end ?_
    refine x_seq ?_
    refine c_ret ?_
    refine x_tr ?_
    exact x_ret _ rfl _ rfl ⟨((⟨none, 0, 0⟩ : Slc), 0, 6), rfl, H⟩
  ·
    refine c_skip ?_
    refine x_seq ?_
    refine c_seq ?_
    refine c_region ?_
    refine w_p tok rfl rfl rfl ?_
    refine w_call slot_Pair_best_ok (slot_Pair_best_ref _ _ _ H) rfl rfl rfl rfl ?_
    rintro _ h2 ⟨r1, rfl, H⟩
    refine w_p tok rfl rfl rfl ?_
    refine w_p tok rfl rfl rfl ?_
    refine w_p tok rfl rfl rfl ?_
    refine w_p tok rfl rfl rfl ?_
    refine w_p tok rfl rfl rfl ?_
    refine w_p tok rfl rfl rfl ?_
    refine w_p tok rfl rfl rfl ?_
    refine w_end ?_
    refine x_seq ?_
    refine c_weak [(2, Slc.v r1.2.1), (3, .int .u64 r1.2.2), (5, .int .i64 r1.1)] ⟨rfl, rfl, rfl, trivial⟩ ?_
    refine c_seq ?_
    refine c_seq ?_
    refine c_region ?_
    refine w_p tok rfl rfl rfl ?_
    refine w_p tok rfl rfl rfl ?_
    refine w_end ?_
    refine x_seq ?_
    refine c_if H rfl (fun H => ?_) (fun H => ?_)
    ·
      refine c_seq ?_
      refine c_region ?_
      refine w_p tok rfl rfl rfl ?_
      refine w_p tok rfl rfl rfl ?_
      refine w_p tok rfl rfl rfl ?_
      refine w_end ?_
      refine x_seq ?_
      refine c_ret ?_
      refine x_tr ?_
      exact x_ret _ rfl _ rfl ⟨((⟨none, 0, 0⟩ : Slc), 0, 6), rfl, H⟩
    ·
      refine c_skip ?_
      refine x_seq ?_
      refine c_seq ?_
      refine c_region ?_
      refine w_p tok rfl rfl rfl ?_
      refine w_p tok rfl rfl rfl ?_
      refine w_p tok rfl rfl rfl ?_
      refine w_p tok rfl rfl rfl ?_
      refine w_p tok rfl rfl rfl ?_
      refine w_end ?_
      refine x_seq ?_
      refine c_ret ?_
      exact x_ret _ rfl _ rfl ⟨(r1.2.1, r1.2.2, 0), rfl, H⟩

theorem slot_Pair_greatest_ok : CallOk Go.Proofs.Tryd.prog 47 := ⟨_, Go.Proofs.Tryd.func47, by kernel_rfl, by kernel_rfl⟩
theorem slot_Pair_greatest_ref (p0 : Option Addr) (k : (Int) → Heap → Prop) (h : Heap) (H : slot_Pair_greatest p0 k h) : CallsH Go.Proofs.Tryd.prog 47 #[.pointer p0] h (fun v h' => ∃ r : Int, v = .int .u64 r ∧ k r h') := by
  refine f_enter (N := 38) Go.Proofs.Tryd.func47 rfl rfl rfl (fun w0 => ?_)
  unfold slot_Pair_greatest at H
  refine c_weak [(0, .pointer p0)] ⟨rfl, trivial⟩ ?_
  refine c_seq ?_
  refine c_region ?_
  refine w_p tok rfl rfl rfl ?_
  refine w_end ?_
  refine x_seq ?_
  refine c_seq ?_
  refine c_region ?_
  refine w_p tok rfl rfl rfl ?_
  refine w_end ?_
  refine x_seq ?_
  refine c_seq ?_
  refine c_seq ?_
  refine c_region ?_
  refine w_p tok rfl rfl rfl ?_
  obtain ⟨a1, ha1, H⟩ := H
  refine w_y (y_nil' rfl rfl ha1) rfl rfl ?_
  refine w_p tok rfl rfl rfl ?_
  obtain ⟨v2, hv2, H⟩ := H
  refine w_y (y_ld tok rfl rfl rfl rfl hv2) rfl rfl ?_
  refine w_p tok rfl rfl rfl ?_
  refine w_p tok rfl rfl rfl ?_
  refine w_end ?_
  refine x_seq ?_
  refine c_block ?_
  obtain ⟨I1, μ1, H0, HI⟩ := H
  refine c_loop (σ := Int × Int) (fun (s : Int × Int) => [(3, .int .u64 s.1), (12, .int .i64 s.2), (0, .pointer p0), (11, .int .i64 (IntKind.i64.wrap (2 * v2)))]) I1 μ1 (0, 0) H0 ⟨rfl, rfl, rfl, rfl, trivial⟩ ?_
  rintro ⟨t3_1, t12_1⟩ h_1 H
  replace H := HI t3_1 t12_1 h_1 H
  unfold slot_Pair_greatest_l1b at H
  refine c_weak [(3, .int .u64 t3_1), (12, .int .i64 t12_1), (0, .pointer p0), (11, .int .i64 (IntKind.i64.wrap (2 * v2)))] ⟨rfl, rfl, rfl, rfl, trivial⟩ ?_
  refine c_seq ?_
  refine c_region ?_
  refine w_p tok rfl rfl rfl ?_
  refine w_end ?_
  refine x_seq ?_
  refine c_seq ?_
  refine c_if H rfl (fun H => ?_) (fun H => ?_)
  ·
    refine c_skip ?_
    refine x_seq ?_
    refine c_seqJ (α := Int) (fun (s : Int) => [(3, .int .u64 s), (0, .pointer p0), (11, .int .i64 (IntKind.i64.wrap (2 * v2))), (12, .int .i64 t12_1)]) (fun (s : Int) h => slot_Pair_greatest_j2 p0 (IntKind.i64.wrap (2 * v2)) t12_1 s k (fun s h' => I1 s h' ∧ μ1 s h' < μ1 (t3_1, t12_1) h_1) h) ?_ ?_
    ·
      rintro t3_2 h_2 H
      replace H : slot_Pair_greatest_j2 p0 (IntKind.i64.wrap (2 * v2)) t12_1 t3_2 k (fun s h' => I1 s h' ∧ μ1 s h' < μ1 (t3_1, t12_1) h_1) h_2 := H
      unfold slot_Pair_greatest_j2 at H
      refine c_weak [(3, .int .u64 t3_2), (0, .pointer p0), (11, .int .i64 (IntKind.i64.wrap (2 * v2))), (12, .int .i64 t12_1)] ⟨rfl, rfl, rfl, rfl, trivial⟩ ?_
      refine c_region ?_
      refine w_p tok rfl rfl rfl ?_
      refine w_p tok rfl rfl rfl ?_
      refine w_end ?_
      exact x_join (t3_2, (IntKind.i64.wrap (t12_1 + 1))) H ⟨rfl, rfl, rfl, rfl, trivial⟩
    ·
      refine c_block ?_
      refine c_seq ?_
      refine c_region ?_
      refine w_p tok rfl rfl rfl ?_
      refine w_p tok rfl rfl rfl ?_
      refine w_end ?_
      refine x_seq ?_
      refine c_seq ?_
      refine c_sim [(0, .pointer p0), (3, .int .u64 t3_1), (4, .int .i64 t12_1), (11, .int .i64 (IntKind.i64.wrap (2 * v2))), (12, .int .i64 t12_1)] (by kernel_rfl) (by kernel_rfl) ⟨rfl, rfl, rfl, rfl, rfl, trivial⟩ (fun wf => ?_)
      refine sim_p 0 (ei := [(0, .pointer p0)]) (d := (some 16)) wf (by kernel_rfl) ⟨rfl, trivial⟩ (by kernel_rfl) (by kernel_rfl) (fun _ => pf_p tok rfl rfl rfl rfl) (fun P_0 => ?_)
      obtain ⟨a3, ha3, H⟩ := H
      refine sim_p 1 (ei := [(16, .pointer p0)]) (d := (some 17)) wf (by kernel_rfl) ⟨rfl, trivial⟩ (by kernel_rfl) (by kernel_rfl) (fun _ => pf_y rfl rfl rfl (y_nil' rfl rfl ha3)) (fun P_1 => ?_)
      refine sim_p 2 (ei := [(17, .pointer (some a3))]) (d := (some 18)) wf (by kernel_rfl) ⟨rfl, trivial⟩ (by kernel_rfl) (by kernel_rfl) (fun _ => pf_p tok rfl rfl rfl rfl) (fun P_2 => ?_)
      obtain ⟨v4, hv4, H⟩ := H
      refine sim_l 3 (ei := [(18, .pointer (some a3))]) (d := (some 19)) wf (by kernel_rfl) ⟨rfl, trivial⟩ (by kernel_rfl) (by kernel_rfl) (pf_y rfl rfl rfl (y_ld tok rfl rfl rfl rfl hv4)) (fun P_3 => ?_)
      refine sim_p 4 (ei := [(0, .pointer p0)]) (d := (some 20)) wf (by kernel_rfl) ⟨rfl, trivial⟩ (by kernel_rfl) (by kernel_rfl) (fun _ => pf_p tok rfl rfl rfl rfl) (fun P_4 => ?_)
      refine sim_p 5 (ei := [(20, .pointer p0)]) (d := (some 21)) wf (by kernel_rfl) ⟨rfl, trivial⟩ (by kernel_rfl) (by kernel_rfl) (fun _ => pf_y rfl rfl rfl (y_nil' rfl rfl ha3)) (fun P_5 => ?_)
      refine sim_p 6 (ei := [(21, .pointer (some a3))]) (d := (some 22)) wf (by kernel_rfl) ⟨rfl, trivial⟩ (by kernel_rfl) (by kernel_rfl) (fun _ => pf_p tok rfl rfl rfl rfl) (fun P_6 => ?_)
      obtain ⟨v5, hv5, H⟩ := H
      refine sim_l 7 (ei := [(22, .pointer (some (a3.add 1)))]) (d := (some 23)) wf (by kernel_rfl) ⟨rfl, trivial⟩ (by kernel_rfl) (by kernel_rfl) (pf_y rfl rfl rfl (y_ld tok rfl rfl rfl rfl hv5)) (fun P_7 => ?_)
      refine sim_p 8 (ei := [(4, .int .i64 t12_1)]) (d := (some 24)) wf (by kernel_rfl) ⟨rfl, trivial⟩ (by kernel_rfl) (by kernel_rfl) (fun _ => pf_p tok rfl rfl rfl rfl) (fun P_8 => ?_)
      refine sim_p 9 (ei := [(23, .int .i64 v5), (24, .int .i64 t12_1)]) (d := (some 25)) wf (by kernel_rfl) ⟨rfl, rfl, trivial⟩ (by kernel_rfl) (by kernel_rfl) (fun _ => pf_p tok rfl rfl rfl rfl) (fun P_9 => ?_)
      refine sim_c 10 [0, 1, 2, 3, 4, 5, 6, 7, 8, 9] [0, 1, 2, 3, 4, 5, 6, 7, 8, 9] (ei := [(19, .pointer v4), (25, .int .i64 (IntKind.i64.wrap (v5 + t12_1)))]) disk_Disk_Read_ok (disk_Disk_Read_ref _ _ _ _ H) wf ⟨P_9 _, P_8 _, P_7, P_6 _, P_5 _, P_4 _, P_3, P_2 _, P_1 _, P_0 _, trivial⟩ (by kernel_rfl) ⟨rfl, rfl, trivial⟩ (by kernel_rfl) rfl rfl rfl rfl rfl ?_
      rintro _ h7 ⟨r6, rfl, H⟩
      refine sim_p 11 (ei := [(26, .tuple #[Slc.v r6.1, .int .i64 r6.2])]) (d := (some 15)) wf (by kernel_rfl) ⟨rfl, trivial⟩ (by kernel_rfl) (by kernel_rfl) (fun _ => pf_p tok rfl rfl rfl rfl) (fun P_11 => ?_)
      refine sim_p 12 (ei := [(15, .tuple #[Slc.v r6.1, .int .i64 r6.2])]) (d := (some 27)) wf (by kernel_rfl) ⟨rfl, trivial⟩ (by kernel_rfl) (by kernel_rfl) (fun _ => pf_p tok rfl rfl rfl rfl) (fun P_12 => ?_)
      refine sim_p 13 (ei := [(15, .tuple #[Slc.v r6.1, .int .i64 r6.2])]) (d := (some 28)) wf (by kernel_rfl) ⟨rfl, trivial⟩ (by kernel_rfl) (by kernel_rfl) (fun _ => pf_p tok rfl rfl rfl rfl) (fun P_13 => ?_)
      refine sim_p 14 (ei := [(27, Slc.v r6.1)]) (d := (some 5)) wf (by kernel_rfl) ⟨rfl, trivial⟩ (by kernel_rfl) (by kernel_rfl) (fun _ => pf_p tok rfl rfl rfl rfl) (fun P_14 => ?_)
      refine sim_p 15 (ei := [(28, .int .i64 r6.2)]) (d := (some 6)) wf (by kernel_rfl) ⟨rfl, trivial⟩ (by kernel_rfl) (by kernel_rfl) (fun _ => pf_p tok rfl rfl rfl rfl) (fun P_15 => ?_)
      refine sim_end wf ⟨P_15 _, P_14 _, P_13 _, P_12 _, P_11 _, trivial, trivial, trivial, trivial, trivial, trivial, trivial, trivial, trivial, trivial, trivial⟩ (by kernel_rfl) ?_
      clear wf P_0 P_1 P_11 P_12 P_13 P_14 P_15 P_2 P_3 P_4 P_5 P_6 P_7 P_8 P_9
      refine x_seq ?_
      refine c_weak [(0, .pointer p0), (3, .int .u64 t3_1), (11, .int .i64 (IntKind.i64.wrap (2 * v2))), (12, .int .i64 t12_1), (5, Slc.v r6.1), (6, .int .i64 r6.2)] ⟨rfl, rfl, rfl, rfl, rfl, rfl, trivial⟩ ?_
      refine c_seq ?_
      refine c_region ?_
      refine w_p tok rfl rfl rfl ?_
      refine w_p tok rfl rfl rfl ?_
      refine w_end ?_
      refine x_seq ?_
      refine c_if H rfl (fun H => ?_) (fun H => ?_)
      ·
        refine c_region ?_
        refine w_p tok rfl rfl rfl ?_
        refine w_p tok rfl rfl rfl ?_
        refine w_call slot_headOf_ok (slot_headOf_ref _ _ _ H) rfl rfl rfl rfl ?_
        rintro _ h9 ⟨r8, rfl, H⟩
        refine w_p tok rfl rfl rfl ?_
        refine w_p tok rfl rfl rfl ?_
        obtain ⟨x10, ex10, H⟩ := H
        refine w_pe tok rfl (congrArg (fun z => (.int .u64 z : Value)) ex10) rfl rfl ?_
        refine w_end ?_
        refine x_blk ?_
        exact x_join x10 H ⟨rfl, rfl, rfl, rfl, trivial⟩
      ·
        refine c_skip ?_
        refine x_blk ?_
        exact x_join t3_1 H ⟨rfl, rfl, rfl, rfl, trivial⟩
  ·
    refine c_exit ?_
    refine x_te ?_
    refine x_te ?_
    refine x_bh ?_
    refine x_seq ?_
    refine c_seq ?_
    refine c_region ?_
    refine w_p tok rfl rfl rfl ?_
    refine w_p tok rfl rfl rfl ?_
    refine w_end ?_
    refine x_seq ?_
    refine c_ret ?_
    exact x_ret _ rfl _ rfl ⟨t3_1, rfl, H⟩

theorem slot_Pair_lay_ok : CallOk Go.Proofs.Tryd.prog 34 := ⟨_, Go.Proofs.Tryd.func34, by kernel_rfl, by kernel_rfl⟩
theorem slot_Pair_lay_ref (p0 : Option Addr) (p1 : Slc) (p2 : Bool) (k : (Int × Int) → Heap → Prop) (h : Heap) (H : slot_Pair_lay p0 p1 p2 k h) : CallsH Go.Proofs.Tryd.prog 34 #[.pointer p0, Slc.v p1, .bool p2] h (fun v h' => ∃ r : Int × Int, v = .tuple #[.int .u64 r.1, .int .i64 r.2] ∧ k r h') := by
  refine f_enter (N := 106) Go.Proofs.Tryd.func34 rfl rfl rfl (fun w0 => ?_)
  unfold slot_Pair_lay at H
  refine c_weak [(0, .pointer p0), (1, Slc.v p1), (2, .bool p2)] ⟨rfl, rfl, rfl, trivial⟩ ?_
  refine c_seq ?_
  refine c_region ?_
  refine w_p tok rfl rfl rfl ?_
  refine w_p tok rfl rfl rfl ?_
  refine w_end ?_
  refine x_seq ?_
  refine c_scope ?_
  refine c_seq ?_
  refine c_region ?_
  refine w_p tok rfl rfl rfl ?_
  refine w_p tok rfl rfl rfl ?_
  refine w_call slot_parts_ok (slot_parts_ref _ _ _ H) rfl rfl rfl rfl ?_
  rintro _ h2 ⟨r1, rfl, H⟩
  refine w_p tok rfl rfl rfl ?_
  refine w_end ?_
  refine x_seq ?_
  refine c_seq ?_
  refine c_block ?_
  refine c_seq ?_
  refine c_region ?_
  refine w_p tok rfl rfl rfl ?_
  refine w_p tok rfl rfl rfl ?_
  obtain ⟨a3, ha3, H⟩ := H
  refine w_y (y_nil' rfl rfl ha3) rfl rfl ?_
  refine w_p tok rfl rfl rfl ?_
  obtain ⟨v4, hv4, H⟩ := H
  refine w_y (y_ld tok rfl rfl rfl rfl hv4) rfl rfl ?_
  refine w_p tok rfl rfl rfl ?_
  refine w_p tok rfl rfl rfl ?_
  refine w_end ?_
  refine x_seq ?_
  refine c_weak [(0, .pointer p0), (1, Slc.v p1), (2, .bool p2), (8, .int .i64 r1), (21, .bool (decide (r1 > v4)))] ⟨rfl, rfl, rfl, rfl, rfl, trivial⟩ ?_
  refine c_if H rfl (fun H => ?_) (fun H => ?_)
  ·
    refine c_seq ?_
    refine c_region ?_
    refine w_p tok rfl rfl rfl ?_
    refine w_p tok rfl rfl rfl ?_
    refine w_end ?_
    refine x_seq ?_
    refine c_ret ?_
    refine x_br ?_
    refine x_tr ?_
    refine x_sr ?_
    exact x_ret _ rfl _ rfl ⟨(0, 3), rfl, H⟩
  ·
    refine c_seq ?_
    refine c_region ?_
    refine w_p tok rfl rfl rfl ?_
    refine w_call slot_Pair_greatest_ok (slot_Pair_greatest_ref _ _ _ H) rfl rfl rfl rfl ?_
    rintro _ h6 ⟨r5, rfl, H⟩
    refine w_p tok rfl rfl rfl ?_
    refine w_p tok rfl rfl rfl ?_
    refine w_end ?_
    refine x_seq ?_
    refine c_if H rfl (fun H => ?_) (fun H => ?_)
    ·
      refine c_seq ?_
      refine c_region ?_
      refine w_p tok rfl rfl rfl ?_
      refine w_p tok rfl rfl rfl ?_
      refine w_end ?_
      refine x_seq ?_
      refine c_weak [(6, .int .u64 0), (7, .int .i64 12)] ⟨rfl, rfl, trivial⟩ ?_
      refine c_ret ?_
      refine x_br ?_
      refine x_tr ?_
      refine x_sr ?_
      exact x_ret _ rfl _ rfl ⟨(0, 12), rfl, H⟩
    ·
      refine c_skip ?_
      refine x_blk ?_
      refine x_seq ?_
      refine c_seq ?_
      refine c_region ?_
      refine w_p tok rfl rfl rfl ?_
      refine w_call slot_Pair_best_ok (slot_Pair_best_ref _ _ _ H) rfl rfl rfl rfl ?_
      rintro _ h8 ⟨r7, rfl, H⟩
      refine w_p tok rfl rfl rfl ?_
      refine w_p tok rfl rfl rfl ?_
      refine w_p tok rfl rfl rfl ?_
      refine w_p tok rfl rfl rfl ?_
      refine w_p tok rfl rfl rfl ?_
      refine w_p tok rfl rfl rfl ?_
      refine w_p tok rfl rfl rfl ?_
      refine w_end ?_
      refine x_seq ?_
      refine c_weak [(0, .pointer p0), (1, Slc.v p1), (2, .bool p2), (8, .int .i64 r1), (9, .int .i64 r7.1)] ⟨rfl, rfl, rfl, rfl, rfl, trivial⟩ ?_
      refine c_seq ?_
      refine c_region ?_
      refine w_p tok rfl rfl rfl ?_
      refine w_end ?_
      refine x_seq ?_
      refine c_seqJ (α := Int) (fun (s : Int) => [(12, .int .i64 s), (0, .pointer p0), (1, Slc.v p1), (2, .bool p2), (8, .int .i64 r1)]) (fun (s : Int) h => slot_Pair_lay_j1 p0 p1 p2 r1 s k h) ?_ ?_
      ·
        rintro t12_1 h_1 H
        replace H : slot_Pair_lay_j1 p0 p1 p2 r1 t12_1 k h_1 := H
        unfold slot_Pair_lay_j1 at H
        refine c_weak [(12, .int .i64 t12_1), (0, .pointer p0), (1, Slc.v p1), (2, .bool p2), (8, .int .i64 r1)] ⟨rfl, rfl, rfl, rfl, rfl, trivial⟩ ?_
        refine c_seq ?_
        refine c_region ?_
        refine w_p tok rfl rfl rfl ?_
        refine w_call slot_Pair_greatest_ok (slot_Pair_greatest_ref _ _ _ H) rfl rfl rfl rfl ?_
        rintro _ h10 ⟨r9, rfl, H⟩
        refine w_p tok rfl rfl rfl ?_
        refine w_p tok rfl rfl rfl ?_
        refine w_p tok rfl rfl rfl ?_
        refine w_p tok rfl rfl rfl ?_
        refine w_p tok rfl rfl rfl ?_
        obtain ⟨b11, h12, eb11, eh12, H⟩ := H
        refine w_h (h_bs tok rfl rfl rfl rfl rfl rfl rfl eb11 eh12) rfl rfl ?_
        refine w_call sha_Of_ok (sha_Of_ref _ _ _ H) rfl rfl rfl rfl ?_
        rintro _ h14 ⟨r13, rfl, H⟩
        refine w_call sha_Short_ok (sha_Short_ref _ _ _ H) rfl rfl rfl rfl ?_
        rintro _ h16 ⟨r15, rfl, H⟩
        refine w_y (y_build tok rfl rfl rfl rfl rfl) rfl rfl ?_
        obtain ⟨b17, h18, eb17, eh18, H⟩ := H
        refine w_h (h_alloc tok rfl rfl eb17 eh18) rfl rfl ?_
        obtain ⟨h19, wh19, eh19, H⟩ := H
        refine w_h (h_sts tok rfl rfl rfl rfl rfl (oneC (by kernel_rfl)) wh19 eh19) rfl rfl ?_
        refine w_end ?_
        refine x_seq ?_
        refine c_weak [(12, .int .i64 t12_1), (0, .pointer p0), (1, Slc.v p1), (2, .bool p2), (8, .int .i64 r1), (13, .pointer (some (⟨b17, 0, none⟩ : Addr)))] ⟨rfl, rfl, rfl, rfl, rfl, rfl, trivial⟩ ?_
        refine c_seq ?_
        refine c_label ?_
        refine x_seq ?_
        refine c_seqJ (α := Unit) (fun (s : Unit) => [(0, .pointer p0), (13, .pointer (some (⟨b17, 0, none⟩ : Addr)))]) (fun (s : Unit) h => slot_Pair_lay_j2 p0 (⟨b17, 0, none⟩ : Addr) k h) ?_ ?_
        ·
          rintro _ h_2 H
          replace H : slot_Pair_lay_j2 p0 (⟨b17, 0, none⟩ : Addr) k h_2 := H
          unfold slot_Pair_lay_j2 at H
          refine c_weak [(0, .pointer p0), (13, .pointer (some (⟨b17, 0, none⟩ : Addr)))] ⟨rfl, rfl, trivial⟩ ?_
          refine c_seq ?_
          refine c_seq ?_
          refine c_region ?_
          refine w_p tok rfl rfl rfl ?_
          obtain ⟨a20, ha20, H⟩ := H
          refine w_y (y_nil' rfl rfl ha20) rfl rfl ?_
          refine w_p tok rfl rfl rfl ?_
          obtain ⟨v21, hv21, H⟩ := H
          refine w_y (y_ld tok rfl rfl rfl rfl hv21) rfl rfl ?_
          refine w_call disk_Disk_Sync_ok (disk_Disk_Sync_ref _ _ _ H) rfl rfl rfl rfl ?_
          rintro _ h23 ⟨r22, rfl, H⟩
          refine w_p tok rfl rfl rfl ?_
          refine w_end ?_
          refine x_seq ?_
          refine c_seq ?_
          refine c_region ?_
          refine w_p tok rfl rfl rfl ?_
          refine w_p tok rfl rfl rfl ?_
          refine w_end ?_
          refine x_seq ?_
          refine c_weak [(13, .pointer (some (⟨b17, 0, none⟩ : Addr))), (17, .int .i64 r22), (102, .bool (r22 != 0))] ⟨rfl, rfl, rfl, trivial⟩ ?_
          refine c_if H rfl (fun H => ?_) (fun H => ?_)
          ·
            refine c_seq ?_
            refine c_region ?_
            refine w_p tok rfl rfl rfl ?_
            refine w_p tok rfl rfl rfl ?_
            refine w_p tok rfl rfl rfl ?_
            refine w_end ?_
            refine x_seq ?_
            refine c_ret ?_
            refine x_tr ?_
            refine x_sr ?_
            exact x_ret _ rfl _ rfl ⟨(0, r22), rfl, H⟩
          ·
            refine c_skip ?_
            refine x_seq ?_
            refine c_seq ?_
            refine c_region ?_
            refine w_p tok rfl rfl rfl ?_
            obtain ⟨v24, hv24, H⟩ := H
            refine w_y (y_ld tok rfl rfl rfl rfl hv24) rfl rfl ?_
            refine w_p tok rfl rfl rfl ?_
            refine w_p tok rfl rfl rfl ?_
            refine w_end ?_
            refine x_seq ?_
            refine c_ret ?_
            refine x_sr ?_
            exact x_ret _ rfl _ rfl ⟨(v24, 0), rfl, H⟩
        ·
          refine c_seq ?_
          refine c_region ?_
          refine w_p tok rfl rfl rfl ?_
          obtain ⟨a25, ha25, H⟩ := H
          refine w_y (y_nil' rfl rfl ha25) rfl rfl ?_
          refine w_p tok rfl rfl rfl ?_
          obtain ⟨v26, hv26, H⟩ := H
          refine w_y (y_ld tok rfl rfl rfl rfl hv26) rfl rfl ?_
          refine w_p tok rfl rfl rfl ?_
          refine w_end ?_
          refine x_seq ?_
          refine c_block ?_
          obtain ⟨I3, μ3, H0, HI⟩ := H
          refine c_loop (σ := Int) (fun (s : Int) => [(55, .int .i64 s), (0, .pointer p0), (1, Slc.v p1), (2, .bool p2), (8, .int .i64 r1), (12, .int .i64 t12_1), (13, .pointer (some (⟨b17, 0, none⟩ : Addr))), (54, .int .i64 v26)]) I3 μ3 0 H0 ⟨rfl, rfl, rfl, rfl, rfl, rfl, rfl, rfl, trivial⟩ ?_
          rintro t55_3 h_3 H
          replace H := HI t55_3 h_3 H
          unfold slot_Pair_lay_l3b at H
          refine c_weak [(55, .int .i64 t55_3), (0, .pointer p0), (1, Slc.v p1), (2, .bool p2), (8, .int .i64 r1), (12, .int .i64 t12_1), (13, .pointer (some (⟨b17, 0, none⟩ : Addr))), (54, .int .i64 v26)] ⟨rfl, rfl, rfl, rfl, rfl, rfl, rfl, rfl, trivial⟩ ?_
          refine c_seq ?_
          refine c_region ?_
          refine w_p tok rfl rfl rfl ?_
          refine w_end ?_
          refine x_seq ?_
          refine c_seq ?_
          refine c_if H rfl (fun H => ?_) (fun H => ?_)
          ·
            refine c_skip ?_
            refine x_seq ?_
            refine c_seq ?_
            refine c_block ?_
            refine c_seq ?_
            refine c_region ?_
            refine w_p tok rfl rfl rfl ?_
            refine w_p tok rfl rfl rfl ?_
            refine w_end ?_
            refine x_seq ?_
            refine c_seq ?_
            refine c_region ?_
            refine w_p tok rfl rfl rfl ?_
            refine w_end ?_
            refine x_seq ?_
            refine c_seqJ (α := Slc) (fun (s : Slc) => [(15, Slc.v s), (0, .pointer p0), (1, Slc.v p1), (2, .bool p2), (8, .int .i64 r1), (12, .int .i64 t12_1), (13, .pointer (some (⟨b17, 0, none⟩ : Addr))), (14, .int .i64 t55_3), (54, .int .i64 v26), (55, .int .i64 t55_3)]) (fun (s : Slc) h => slot_Pair_lay_j4 p0 p1 p2 r1 t12_1 (⟨b17, 0, none⟩ : Addr) t55_3 v26 t55_3 s k (fun s h' => I3 s h' ∧ μ3 s h' < μ3 t55_3 h_3) h) ?_ ?_
            ·
              rintro t15_4 h_4 H
              replace H : slot_Pair_lay_j4 p0 p1 p2 r1 t12_1 (⟨b17, 0, none⟩ : Addr) t55_3 v26 t55_3 t15_4 k (fun s h' => I3 s h' ∧ μ3 s h' < μ3 t55_3 h_3) h_4 := H
              unfold slot_Pair_lay_j4 at H
              refine c_weak [(15, Slc.v t15_4), (0, .pointer p0), (1, Slc.v p1), (2, .bool p2), (8, .int .i64 r1), (12, .int .i64 t12_1), (13, .pointer (some (⟨b17, 0, none⟩ : Addr))), (14, .int .i64 t55_3), (54, .int .i64 v26), (55, .int .i64 t55_3)] ⟨rfl, rfl, rfl, rfl, rfl, rfl, rfl, rfl, rfl, rfl, trivial⟩ ?_
              refine c_seq ?_
              refine c_sim [(0, .pointer p0), (1, Slc.v p1), (2, .bool p2), (8, .int .i64 r1), (12, .int .i64 t12_1), (13, .pointer (some (⟨b17, 0, none⟩ : Addr))), (14, .int .i64 t55_3), (15, Slc.v t15_4), (54, .int .i64 v26), (55, .int .i64 t55_3)] (by kernel_rfl) (by kernel_rfl) ⟨rfl, rfl, rfl, rfl, rfl, rfl, rfl, rfl, rfl, rfl, trivial⟩ (fun wf => ?_)
              refine sim_p 0 (ei := [(0, .pointer p0)]) (d := (some 82)) wf (by kernel_rfl) ⟨rfl, trivial⟩ (by kernel_rfl) (by kernel_rfl) (fun _ => pf_p tok rfl rfl rfl rfl) (fun P_0 => ?_)
              obtain ⟨a27, ha27, H⟩ := H
              refine sim_p 1 (ei := [(82, .pointer p0)]) (d := (some 83)) wf (by kernel_rfl) ⟨rfl, trivial⟩ (by kernel_rfl) (by kernel_rfl) (fun _ => pf_y rfl rfl rfl (y_nil' rfl rfl ha27)) (fun P_1 => ?_)
              refine sim_p 2 (ei := [(83, .pointer (some a27))]) (d := (some 84)) wf (by kernel_rfl) ⟨rfl, trivial⟩ (by kernel_rfl) (by kernel_rfl) (fun _ => pf_p tok rfl rfl rfl rfl) (fun P_2 => ?_)
              obtain ⟨v28, hv28, H⟩ := H
              refine sim_l 3 (ei := [(84, .pointer (some a27))]) (d := (some 85)) wf (by kernel_rfl) ⟨rfl, trivial⟩ (by kernel_rfl) (by kernel_rfl) (pf_y rfl rfl rfl (y_ld tok rfl rfl rfl rfl hv28)) (fun P_3 => ?_)
              refine sim_p 4 (ei := [(0, .pointer p0)]) (d := (some 86)) wf (by kernel_rfl) ⟨rfl, trivial⟩ (by kernel_rfl) (by kernel_rfl) (fun _ => pf_p tok rfl rfl rfl rfl) (fun P_4 => ?_)
              refine sim_p 5 (ei := [(12, .int .i64 t12_1)]) (d := (some 87)) wf (by kernel_rfl) ⟨rfl, trivial⟩ (by kernel_rfl) (by kernel_rfl) (fun _ => pf_p tok rfl rfl rfl rfl) (fun P_5 => ?_)
              refine sim_p 6 (ei := [(14, .int .i64 t55_3)]) (d := (some 88)) wf (by kernel_rfl) ⟨rfl, trivial⟩ (by kernel_rfl) (by kernel_rfl) (fun _ => pf_p tok rfl rfl rfl rfl) (fun P_6 => ?_)
              refine sim_p 8 (ei := [(15, Slc.v t15_4)]) (d := (some 90)) wf (by kernel_rfl) ⟨rfl, trivial⟩ (by kernel_rfl) (by kernel_rfl) (fun _ => pf_p tok rfl rfl rfl rfl) (fun P_8 => ?_)
              refine sim_c 7 [4, 5, 6] [4, 5, 6] (ei := [(86, .pointer p0), (87, .int .i64 t12_1), (88, .int .i64 t55_3)]) slot_Pair_place_ok (slot_Pair_place_ref _ _ _ _ _ H) wf ⟨P_8 _, P_6 _, P_5 _, P_4 _, P_3, P_2 _, P_1 _, P_0 _, trivial⟩ (by kernel_rfl) ⟨rfl, rfl, rfl, trivial⟩ (by kernel_rfl) rfl rfl rfl rfl rfl ?_
              rintro _ h30 ⟨r29, rfl, H⟩
              obtain ⟨hy31, H⟩ := H
              refine sim_re (x := ⟨3, .pointer v28, [(84, .pointer (some a27))]⟩) (pf_y rfl rfl rfl (y_ld tok rfl rfl rfl rfl hy31)) (fun P_3 => ?_)
              refine sim_c 9 [0, 1, 2, 3, 4, 5, 6, 7, 8] [0, 1, 2, 3, 4, 5, 6, 8] (ei := [(85, .pointer v28), (89, .int .i64 r29), (90, Slc.v t15_4)]) disk_Disk_Write_ok (disk_Disk_Write_ref _ _ _ _ _ H) wf ⟨P_8 _, trivial, trivial, trivial, P_3, P_2 _, P_1 _, P_0 _, trivial⟩ (by kernel_rfl) ⟨rfl, rfl, rfl, trivial⟩ (by kernel_rfl) rfl rfl rfl rfl rfl ?_
              rintro _ h33 ⟨r32, rfl, H⟩
              refine sim_p 10 (ei := [(91, .int .i64 r32)]) (d := (some 16)) wf (by kernel_rfl) ⟨rfl, trivial⟩ (by kernel_rfl) (by kernel_rfl) (fun _ => pf_p tok rfl rfl rfl rfl) (fun P_10 => ?_)
              refine sim_end wf ⟨P_10 _, trivial, trivial, trivial, trivial, trivial, trivial, trivial, trivial, trivial⟩ (by kernel_rfl) ?_
              clear wf P_0 P_1 P_10 P_2 P_3 P_4 P_5 P_6 P_8
              refine x_seq ?_
              refine c_weak [(0, .pointer p0), (1, Slc.v p1), (2, .bool p2), (8, .int .i64 r1), (12, .int .i64 t12_1), (13, .pointer (some (⟨b17, 0, none⟩ : Addr))), (54, .int .i64 v26), (55, .int .i64 t55_3), (16, .int .i64 r32)] ⟨rfl, rfl, rfl, rfl, rfl, rfl, rfl, rfl, rfl, trivial⟩ ?_
              refine c_seq ?_
              refine c_region ?_
              refine w_p tok rfl rfl rfl ?_
              refine w_p tok rfl rfl rfl ?_
              refine w_end ?_
              refine x_seq ?_
              refine c_if H rfl (fun H => ?_) (fun H => ?_)
              ·
                refine c_seq ?_
                refine c_region ?_
                refine w_p tok rfl rfl rfl ?_
                refine w_p tok rfl rfl rfl ?_
                refine w_p tok rfl rfl rfl ?_
                refine w_end ?_
                refine x_seq ?_
                refine c_weak [(6, .int .u64 0), (7, .int .i64 r32)] ⟨rfl, rfl, trivial⟩ ?_
                refine c_ret ?_
                refine x_br ?_
                refine x_tr ?_
                refine x_tr ?_
                refine x_br ?_
                refine x_tr ?_
                refine x_sr ?_
                exact x_ret _ rfl _ rfl ⟨(0, r32), rfl, H⟩
              ·
                refine c_skip ?_
                refine x_blk ?_
                refine x_seq ?_
                refine c_region ?_
                refine w_p tok rfl rfl rfl ?_
                refine w_p tok rfl rfl rfl ?_
                refine w_end ?_
                exact x_join (IntKind.i64.wrap (t55_3 + 1)) H ⟨rfl, rfl, rfl, rfl, rfl, rfl, rfl, rfl, trivial⟩
            ·
              refine c_block ?_
              refine c_seq ?_
              refine c_region ?_
              refine w_p tok rfl rfl rfl ?_
              refine w_p tok rfl rfl rfl ?_
              refine w_p tok rfl rfl rfl ?_
              refine w_p tok rfl rfl rfl ?_
              refine w_end ?_
              refine x_seq ?_
              refine c_if H rfl (fun H => ?_) (fun H => ?_)
              ·
                refine c_seq ?_
                refine c_region ?_
                refine w_p tok rfl rfl rfl ?_
                refine w_p tok rfl rfl rfl ?_
                obtain ⟨h34, wh34, eh34, H⟩ := H
                refine w_h (h_st tok rfl rfl rfl rfl rfl rfl wh34 eh34) rfl rfl ?_
                refine w_end ?_
                refine x_seq ?_
                refine c_weak [(55, .int .i64 t55_3), (0, .pointer p0), (1, Slc.v p1), (2, .bool p2), (8, .int .i64 r1), (12, .int .i64 t12_1), (13, .pointer (some (⟨b17, 0, none⟩ : Addr))), (54, .int .i64 v26), (14, .int .i64 t55_3)] ⟨rfl, rfl, rfl, rfl, rfl, rfl, rfl, rfl, rfl, trivial⟩ ?_
                refine c_sim [(0, .pointer p0), (1, Slc.v p1), (2, .bool p2), (8, .int .i64 r1), (12, .int .i64 t12_1), (13, .pointer (some (⟨b17, 0, none⟩ : Addr))), (14, .int .i64 t55_3), (54, .int .i64 v26), (55, .int .i64 t55_3)] (by kernel_rfl) (by kernel_rfl) ⟨rfl, rfl, rfl, rfl, rfl, rfl, rfl, rfl, rfl, trivial⟩ (fun wf => ?_)
                obtain ⟨v35, hv35, H⟩ := H
                refine sim_l 0 (ei := [(13, .pointer (some (⟨b17, 0, none⟩ : Addr)))]) (d := (some 64)) wf (by kernel_rfl) ⟨rfl, trivial⟩ (by kernel_rfl) (by kernel_rfl) (pf_y rfl rfl rfl (y_lda tok rfl rfl rfl rfl rfl hv35)) (fun P_0 => ?_)
                refine sim_p 2 (ei := [(1, Slc.v p1)]) (d := (some 66)) wf (by kernel_rfl) ⟨rfl, trivial⟩ (by kernel_rfl) (by kernel_rfl) (fun _ => pf_p tok rfl rfl rfl rfl) (fun P_2 => ?_)
                refine sim_p 3 (ei := [(14, .int .i64 t55_3)]) (d := (some 67)) wf (by kernel_rfl) ⟨rfl, trivial⟩ (by kernel_rfl) (by kernel_rfl) (fun _ => pf_p tok rfl rfl rfl rfl) (fun P_3 => ?_)
                refine sim_p 4 (ei := [(67, .int .i64 t55_3)]) (d := (some 68)) wf (by kernel_rfl) ⟨rfl, trivial⟩ (by kernel_rfl) (by kernel_rfl) (fun _ => pf_p tok rfl rfl rfl rfl) (fun P_4 => ?_)
                refine sim_p 5 (ei := [(1, Slc.v p1)]) (d := (some 69)) wf (by kernel_rfl) ⟨rfl, trivial⟩ (by kernel_rfl) (by kernel_rfl) (fun _ => pf_p tok rfl rfl rfl rfl) (fun P_5 => ?_)
                refine sim_p 6 (ei := [(69, Slc.v p1)]) (d := (some 70)) wf (by kernel_rfl) ⟨rfl, trivial⟩ (by kernel_rfl) (by kernel_rfl) (fun _ => pf_p tok rfl rfl rfl rfl) (fun P_6 => ?_)
                refine sim_p 7 (ei := [(14, .int .i64 t55_3)]) (d := (some 71)) wf (by kernel_rfl) ⟨rfl, trivial⟩ (by kernel_rfl) (by kernel_rfl) (fun _ => pf_p tok rfl rfl rfl rfl) (fun P_7 => ?_)
                refine sim_p 8 (ei := [(71, .int .i64 t55_3)]) (d := (some 72)) wf (by kernel_rfl) ⟨rfl, trivial⟩ (by kernel_rfl) (by kernel_rfl) (fun _ => pf_p tok rfl rfl rfl rfl) (fun P_8 => ?_)
                refine sim_p 9 (ei := [(72, .int .i64 (IntKind.i64.wrap (t55_3 * 104)))]) (d := (some 73)) wf (by kernel_rfl) ⟨rfl, trivial⟩ (by kernel_rfl) (by kernel_rfl) (fun _ => pf_p tok rfl rfl rfl rfl) (fun P_9 => ?_)
                refine sim_p 10 (ei := [(70, .int .i64 (p1.len : Int)), (73, .int .i64 (IntKind.i64.wrap ((IntKind.i64.wrap (t55_3 * 104)) + 104)))]) (d := (some 74)) wf (by kernel_rfl) ⟨rfl, rfl, trivial⟩ (by kernel_rfl) (by kernel_rfl) (fun _ => pf_p tok rfl rfl rfl rfl) (fun P_10 => ?_)
                obtain ⟨s36, ps36, qs36, rs36, ts36, es36, H⟩ := H
                refine sim_p 11 (ei := [(66, Slc.v p1), (68, .int .i64 (IntKind.i64.wrap (t55_3 * 104))), (74, .int .i64 (if (IntKind.i64.wrap ((IntKind.i64.wrap (t55_3 * 104)) + 104)) < (p1.len : Int) then (IntKind.i64.wrap ((IntKind.i64.wrap (t55_3 * 104)) + 104)) else (p1.len : Int)))]) (d := (some 75)) wf (by kernel_rfl) ⟨rfl, rfl, rfl, trivial⟩ (by kernel_rfl) (by kernel_rfl) (fun _ => pf_ye rfl rfl rfl (y_sl (s := p1) (L := (IntKind.i64.wrap (t55_3 * 104))) (H := (if (IntKind.i64.wrap ((IntKind.i64.wrap (t55_3 * 104)) + 104)) < (p1.len : Int) then (IntKind.i64.wrap ((IntKind.i64.wrap (t55_3 * 104)) + 104)) else (p1.len : Int))) (M := (p1.cap : Int)) tok rfl rfl rfl rfl rfl rfl rfl (by simp) ps36 qs36 rs36 ts36) (congrArg Slc.v es36)) (fun P_11 => ?_)
                refine sim_c 1 [0] [0] (ei := [(64, .agg (S_slot_head.cs v35).toArray)]) slot_head_bytes_ok (slot_head_bytes_ref _ _ _ H) wf ⟨P_11 _, P_10 _, P_9 _, P_8 _, P_7 _, P_6 _, P_5 _, P_4 _, P_3 _, P_2 _, P_0, trivial⟩ (by kernel_rfl) ⟨rfl, trivial⟩ (by kernel_rfl) rfl rfl rfl rfl rfl ?_
                rintro _ h38 ⟨r37, rfl, H⟩
                refine sim_c 12 [0, 1, 2, 3, 4, 5, 6, 7, 8, 9, 10, 11] [0, 2, 3, 4, 5, 6, 7, 8, 9, 10, 11] (ei := [(75, Slc.v s36)]) bytes_Clone_ok (bytes_Clone_ref _ _ _ H) wf ⟨P_11 _, P_10 _, P_9 _, P_8 _, P_7 _, P_6 _, P_5 _, P_4 _, P_3 _, P_2 _, trivial, trivial⟩ (by kernel_rfl) ⟨rfl, trivial⟩ (by kernel_rfl) rfl rfl rfl rfl rfl ?_
                rintro _ h40 ⟨r39, rfl, H⟩
                obtain ⟨b41, h42, eb41, eh42, H⟩ := H
                refine sim_h 13 [0, 1, 2, 3, 4, 5, 6, 7, 8, 9, 10, 11, 12] [0, 2, 3, 4, 5, 6, 7, 8, 9, 10, 11] (ei := [(65, Slc.v r37), (76, Slc.v r39)]) wf ⟨trivial, trivial, trivial, trivial, trivial, trivial, trivial, trivial, trivial, trivial, trivial, trivial⟩ (by kernel_rfl) ⟨rfl, rfl, trivial⟩ (by kernel_rfl) rfl rfl rfl (h_bs tok rfl rfl rfl rfl rfl rfl rfl eb41 eh42) ?_
                refine sim_c 14 [0, 1, 2, 3, 4, 5, 6, 7, 8, 9, 10, 11, 12, 13] [0, 2, 3, 4, 5, 6, 7, 8, 9, 10, 11] (ei := [(77, Slc.v (⟨some ⟨b41, 0, none⟩, 2, 2⟩ : Slc))]) slices_Concat_byte_byte_ok (slices_Concat_byte_byte_ref _ _ _ H) wf ⟨trivial, trivial, trivial, trivial, trivial, trivial, trivial, trivial, trivial, trivial, trivial, trivial⟩ (by kernel_rfl) ⟨rfl, trivial⟩ (by kernel_rfl) rfl rfl rfl rfl rfl ?_
                rintro _ h44 ⟨r43, rfl, H⟩
                refine sim_p 15 (ei := [(78, Slc.v r43)]) (d := (some 15)) wf (by kernel_rfl) ⟨rfl, trivial⟩ (by kernel_rfl) (by kernel_rfl) (fun _ => pf_p tok rfl rfl rfl rfl) (fun P_15 => ?_)
                refine sim_end wf ⟨P_15 _, trivial, trivial, trivial, trivial, trivial, trivial, trivial, trivial, trivial, trivial, trivial, trivial⟩ (by kernel_rfl) ?_
                clear wf P_0 P_10 P_11 P_15 P_2 P_3 P_4 P_5 P_6 P_7 P_8 P_9
                refine x_blk ?_
                exact x_join r43 H ⟨rfl, rfl, rfl, rfl, rfl, rfl, rfl, rfl, rfl, rfl, trivial⟩
              ·
                refine c_seq ?_
                refine c_region ?_
                refine w_p tok rfl rfl rfl ?_
                refine w_p tok rfl rfl rfl ?_
                refine w_p tok rfl rfl rfl ?_
                refine w_end ?_
                refine x_seq ?_
                refine c_weak [(55, .int .i64 t55_3), (0, .pointer p0), (1, Slc.v p1), (2, .bool p2), (8, .int .i64 r1), (12, .int .i64 t12_1), (13, .pointer (some (⟨b17, 0, none⟩ : Addr))), (54, .int .i64 v26), (14, .int .i64 t55_3), (15, Slc.v (⟨none, 0, 0⟩ : Slc)), (79, .bool (!p2))] ⟨rfl, rfl, rfl, rfl, rfl, rfl, rfl, rfl, rfl, rfl, rfl, trivial⟩ ?_
                refine c_if H rfl (fun H => ?_) (fun H => ?_)
                ·
                  refine c_exit ?_
                  refine x_bm rfl ?_
                  refine x_te ?_
                  refine x_bm rfl ?_
                  refine x_te ?_
                  refine x_te ?_
                  refine x_bh ?_
                  exact x_join () H ⟨rfl, rfl, trivial⟩
                ·
                  refine c_skip ?_
                  refine x_blk ?_
                  exact x_join (⟨none, 0, 0⟩ : Slc) H ⟨rfl, rfl, rfl, rfl, rfl, rfl, rfl, rfl, rfl, rfl, trivial⟩
          ·
            refine c_exit ?_
            refine x_te ?_
            refine x_te ?_
            refine x_bh ?_
            exact x_join () H ⟨rfl, rfl, trivial⟩
      ·
        refine c_seq ?_
        refine c_region ?_
        refine w_p tok rfl rfl rfl ?_
        refine w_p tok rfl rfl rfl ?_
        refine w_end ?_
        refine x_seq ?_
        refine c_if H rfl (fun H => ?_) (fun H => ?_)
        ·
          refine c_region ?_
          refine w_p tok rfl rfl rfl ?_
          refine w_end ?_
          exact x_join 1 H ⟨rfl, rfl, rfl, rfl, rfl, trivial⟩
        ·
          refine c_skip ?_
          exact x_join 0 H ⟨rfl, rfl, rfl, rfl, rfl, trivial⟩

theorem slot_Pair_Save_ok : CallOk Go.Proofs.Tryd.prog 20 := ⟨_, Go.Proofs.Tryd.func20, by kernel_rfl, by kernel_rfl⟩
theorem slot_Pair_Save_ref (p0 : Option Addr) (p1 : Slc) (k : (Int × Int) → Heap → Prop) (h : Heap) (H : slot_Pair_Save p0 p1 k h) : CallsH Go.Proofs.Tryd.prog 20 #[.pointer p0, Slc.v p1] h (fun v h' => ∃ r : Int × Int, v = .tuple #[.int .u64 r.1, .int .i64 r.2] ∧ k r h') := by
  refine f_enter (N := 13) Go.Proofs.Tryd.func20 rfl rfl rfl (fun w0 => ?_)
  unfold slot_Pair_Save at H
  refine c_weak [(0, .pointer p0), (1, Slc.v p1)] ⟨rfl, rfl, trivial⟩ ?_
  refine c_seq ?_
  refine c_region ?_
  refine w_p tok rfl rfl rfl ?_
  refine w_p tok rfl rfl rfl ?_
  refine w_end ?_
  refine x_seq ?_
  refine c_seq ?_
  refine c_seq ?_
  refine c_region ?_
  refine w_p tok rfl rfl rfl ?_
  refine w_p tok rfl rfl rfl ?_
  refine w_end ?_
  refine x_seq ?_
  refine c_if H rfl (fun H => ?_) (fun H => ?_)
  ·
    refine c_seq ?_
    refine c_region ?_
    refine w_p tok rfl rfl rfl ?_
    refine w_p tok rfl rfl rfl ?_
    refine w_end ?_
    refine x_seq ?_
    refine c_ret ?_
    refine x_tr ?_
    exact x_ret _ rfl _ rfl ⟨(0, 10), rfl, H⟩
  ·
    refine c_skip ?_
    refine x_seq ?_
    refine c_seq ?_
    refine c_region ?_
    refine w_p tok rfl rfl rfl ?_
    refine w_p tok rfl rfl rfl ?_
    refine w_call slot_Pair_lay_ok (slot_Pair_lay_ref _ _ _ _ _ H) rfl rfl rfl rfl ?_
    rintro _ h2 ⟨r1, rfl, H⟩
    refine w_p tok rfl rfl rfl ?_
    refine w_p tok rfl rfl rfl ?_
    refine w_p tok rfl rfl rfl ?_
    refine w_p tok rfl rfl rfl ?_
    refine w_end ?_
    refine x_seq ?_
    refine c_weak [(4, .int .u64 r1.1), (5, .int .i64 r1.2)] ⟨rfl, rfl, trivial⟩ ?_
    refine c_ret ?_
    exact x_ret _ rfl _ rfl ⟨(r1.1, r1.2), rfl, H⟩

theorem slot_Pair_Wipe_ok : CallOk Go.Proofs.Tryd.prog 31 := ⟨_, Go.Proofs.Tryd.func31, by kernel_rfl, by kernel_rfl⟩
theorem slot_Pair_Wipe_ref (p0 : Option Addr) (p1 : Slc) (k : (Int × Int) → Heap → Prop) (h : Heap) (H : slot_Pair_Wipe p0 p1 k h) : CallsH Go.Proofs.Tryd.prog 31 #[.pointer p0, Slc.v p1] h (fun v h' => ∃ r : Int × Int, v = .tuple #[.int .u64 r.1, .int .i64 r.2] ∧ k r h') := by
  refine f_enter (N := 24) Go.Proofs.Tryd.func31 rfl rfl rfl (fun w0 => ?_)
  unfold slot_Pair_Wipe at H
  refine c_weak [(0, .pointer p0), (1, Slc.v p1)] ⟨rfl, rfl, trivial⟩ ?_
  refine c_seq ?_
  refine c_region ?_
  refine w_p tok rfl rfl rfl ?_
  refine w_p tok rfl rfl rfl ?_
  refine w_end ?_
  refine x_seq ?_
  refine c_seq ?_
  refine c_seq ?_
  refine c_region ?_
  refine w_p tok rfl rfl rfl ?_
  refine w_p tok rfl rfl rfl ?_
  refine w_end ?_
  refine x_seq ?_
  refine c_if H rfl (fun H => ?_) (fun H => ?_)
  ·
    refine c_seq ?_
    refine c_region ?_
    refine w_p tok rfl rfl rfl ?_
    refine w_p tok rfl rfl rfl ?_
    refine w_end ?_
    refine x_seq ?_
    refine c_ret ?_
    refine x_tr ?_
    exact x_ret _ rfl _ rfl ⟨(0, 10), rfl, H⟩
  ·
    refine c_skip ?_
    refine x_seq ?_
    refine c_seq ?_
    refine c_seq ?_
    refine c_region ?_
    refine w_p tok rfl rfl rfl ?_
    refine w_p tok rfl rfl rfl ?_
    refine w_call slot_Pair_lay_ok (slot_Pair_lay_ref _ _ _ _ _ H) rfl rfl rfl rfl ?_
    rintro _ h2 ⟨r1, rfl, H⟩
    refine w_p tok rfl rfl rfl ?_
    refine w_p tok rfl rfl rfl ?_
    refine w_p tok rfl rfl rfl ?_
    refine w_p tok rfl rfl rfl ?_
    refine w_p tok rfl rfl rfl ?_
    refine w_end ?_
    refine x_seq ?_
    refine c_weak [(0, .pointer p0), (1, Slc.v p1), (7, .int .i64 r1.2)] ⟨rfl, rfl, rfl, trivial⟩ ?_
    refine c_seq ?_
    refine c_region ?_
    refine w_p tok rfl rfl rfl ?_
    refine w_p tok rfl rfl rfl ?_
    refine w_end ?_
    refine x_seq ?_
    refine c_if H rfl (fun H => ?_) (fun H => ?_)
    ·
      refine c_seq ?_
      refine c_region ?_
      refine w_p tok rfl rfl rfl ?_
      refine w_p tok rfl rfl rfl ?_
      refine w_p tok rfl rfl rfl ?_
      refine w_end ?_
      refine x_seq ?_
      refine c_ret ?_
      refine x_tr ?_
      exact x_ret _ rfl _ rfl ⟨(0, r1.2), rfl, H⟩
    ·
      refine c_skip ?_
      refine x_seq ?_
      refine c_seq ?_
      refine c_region ?_
      refine w_p tok rfl rfl rfl ?_
      refine w_p tok rfl rfl rfl ?_
      refine w_call slot_Pair_lay_ok (slot_Pair_lay_ref _ _ _ _ _ H) rfl rfl rfl rfl ?_
      rintro _ h4 ⟨r3, rfl, H⟩
      refine w_p tok rfl rfl rfl ?_
      refine w_p tok rfl rfl rfl ?_
      refine w_p tok rfl rfl rfl ?_
      refine w_p tok rfl rfl rfl ?_
      refine w_end ?_
      refine x_seq ?_
      refine c_weak [(4, .int .u64 r3.1), (5, .int .i64 r3.2)] ⟨rfl, rfl, trivial⟩ ?_
      refine c_ret ?_
      exact x_ret _ rfl _ rfl ⟨(r3.1, r3.2), rfl, H⟩

theorem slot_Open_ok : CallOk Go.Proofs.Tryd.prog 18 := ⟨_, Go.Proofs.Tryd.func18, by kernel_rfl, by kernel_rfl⟩
theorem slot_Open_ref (p0 : Option Addr) (p1 : Int) (p2 : Int) (k : (Option Addr × Int) → Heap → Prop) (h : Heap) (H : slot_Open p0 p1 p2 k h) : CallsH Go.Proofs.Tryd.prog 18 #[.pointer p0, .int .i64 p1, .int .i64 p2] h (fun v h' => ∃ r : Option Addr × Int, v = .tuple #[.pointer r.1, .int .i64 r.2] ∧ k r h') := by
  refine f_enter (N := 34) Go.Proofs.Tryd.func18 rfl rfl rfl (fun w0 => ?_)
  unfold slot_Open at H
  refine c_weak [(0, .pointer p0), (1, .int .i64 p1), (2, .int .i64 p2)] ⟨rfl, rfl, rfl, trivial⟩ ?_
  refine c_seq ?_
  refine c_region ?_
  refine w_p tok rfl rfl rfl ?_
  refine w_p tok rfl rfl rfl ?_
  refine w_end ?_
  refine x_seq ?_
  refine c_seq ?_
  refine c_seq ?_
  refine c_region ?_
  refine w_p tok rfl rfl rfl ?_
  refine w_p tok rfl rfl rfl ?_
  refine w_p tok rfl rfl rfl ?_
  refine w_cutU 3 [(13, .bool ((p0.isNone) || (decide (p2 < 1)))), (0, .pointer p0), (1, .int .i64 p1), (2, .int .i64 p2)] ?_ ?_
  ·
    refine w_p tok rfl rfl rfl ?_
    refine w_cutU 3 [(17, .bool (((p0.isNone) || (decide (p2 < 1))) || (decide (p2 > 1024)))), (0, .pointer p0), (1, .int .i64 p1), (2, .int .i64 p2)] ?_ ?_
    ·
      refine w_p tok rfl rfl rfl ?_
      refine w_cutU 3 [(21, .bool ((((p0.isNone) || (decide (p2 < 1))) || (decide (p2 > 1024))) || (decide (p1 < 0)))), (0, .pointer p0), (1, .int .i64 p1), (2, .int .i64 p2)] ?_ ?_
      ·
        refine w_p tok rfl rfl rfl ?_
        refine w_cutU 6 [(28, .bool (((((p0.isNone) || (decide (p2 < 1))) || (decide (p2 > 1024))) || (decide (p1 < 0))) || (decide (p1 > (IntKind.i64.wrap (1024 - (IntKind.i64.wrap (2 * p2)))))))), (0, .pointer p0), (1, .int .i64 p1), (2, .int .i64 p2)] ?_ ?_
        ·
          refine w_end ?_
          refine x_seq ?_
          refine c_if H rfl (fun H => ?_) (fun H => ?_)
          ·
            refine c_seq ?_
            refine c_region ?_
            refine w_p tok rfl rfl rfl ?_
            refine w_p tok rfl rfl rfl ?_
            refine w_end ?_
            refine x_seq ?_
            refine c_ret ?_
            refine x_tr ?_
            exact x_ret _ rfl _ rfl ⟨(none, 1), rfl, H⟩
          ·
            refine c_skip ?_
            refine x_seq ?_
            refine c_seq ?_
            refine c_region ?_
            refine w_p tok rfl rfl rfl ?_
            refine w_p tok rfl rfl rfl ?_
            refine w_p tok rfl rfl rfl ?_
            refine w_y (y_build tok rfl rfl rfl rfl rfl) rfl rfl ?_
            obtain ⟨b1, h2, eb1, eh2, H⟩ := H
            refine w_h (h_box rfl rfl eb1 eh2) rfl rfl ?_
            refine w_p tok rfl rfl rfl ?_
            refine w_p tok rfl rfl rfl ?_
            refine w_end ?_
            refine x_seq ?_
            refine c_weak [(6, .pointer (some (⟨b1, 0, none⟩ : Addr))), (7, .int .i64 0)] ⟨rfl, rfl, trivial⟩ ?_
            refine c_ret ?_
            exact x_ret _ rfl _ rfl ⟨((some (⟨b1, 0, none⟩ : Addr)), 0), rfl, H⟩
        ·
          refine w_gs (d := 22) rfl (fun hb => ?_) (fun hb => ?_)
          ·
            refine w_skip rfl rfl ?_
            refine w_skip rfl rfl ?_
            refine w_skip rfl rfl ?_
            refine w_skip rfl rfl ?_
            refine w_skip rfl rfl ?_
            refine w_p tok rfl rfl rfl ?_
            refine w_jn () rfl ⟨?_, rfl, rfl, rfl, trivial⟩
            exact congrArg (fun b => some (Value.bool b)) (or_t hb)
          ·
            refine w_p tok rfl rfl rfl ?_
            refine w_p tok rfl rfl rfl ?_
            refine w_p tok rfl rfl rfl ?_
            refine w_p tok rfl rfl rfl ?_
            refine w_p tok rfl rfl rfl ?_
            refine w_p tok rfl rfl rfl ?_
            refine w_jn () rfl ⟨?_, rfl, rfl, rfl, trivial⟩
            exact congrArg (fun b => some (Value.bool b)) (or_f hb)
      ·
        refine w_gs (d := 18) rfl (fun hb => ?_) (fun hb => ?_)
        ·
          refine w_skip rfl rfl ?_
          refine w_skip rfl rfl ?_
          refine w_p tok rfl rfl rfl ?_
          refine w_jn () rfl ⟨?_, rfl, rfl, rfl, trivial⟩
          exact congrArg (fun b => some (Value.bool b)) (or_t hb)
        ·
          refine w_p tok rfl rfl rfl ?_
          refine w_p tok rfl rfl rfl ?_
          refine w_p tok rfl rfl rfl ?_
          refine w_jn () rfl ⟨?_, rfl, rfl, rfl, trivial⟩
          exact congrArg (fun b => some (Value.bool b)) (or_f hb)
    ·
      refine w_gs (d := 14) rfl (fun hb => ?_) (fun hb => ?_)
      ·
        refine w_skip rfl rfl ?_
        refine w_skip rfl rfl ?_
        refine w_p tok rfl rfl rfl ?_
        refine w_jn () rfl ⟨?_, rfl, rfl, rfl, trivial⟩
        exact congrArg (fun b => some (Value.bool b)) (or_t hb)
      ·
        refine w_p tok rfl rfl rfl ?_
        refine w_p tok rfl rfl rfl ?_
        refine w_p tok rfl rfl rfl ?_
        refine w_jn () rfl ⟨?_, rfl, rfl, rfl, trivial⟩
        exact congrArg (fun b => some (Value.bool b)) (or_f hb)
  ·
    refine w_gs (d := 10) rfl (fun hb => ?_) (fun hb => ?_)
    ·
      refine w_skip rfl rfl ?_
      refine w_skip rfl rfl ?_
      refine w_p tok rfl rfl rfl ?_
      refine w_jn () rfl ⟨?_, rfl, rfl, rfl, trivial⟩
      exact congrArg (fun b => some (Value.bool b)) (or_t hb)
    ·
      refine w_p tok rfl rfl rfl ?_
      refine w_p tok rfl rfl rfl ?_
      refine w_p tok rfl rfl rfl ?_
      refine w_jn () rfl ⟨?_, rfl, rfl, rfl, trivial⟩
      exact congrArg (fun b => some (Value.bool b)) (or_f hb)
end Go.Q.Yf

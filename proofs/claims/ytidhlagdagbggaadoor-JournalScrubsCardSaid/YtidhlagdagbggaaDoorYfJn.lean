/- A part of the proof of statements of this seat: lemmas, no statement of their own. -/
import Derived.Test.YtidhlagdagbggaaDoorYfTab
import Derived.Test.YtidhlagdagbggaaDoorYfSlot
import Derived.Test.YtidhlagdagbggaaDoorYfW0
import Derived.Test.YtidhlagdagbggaaDoorQRng
import Derived.Test.YtidhlagdagbggaaDoorQMap
set_option linter.unusedVariables false
set_option maxRecDepth 100000
set_option maxHeartbeats 1000000
namespace Go.Q.Yf
open Go.RowKit in
theorem eqv56_S_journal_head (a b : S_journal_head) (w : World) : (Op.equal 56 (.agg (S_journal_head.cs a).toArray) (.agg (S_journal_head.cs b).toArray)).run Go.Proofs.Tryd.prog w = .ok ((a.f_epoch == b.f_epoch) && (a.f_number == b.f_number) && (a.f_part == b.f_part) && (a.f_parts == b.f_parts) && (a.f_size == b.f_size)) w := by
  have hS : Go.Proofs.Tryd.prog.underlying 56 = some (.struct (Go.Proofs.Tryd.prog.fieldsOf 56)) := by kernel_rfl
  have hp : Go.Proofs.Tryd.prog.stoodInHeld 56 = false := by kernel_rfl
  have u3 := Go.Proofs.Tryd.underlying3
  have a3 : ∀ w, (isAgg 3).run Go.Proofs.Tryd.prog w = .ok false w := Go.Proofs.Tryd.isAgg3
  have u48 := Go.Proofs.Tryd.underlying48
  have a48 : ∀ w, (isAgg 48).run Go.Proofs.Tryd.prog w = .ok false w := Go.Proofs.Tryd.isAgg48
  unfold Op.equal Op.maxDepth
  rw [show (10000 : Nat) = 9999 + 1 from rfl, run_equalIn_struct w 9999 56 _ _ hS hp]
  simp only [Program.fieldsOf, Go.Proofs.Tryd.underlying56, S_journal_head.cs]
  go_simp
  by_cases h0 : (a.f_epoch = b.f_epoch) <;> by_cases h1 : (a.f_number = b.f_number) <;> by_cases h2 : (a.f_part = b.f_part) <;> by_cases h3 : (a.f_parts = b.f_parts) <;> by_cases h4 : (a.f_size = b.f_size) <;> simp [h0, h1, h2, h3, h4]
/-- quaestor journal.Open -/
def journal_Open (p0 : Option Addr) (k : (Option Addr × Int) → Heap → Prop) (h : Heap) : Prop :=
  slot_Open p0 0 256 (fun (r1 : Option Addr × Int) h2 => if (r1.2 != 0) then (k (none, r1.2) h2) else (∃ (b3 : Nat) (h4 : Heap), b3 = h2.size ∧ h4 = h2.push (.cells (S_journal_Store.cs (⟨p0, r1.1, false, 0, 0, 0⟩ : S_journal_Store)).toArray 50) ∧ (k ((some (⟨b3, 0, none⟩ : Addr)), 0) h4))) h

/-- quaestor journal.field -/
def journal_field (p0 : Slc) (p1 : Int) (p2 : Int) (k : (Int) → Heap → Prop) (h : Heap) : Prop :=
  ∃ s1 : Slc, (0 : Int) ≤ p1 ∧ (p1 : Int) ≤ (p0.len : Int) ∧ ((p0.len : Int) : Int) ≤ (p0.cap : Int) ∧ (p0.cap : Int) ≤ (p0.cap : Int) ∧ s1 = subS p0 1 p1.toNat (p0.len : Int).toNat (p0.cap : Int).toNat ∧ (num_Get s1 p2 (fun (r2 : Int × Int) h3 => k r2.1 h3) h)

/-- quaestor journal.headOf -/
def journal_headOf (p0 : Slc) (k : (S_journal_head) → Heap → Prop) (h : Heap) : Prop :=
  ∃ (b1 : Nat) (h2 : Heap), b1 = h.size ∧ h2 = h.push (.cells (S_journal_head.cs (⟨0, 0, 0, 0, 0⟩ : S_journal_head)).toArray 56) ∧ (journal_field p0 0 8 (fun (r3 : Int) h4 => journal_field p0 8 4 (fun (r5 : Int) h6 => journal_field p0 12 2 (fun (r7 : Int) h8 => journal_field p0 14 2 (fun (r9 : Int) h10 => journal_field p0 16 4 (fun (r11 : Int) h12 => ∃ h13 : Heap, WrsAt h12 (⟨b1, 0, none⟩ : Addr) 5 ∧ h13 = setsH h12 (⟨b1, 0, none⟩ : Addr) 0 (S_journal_head.cs (⟨r3, r5, (IntKind.i64.wrap r7), (IntKind.i64.wrap r9), (IntKind.i64.wrap r11)⟩ : S_journal_head)) ∧ (∃ v14 : S_journal_head, CellsAt h13 (⟨b1, 0, none⟩ : Addr) (S_journal_head.cs v14) ∧ k v14 h13)) h10) h8) h6) h4) h2)

/-- (quaestor journal.head).bytes -/
def journal_head_bytes (p0 : S_journal_head) (k : (Slc) → Heap → Prop) (h : Heap) : Prop :=
  ∃ (b1 : Nat) (h2 : Heap), b1 = h.size ∧ h2 = h.push (.cells (S_journal_head.cs p0).toArray 56) ∧ (∃ v3 : Int, cellH h2 (⟨b1, 0, none⟩ : Addr) = some (.int .u64 v3) ∧ (∃ v4 : Int, cellH h2 ((⟨b1, 0, none⟩ : Addr).add 1) = some (.int .u64 v4) ∧ (num_Put (⟨none, 0, 0⟩ : Slc) v3 8 (fun (r5 : Slc) h6 => cellH h6 ((⟨b1, 0, none⟩ : Addr).add 1) = some (.int .u64 v4) ∧ (num_Put r5 v4 4 (fun (r8 : Slc) h9 => ∃ v10 : Int, cellH h9 ((⟨b1, 0, none⟩ : Addr).add 2) = some (.int .i64 v10) ∧ (∃ v11 : Int, cellH h9 ((⟨b1, 0, none⟩ : Addr).add 3) = some (.int .i64 v11) ∧ (num_Put r8 (IntKind.u64.wrap v10) 2 (fun (r12 : Slc) h13 => cellH h13 ((⟨b1, 0, none⟩ : Addr).add 3) = some (.int .i64 v11) ∧ (num_Put r12 (IntKind.u64.wrap v11) 2 (fun (r15 : Slc) h16 => ∃ v17 : Int, cellH h16 ((⟨b1, 0, none⟩ : Addr).add 4) = some (.int .i64 v17) ∧ (num_Put r15 (IntKind.u64.wrap v17) 4 (fun (r18 : Slc) h19 => k r18 h19) h16)) h13)) h9))) h6)) h2)))

/-- quaestor journal.parts -/
def journal_parts (p0 : Int) (k : (Int) → Heap → Prop) (h : Heap) : Prop :=
  ∃ x1 : Int, x1 = (if (IntKind.i64.wrap (Int.tdiv (IntKind.i64.wrap ((IntKind.i64.wrap (p0 + 108)) - 1)) 108)) > 1 then (IntKind.i64.wrap (Int.tdiv (IntKind.i64.wrap ((IntKind.i64.wrap (p0 + 108)) - 1)) 108)) else 1) ∧ (k x1 h)

/-- (*quaestor journal.Store).record -/
def journal_Store_record_j3 (t0_3 : Option Addr) (t3_3 : Int) (t10_3 : Slc) (t11_3 : Addr) (t12_3 : Int) (t13_3 : Slc) (t60_3 : Bool) (k : (Slc × Bool) → Heap → Prop) (nx1 : (Slc × Int) → Heap → Prop) (h_3 : Heap) : Prop :=
  if t60_3 then (k ((⟨none, 0, 0⟩ : Slc), false) h_3) else (∃ s15 : Slc, (0 : Int) ≤ (IntKind.i64.wrap ((t13_3.len : Int) - 108)) ∧ ((IntKind.i64.wrap ((t13_3.len : Int) - 108)) : Int) ≤ (t13_3.len : Int) ∧ ((t13_3.len : Int) : Int) ≤ (t13_3.cap : Int) ∧ (t13_3.cap : Int) ≤ (t13_3.cap : Int) ∧ s15 = subS t13_3 1 (IntKind.i64.wrap ((t13_3.len : Int) - 108)).toNat (t13_3.len : Int).toNat (t13_3.cap : Int).toNat ∧ (∃ l18 : List Value, SlcAt h_3 s15 l18 ∧ App 5 1 1 [.int .u8 0] h_3 t10_3 s15.len l18 (fun s16 h17 => ∃ x19 : Int, x19 = (IntKind.i64.wrap (t12_3 + 1)) ∧ (nx1 (s16, x19) h17))))
def journal_Store_record_j2 (t0_2 : Option Addr) (t3_2 : Int) (t10_2 : Slc) (t11_2 : Addr) (t12_2 : Int) (t13_2 : Slc) (t15_2 : Addr) (k : (Slc × Bool) → Heap → Prop) (nx1 : (Slc × Int) → Heap → Prop) (h_2 : Heap) : Prop :=
  ∃ h14 : Heap, WrH h_2 (t11_2.add 2) ∧ h14 = setH h_2 (t11_2.add 2) (.int .i64 t12_2) ∧ (∃ v20 : S_journal_head, CellsAt h14 t15_2 (S_journal_head.cs v20) ∧ (∃ v21 : S_journal_head, CellsAt h14 t11_2 (S_journal_head.cs v21) ∧ (if (if BinOp.neq = .eql then ((v20.f_epoch == v21.f_epoch) && (v20.f_number == v21.f_number) && (v20.f_part == v21.f_part) && (v20.f_parts == v21.f_parts) && (v20.f_size == v21.f_size)) else !((v20.f_epoch == v21.f_epoch) && (v20.f_number == v21.f_number) && (v20.f_part == v21.f_part) && (v20.f_parts == v21.f_parts) && (v20.f_size == v21.f_size))) then (journal_Store_record_j3 t0_2 t3_2 t10_2 t11_2 t12_2 t13_2 true k nx1 h14) else (∃ v22 : Int, cellH h14 (t15_2.add 3) = some (.int .i64 v22) ∧ (∃ v23 : Int, cellH h14 (t15_2.add 4) = some (.int .i64 v23) ∧ (journal_parts v23 (fun (r24 : Int) h25 => cellH h25 (t15_2.add 3) = some (.int .i64 v22) ∧ (journal_Store_record_j3 t0_2 t3_2 t10_2 t11_2 t12_2 t13_2 (v22 != r24) k nx1 h25)) h14))))))
def journal_Store_record_l1b (t0_1 : Option Addr) (t3_1 : Int) (t11_1 : Addr) (t10_1 : Slc) (t12_1 : Int) (k : (Slc × Bool) → Heap → Prop) (nx1 : (Slc × Int) → Heap → Prop) (h_1 : Heap) : Prop :=
  ∃ v4 : Int, cellH h_1 (t11_1.add 3) = some (.int .i64 v4) ∧ (if (decide (t12_1 < v4)) then (∃ a5 : Addr, t0_1 = some a5 ∧ (∃ v6 : Option Addr, cellH h_1 a5 = some (.pointer v6) ∧ (disk_Disk_Read v6 (IntKind.i64.wrap (t3_1 + t12_1)) (fun (r7 : Slc × Int) h8 => if (r7.2 != 0) then (k ((⟨none, 0, 0⟩ : Slc), false) h8) else (journal_headOf r7.1 (fun (r9 : S_journal_head) h10 => ∃ (b11 : Nat) (h12 : Heap), b11 = h10.size ∧ h12 = h10.push (.cells (S_journal_head.cs (⟨0, 0, 0, 0, 0⟩ : S_journal_head)).toArray 56) ∧ (∃ h13 : Heap, WrsAt h12 (⟨b11, 0, none⟩ : Addr) 5 ∧ h13 = setsH h12 (⟨b11, 0, none⟩ : Addr) 0 (S_journal_head.cs r9) ∧ (if (t12_1 == 0) then (∃ v27 : Int, cellH h13 ((⟨b11, 0, none⟩ : Addr).add 3) = some (.int .i64 v27) ∧ (∃ v28 : Int, cellH h13 ((⟨b11, 0, none⟩ : Addr).add 4) = some (.int .i64 v28) ∧ (∃ h29 : Heap, WrH h13 (t11_1.add 3) ∧ h29 = setH h13 (t11_1.add 3) (.int .i64 v27) ∧ (cellH h29 ((⟨b11, 0, none⟩ : Addr).add 4) = some (.int .i64 v28) ∧ (∃ h31 : Heap, WrH h29 (t11_1.add 4) ∧ h31 = setH h29 (t11_1.add 4) (.int .i64 v28) ∧ (journal_Store_record_j2 t0_1 t3_1 t10_1 t11_1 t12_1 r7.1 (⟨b11, 0, none⟩ : Addr) k nx1 h31)))))) else (journal_Store_record_j2 t0_1 t3_1 t10_1 t11_1 t12_1 r7.1 (⟨b11, 0, none⟩ : Addr) k nx1 h13)))) h8)) h_1))) else (∃ v32 : Int, cellH h_1 (t11_1.add 4) = some (.int .i64 v32) ∧ (∃ s33 : Slc, (0 : Int) ≤ 0 ∧ (0 : Int) ≤ v32 ∧ (v32 : Int) ≤ (t10_1.cap : Int) ∧ (t10_1.cap : Int) ≤ (t10_1.cap : Int) ∧ s33 = subS t10_1 1 (0 : Int).toNat v32.toNat (t10_1.cap : Int).toNat ∧ (k (s33, true) h_1))))
def journal_Store_record_l1 (t0_1 : Option Addr) (t3_1 : Int) (t11_1 : Addr) (i10 : Slc) (i12 : Int) (k : (Slc × Bool) → Heap → Prop) (h : Heap) : Prop :=
  ∃ (I : (Slc × Int) → Heap → Prop) (μ : (Slc × Int) → Heap → Nat), I (i10, i12) h ∧ ∀ (t10_1 : Slc) (t12_1 : Int) (h : Heap), I (t10_1, t12_1) h → journal_Store_record_l1b t0_1 t3_1 t11_1 t10_1 t12_1 k (fun s h' => I s h' ∧ μ s h' < μ (t10_1, t12_1) h) h
def journal_Store_record (p0 : Option Addr) (p1 : Int) (p2 : Int) (p3 : Int) (k : (Slc × Bool) → Heap → Prop) (h : Heap) : Prop :=
  ∃ (b1 : Nat) (h2 : Heap), b1 = h.size ∧ h2 = h.push (.cells (S_journal_head.cs (⟨0, 0, 0, 0, 0⟩ : S_journal_head)).toArray 56) ∧ (∃ h3 : Heap, WrsAt h2 (⟨b1, 0, none⟩ : Addr) 5 ∧ h3 = setsH h2 (⟨b1, 0, none⟩ : Addr) 0 (S_journal_head.cs (⟨p1, p2, 0, 1, 0⟩ : S_journal_head)) ∧ (journal_Store_record_l1 p0 p3 (⟨b1, 0, none⟩ : Addr) (⟨none, 0, 0⟩ : Slc) 0 k h3))

/-- (*quaestor journal.Store).begin -/
def journal_Store_begin (p0 : Option Addr) (p1 : Int) (k : (Unit) → Heap → Prop) (h : Heap) : Prop :=
  ∃ a1 : Addr, p0 = some a1 ∧ (∃ h2 : Heap, WrH h (a1.add 3) ∧ h2 = setH h (a1.add 3) (.int .u64 p1) ∧ (∃ h3 : Heap, WrH h2 (a1.add 4) ∧ h3 = setH h2 (a1.add 4) (.int .u64 0) ∧ (∃ h4 : Heap, WrH h3 (a1.add 5) ∧ h4 = setH h3 (a1.add 5) (.int .i64 512) ∧ (∃ h5 : Heap, WrH h4 (a1.add 2) ∧ h5 = setH h4 (a1.add 2) (.bool true) ∧ (k () h5)))))

/-- (*quaestor journal.Store).Save -/
def journal_Store_Save (p0 : Option Addr) (p1 : Slc) (k : (Int) → Heap → Prop) (h : Heap) : Prop :=
  if (p0.isNone) then (k 1 h) else (∃ a1 : Addr, p0 = some a1 ∧ (∃ v2 : Option Addr, cellH h (a1.add 1) = some (.pointer v2) ∧ (slot_Pair_Save v2 p1 (fun (r3 : Int × Int) h4 => if (r3.2 != 0) then (∃ h5 : Heap, WrH h4 (a1.add 2) ∧ h5 = setH h4 (a1.add 2) (.bool false) ∧ (k r3.2 h5)) else (journal_Store_begin p0 r3.1 (fun (r6 : Unit) h7 => k 0 h7) h4)) h)))

/-- (*quaestor journal.Store).Append -/
def journal_Store_Append_l3b (t0_3 : Option Addr) (t1_3 : Slc) (t5_3 : Addr) (t51_3 : Int) (t52_3 : Int) (k : (Int) → Heap → Prop) (nx3 : (Int) → Heap → Prop) (h_3 : Heap) : Prop :=
  if (decide (t52_3 < t51_3)) then (∃ h8 : Heap, WrH h_3 (t5_3.add 2) ∧ h8 = setH h_3 (t5_3.add 2) (.int .i64 t52_3) ∧ (∃ a9 : Addr, t0_3 = some a9 ∧ (∃ v10 : Option Addr, cellH h8 a9 = some (.pointer v10) ∧ (∃ v11 : Int, cellH h8 (a9.add 5) = some (.int .i64 v11) ∧ (∃ v12 : S_journal_head, CellsAt h8 t5_3 (S_journal_head.cs v12) ∧ (∃ s13 : Slc, (0 : Int) ≤ (IntKind.i64.wrap (t52_3 * 108)) ∧ ((IntKind.i64.wrap (t52_3 * 108)) : Int) ≤ (if (IntKind.i64.wrap ((IntKind.i64.wrap (t52_3 * 108)) + 108)) < (t1_3.len : Int) then (IntKind.i64.wrap ((IntKind.i64.wrap (t52_3 * 108)) + 108)) else (t1_3.len : Int)) ∧ ((if (IntKind.i64.wrap ((IntKind.i64.wrap (t52_3 * 108)) + 108)) < (t1_3.len : Int) then (IntKind.i64.wrap ((IntKind.i64.wrap (t52_3 * 108)) + 108)) else (t1_3.len : Int)) : Int) ≤ (t1_3.cap : Int) ∧ (t1_3.cap : Int) ≤ (t1_3.cap : Int) ∧ s13 = subS t1_3 1 (IntKind.i64.wrap (t52_3 * 108)).toNat (if (IntKind.i64.wrap ((IntKind.i64.wrap (t52_3 * 108)) + 108)) < (t1_3.len : Int) then (IntKind.i64.wrap ((IntKind.i64.wrap (t52_3 * 108)) + 108)) else (t1_3.len : Int)).toNat (t1_3.cap : Int).toNat ∧ (journal_head_bytes v12 (fun (r14 : Slc) h15 => cellH h15 (a9.add 5) = some (.int .i64 v11) ∧ cellH h15 a9 = some (.pointer v10) ∧ (∃ (b18 : Nat) (h19 : Heap), b18 = h15.size ∧ h19 = h15.push (.cells ([Slc.v r14, Slc.v s13]).toArray 23) ∧ (cellH h19 (a9.add 5) = some (.int .i64 v11) ∧ cellH h19 a9 = some (.pointer v10) ∧ (slices_Concat_byte_byte (⟨some ⟨b18, 0, none⟩, 2, 2⟩ : Slc) (fun (r22 : Slc) h23 => cellH h23 (a9.add 5) = some (.int .i64 v11) ∧ cellH h23 a9 = some (.pointer v10) ∧ (disk_Disk_Write v10 (IntKind.i64.wrap (v11 + t52_3)) r22 (fun (r26 : Int) h27 => if (r26 != 0) then (k r26 h27) else (nx3 (IntKind.i64.wrap (t52_3 + 1)) h27)) h23)) h19)))) h8))))))) else (∃ a28 : Addr, t0_3 = some a28 ∧ (∃ v29 : Option Addr, cellH h_3 a28 = some (.pointer v29) ∧ (disk_Disk_Sync v29 (fun (r30 : Int) h31 => if (r30 != 0) then (k r30 h31) else (∃ v32 : Int, cellH h31 (a28.add 4) = some (.int .u64 v32) ∧ (∃ v33 : Int, cellH h31 (a28.add 5) = some (.int .i64 v33) ∧ (∃ v34 : Int, cellH h31 (t5_3.add 3) = some (.int .i64 v34) ∧ (∃ h35 : Heap, WrH h31 (a28.add 2) ∧ h35 = setH h31 (a28.add 2) (.bool true) ∧ (cellH h35 (t5_3.add 3) = some (.int .i64 v34) ∧ (∃ h37 : Heap, WrH h35 (a28.add 4) ∧ h37 = setH h35 (a28.add 4) (.int .u64 (IntKind.u64.wrap (v32 + 1))) ∧ (cellH h37 (t5_3.add 3) = some (.int .i64 v34) ∧ (∃ h39 : Heap, WrH h37 (a28.add 5) ∧ h39 = setH h37 (a28.add 5) (.int .i64 (IntKind.i64.wrap (v33 + v34))) ∧ (k 0 h39)))))))))) h_3)))
def journal_Store_Append_l3 (t0_3 : Option Addr) (t1_3 : Slc) (t5_3 : Addr) (t51_3 : Int) (i52 : Int) (k : (Int) → Heap → Prop) (h : Heap) : Prop :=
  ∃ (I : Int → Heap → Prop) (μ : Int → Heap → Nat), I i52 h ∧ ∀ (t52_3 : Int) (h : Heap), I t52_3 h → journal_Store_Append_l3b t0_3 t1_3 t5_3 t51_3 t52_3 k (fun s h' => I s h' ∧ μ s h' < μ t52_3 h) h
def journal_Store_Append_j2 (t0_2 : Option Addr) (t1_2 : Slc) (t5_2 : Addr) (k : (Int) → Heap → Prop) (h_2 : Heap) : Prop :=
  ∃ v7 : Int, cellH h_2 (t5_2.add 3) = some (.int .i64 v7) ∧ (journal_Store_Append_l3 t0_2 t1_2 t5_2 v7 0 k h_2)
def journal_Store_Append_g1 (t0_1 : Option Addr) (t1_1 : Slc) (t18_1 : Bool) (k : (Int) → Heap → Prop) (h_1 : Heap) : Prop :=
  if t18_1 then (k 13 h_1) else (if (decide ((t1_1.len : Int) > 4096)) then (k 3 h_1) else (∃ a1 : Addr, t0_1 = some a1 ∧ (∃ v2 : Int, cellH h_1 (a1.add 5) = some (.int .i64 v2) ∧ (journal_parts (t1_1.len : Int) (fun (r3 : Int) h4 => cellH h4 (a1.add 5) = some (.int .i64 v2) ∧ (if (decide ((IntKind.i64.wrap (v2 + r3)) > 1024)) then (k 8 h4) else (∃ h6 : Heap, WrH h4 (a1.add 2) ∧ h6 = setH h4 (a1.add 2) (.bool false) ∧ (∃ v40 : Int, cellH h6 (a1.add 3) = some (.int .u64 v40) ∧ (∃ v41 : Int, cellH h6 (a1.add 4) = some (.int .u64 v41) ∧ ((journal_parts (t1_1.len : Int) (fun (r42 : Int) h43 => cellH h43 (a1.add 4) = some (.int .u64 v41) ∧ cellH h43 (a1.add 3) = some (.int .u64 v40) ∧ (∃ (b46 : Nat) (h47 : Heap), b46 = h43.size ∧ h47 = h43.push (.cells (S_journal_head.cs (⟨0, 0, 0, 0, 0⟩ : S_journal_head)).toArray 56) ∧ (cellH h47 (a1.add 4) = some (.int .u64 v41) ∧ cellH h47 (a1.add 3) = some (.int .u64 v40) ∧ (∃ h50 : Heap, WrsAt h47 (⟨b46, 0, none⟩ : Addr) 5 ∧ h50 = setsH h47 (⟨b46, 0, none⟩ : Addr) 0 (S_journal_head.cs (⟨v40, v41, 0, r42, (t1_1.len : Int)⟩ : S_journal_head)) ∧ (journal_Store_Append_j2 t0_1 t1_1 (⟨b46, 0, none⟩ : Addr) k h50))))) h6) ∧ (∃ (b51 : Nat) (h52 : Heap), b51 = h6.size ∧ h52 = h6.push (.cells (S_journal_head.cs (⟨0, 0, 0, 0, 0⟩ : S_journal_head)).toArray 56) ∧ (cellH h52 (a1.add 4) = some (.int .u64 v41) ∧ cellH h52 (a1.add 3) = some (.int .u64 v40) ∧ (journal_parts (t1_1.len : Int) (fun (r55 : Int) h56 => cellH h56 (a1.add 4) = some (.int .u64 v41) ∧ cellH h56 (a1.add 3) = some (.int .u64 v40) ∧ (∃ h59 : Heap, WrsAt h56 (⟨b51, 0, none⟩ : Addr) 5 ∧ h59 = setsH h56 (⟨b51, 0, none⟩ : Addr) 0 (S_journal_head.cs (⟨v40, v41, 0, r55, (t1_1.len : Int)⟩ : S_journal_head)) ∧ (journal_Store_Append_j2 t0_1 t1_1 (⟨b51, 0, none⟩ : Addr) k h59))) h52))))))))) h_1))))
def journal_Store_Append (p0 : Option Addr) (p1 : Slc) (k : (Int) → Heap → Prop) (h : Heap) : Prop :=
  if (p0.isNone) then (journal_Store_Append_g1 p0 p1 true k h) else (∃ a60 : Addr, p0 = some a60 ∧ (∃ v61 : Bool, cellH h (a60.add 2) = some (.bool v61) ∧ (journal_Store_Append_g1 p0 p1 (!v61) k h)))

/-- (*quaestor journal.Store).Recover -/
def journal_Store_Recover_l1b (t0_1 : Option Addr) (t2_1 : Slc) (t5_1 : Int) (t3_1 : Slc) (t6_1 : Int) (t7_1 : Int) (k : (Slc × Slc × Int) → Heap → Prop) (nx1 : (Slc × Int × Int) → Heap → Prop) (h_1 : Heap) : Prop :=
  journal_Store_record t0_1 t5_1 t7_1 t6_1 (fun (r5 : Slc × Bool) h6 => if (!r5.2) then (k (t2_1, t3_1, 0) h6) else (∃ (b7 : Nat) (h8 : Heap), b7 = h6.size ∧ h8 = h6.push (.cells ([Slc.v r5.1]).toArray 23) ∧ (App 23 1 24 [.slice none 0 0] h8 t3_1 1 ([Slc.v r5.1]) (fun s9 h10 => journal_parts (r5.1.len : Int) (fun (r11 : Int) h12 => ∃ x13 : Int, x13 = (IntKind.i64.wrap (t6_1 + r11)) ∧ (∃ x14 : Int, x14 = (IntKind.u64.wrap (t7_1 + 1)) ∧ (nx1 (s9, x13, x14) h12))) h10)))) h_1
def journal_Store_Recover_l1 (t0_1 : Option Addr) (t2_1 : Slc) (t5_1 : Int) (i3 : Slc) (i6 : Int) (i7 : Int) (k : (Slc × Slc × Int) → Heap → Prop) (h : Heap) : Prop :=
  ∃ (I : (Slc × Int × Int) → Heap → Prop) (μ : (Slc × Int × Int) → Heap → Nat), I (i3, i6, i7) h ∧ ∀ (t3_1 : Slc) (t6_1 : Int) (t7_1 : Int) (h : Heap), I (t3_1, t6_1, t7_1) h → journal_Store_Recover_l1b t0_1 t2_1 t5_1 t3_1 t6_1 t7_1 k (fun s h' => I s h' ∧ μ s h' < μ (t3_1, t6_1, t7_1) h) h
def journal_Store_Recover (p0 : Option Addr) (k : (Slc × Slc × Int) → Heap → Prop) (h : Heap) : Prop :=
  if (p0.isNone) then (k ((⟨none, 0, 0⟩ : Slc), (⟨none, 0, 0⟩ : Slc), 6) h) else (∃ a1 : Addr, p0 = some a1 ∧ (∃ v2 : Option Addr, cellH h (a1.add 1) = some (.pointer v2) ∧ (slot_Pair_Load v2 (fun (r3 : Slc × Int × Int) h4 => if (r3.2.2 != 0) then (k ((⟨none, 0, 0⟩ : Slc), (⟨none, 0, 0⟩ : Slc), r3.2.2) h4) else (journal_Store_Recover_l1 p0 r3.1 r3.2.1 (⟨none, 0, 0⟩ : Slc) 512 0 k h4)) h)))

/-- quaestor journal.empty 1 -/
def journal_empty_1 (p0 : Int) (k : (Bool) → Heap → Prop) (h : Heap) : Prop :=
  k (p0 != 0) h

/-- slices.IndexFunc   byte byte  -/
def slices_IndexFunc_byte_byte__journal_empty_1_l1b (t0_1 : Slc) (t7_1 : Int) (t8_1 : Int) (k : (Int) → Heap → Prop) (nx1 : (Int) → Heap → Prop) (h_1 : Heap) : Prop :=
  if (decide (t8_1 < t7_1)) then (∃ a1 : Addr, t0_1.a = some a1 ∧ (0 : Int) ≤ t8_1 ∧ t8_1 < (t0_1.len : Int) ∧ (∃ v2 : Int, cellH h_1 (a1.add (t8_1.toNat * 1)) = some (.int .u8 v2) ∧ (journal_empty_1 v2 (fun (r3 : Bool) h4 => if r3 then (k t8_1 h4) else (nx1 (IntKind.i64.wrap (t8_1 + 1)) h4)) h_1))) else (∃ x5 : Int, x5 = (-1) ∧ (k x5 h_1))
def slices_IndexFunc_byte_byte__journal_empty_1_l1 (t0_1 : Slc) (t7_1 : Int) (i8 : Int) (k : (Int) → Heap → Prop) (h : Heap) : Prop :=
  ∃ (I : Int → Heap → Prop) (μ : Int → Heap → Nat), I i8 h ∧ ∀ (t8_1 : Int) (h : Heap), I t8_1 h → slices_IndexFunc_byte_byte__journal_empty_1_l1b t0_1 t7_1 t8_1 k (fun s h' => I s h' ∧ μ s h' < μ t8_1 h) h
def slices_IndexFunc_byte_byte__journal_empty_1 (p0 : Slc) (k : (Int) → Heap → Prop) (h : Heap) : Prop :=
  slices_IndexFunc_byte_byte__journal_empty_1_l1 p0 (p0.len : Int) 0 k h

/-- slices.ContainsFunc   byte byte  -/
def slices_ContainsFunc_byte_byte__journal_empty_1 (p0 : Slc) (k : (Bool) → Heap → Prop) (h : Heap) : Prop :=
  slices_IndexFunc_byte_byte__journal_empty_1 p0 (fun (r1 : Int) h2 => k (decide (r1 ≥ 0)) h2) h

/-- quaestor journal.empty -/
def journal_empty (p0 : Slc) (k : (Bool) → Heap → Prop) (h : Heap) : Prop :=
  slices_ContainsFunc_byte_byte__journal_empty_1 p0 (fun (r1 : Bool) h2 => k (!r1) h2) h

/-- (*quaestor journal.Store).Scrub -/
def journal_Store_Scrub_j2 (t0_2 : Option Addr) (t5_2 : Int) (t7_2 : Int) (k : (Int) → Heap → Prop) (nx1 : (Int) → Heap → Prop) (h_2 : Heap) : Prop :=
  ∃ x6 : Int, x6 = (IntKind.i64.wrap (t7_2 + 1)) ∧ (nx1 x6 h_2)
def journal_Store_Scrub_g3 (t0_3 : Option Addr) (t5_3 : Int) (t7_3 : Int) (t47_3 : Bool) (k : (Int) → Heap → Prop) (nx1 : (Int) → Heap → Prop) (h_3 : Heap) : Prop :=
  if t47_3 then (journal_Store_Scrub_j2 t0_3 t5_3 t7_3 k nx1 h_3) else (∃ a11 : Addr, t0_3 = some a11 ∧ (∃ v12 : Option Addr, cellH h_3 a11 = some (.pointer v12) ∧ (disk_Disk_Write v12 t7_3 (⟨none, 0, 0⟩ : Slc) (fun (r13 : Int) h14 => if (r13 != 0) then (k r13 h14) else (journal_Store_Scrub_j2 t0_3 t5_3 t7_3 k nx1 h14)) h_3)))
def journal_Store_Scrub_l1b (t0_1 : Option Addr) (t5_1 : Int) (t7_1 : Int) (k : (Int) → Heap → Prop) (nx1 : (Int) → Heap → Prop) (h_1 : Heap) : Prop :=
  if (decide (t7_1 < 1024)) then (∃ a7 : Addr, t0_1 = some a7 ∧ (∃ v8 : Option Addr, cellH h_1 a7 = some (.pointer v8) ∧ (disk_Disk_Read v8 t7_1 (fun (r9 : Slc × Int) h10 => if (r9.2 == 0) then (journal_empty r9.1 (fun (r15 : Bool) h16 => journal_Store_Scrub_g3 t0_1 t5_1 t7_1 r15 k nx1 h16) h10) else (journal_Store_Scrub_g3 t0_1 t5_1 t7_1 false k nx1 h10)) h_1))) else (∃ a17 : Addr, t0_1 = some a17 ∧ (∃ v18 : Option Addr, cellH h_1 a17 = some (.pointer v18) ∧ (disk_Disk_Sync v18 (fun (r19 : Int) h20 => if (r19 != 0) then (k r19 h20) else (journal_Store_begin t0_1 t5_1 (fun (r21 : Unit) h22 => k 0 h22) h20)) h_1)))
def journal_Store_Scrub_l1 (t0_1 : Option Addr) (t5_1 : Int) (i7 : Int) (k : (Int) → Heap → Prop) (h : Heap) : Prop :=
  ∃ (I : Int → Heap → Prop) (μ : Int → Heap → Nat), I i7 h ∧ ∀ (t7_1 : Int) (h : Heap), I t7_1 h → journal_Store_Scrub_l1b t0_1 t5_1 t7_1 k (fun s h' => I s h' ∧ μ s h' < μ t7_1 h) h
def journal_Store_Scrub (p0 : Option Addr) (p1 : Slc) (k : (Int) → Heap → Prop) (h : Heap) : Prop :=
  if (p0.isNone) then (k 1 h) else (∃ a1 : Addr, p0 = some a1 ∧ (∃ h2 : Heap, WrH h (a1.add 2) ∧ h2 = setH h (a1.add 2) (.bool false) ∧ (∃ v3 : Option Addr, cellH h2 (a1.add 1) = some (.pointer v3) ∧ (slot_Pair_Wipe v3 p1 (fun (r4 : Int × Int) h5 => if (r4.2 != 0) then (k r4.2 h5) else (journal_Store_Scrub_l1 p0 r4.1 512 k h5)) h2))))

/-- (*quaestor disk.Disk).Raw -/
def disk_Disk_Raw_l1b (t3_1 : Slc) (t13_1 : Addr) (k : (Slc) → Heap → Prop) (nx1 : (Unit) → Heap → Prop) (h_1 : Heap) : Prop :=
  ∃ (bn10 rn10 ckn10 sincen10 lastn10 : Nat) (esn10 : Array MapEntry) (seenn10 : Array Nat), t13_1 = (⟨bn10, 0, none⟩ : Addr) ∧ h_1[bn10]? = some (.mapIter (some rn10) sincen10 seenn10 lastn10) ∧ h_1[rn10]? = some (.map esn10 ckn10) ∧ (∀ x ∈ esn10.toList, x.born < sincen10) ∧ sincen10 ≤ lastn10 ∧ ((∀ x ∈ esn10.toList, seenn10.contains x.born = true) → (if false then (∃ (bn12 rn12 ckn12 sincen12 : Nat) (esn12 : Array MapEntry) (seenn12 : Array Nat) (xn12 : MapEntry) (kn12 : Int) (vn12 : S_disk_sector), t13_1 = (⟨bn12, 0, none⟩ : Addr) ∧ h_1[bn12]? = some (.mapIter (some rn12) sincen12 (seenn12.push xn12.born) ckn12) ∧ h_1[rn12]? = some (.map esn12 ckn12) ∧ xn12 ∈ esn12.toList ∧ (esn12.toList.map (·.born)).Nodup ∧ xn12.key = .int .i64 kn12 ∧ xn12.val = .agg (S_disk_sector.cs vn12).toArray ∧ (∃ (b13 : Nat) (h14 : Heap), b13 = h_1.size ∧ h14 = h_1.push (.cells (S_disk_sector.cs (⟨([] : List Int), false⟩ : S_disk_sector)).toArray 67) ∧ (∃ h15 : Heap, WrsAt h14 (⟨b13, 0, none⟩ : Addr) 129 ∧ h15 = setsH h14 (⟨b13, 0, none⟩ : Addr) 0 (S_disk_sector.cs vn12) ∧ (∃ s16 : Slc, (0 : Int) ≤ (IntKind.i64.wrap (kn12 * 128)) ∧ ((IntKind.i64.wrap (kn12 * 128)) : Int) ≤ (t3_1.len : Int) ∧ ((t3_1.len : Int) : Int) ≤ (t3_1.cap : Int) ∧ (t3_1.cap : Int) ≤ (t3_1.cap : Int) ∧ s16 = subS t3_1 1 (IntKind.i64.wrap (kn12 * 128)).toNat (t3_1.len : Int).toNat (t3_1.cap : Int).toNat ∧ (∃ s17 : Slc, (0 : Int) ≤ 0 ∧ 0 ≤ (128 : Int) ∧ 128 ≤ (128 : Int) ∧ s17 = subS ⟨some (⟨b13, 0, none⟩ : Addr), 128, 128⟩ 1 (0 : Int).toNat (128 : Int).toNat 128 ∧ (∃ l18 : List Value, Cpy 1 h15 s16 s17 l18 (fun h19 => nx1 () h19))))))) else (k t3_1 h_1))) ∧ (∀ xn10 ∈ esn10.toList, seenn10.contains xn10.born = false → ∀ h11 : Heap, h11 = nxH h_1 bn10 rn10 sincen10 seenn10 xn10 ckn10 → (if true then (∃ (bn20 rn20 ckn20 sincen20 : Nat) (esn20 : Array MapEntry) (seenn20 : Array Nat) (xn20 : MapEntry) (kn20 : Int) (vn20 : S_disk_sector), t13_1 = (⟨bn20, 0, none⟩ : Addr) ∧ h11[bn20]? = some (.mapIter (some rn20) sincen20 (seenn20.push xn20.born) ckn20) ∧ h11[rn20]? = some (.map esn20 ckn20) ∧ xn20 ∈ esn20.toList ∧ (esn20.toList.map (·.born)).Nodup ∧ xn20.key = .int .i64 kn20 ∧ xn20.val = .agg (S_disk_sector.cs vn20).toArray ∧ (∃ (b21 : Nat) (h22 : Heap), b21 = h11.size ∧ h22 = h11.push (.cells (S_disk_sector.cs (⟨([] : List Int), false⟩ : S_disk_sector)).toArray 67) ∧ (∃ h23 : Heap, WrsAt h22 (⟨b21, 0, none⟩ : Addr) 129 ∧ h23 = setsH h22 (⟨b21, 0, none⟩ : Addr) 0 (S_disk_sector.cs vn20) ∧ (∃ s24 : Slc, (0 : Int) ≤ (IntKind.i64.wrap (kn20 * 128)) ∧ ((IntKind.i64.wrap (kn20 * 128)) : Int) ≤ (t3_1.len : Int) ∧ ((t3_1.len : Int) : Int) ≤ (t3_1.cap : Int) ∧ (t3_1.cap : Int) ≤ (t3_1.cap : Int) ∧ s24 = subS t3_1 1 (IntKind.i64.wrap (kn20 * 128)).toNat (t3_1.len : Int).toNat (t3_1.cap : Int).toNat ∧ (∃ s25 : Slc, (0 : Int) ≤ 0 ∧ 0 ≤ (128 : Int) ∧ 128 ≤ (128 : Int) ∧ s25 = subS ⟨some (⟨b21, 0, none⟩ : Addr), 128, 128⟩ 1 (0 : Int).toNat (128 : Int).toNat 128 ∧ (∃ l26 : List Value, Cpy 1 h23 s24 s25 l26 (fun h27 => nx1 () h27))))))) else (k t3_1 h11)))
def disk_Disk_Raw_l1 (t3_1 : Slc) (t13_1 : Addr) (k : (Slc) → Heap → Prop) (h : Heap) : Prop :=
  ∃ (I : Unit → Heap → Prop) (μ : Unit → Heap → Nat), I () h ∧ ∀ (h : Heap), I () h → disk_Disk_Raw_l1b t3_1 t13_1 k (fun s h' => I s h' ∧ μ s h' < μ () h) h
def disk_Disk_Raw (p0 : Option Addr) (k : (Slc) → Heap → Prop) (h : Heap) : Prop :=
  if (p0.isNone) then (k (⟨none, 0, 0⟩ : Slc) h) else (∃ (b1 : Nat) (h2 : Heap), (0 : Int) ≤ 131072 ∧ (131072 : Int) ≤ 131072 ∧ (131072 : Int) * 1 ≤ 281474976710656 ∧ (131072 : Int) ≤ 9223372036854775807 ∧ b1 = h.size ∧ h2 = h.push (.cells (zrow [.int .u8 0] (131072 : Int).toNat).toArray 5) ∧ (∃ a3 : Addr, p0 = some a3 ∧ (∃ v4 : Option Nat, cellH h2 a3 = some (.map v4) ∧ (∃ (r5 : Nat) (e6 : Array MapEntry) (c7 : Nat) (b8 : Nat) (h9 : Heap), v4 = some r5 ∧ h2[r5]? = some (.map e6 c7) ∧ b8 = h2.size ∧ h9 = h2.push (.mapIter (some r5) c7 #[] c7) ∧ (disk_Disk_Raw_l1 (⟨some ⟨b1, 0, none⟩, (131072 : Int).toNat, (131072 : Int).toNat⟩ : Slc) (⟨b8, 0, none⟩ : Addr) k h9)))))

/-- quaestor quaestorref11.SameRows -/
def ref11_SameRows_l1b (t0_1 : Slc) (t1_1 : Slc) (t5_1 : Int) (k : (Bool) → Heap → Prop) (nx1 : (Int) → Heap → Prop) (h_1 : Heap) : Prop :=
  if (decide (t5_1 < (t0_1.len : Int))) then (∃ a1 : Addr, t0_1.a = some a1 ∧ (0 : Int) ≤ t5_1 ∧ t5_1 < (t0_1.len : Int) ∧ (∃ v2 : Slc, cellH h_1 (a1.add (t5_1.toNat * 1)) = some (Slc.v v2) ∧ (∃ a3 : Addr, t1_1.a = some a3 ∧ (0 : Int) ≤ t5_1 ∧ t5_1 < (t1_1.len : Int) ∧ (∃ v4 : Slc, cellH h_1 (a3.add (t5_1.toNat * 1)) = some (Slc.v v4) ∧ (ref01_Same v2 v4 (fun (r5 : Bool) h6 => if (!r5) then (k false h6) else (∃ x7 : Int, x7 = (IntKind.i64.wrap (t5_1 + 1)) ∧ (nx1 x7 h6))) h_1))))) else (k true h_1)
def ref11_SameRows_l1 (t0_1 : Slc) (t1_1 : Slc) (i5 : Int) (k : (Bool) → Heap → Prop) (h : Heap) : Prop :=
  ∃ (I : Int → Heap → Prop) (μ : Int → Heap → Nat), I i5 h ∧ ∀ (t5_1 : Int) (h : Heap), I t5_1 h → ref11_SameRows_l1b t0_1 t1_1 t5_1 k (fun s h' => I s h' ∧ μ s h' < μ t5_1 h) h
def ref11_SameRows (p0 : Slc) (p1 : Slc) (k : (Bool) → Heap → Prop) (h : Heap) : Prop :=
  if ((p0.len : Int) != (p1.len : Int)) then (k false h) else (ref11_SameRows_l1 p0 p1 0 k h)

/-- quaestor quaestorlaw11.awake -/
def law11_awake_g4 (t89_4 : Bool) (k : (Bool) → Heap → Prop) (h_4 : Heap) : Prop :=
  k t89_4 h_4
def law11_awake_g3 (t7_3 : Option Addr) (t84_3 : Bool) (k : (Bool) → Heap → Prop) (h_3 : Heap) : Prop :=
  if t84_3 then (journal_Store_Append t7_3 (⟨none, 0, 0⟩ : Slc) (fun (r26 : Int) h27 => law11_awake_g4 (r26 == 13) k h27) h_3) else (law11_awake_g4 false k h_3)
def law11_awake_g2 (t7_2 : Option Addr) (t10_2 : Slc) (t77_2 : Bool) (k : (Bool) → Heap → Prop) (h_2 : Heap) : Prop :=
  if t77_2 then (∃ a28 : Addr, t10_2.a = some a28 ∧ (0 : Int) ≤ 1 ∧ 1 < (t10_2.len : Int) ∧ (∃ v29 : Slc, cellH h_2 (a28.add ((1 : Int).toNat * 1)) = some (Slc.v v29) ∧ (∃ l30 : List Int, l30.length = v29.len ∧ SlcAt h_2 v29 (b8 l30) ∧ (law11_awake_g3 t7_2 ((bsOf l30).toList == (⟨#[98]⟩ : ByteArray).toList) k h_2)))) else (law11_awake_g3 t7_2 false k h_2)
def law11_awake_g1 (t7_1 : Option Addr) (t10_1 : Slc) (t65_1 : Bool) (k : (Bool) → Heap → Prop) (h_1 : Heap) : Prop :=
  if (t65_1 && ((t10_1.len : Int) == 2)) then (∃ a31 : Addr, t10_1.a = some a31 ∧ (0 : Int) ≤ 0 ∧ 0 < (t10_1.len : Int) ∧ (∃ v32 : Slc, cellH h_1 (a31.add ((0 : Int).toNat * 1)) = some (Slc.v v32) ∧ (∃ l33 : List Int, l33.length = v32.len ∧ SlcAt h_1 v32 (b8 l33) ∧ (law11_awake_g2 t7_1 t10_1 ((bsOf l33).toList == (⟨#[97]⟩ : ByteArray).toList) k h_1)))) else (law11_awake_g2 t7_1 t10_1 false k h_1)
def law11_awake (k : (Bool) → Heap → Prop) (h : Heap) : Prop :=
  disk_New  (fun (r1 : Option Addr) h2 => journal_Open r1 (fun (r3 : Option Addr × Int) h4 => ∃ (b5 : Nat) (h6 : Heap), b5 = h4.size ∧ h6 = h4.push (.cells ([.int .u8 105]).toArray 5) ∧ (∃ h7 : Heap, h7 = h4.push (.cells ([.int .u8 105]).toArray 5 (1, 2)) ∧ (journal_Store_Save r3.1 (⟨some ⟨b5, 0, none⟩, 1, 1⟩ : Slc) (fun (r8 : Int) h9 => ∃ (b10 : Nat) (h11 : Heap), b10 = h9.size ∧ h11 = h9.push (.cells ([.int .u8 97]).toArray 5) ∧ (∃ h12 : Heap, h12 = h9.push (.cells ([.int .u8 97]).toArray 5 (1, 2)) ∧ (journal_Store_Append r3.1 (⟨some ⟨b10, 0, none⟩, 1, 1⟩ : Slc) (fun (r13 : Int) h14 => ∃ (b15 : Nat) (h16 : Heap), b15 = h14.size ∧ h16 = h14.push (.cells ([.int .u8 98]).toArray 5) ∧ (∃ h17 : Heap, h17 = h14.push (.cells ([.int .u8 98]).toArray 5 (1, 2)) ∧ (journal_Store_Append r3.1 (⟨some ⟨b15, 0, none⟩, 1, 1⟩ : Slc) (fun (r18 : Int) h19 => disk_Disk_Boot r1 (⟨none, 0, 0⟩ : Slc) (fun (r20 : Unit) h21 => journal_Open r1 (fun (r22 : Option Addr × Int) h23 => journal_Store_Recover r22.1 (fun (r24 : Slc × Slc × Int) h25 => if (((((r3.2 == 0) && (r8 == 0)) && (r13 == 0)) && (r18 == 0)) && (r24.2.2 == 0)) then (∃ l34 : List Int, l34.length = r24.1.len ∧ SlcAt h25 r24.1 (b8 l34) ∧ (law11_awake_g1 r22.1 r24.2.1 ((bsOf l34).toList == (⟨#[105]⟩ : ByteArray).toList) k h25)) else (law11_awake_g1 r22.1 r24.2.1 false k h25)) h23) h21) h19) h17))) h12))) h7))) h2) h

/-- quaestor quaestorlaw11.JournalKeeps -/
def law11_JournalKeeps_j2 (t0_2 : Slc) (t1_2 : Slc) (t2_2 : Slc) (t7_2 : Option Addr) (t10_2 : Int) (t8_2 : Slc) (t9_2 : Bool) (k : (Bool) → Heap → Prop) (nx1 : (Slc × Bool × Int) → Heap → Prop) (h_2 : Heap) : Prop :=
  ∃ x5 : Int, x5 = (IntKind.i64.wrap (t10_2 + 1)) ∧ (nx1 (t8_2, t9_2, x5) h_2)
def law11_JournalKeeps_g8 (t0_8 : Slc) (t1_8 : Slc) (t2_8 : Slc) (t7_8 : Option Addr) (t10_8 : Int) (t14_8 : Slc) (t179_8 : Bool) (k : (Bool) → Heap → Prop) (nx1 : (Slc × Bool × Int) → Heap → Prop) (h_8 : Heap) : Prop :=
  if t179_8 then (k false h_8) else (law11_JournalKeeps_j2 t0_8 t1_8 t2_8 t7_8 t10_8 t14_8 true k nx1 h_8)
def law11_JournalKeeps_g9 (t0_9 : Slc) (t1_9 : Slc) (t2_9 : Slc) (t7_9 : Option Addr) (t8_9 : Slc) (t9_9 : Bool) (t10_9 : Int) (t203_9 : Bool) (k : (Bool) → Heap → Prop) (nx1 : (Slc × Bool × Int) → Heap → Prop) (h_9 : Heap) : Prop :=
  if t203_9 then (k false h_9) else (law11_JournalKeeps_j2 t0_9 t1_9 t2_9 t7_9 t10_9 t8_9 t9_9 k nx1 h_9)
def law11_JournalKeeps_g10 (t0_10 : Slc) (t1_10 : Slc) (t2_10 : Slc) (t7_10 : Option Addr) (t8_10 : Slc) (t9_10 : Bool) (t10_10 : Int) (t191_10 : Bool) (t202_10 : Bool) (k : (Bool) → Heap → Prop) (nx1 : (Slc × Bool × Int) → Heap → Prop) (h_10 : Heap) : Prop :=
  law11_JournalKeeps_g9 t0_10 t1_10 t2_10 t7_10 t8_10 t9_10 t10_10 t202_10 k nx1 h_10
def law11_JournalKeeps_g11 (t0_11 : Slc) (t1_11 : Slc) (t2_11 : Slc) (t7_11 : Option Addr) (t8_11 : Slc) (t9_11 : Bool) (t10_11 : Int) (t191_11 : Bool) (t193_11 : Bool) (t201_11 : Bool) (k : (Bool) → Heap → Prop) (nx1 : (Slc × Bool × Int) → Heap → Prop) (h_11 : Heap) : Prop :=
  law11_JournalKeeps_g10 t0_11 t1_11 t2_11 t7_11 t8_11 t9_11 t10_11 t191_11 t201_11 k nx1 h_11
def law11_JournalKeeps_g7 (t0_7 : Slc) (t1_7 : Slc) (t2_7 : Slc) (t7_7 : Option Addr) (t8_7 : Slc) (t9_7 : Bool) (t10_7 : Int) (t11_7 : Slc) (t14_7 : Slc) (t15_7 : Int) (t16_7 : Int) (t20_7 : Slc) (t21_7 : Slc) (t22_7 : Int) (t152_7 : Bool) (k : (Bool) → Heap → Prop) (nx1 : (Slc × Bool × Int) → Heap → Prop) (h_7 : Heap) : Prop :=
  if t152_7 then (if (((decide ((t21_7.len : Int) < t16_7)) || (decide ((t21_7.len : Int) > (IntKind.i64.wrap (t16_7 + 1))))) || (decide ((t21_7.len : Int) > (t11_7.len : Int)))) then (law11_JournalKeeps_g8 t0_7 t1_7 t2_7 t7_7 t10_7 t14_7 true k nx1 h_7) else (∃ s26 : Slc, (0 : Int) ≤ 0 ∧ (0 : Int) ≤ (t21_7.len : Int) ∧ ((t21_7.len : Int) : Int) ≤ (t11_7.cap : Int) ∧ (t11_7.cap : Int) ≤ (t11_7.cap : Int) ∧ s26 = subS t11_7 1 (0 : Int).toNat (t21_7.len : Int).toNat (t11_7.cap : Int).toNat ∧ (ref11_SameRows t21_7 s26 (fun (r27 : Bool) h28 => law11_JournalKeeps_g8 t0_7 t1_7 t2_7 t7_7 t10_7 t14_7 (!r27) k nx1 h28) h_7))) else (if ((t15_7 == 0) || ((!t9_7) && (t22_7 != 6))) then (law11_JournalKeeps_g9 t0_7 t1_7 t2_7 t7_7 t8_7 t9_7 t10_7 true k nx1 h_7) else (if t9_7 then (if (t22_7 != 0) then (law11_JournalKeeps_g11 t0_7 t1_7 t2_7 t7_7 t8_7 t9_7 t10_7 false true true k nx1 h_7) else (ref01_Same t20_7 t8_7 (fun (r29 : Bool) h30 => law11_JournalKeeps_g11 t0_7 t1_7 t2_7 t7_7 t8_7 t9_7 t10_7 false true (!r29) k nx1 h30) h_7)) else (law11_JournalKeeps_g10 t0_7 t1_7 t2_7 t7_7 t8_7 t9_7 t10_7 false false k nx1 h_7)))
def law11_JournalKeeps_g6 (t0_6 : Slc) (t1_6 : Slc) (t2_6 : Slc) (t7_6 : Option Addr) (t8_6 : Slc) (t9_6 : Bool) (t10_6 : Int) (t11_6 : Slc) (t14_6 : Slc) (t15_6 : Int) (t16_6 : Int) (t131_6 : Bool) (k : (Bool) → Heap → Prop) (nx1 : (Slc × Bool × Int) → Heap → Prop) (h_6 : Heap) : Prop :=
  if t131_6 then (k false h_6) else (disk_Disk_Boot t7_6 t2_6 (fun (r20 : Unit) h21 => journal_Open t7_6 (fun (r22 : Option Addr × Int) h23 => journal_Store_Recover r22.1 (fun (r24 : Slc × Slc × Int) h25 => if (r24.2.2 == 0) then (ref01_Same r24.1 t14_6 (fun (r31 : Bool) h32 => law11_JournalKeeps_g7 t0_6 t1_6 t2_6 t7_6 t8_6 t9_6 t10_6 t11_6 t14_6 t15_6 t16_6 r24.1 r24.2.1 r24.2.2 r31 k nx1 h32) h25) else (law11_JournalKeeps_g7 t0_6 t1_6 t2_6 t7_6 t8_6 t9_6 t10_6 t11_6 t14_6 t15_6 t16_6 r24.1 r24.2.1 r24.2.2 false k nx1 h25)) h23) h21) h_6)
def law11_JournalKeeps_g12 (t0_12 : Slc) (t1_12 : Slc) (t2_12 : Slc) (t7_12 : Option Addr) (t8_12 : Slc) (t9_12 : Bool) (t10_12 : Int) (t11_12 : Slc) (t14_12 : Slc) (t15_12 : Int) (t16_12 : Int) (t117_12 : Bool) (t130_12 : Bool) (k : (Bool) → Heap → Prop) (nx1 : (Slc × Bool × Int) → Heap → Prop) (h_12 : Heap) : Prop :=
  law11_JournalKeeps_g6 t0_12 t1_12 t2_12 t7_12 t8_12 t9_12 t10_12 t11_12 t14_12 t15_12 t16_12 t130_12 k nx1 h_12
def law11_JournalKeeps_g5 (t0_5 : Slc) (t1_5 : Slc) (t2_5 : Slc) (t7_5 : Option Addr) (t8_5 : Slc) (t9_5 : Bool) (t10_5 : Int) (t11_5 : Slc) (t14_5 : Slc) (t15_5 : Int) (t16_5 : Int) (t116_5 : Bool) (k : (Bool) → Heap → Prop) (nx1 : (Slc × Bool × Int) → Heap → Prop) (h_5 : Heap) : Prop :=
  if t116_5 then (law11_JournalKeeps_g6 t0_5 t1_5 t2_5 t7_5 t8_5 t9_5 t10_5 t11_5 t14_5 t15_5 t16_5 true k nx1 h_5) else (if ((t15_5 == 0) && (decide (t16_5 < (t11_5.len : Int)))) then (disk_Disk_Dead t7_5 (fun (r33 : Bool) h34 => law11_JournalKeeps_g12 t0_5 t1_5 t2_5 t7_5 t8_5 t9_5 t10_5 t11_5 t14_5 t15_5 t16_5 false (!r33) k nx1 h34) h_5) else (law11_JournalKeeps_g12 t0_5 t1_5 t2_5 t7_5 t8_5 t9_5 t10_5 t11_5 t14_5 t15_5 t16_5 false false k nx1 h_5))
def law11_JournalKeeps_g13 (t0_13 : Slc) (t1_13 : Slc) (t2_13 : Slc) (t7_13 : Option Addr) (t8_13 : Slc) (t9_13 : Bool) (t10_13 : Int) (t11_13 : Slc) (t14_13 : Slc) (t15_13 : Int) (t16_13 : Int) (t108_13 : Bool) (t115_13 : Bool) (k : (Bool) → Heap → Prop) (nx1 : (Slc × Bool × Int) → Heap → Prop) (h_13 : Heap) : Prop :=
  law11_JournalKeeps_g5 t0_13 t1_13 t2_13 t7_13 t8_13 t9_13 t10_13 t11_13 t14_13 t15_13 t16_13 t115_13 k nx1 h_13
def law11_JournalKeeps_j4 (t0_4 : Slc) (t1_4 : Slc) (t2_4 : Slc) (t7_4 : Option Addr) (t8_4 : Slc) (t9_4 : Bool) (t10_4 : Int) (t11_4 : Slc) (t13_4 : Int) (t14_4 : Slc) (t15_4 : Int) (t16_4 : Int) (k : (Bool) → Heap → Prop) (nx1 : (Slc × Bool × Int) → Heap → Prop) (h_4 : Heap) : Prop :=
  if (t13_4 != 0) then (law11_JournalKeeps_g5 t0_4 t1_4 t2_4 t7_4 t8_4 t9_4 t10_4 t11_4 t14_4 t15_4 t16_4 true k nx1 h_4) else (if (t15_4 != 0) then (disk_Disk_Dead t7_4 (fun (r35 : Bool) h36 => law11_JournalKeeps_g13 t0_4 t1_4 t2_4 t7_4 t8_4 t9_4 t10_4 t11_4 t14_4 t15_4 t16_4 false (!r35) k nx1 h36) h_4) else (law11_JournalKeeps_g13 t0_4 t1_4 t2_4 t7_4 t8_4 t9_4 t10_4 t11_4 t14_4 t15_4 t16_4 false false k nx1 h_4))
def law11_JournalKeeps_l14b (t0_14 : Slc) (t1_14 : Slc) (t2_14 : Slc) (t7_14 : Option Addr) (t8_14 : Slc) (t9_14 : Bool) (t10_14 : Int) (t11_14 : Slc) (t12_14 : Option Addr) (t13_14 : Int) (t14_14 : Slc) (t15_14 : Int) (t16_14 : Int) (t17_14 : Int) (k : (Bool) → Heap → Prop) (nx1 : (Slc × Bool × Int) → Heap → Prop) (nx14 : (Int × Int) → Heap → Prop) (h_14 : Heap) : Prop :=
  if ((decide (t17_14 < (t11_14.len : Int))) && (t15_14 == 0)) then (∃ a37 : Addr, t11_14.a = some a37 ∧ (0 : Int) ≤ t17_14 ∧ t17_14 < (t11_14.len : Int) ∧ (∃ v38 : Slc, cellH h_14 (a37.add (t17_14.toNat * 1)) = some (Slc.v v38) ∧ (if (decide ((v38.len : Int) > 300)) then (law11_awake  (fun (r39 : Bool) h40 => k r39 h40) h_14) else (∃ a41 : Addr, t11_14.a = some a41 ∧ (0 : Int) ≤ t17_14 ∧ t17_14 < (t11_14.len : Int) ∧ (∃ v42 : Slc, cellH h_14 (a41.add (t17_14.toNat * 1)) = some (Slc.v v42) ∧ (journal_Store_Append t12_14 v42 (fun (r43 : Int) h44 => if (r43 != 0) then (law11_JournalKeeps_j4 t0_14 t1_14 t2_14 t7_14 t8_14 t9_14 t10_14 t11_14 t13_14 t14_14 t15_14 t16_14 k nx1 h44) else (∃ x45 : Int, x45 = (IntKind.i64.wrap (t16_14 + 1)) ∧ (∃ x46 : Int, x46 = (IntKind.i64.wrap (t17_14 + 1)) ∧ (nx14 (x45, x46) h44)))) h_14)))))) else (law11_JournalKeeps_j4 t0_14 t1_14 t2_14 t7_14 t8_14 t9_14 t10_14 t11_14 t13_14 t14_14 t15_14 t16_14 k nx1 h_14)
def law11_JournalKeeps_l14 (t0_14 : Slc) (t1_14 : Slc) (t2_14 : Slc) (t7_14 : Option Addr) (t8_14 : Slc) (t9_14 : Bool) (t10_14 : Int) (t11_14 : Slc) (t12_14 : Option Addr) (t13_14 : Int) (t14_14 : Slc) (t15_14 : Int) (i16 : Int) (i17 : Int) (k : (Bool) → Heap → Prop) (nx1 : (Slc × Bool × Int) → Heap → Prop) (h : Heap) : Prop :=
  ∃ (I : (Int × Int) → Heap → Prop) (μ : (Int × Int) → Heap → Nat), I (i16, i17) h ∧ ∀ (t16_14 : Int) (t17_14 : Int) (h : Heap), I (t16_14, t17_14) h → law11_JournalKeeps_l14b t0_14 t1_14 t2_14 t7_14 t8_14 t9_14 t10_14 t11_14 t12_14 t13_14 t14_14 t15_14 t16_14 t17_14 k nx1 (fun s h' => I s h' ∧ μ s h' < μ (t16_14, t17_14) h) h
def law11_JournalKeeps_j3 (t0_3 : Slc) (t1_3 : Slc) (t2_3 : Slc) (t7_3 : Option Addr) (t8_3 : Slc) (t9_3 : Bool) (t10_3 : Int) (t11_3 : Slc) (t12_3 : Option Addr) (t13_3 : Int) (t14_3 : Slc) (k : (Bool) → Heap → Prop) (nx1 : (Slc × Bool × Int) → Heap → Prop) (h_3 : Heap) : Prop :=
  journal_Store_Save t12_3 t14_3 (fun (r18 : Int) h19 => law11_JournalKeeps_l14 t0_3 t1_3 t2_3 t7_3 t8_3 t9_3 t10_3 t11_3 t12_3 t13_3 t14_3 r18 0 0 k nx1 h19) h_3
def law11_JournalKeeps_l1b (t0_1 : Slc) (t1_1 : Slc) (t2_1 : Slc) (t7_1 : Option Addr) (t8_1 : Slc) (t9_1 : Bool) (t10_1 : Int) (k : (Bool) → Heap → Prop) (nx1 : (Slc × Bool × Int) → Heap → Prop) (h_1 : Heap) : Prop :=
  if (decide (t10_1 < (t0_1.len : Int))) then (∃ a6 : Addr, t0_1.a = some a6 ∧ (0 : Int) ≤ t10_1 ∧ t10_1 < (t0_1.len : Int) ∧ (∃ v7 : Slc, cellH h_1 (a6.add (t10_1.toNat * 1)) = some (Slc.v v7) ∧ (if (decide ((v7.len : Int) > 5)) then (law11_awake  (fun (r8 : Bool) h9 => k r8 h9) h_1) else (journal_Open t7_1 (fun (r10 : Option Addr × Int) h11 => ∃ (b12 : Nat) (h13 : Heap), b12 = h11.size ∧ h13 = h11.push (.cells ([.int .u8 (IntKind.u8.wrap t10_1)]).toArray 5) ∧ (∃ (b14 : Nat) (h15 : Heap), b14 = h13.size ∧ h15 = h13.push (.cells ([.int .u8 (IntKind.u8.wrap (t8_1.len : Int))]).toArray 5) ∧ (App 5 1 1 [.int .u8 0] h15 (⟨some ⟨b12, 0, none⟩, 1, 1⟩ : Slc) 1 ([.int .u8 (IntKind.u8.wrap (t8_1.len : Int))]) (fun s16 h17 => if (decide (t10_1 < (t1_1.len : Int))) then (∃ a47 : Addr, t1_1.a = some a47 ∧ (0 : Int) ≤ t10_1 ∧ t10_1 < (t1_1.len : Int) ∧ (∃ v48 : Int, cellH h17 (a47.add (t10_1.toNat * 1)) = some (.int .u8 v48) ∧ (disk_Disk_Fuse t7_1 (IntKind.i64.wrap (Int.tmod v48 24)) (fun (r49 : Int) h50 => law11_JournalKeeps_j3 t0_1 t1_1 t2_1 t7_1 t8_1 t9_1 t10_1 v7 r10.1 r10.2 s16 k nx1 h50) h17))) else (law11_JournalKeeps_j3 t0_1 t1_1 t2_1 t7_1 t8_1 t9_1 t10_1 v7 r10.1 r10.2 s16 k nx1 h17))))) h_1)))) else (law11_awake  (fun (r51 : Bool) h52 => k r51 h52) h_1)
def law11_JournalKeeps_l1 (t0_1 : Slc) (t1_1 : Slc) (t2_1 : Slc) (t7_1 : Option Addr) (i8 : Slc) (i9 : Bool) (i10 : Int) (k : (Bool) → Heap → Prop) (h : Heap) : Prop :=
  ∃ (I : (Slc × Bool × Int) → Heap → Prop) (μ : (Slc × Bool × Int) → Heap → Nat), I (i8, i9, i10) h ∧ ∀ (t8_1 : Slc) (t9_1 : Bool) (t10_1 : Int) (h : Heap), I (t8_1, t9_1, t10_1) h → law11_JournalKeeps_l1b t0_1 t1_1 t2_1 t7_1 t8_1 t9_1 t10_1 k (fun s h' => I s h' ∧ μ s h' < μ (t8_1, t9_1, t10_1) h) h
def law11_JournalKeeps (p0 : Slc) (p1 : Slc) (p2 : Slc) (k : (Bool) → Heap → Prop) (h : Heap) : Prop :=
  if (((decide ((p0.len : Int) > 6)) || (decide ((p1.len : Int) > 8))) || (decide ((p2.len : Int) > 20))) then (law11_awake  (fun (r1 : Bool) h2 => k r1 h2) h) else (disk_New  (fun (r3 : Option Addr) h4 => law11_JournalKeeps_l1 p0 p1 p2 r3 (⟨none, 0, 0⟩ : Slc) false 0 k h4) h)

/-- quaestor quaestorlaw11.JournalScrubs -/
def law11_JournalScrubs_j3 (t1_3 : Slc) (t6_3 : Option Addr) (t12_3 : Slc) (t13_3 : Slc) (t14_3 : Int) (k : (Bool) → Heap → Prop) (nx1 : (Int) → Heap → Prop) (nx2 : (Int) → Heap → Prop) (h_3 : Heap) : Prop :=
  ∃ x32 : Int, x32 = (IntKind.i64.wrap (t14_3 + 1)) ∧ (nx2 x32 h_3)
def law11_JournalScrubs_g5 (t1_5 : Slc) (t6_5 : Option Addr) (t12_5 : Slc) (t13_5 : Slc) (t14_5 : Int) (t108_5 : Bool) (k : (Bool) → Heap → Prop) (nx1 : (Int) → Heap → Prop) (nx2 : (Int) → Heap → Prop) (h_5 : Heap) : Prop :=
  if t108_5 then (k false h_5) else (law11_JournalScrubs_j3 t1_5 t6_5 t12_5 t13_5 t14_5 k nx1 nx2 h_5)
def law11_JournalScrubs_g4 (t1_4 : Slc) (t6_4 : Option Addr) (t12_4 : Slc) (t13_4 : Slc) (t14_4 : Int) (t92_4 : Bool) (k : (Bool) → Heap → Prop) (nx1 : (Int) → Heap → Prop) (nx2 : (Int) → Heap → Prop) (h_4 : Heap) : Prop :=
  if t92_4 then (∃ x33 : Int, x33 = (Int.tmod (IntKind.i64.wrap (t14_4 + 32768)) 65536) ∧ (if (decide (t14_4 ≥ 65536)) then (law11_JournalScrubs_g5 t1_4 t6_4 t12_4 t13_4 t14_4 true k nx1 nx2 h_4) else (∃ a34 : Addr, t12_4.a = some a34 ∧ (0 : Int) ≤ t14_4 ∧ t14_4 < (t12_4.len : Int) ∧ (∃ v35 : Int, cellH h_4 (a34.add (t14_4.toNat * 1)) = some (.int .u8 v35) ∧ (∃ a36 : Addr, t13_4.a = some a36 ∧ (0 : Int) ≤ x33 ∧ x33 < (t13_4.len : Int) ∧ (∃ v37 : Int, cellH h_4 (a36.add (x33.toNat * 1)) = some (.int .u8 v37) ∧ (law11_JournalScrubs_g5 t1_4 t6_4 t12_4 t13_4 t14_4 (v35 != v37) k nx1 nx2 h_4))))))) else (law11_JournalScrubs_j3 t1_4 t6_4 t12_4 t13_4 t14_4 k nx1 nx2 h_4)
def law11_JournalScrubs_g6 (t115_6 : Bool) (k : (Bool) → Heap → Prop) (nx1 : (Int) → Heap → Prop) (nx2 : (Int) → Heap → Prop) (h_6 : Heap) : Prop :=
  k t115_6 h_6
def law11_JournalScrubs_l2b (t1_2 : Slc) (t6_2 : Option Addr) (t12_2 : Slc) (t13_2 : Slc) (t14_2 : Int) (k : (Bool) → Heap → Prop) (nx1 : (Int) → Heap → Prop) (nx2 : (Int) → Heap → Prop) (h_2 : Heap) : Prop :=
  if (decide (t14_2 < (t12_2.len : Int))) then (if (decide ((Int.tmod t14_2 128) ≥ 8)) then (∃ a38 : Addr, t12_2.a = some a38 ∧ (0 : Int) ≤ t14_2 ∧ t14_2 < (t12_2.len : Int) ∧ (∃ v39 : Int, cellH h_2 (a38.add (t14_2.toNat * 1)) = some (.int .u8 v39) ∧ (∃ a40 : Addr, t13_2.a = some a40 ∧ (0 : Int) ≤ t14_2 ∧ t14_2 < (t13_2.len : Int) ∧ (∃ v41 : Int, cellH h_2 (a40.add (t14_2.toNat * 1)) = some (.int .u8 v41) ∧ (law11_JournalScrubs_g4 t1_2 t6_2 t12_2 t13_2 t14_2 (v39 != v41) k nx1 nx2 h_2))))) else (law11_JournalScrubs_g4 t1_2 t6_2 t12_2 t13_2 t14_2 false k nx1 nx2 h_2)) else (journal_Store_Append t6_2 t1_2 (fun (r42 : Int) h43 => if (r42 == 0) then (law11_awake  (fun (r44 : Bool) h45 => law11_JournalScrubs_g6 r44 k nx1 nx2 h45) h43) else (law11_JournalScrubs_g6 false k nx1 nx2 h43)) h_2)
def law11_JournalScrubs_l2 (t1_2 : Slc) (t6_2 : Option Addr) (t12_2 : Slc) (t13_2 : Slc) (i14 : Int) (k : (Bool) → Heap → Prop) (nx1 : (Int) → Heap → Prop) (h : Heap) : Prop :=
  ∃ (I : Int → Heap → Prop) (μ : Int → Heap → Nat), I i14 h ∧ ∀ (t14_2 : Int) (h : Heap), I t14_2 h → law11_JournalScrubs_l2b t1_2 t6_2 t12_2 t13_2 t14_2 k nx1 (fun s h' => I s h' ∧ μ s h' < μ t14_2 h) h
def law11_JournalScrubs_l1b (t0_1 : Slc) (t1_1 : Slc) (t5_1 : Option Addr) (t6_1 : Option Addr) (t8_1 : Int) (k : (Bool) → Heap → Prop) (nx1 : (Int) → Heap → Prop) (h_1 : Heap) : Prop :=
  if (decide (t8_1 < (t0_1.len : Int))) then (∃ a7 : Addr, t0_1.a = some a7 ∧ (0 : Int) ≤ t8_1 ∧ t8_1 < (t0_1.len : Int) ∧ (∃ v8 : Slc, cellH h_1 (a7.add (t8_1.toNat * 1)) = some (Slc.v v8) ∧ (if (decide ((v8.len : Int) > 300)) then (law11_awake  (fun (r9 : Bool) h10 => k r9 h10) h_1) else (∃ a11 : Addr, t0_1.a = some a11 ∧ (0 : Int) ≤ t8_1 ∧ t8_1 < (t0_1.len : Int) ∧ (∃ v12 : Slc, cellH h_1 (a11.add (t8_1.toNat * 1)) = some (Slc.v v12) ∧ (journal_Store_Save t6_1 v12 (fun (r13 : Int) h14 => ∃ a15 : Addr, t0_1.a = some a15 ∧ (0 : Int) ≤ t8_1 ∧ t8_1 < (t0_1.len : Int) ∧ (∃ v16 : Slc, cellH h14 (a15.add (t8_1.toNat * 1)) = some (Slc.v v16) ∧ (journal_Store_Append t6_1 v16 (fun (r17 : Int) h18 => ∃ x19 : Int, x19 = (IntKind.i64.wrap (t8_1 + 1)) ∧ (nx1 x19 h18)) h14))) h_1)))))) else (journal_Store_Scrub t6_1 t1_1 (fun (r20 : Int) h21 => if (r20 != 0) then (k false h21) else (disk_New  (fun (r22 : Option Addr) h23 => journal_Open r22 (fun (r24 : Option Addr × Int) h25 => journal_Store_Scrub r24.1 t1_1 (fun (r26 : Int) h27 => disk_Disk_Raw t5_1 (fun (r28 : Slc) h29 => disk_Disk_Raw r22 (fun (r30 : Slc) h31 => law11_JournalScrubs_l2 t1_1 t6_1 r28 r30 0 k nx1 h31) h29) h27) h25) h23) h21)) h_1)
def law11_JournalScrubs_l1 (t0_1 : Slc) (t1_1 : Slc) (t5_1 : Option Addr) (t6_1 : Option Addr) (i8 : Int) (k : (Bool) → Heap → Prop) (h : Heap) : Prop :=
  ∃ (I : Int → Heap → Prop) (μ : Int → Heap → Nat), I i8 h ∧ ∀ (t8_1 : Int) (h : Heap), I t8_1 h → law11_JournalScrubs_l1b t0_1 t1_1 t5_1 t6_1 t8_1 k (fun s h' => I s h' ∧ μ s h' < μ t8_1 h) h
def law11_JournalScrubs (p0 : Slc) (p1 : Slc) (k : (Bool) → Heap → Prop) (h : Heap) : Prop :=
  if ((decide ((p0.len : Int) > 5)) || (decide ((p1.len : Int) > 300))) then (law11_awake  (fun (r1 : Bool) h2 => k r1 h2) h) else (disk_New  (fun (r3 : Option Addr) h4 => journal_Open r3 (fun (r5 : Option Addr × Int) h6 => law11_JournalScrubs_l1 p0 p1 r3 r5.1 0 k h6) h4) h)

theorem journal_Open_ok : CallOk Go.Proofs.Tryd.prog 7 := ⟨_, Go.Proofs.Tryd.func7, by kernel_rfl, by kernel_rfl⟩
theorem journal_Open_ref (p0 : Option Addr) (k : (Option Addr × Int) → Heap → Prop) (h : Heap) (H : journal_Open p0 k h) : CallsH Go.Proofs.Tryd.prog 7 #[.pointer p0] h (fun v h' => ∃ r : Option Addr × Int, v = .tuple #[.pointer r.1, .int .i64 r.2] ∧ k r h') := by
  refine f_enter (N := 18) Go.Proofs.Tryd.func7 rfl rfl rfl (fun w0 => ?_)
  unfold journal_Open at H
  refine c_weak [(0, .pointer p0)] ⟨rfl, trivial⟩ ?_
  refine c_seq ?_
  refine c_region ?_
  refine w_p tok rfl rfl rfl ?_
  refine w_p tok rfl rfl rfl ?_
  refine w_end ?_
  refine x_seq ?_
  refine c_seq ?_
  refine c_region ?_
  refine w_p tok rfl rfl rfl ?_
  refine w_call slot_Open_ok (slot_Open_ref _ _ _ _ _ H) rfl rfl rfl rfl ?_
  rintro _ h2 ⟨r1, rfl, H⟩
  refine w_p tok rfl rfl rfl ?_
  refine w_p tok rfl rfl rfl ?_
  refine w_p tok rfl rfl rfl ?_
  refine w_p tok rfl rfl rfl ?_
  refine w_p tok rfl rfl rfl ?_
  refine w_end ?_
  refine x_seq ?_
  refine c_weak [(0, .pointer p0), (4, .pointer r1.1), (5, .int .i64 r1.2)] ⟨rfl, rfl, rfl, trivial⟩ ?_
  refine c_seq ?_
  refine c_seq ?_
  refine c_region ?_
  refine w_p tok rfl rfl rfl ?_
  refine w_p tok rfl rfl rfl ?_
  refine w_end ?_
  refine x_seq ?_
  refine c_if H rfl (fun H => ?_) (fun H => ?_)
  ·
    refine c_seq ?_
    refine c_region ?_
    refine w_p tok rfl rfl rfl ?_
    refine w_p tok rfl rfl rfl ?_
    refine w_p tok rfl rfl rfl ?_
    refine w_end ?_
    refine x_seq ?_
    refine c_ret ?_
    refine x_tr ?_
    exact x_ret _ rfl _ rfl ⟨(none, r1.2), rfl, H⟩
  ·
    refine c_skip ?_
    refine x_seq ?_
    refine c_seq ?_
    refine c_region ?_
    refine w_p tok rfl rfl rfl ?_
    refine w_p tok rfl rfl rfl ?_
    refine w_y (y_build tok rfl rfl rfl rfl rfl) rfl rfl ?_
    obtain ⟨b3, h4, eb3, eh4, H⟩ := H
    refine w_h (h_box rfl rfl eb3 eh4) rfl rfl ?_
    refine w_p tok rfl rfl rfl ?_
    refine w_p tok rfl rfl rfl ?_
    refine w_end ?_
    refine x_seq ?_
    refine c_weak [(2, .pointer (some (⟨b3, 0, none⟩ : Addr))), (3, .int .i64 0)] ⟨rfl, rfl, trivial⟩ ?_
    refine c_ret ?_
    exact x_ret _ rfl _ rfl ⟨((some (⟨b3, 0, none⟩ : Addr)), 0), rfl, H⟩

theorem journal_field_ok : CallOk Go.Proofs.Tryd.prog 58 := ⟨_, Go.Proofs.Tryd.func58, by kernel_rfl, by kernel_rfl⟩
theorem journal_field_ref (p0 : Slc) (p1 : Int) (p2 : Int) (k : (Int) → Heap → Prop) (h : Heap) (H : journal_field p0 p1 p2 k h) : CallsH Go.Proofs.Tryd.prog 58 #[Slc.v p0, .int .i64 p1, .int .i64 p2] h (fun v h' => ∃ r : Int, v = .int .u64 r ∧ k r h') := by
  refine f_enter (N := 18) Go.Proofs.Tryd.func58 rfl rfl rfl (fun w0 => ?_)
  unfold journal_field at H
  refine c_weak [(0, Slc.v p0), (1, .int .i64 p1), (2, .int .i64 p2)] ⟨rfl, rfl, rfl, trivial⟩ ?_
  refine c_seq ?_
  refine c_region ?_
  refine w_p tok rfl rfl rfl ?_
  refine w_end ?_
  refine x_seq ?_
  refine c_seq ?_
  refine c_region ?_
  refine w_p tok rfl rfl rfl ?_
  refine w_p tok rfl rfl rfl ?_
  obtain ⟨s1, ps1, qs1, rs1, ts1, es1, H⟩ := H
  refine w_ye (y_sl (s := p0) (L := p1) (H := (p0.len : Int)) (M := (p0.cap : Int)) tok rfl rfl rfl rfl rfl rfl rfl (by simp) ps1 qs1 rs1 ts1) (congrArg Slc.v es1) rfl rfl ?_
  refine w_p tok rfl rfl rfl ?_
  refine w_call num_Get_ok (num_Get_ref _ _ _ _ H) rfl rfl rfl rfl ?_
  rintro _ h3 ⟨r2, rfl, H⟩
  refine w_p tok rfl rfl rfl ?_
  refine w_p tok rfl rfl rfl ?_
  refine w_p tok rfl rfl rfl ?_
  refine w_p tok rfl rfl rfl ?_
  refine w_p tok rfl rfl rfl ?_
  refine w_end ?_
  refine x_seq ?_
  refine c_weak [(7, .int .u64 r2.1)] ⟨rfl, trivial⟩ ?_
  refine c_seq ?_
  refine c_region ?_
  refine w_p tok rfl rfl rfl ?_
  refine w_p tok rfl rfl rfl ?_
  refine w_end ?_
  refine x_seq ?_
  refine c_ret ?_
  exact x_ret _ rfl _ rfl ⟨r2.1, rfl, H⟩

theorem journal_headOf_ok : CallOk Go.Proofs.Tryd.prog 43 := ⟨_, Go.Proofs.Tryd.func43, by kernel_rfl, by kernel_rfl⟩
theorem journal_headOf_ref (p0 : Slc) (k : (S_journal_head) → Heap → Prop) (h : Heap) (H : journal_headOf p0 k h) : CallsH Go.Proofs.Tryd.prog 43 #[Slc.v p0] h (fun v h' => ∃ r : S_journal_head, v = .agg (S_journal_head.cs r).toArray ∧ k r h') := by
  refine f_enter (N := 17) Go.Proofs.Tryd.func43 rfl rfl rfl (fun w0 => ?_)
  unfold journal_headOf at H
  refine c_weak [(0, Slc.v p0)] ⟨rfl, trivial⟩ ?_
  refine c_seq ?_
  refine c_region ?_
  obtain ⟨b1, h2, eb1, eh2, H⟩ := H
  refine w_h (h_alloc tok rfl rfl eb1 eh2) rfl rfl ?_
  refine w_end ?_
  refine x_seq ?_
  refine c_seq ?_
  refine c_region ?_
  refine w_p tok rfl rfl rfl ?_
  refine w_call journal_field_ok (journal_field_ref _ _ _ _ _ H) rfl rfl rfl rfl ?_
  rintro _ h4 ⟨r3, rfl, H⟩
  refine w_p tok rfl rfl rfl ?_
  refine w_call journal_field_ok (journal_field_ref _ _ _ _ _ H) rfl rfl rfl rfl ?_
  rintro _ h6 ⟨r5, rfl, H⟩
  refine w_p tok rfl rfl rfl ?_
  refine w_call journal_field_ok (journal_field_ref _ _ _ _ _ H) rfl rfl rfl rfl ?_
  rintro _ h8 ⟨r7, rfl, H⟩
  refine w_p tok rfl rfl rfl ?_
  refine w_p tok rfl rfl rfl ?_
  refine w_call journal_field_ok (journal_field_ref _ _ _ _ _ H) rfl rfl rfl rfl ?_
  rintro _ h10 ⟨r9, rfl, H⟩
  refine w_p tok rfl rfl rfl ?_
  refine w_p tok rfl rfl rfl ?_
  refine w_call journal_field_ok (journal_field_ref _ _ _ _ _ H) rfl rfl rfl rfl ?_
  rintro _ h12 ⟨r11, rfl, H⟩
  refine w_p tok rfl rfl rfl ?_
  refine w_y (y_build tok rfl rfl rfl rfl rfl) rfl rfl ?_
  obtain ⟨h13, wh13, eh13, H⟩ := H
  refine w_h (h_sts tok rfl rfl rfl rfl rfl (oneC (by kernel_rfl)) wh13 eh13) rfl rfl ?_
  refine w_end ?_
  refine x_seq ?_
  refine c_weak [(2, .pointer (some (⟨b1, 0, none⟩ : Addr)))] ⟨rfl, trivial⟩ ?_
  refine c_ret ?_
  obtain ⟨v14, hv14, H⟩ := H
  exact x_retc tok _ rfl [.agg (S_journal_head.cs v14).toArray] ⟨⟨_, _, rfl, rfl, .inr ⟨rfl, _, rfl, rfl, hv14⟩⟩, trivial⟩ ⟨v14, rfl, H⟩

theorem journal_head_bytes_ok : CallOk Go.Proofs.Tryd.prog 25 := ⟨_, Go.Proofs.Tryd.func25, by kernel_rfl, by kernel_rfl⟩
theorem journal_head_bytes_ref (p0 : S_journal_head) (k : (Slc) → Heap → Prop) (h : Heap) (H : journal_head_bytes p0 k h) : CallsH Go.Proofs.Tryd.prog 25 #[.agg (S_journal_head.cs p0).toArray] h (fun v h' => ∃ r : Slc, v = Slc.v r ∧ k r h') := by
  refine f_enter (N := 24) Go.Proofs.Tryd.func25 rfl rfl rfl (fun w0 => ?_)
  unfold journal_head_bytes at H
  refine c_weak [(0, .agg (S_journal_head.cs p0).toArray)] ⟨rfl, trivial⟩ ?_
  refine c_seq ?_
  refine c_region ?_
  obtain ⟨b1, h2, eb1, eh2, H⟩ := H
  refine w_h (h_box rfl rfl eb1 eh2) rfl rfl ?_
  refine w_p tok rfl rfl rfl ?_
  refine w_end ?_
  refine x_seq ?_
  refine c_seq ?_
  refine c_sim [(1, .pointer (some (⟨b1, 0, none⟩ : Addr)))] (by kernel_rfl) (by kernel_rfl) ⟨rfl, trivial⟩ (fun wf => ?_)
  refine sim_p 0 (ei := [(1, .pointer (some (⟨b1, 0, none⟩ : Addr)))]) (d := (some 4)) wf (by kernel_rfl) ⟨rfl, trivial⟩ (by kernel_rfl) (by kernel_rfl) (fun _ => pf_p tok rfl rfl rfl rfl) (fun P_0 => ?_)
  obtain ⟨v3, hv3, H⟩ := H
  refine sim_l 1 (ei := [(4, .pointer (some (⟨b1, 0, none⟩ : Addr)))]) (d := (some 5)) wf (by kernel_rfl) ⟨rfl, trivial⟩ (by kernel_rfl) (by kernel_rfl) (pf_y rfl rfl rfl (y_ld tok rfl rfl rfl rfl hv3)) (fun P_1 => ?_)
  refine sim_p 3 (ei := [(1, .pointer (some (⟨b1, 0, none⟩ : Addr)))]) (d := (some 7)) wf (by kernel_rfl) ⟨rfl, trivial⟩ (by kernel_rfl) (by kernel_rfl) (fun _ => pf_p tok rfl rfl rfl rfl) (fun P_3 => ?_)
  obtain ⟨v4, hv4, H⟩ := H
  refine sim_l 4 (ei := [(7, .pointer (some ((⟨b1, 0, none⟩ : Addr).add 1)))]) (d := (some 8)) wf (by kernel_rfl) ⟨rfl, trivial⟩ (by kernel_rfl) (by kernel_rfl) (pf_y rfl rfl rfl (y_ld tok rfl rfl rfl rfl hv4)) (fun P_4 => ?_)
  refine sim_c 2 [0, 1] [0, 1] (ei := [(5, .int .u64 v3)]) num_Put_ok (num_Put_ref _ _ _ _ _ H) wf ⟨P_4, P_3 _, P_1, P_0 _, trivial⟩ (by kernel_rfl) ⟨rfl, trivial⟩ (by kernel_rfl) rfl rfl rfl rfl rfl ?_
  rintro _ h6 ⟨r5, rfl, H⟩
  obtain ⟨hy7, H⟩ := H
  refine sim_re (x := ⟨4, .int .u64 v4, [(7, .pointer (some ((⟨b1, 0, none⟩ : Addr).add 1)))]⟩) (pf_y rfl rfl rfl (y_ld tok rfl rfl rfl rfl hy7)) (fun P_4 => ?_)
  refine sim_c 5 [0, 1, 2, 3, 4] [0, 1, 3, 4] (ei := [(6, Slc.v r5), (8, .int .u64 v4)]) num_Put_ok (num_Put_ref _ _ _ _ _ H) wf ⟨P_4, P_3 _, trivial, trivial, trivial⟩ (by kernel_rfl) ⟨rfl, rfl, trivial⟩ (by kernel_rfl) rfl rfl rfl rfl rfl ?_
  rintro _ h9 ⟨r8, rfl, H⟩
  refine sim_p 6 (ei := [(9, Slc.v r8)]) (d := (some 3)) wf (by kernel_rfl) ⟨rfl, trivial⟩ (by kernel_rfl) (by kernel_rfl) (fun _ => pf_p tok rfl rfl rfl rfl) (fun P_6 => ?_)
  refine sim_end wf ⟨P_6 _, trivial, trivial, trivial, trivial, trivial⟩ (by kernel_rfl) ?_
  clear wf P_0 P_1 P_3 P_4 P_6
  refine x_seq ?_
  refine c_seq ?_
  refine c_sim [(1, .pointer (some (⟨b1, 0, none⟩ : Addr))), (3, Slc.v r8)] (by kernel_rfl) (by kernel_rfl) ⟨rfl, rfl, trivial⟩ (fun wf => ?_)
  refine sim_p 0 (ei := [(3, Slc.v r8)]) (d := (some 10)) wf (by kernel_rfl) ⟨rfl, trivial⟩ (by kernel_rfl) (by kernel_rfl) (fun _ => pf_p tok rfl rfl rfl rfl) (fun P_0 => ?_)
  refine sim_p 1 (ei := [(1, .pointer (some (⟨b1, 0, none⟩ : Addr)))]) (d := (some 11)) wf (by kernel_rfl) ⟨rfl, trivial⟩ (by kernel_rfl) (by kernel_rfl) (fun _ => pf_p tok rfl rfl rfl rfl) (fun P_1 => ?_)
  obtain ⟨v10, hv10, H⟩ := H
  refine sim_l 2 (ei := [(11, .pointer (some ((⟨b1, 0, none⟩ : Addr).add 2)))]) (d := (some 12)) wf (by kernel_rfl) ⟨rfl, trivial⟩ (by kernel_rfl) (by kernel_rfl) (pf_y rfl rfl rfl (y_ld tok rfl rfl rfl rfl hv10)) (fun P_2 => ?_)
  refine sim_p 3 (ei := [(12, .int .i64 v10)]) (d := (some 13)) wf (by kernel_rfl) ⟨rfl, trivial⟩ (by kernel_rfl) (by kernel_rfl) (fun _ => pf_p tok rfl rfl rfl rfl) (fun P_3 => ?_)
  refine sim_p 5 (ei := [(1, .pointer (some (⟨b1, 0, none⟩ : Addr)))]) (d := (some 15)) wf (by kernel_rfl) ⟨rfl, trivial⟩ (by kernel_rfl) (by kernel_rfl) (fun _ => pf_p tok rfl rfl rfl rfl) (fun P_5 => ?_)
  obtain ⟨v11, hv11, H⟩ := H
  refine sim_l 6 (ei := [(15, .pointer (some ((⟨b1, 0, none⟩ : Addr).add 3)))]) (d := (some 16)) wf (by kernel_rfl) ⟨rfl, trivial⟩ (by kernel_rfl) (by kernel_rfl) (pf_y rfl rfl rfl (y_ld tok rfl rfl rfl rfl hv11)) (fun P_6 => ?_)
  refine sim_p 7 (ei := [(16, .int .i64 v11)]) (d := (some 17)) wf (by kernel_rfl) ⟨rfl, trivial⟩ (by kernel_rfl) (by kernel_rfl) (fun _ => pf_p tok rfl rfl rfl rfl) (fun P_7 => ?_)
  refine sim_c 4 [0, 1, 2, 3] [0, 1, 2, 3] (ei := [(10, Slc.v r8), (13, .int .u64 (IntKind.u64.wrap v10))]) num_Put_ok (num_Put_ref _ _ _ _ _ H) wf ⟨P_7 _, P_6, P_5 _, P_3 _, P_2, P_1 _, P_0 _, trivial⟩ (by kernel_rfl) ⟨rfl, rfl, trivial⟩ (by kernel_rfl) rfl rfl rfl rfl rfl ?_
  rintro _ h13 ⟨r12, rfl, H⟩
  obtain ⟨hy14, H⟩ := H
  refine sim_re (x := ⟨6, .int .i64 v11, [(15, .pointer (some ((⟨b1, 0, none⟩ : Addr).add 3)))]⟩) (pf_y rfl rfl rfl (y_ld tok rfl rfl rfl rfl hy14)) (fun P_6 => ?_)
  refine sim_c 8 [0, 1, 2, 3, 4, 5, 6, 7] [0, 1, 2, 3, 5, 6, 7] (ei := [(14, Slc.v r12), (17, .int .u64 (IntKind.u64.wrap v11))]) num_Put_ok (num_Put_ref _ _ _ _ _ H) wf ⟨P_7 _, P_6, P_5 _, trivial, trivial, trivial, trivial, trivial⟩ (by kernel_rfl) ⟨rfl, rfl, trivial⟩ (by kernel_rfl) rfl rfl rfl rfl rfl ?_
  rintro _ h16 ⟨r15, rfl, H⟩
  refine sim_p 9 (ei := [(18, Slc.v r15)]) (d := (some 3)) wf (by kernel_rfl) ⟨rfl, trivial⟩ (by kernel_rfl) (by kernel_rfl) (fun _ => pf_p tok rfl rfl rfl rfl) (fun P_9 => ?_)
  refine sim_end wf ⟨P_9 _, trivial, trivial, trivial, trivial, trivial, trivial, trivial, trivial⟩ (by kernel_rfl) ?_
  clear wf P_0 P_1 P_2 P_3 P_5 P_6 P_7 P_9
  refine x_seq ?_
  refine c_weak [(1, .pointer (some (⟨b1, 0, none⟩ : Addr))), (3, Slc.v r15)] ⟨rfl, rfl, trivial⟩ ?_
  refine c_seq ?_
  refine c_region ?_
  refine w_p tok rfl rfl rfl ?_
  refine w_p tok rfl rfl rfl ?_
  obtain ⟨v17, hv17, H⟩ := H
  refine w_y (y_ld tok rfl rfl rfl rfl hv17) rfl rfl ?_
  refine w_p tok rfl rfl rfl ?_
  refine w_call num_Put_ok (num_Put_ref _ _ _ _ _ H) rfl rfl rfl rfl ?_
  rintro _ h19 ⟨r18, rfl, H⟩
  refine w_p tok rfl rfl rfl ?_
  refine w_end ?_
  refine x_seq ?_
  refine c_weak [(2, Slc.v r18)] ⟨rfl, trivial⟩ ?_
  refine c_ret ?_
  exact x_ret _ rfl _ rfl ⟨r18, rfl, H⟩

theorem journal_parts_ok : CallOk Go.Proofs.Tryd.prog 22 := ⟨_, Go.Proofs.Tryd.func22, by kernel_rfl, by kernel_rfl⟩
theorem journal_parts_ref (p0 : Int) (k : (Int) → Heap → Prop) (h : Heap) (H : journal_parts p0 k h) : CallsH Go.Proofs.Tryd.prog 22 #[.int .i64 p0] h (fun v h' => ∃ r : Int, v = .int .i64 r ∧ k r h') := by
  refine f_enter (N := 8) Go.Proofs.Tryd.func22 rfl rfl rfl (fun w0 => ?_)
  unfold journal_parts at H
  refine c_weak [(0, .int .i64 p0)] ⟨rfl, trivial⟩ ?_
  refine c_seq ?_
  refine c_region ?_
  refine w_p tok rfl rfl rfl ?_
  refine w_end ?_
  refine x_seq ?_
  refine c_seq ?_
  refine c_region ?_
  refine w_p tok rfl rfl rfl ?_
  refine w_p tok rfl rfl rfl ?_
  refine w_p tok rfl rfl rfl ?_
  refine w_p tok rfl rfl rfl ?_
  refine w_p tok rfl rfl rfl ?_
  obtain ⟨x1, ex1, H⟩ := H
  refine w_pe tok rfl (congrArg (fun z => (.int .i64 z : Value)) ex1) rfl rfl ?_
  refine w_end ?_
  refine x_seq ?_
  refine c_ret ?_
  exact x_ret _ rfl _ rfl ⟨x1, rfl, H⟩

theorem journal_Store_record_ok : CallOk Go.Proofs.Tryd.prog 30 := ⟨_, Go.Proofs.Tryd.func30, by kernel_rfl, by kernel_rfl⟩
theorem journal_Store_record_ref (p0 : Option Addr) (p1 : Int) (p2 : Int) (p3 : Int) (k : (Slc × Bool) → Heap → Prop) (h : Heap) (H : journal_Store_record p0 p1 p2 p3 k h) : CallsH Go.Proofs.Tryd.prog 30 #[.pointer p0, .int .u64 p1, .int .u64 p2, .int .i64 p3] h (fun v h' => ∃ r : Slc × Bool, v = .tuple #[Slc.v r.1, .bool r.2] ∧ k r h') := by
  refine f_enter (N := 72) Go.Proofs.Tryd.func30 rfl rfl rfl (fun w0 => ?_)
  unfold journal_Store_record at H
  refine c_weak [(0, .pointer p0), (1, .int .u64 p1), (2, .int .u64 p2), (3, .int .i64 p3)] ⟨rfl, rfl, rfl, rfl, trivial⟩ ?_
  refine c_seq ?_
  refine c_region ?_
  refine w_p tok rfl rfl rfl ?_
  refine w_p tok rfl rfl rfl ?_
  refine w_end ?_
  refine x_seq ?_
  refine c_seq ?_
  refine c_region ?_
  refine w_p tok rfl rfl rfl ?_
  refine w_end ?_
  refine x_seq ?_
  refine c_seq ?_
  refine c_region ?_
  refine w_p tok rfl rfl rfl ?_
  refine w_p tok rfl rfl rfl ?_
  refine w_y (y_build tok rfl rfl rfl rfl rfl) rfl rfl ?_
  obtain ⟨b1, h2, eb1, eh2, H⟩ := H
  refine w_h (h_alloc tok rfl rfl eb1 eh2) rfl rfl ?_
  obtain ⟨h3, wh3, eh3, H⟩ := H
  refine w_h (h_sts tok rfl rfl rfl rfl rfl (oneC (by kernel_rfl)) wh3 eh3) rfl rfl ?_
  refine w_end ?_
  refine x_seq ?_
  refine c_weak [(0, .pointer p0), (3, .int .i64 p3), (10, Slc.v (⟨none, 0, 0⟩ : Slc)), (11, .pointer (some (⟨b1, 0, none⟩ : Addr)))] ⟨rfl, rfl, rfl, rfl, trivial⟩ ?_
  refine c_seq ?_
  refine c_seq ?_
  refine c_region ?_
  refine w_p tok rfl rfl rfl ?_
  refine w_end ?_
  refine x_seq ?_
  refine c_block ?_
  obtain ⟨I1, μ1, H0, HI⟩ := H
  refine c_loop (σ := Slc × Int) (fun (s : Slc × Int) => [(10, Slc.v s.1), (12, .int .i64 s.2), (0, .pointer p0), (3, .int .i64 p3), (11, .pointer (some (⟨b1, 0, none⟩ : Addr)))]) I1 μ1 ((⟨none, 0, 0⟩ : Slc), 0) H0 ⟨rfl, rfl, rfl, rfl, rfl, trivial⟩ ?_
  rintro ⟨t10_1, t12_1⟩ h_1 H
  replace H := HI t10_1 t12_1 h_1 H
  unfold journal_Store_record_l1b at H
  refine c_weak [(10, Slc.v t10_1), (12, .int .i64 t12_1), (0, .pointer p0), (3, .int .i64 p3), (11, .pointer (some (⟨b1, 0, none⟩ : Addr)))] ⟨rfl, rfl, rfl, rfl, rfl, trivial⟩ ?_
  refine c_seq ?_
  refine c_seq ?_
  refine c_region ?_
  refine w_p tok rfl rfl rfl ?_
  refine w_p tok rfl rfl rfl ?_
  obtain ⟨v4, hv4, H⟩ := H
  refine w_y (y_ld tok rfl rfl rfl rfl hv4) rfl rfl ?_
  refine w_p tok rfl rfl rfl ?_
  refine w_end ?_
  refine x_seq ?_
  refine c_if H rfl (fun H => ?_) (fun H => ?_)
  ·
    refine c_skip ?_
    refine x_seq ?_
    refine c_seq ?_
    refine c_block ?_
    refine c_seq ?_
    refine c_region ?_
    refine w_p tok rfl rfl rfl ?_
    obtain ⟨a5, ha5, H⟩ := H
    refine w_y (y_nil' rfl rfl ha5) rfl rfl ?_
    refine w_p tok rfl rfl rfl ?_
    obtain ⟨v6, hv6, H⟩ := H
    refine w_y (y_ld tok rfl rfl rfl rfl hv6) rfl rfl ?_
    refine w_p tok rfl rfl rfl ?_
    refine w_p tok rfl rfl rfl ?_
    refine w_p tok rfl rfl rfl ?_
    refine w_call disk_Disk_Read_ok (disk_Disk_Read_ref _ _ _ _ H) rfl rfl rfl rfl ?_
    rintro _ h8 ⟨r7, rfl, H⟩
    refine w_p tok rfl rfl rfl ?_
    refine w_p tok rfl rfl rfl ?_
    refine w_p tok rfl rfl rfl ?_
    refine w_p tok rfl rfl rfl ?_
    refine w_p tok rfl rfl rfl ?_
    refine w_end ?_
    refine x_seq ?_
    refine c_weak [(10, Slc.v t10_1), (12, .int .i64 t12_1), (0, .pointer p0), (3, .int .i64 p3), (11, .pointer (some (⟨b1, 0, none⟩ : Addr))), (13, Slc.v r7.1), (14, .int .i64 r7.2)] ⟨rfl, rfl, rfl, rfl, rfl, rfl, rfl, trivial⟩ ?_
    refine c_seq ?_
    refine c_seq ?_
    refine c_region ?_
    refine w_p tok rfl rfl rfl ?_
    refine w_p tok rfl rfl rfl ?_
    refine w_end ?_
    refine x_seq ?_
    refine c_if H rfl (fun H => ?_) (fun H => ?_)
    ·
      refine c_seq ?_
      refine c_region ?_
      refine w_p tok rfl rfl rfl ?_
      refine w_p tok rfl rfl rfl ?_
      refine w_end ?_
      refine x_seq ?_
      refine c_weak [(8, Slc.v (⟨none, 0, 0⟩ : Slc)), (9, .bool false)] ⟨rfl, rfl, trivial⟩ ?_
      refine c_ret ?_
      refine x_tr ?_
      refine x_br ?_
      refine x_tr ?_
      refine x_tr ?_
      refine x_br ?_
      refine x_tr ?_
      exact x_ret _ rfl _ rfl ⟨((⟨none, 0, 0⟩ : Slc), false), rfl, H⟩
    ·
      refine c_skip ?_
      refine x_seq ?_
      refine c_seq ?_
      refine c_region ?_
      refine w_p tok rfl rfl rfl ?_
      refine w_call journal_headOf_ok (journal_headOf_ref _ _ _ H) rfl rfl rfl rfl ?_
      rintro _ h10 ⟨r9, rfl, H⟩
      obtain ⟨b11, h12, eb11, eh12, H⟩ := H
      refine w_h (h_alloc tok rfl rfl eb11 eh12) rfl rfl ?_
      obtain ⟨h13, wh13, eh13, H⟩ := H
      refine w_h (h_sts tok rfl rfl rfl rfl rfl (oneC (by kernel_rfl)) wh13 eh13) rfl rfl ?_
      refine w_end ?_
      refine x_seq ?_
      refine c_seqJ (α := Unit) (fun (s : Unit) => [(0, .pointer p0), (3, .int .i64 p3), (10, Slc.v t10_1), (11, .pointer (some (⟨b1, 0, none⟩ : Addr))), (12, .int .i64 t12_1), (13, Slc.v r7.1), (15, .pointer (some (⟨b11, 0, none⟩ : Addr)))]) (fun (s : Unit) h => journal_Store_record_j2 p0 p3 t10_1 (⟨b1, 0, none⟩ : Addr) t12_1 r7.1 (⟨b11, 0, none⟩ : Addr) k (fun s h' => I1 s h' ∧ μ1 s h' < μ1 (t10_1, t12_1) h_1) h) ?_ ?_
      ·
        rintro _ h_2 H
        replace H : journal_Store_record_j2 p0 p3 t10_1 (⟨b1, 0, none⟩ : Addr) t12_1 r7.1 (⟨b11, 0, none⟩ : Addr) k (fun s h' => I1 s h' ∧ μ1 s h' < μ1 (t10_1, t12_1) h_1) h_2 := H
        unfold journal_Store_record_j2 at H
        refine c_weak [(0, .pointer p0), (3, .int .i64 p3), (10, Slc.v t10_1), (11, .pointer (some (⟨b1, 0, none⟩ : Addr))), (12, .int .i64 t12_1), (13, Slc.v r7.1), (15, .pointer (some (⟨b11, 0, none⟩ : Addr)))] ⟨rfl, rfl, rfl, rfl, rfl, rfl, rfl, trivial⟩ ?_
        refine c_seq ?_
        refine c_region ?_
        refine w_p tok rfl rfl rfl ?_
        refine w_p tok rfl rfl rfl ?_
        obtain ⟨h14, wh14, eh14, H⟩ := H
        refine w_h (h_st tok rfl rfl rfl rfl rfl rfl wh14 eh14) rfl rfl ?_
        refine w_end ?_
        refine x_seq ?_
        refine c_seq ?_
        refine c_seqJ (α := Bool) (fun (s : Bool) => [(60, .bool s), (0, .pointer p0), (3, .int .i64 p3), (10, Slc.v t10_1), (11, .pointer (some (⟨b1, 0, none⟩ : Addr))), (12, .int .i64 t12_1), (13, Slc.v r7.1)]) (fun (s : Bool) h => journal_Store_record_j3 p0 p3 t10_1 (⟨b1, 0, none⟩ : Addr) t12_1 r7.1 s k (fun s h' => I1 s h' ∧ μ1 s h' < μ1 (t10_1, t12_1) h_1) h) ?_ ?_
        ·
          rintro t60_3 h_3 H
          replace H : journal_Store_record_j3 p0 p3 t10_1 (⟨b1, 0, none⟩ : Addr) t12_1 r7.1 t60_3 k (fun s h' => I1 s h' ∧ μ1 s h' < μ1 (t10_1, t12_1) h_1) h_3 := H
          unfold journal_Store_record_j3 at H
          refine c_weak [(60, .bool t60_3), (0, .pointer p0), (3, .int .i64 p3), (10, Slc.v t10_1), (11, .pointer (some (⟨b1, 0, none⟩ : Addr))), (12, .int .i64 t12_1), (13, Slc.v r7.1)] ⟨rfl, rfl, rfl, rfl, rfl, rfl, rfl, trivial⟩ ?_
          refine c_if H rfl (fun H => ?_) (fun H => ?_)
          ·
            refine c_seq ?_
            refine c_region ?_
            refine w_p tok rfl rfl rfl ?_
            refine w_p tok rfl rfl rfl ?_
            refine w_end ?_
            refine x_seq ?_
            refine c_weak [(8, Slc.v (⟨none, 0, 0⟩ : Slc)), (9, .bool false)] ⟨rfl, rfl, trivial⟩ ?_
            refine c_ret ?_
            refine x_tr ?_
            refine x_br ?_
            refine x_tr ?_
            refine x_tr ?_
            refine x_br ?_
            refine x_tr ?_
            exact x_ret _ rfl _ rfl ⟨((⟨none, 0, 0⟩ : Slc), false), rfl, H⟩
          ·
            refine c_skip ?_
            refine x_seq ?_
            refine c_region ?_
            refine w_p tok rfl rfl rfl ?_
            refine w_p tok rfl rfl rfl ?_
            refine w_p tok rfl rfl rfl ?_
            refine w_p tok rfl rfl rfl ?_
            refine w_p tok rfl rfl rfl ?_
            obtain ⟨s15, ps15, qs15, rs15, ts15, es15, H⟩ := H
            refine w_ye (y_sl (s := r7.1) (L := (IntKind.i64.wrap ((r7.1.len : Int) - 108))) (H := (r7.1.len : Int)) (M := (r7.1.cap : Int)) tok rfl rfl rfl rfl rfl rfl rfl (by simp) ps15 qs15 rs15 ts15) (congrArg Slc.v es15) rfl rfl ?_
            obtain ⟨l18, hl18, H⟩ := H
            refine w_a (a_app (s := t10_1) (r := s15) tok rfl rfl rfl rfl rfl hl18 H) rfl rfl ?_
            rintro _ h17 ⟨s16, rfl, H⟩
            refine w_p tok rfl rfl rfl ?_
            refine w_end ?_
            refine x_blk ?_
            refine x_seq ?_
            refine c_weak [(0, .pointer p0), (3, .int .i64 p3), (10, Slc.v s16), (11, .pointer (some (⟨b1, 0, none⟩ : Addr))), (12, .int .i64 t12_1)] ⟨rfl, rfl, rfl, rfl, rfl, trivial⟩ ?_
            refine c_region ?_
            refine w_p tok rfl rfl rfl ?_
            refine w_p tok rfl rfl rfl ?_
            obtain ⟨x19, ex19, H⟩ := H
            refine w_pe tok rfl (congrArg (fun z => (.int .i64 z : Value)) ex19) rfl rfl ?_
            refine w_end ?_
            exact x_join (s16, x19) H ⟨rfl, rfl, rfl, rfl, rfl, trivial⟩
        ·
          refine c_sim [(0, .pointer p0), (3, .int .i64 p3), (10, Slc.v t10_1), (11, .pointer (some (⟨b1, 0, none⟩ : Addr))), (12, .int .i64 t12_1), (13, Slc.v r7.1), (15, .pointer (some (⟨b11, 0, none⟩ : Addr)))] (by kernel_rfl) (by kernel_rfl) ⟨rfl, rfl, rfl, rfl, rfl, rfl, rfl, trivial⟩ (fun wf => ?_)
          obtain ⟨v20, hv20, H⟩ := H
          refine sim_l 0 (ei := [(15, .pointer (some (⟨b11, 0, none⟩ : Addr)))]) (d := (some 50)) wf (by kernel_rfl) ⟨rfl, trivial⟩ (by kernel_rfl) (by kernel_rfl) (pf_y rfl rfl rfl (y_lda tok rfl rfl rfl rfl rfl hv20)) (fun P_0 => ?_)
          obtain ⟨v21, hv21, H⟩ := H
          refine sim_l 1 (ei := [(11, .pointer (some (⟨b1, 0, none⟩ : Addr)))]) (d := (some 51)) wf (by kernel_rfl) ⟨rfl, trivial⟩ (by kernel_rfl) (by kernel_rfl) (pf_y rfl rfl rfl (y_lda tok rfl rfl rfl rfl rfl hv21)) (fun P_1 => ?_)
          refine sim_p 2 (ei := [(50, .agg (S_journal_head.cs v20).toArray), (51, .agg (S_journal_head.cs v21).toArray)]) (d := (some 52)) wf (by kernel_rfl) ⟨rfl, rfl, trivial⟩ (by kernel_rfl) (by kernel_rfl) (fun _ => pf_y rfl rfl rfl (y_eqs (op := .neq) (xs := S_journal_head.cs v20) (ys := S_journal_head.cs v21) (.inr rfl) rfl rfl rfl (eqv56_S_journal_head v20 v21) (by kernel_rfl))) (fun P_2 => ?_)
          refine sim_p 3 (ei := [(52, .bool (if BinOp.neq = .eql then ((v20.f_epoch == v21.f_epoch) && (v20.f_number == v21.f_number) && (v20.f_part == v21.f_part) && (v20.f_parts == v21.f_parts) && (v20.f_size == v21.f_size)) else !((v20.f_epoch == v21.f_epoch) && (v20.f_number == v21.f_number) && (v20.f_part == v21.f_part) && (v20.f_parts == v21.f_parts) && (v20.f_size == v21.f_size))))]) (d := (some 53)) wf (by kernel_rfl) ⟨rfl, trivial⟩ (by kernel_rfl) (by kernel_rfl) (fun _ => pf_p tok rfl rfl rfl rfl) (fun P_3 => ?_)
          refine sim_gif 53 H rfl (fun hb H => ?_) (fun hb H => ?_)
          ·
            refine sim_p 4 (v := undef) (ei := [(15, .pointer (some (⟨b11, 0, none⟩ : Addr))), (53, .bool true)]) (d := (some 54)) wf (by kernel_rfl) ⟨rfl, rfl, trivial⟩ (by kernel_rfl) (by kernel_rfl) (fun _ => pf_s rfl rfl rfl) (fun P_4 => ?_)
            refine sim_p 5 (v := undef) (ei := [(53, .bool true), (54, undef)]) (d := (some 55)) wf (by kernel_rfl) ⟨rfl, rfl, trivial⟩ (by kernel_rfl) (by kernel_rfl) (fun _ => pf_s rfl rfl rfl) (fun P_5 => ?_)
            refine sim_p 6 (v := undef) (ei := [(15, .pointer (some (⟨b11, 0, none⟩ : Addr))), (53, .bool true)]) (d := (some 56)) wf (by kernel_rfl) ⟨rfl, rfl, trivial⟩ (by kernel_rfl) (by kernel_rfl) (fun _ => pf_s rfl rfl rfl) (fun P_6 => ?_)
            refine sim_p 7 (v := undef) (ei := [(53, .bool true), (56, undef)]) (d := (some 57)) wf (by kernel_rfl) ⟨rfl, rfl, trivial⟩ (by kernel_rfl) (by kernel_rfl) (fun _ => pf_s rfl rfl rfl) (fun P_7 => ?_)
            refine sim_p 8 (v := undef) (ei := [(53, .bool true), (57, undef)]) (d := (some 58)) wf (by kernel_rfl) ⟨rfl, rfl, trivial⟩ (by kernel_rfl) (by kernel_rfl) (fun _ => pf_s rfl rfl rfl) (fun P_8 => ?_)
            refine sim_p 9 (v := undef) (ei := [(53, .bool true), (55, undef), (58, undef)]) (d := (some 59)) wf (by kernel_rfl) ⟨rfl, rfl, rfl, trivial⟩ (by kernel_rfl) (by kernel_rfl) (fun _ => pf_s rfl rfl rfl) (fun P_9 => ?_)
            refine sim_p 10 (ei := [(53, .bool true), (59, undef)]) (d := (some 60)) wf (by kernel_rfl) ⟨rfl, rfl, trivial⟩ (by kernel_rfl) (by kernel_rfl) (fun _ => pf_p tok rfl rfl rfl rfl) (fun P_10 => ?_)
            refine sim_end wf ⟨P_10 _, P_9 _, P_8 _, P_7 _, P_6 _, P_5 _, P_4 _, P_3 _, P_2 _, P_1, P_0, trivial⟩ (by kernel_rfl) ?_
            clear wf P_0 P_1 P_10 P_2 P_3 P_4 P_5 P_6 P_7 P_8 P_9
            exact x_join true H ⟨rfl, rfl, rfl, rfl, rfl, rfl, rfl, trivial⟩
          ·
            refine sim_p 4 (ei := [(15, .pointer (some (⟨b11, 0, none⟩ : Addr))), (53, .bool false)]) (d := (some 54)) wf (by kernel_rfl) ⟨rfl, rfl, trivial⟩ (by kernel_rfl) (by kernel_rfl) (fun _ => pf_p tok rfl rfl rfl rfl) (fun P_4 => ?_)
            obtain ⟨v22, hv22, H⟩ := H
            refine sim_l 5 (ei := [(53, .bool false), (54, .pointer (some ((⟨b11, 0, none⟩ : Addr).add 3)))]) (d := (some 55)) wf (by kernel_rfl) ⟨rfl, rfl, trivial⟩ (by kernel_rfl) (by kernel_rfl) (pf_y rfl rfl rfl (y_ld tok rfl rfl rfl rfl hv22)) (fun P_5 => ?_)
            refine sim_p 6 (ei := [(15, .pointer (some (⟨b11, 0, none⟩ : Addr))), (53, .bool false)]) (d := (some 56)) wf (by kernel_rfl) ⟨rfl, rfl, trivial⟩ (by kernel_rfl) (by kernel_rfl) (fun _ => pf_p tok rfl rfl rfl rfl) (fun P_6 => ?_)
            obtain ⟨v23, hv23, H⟩ := H
            refine sim_l 7 (ei := [(53, .bool false), (56, .pointer (some ((⟨b11, 0, none⟩ : Addr).add 4)))]) (d := (some 57)) wf (by kernel_rfl) ⟨rfl, rfl, trivial⟩ (by kernel_rfl) (by kernel_rfl) (pf_y rfl rfl rfl (y_ld tok rfl rfl rfl rfl hv23)) (fun P_7 => ?_)
            refine sim_c 8 [0, 1, 2, 3, 6, 7] [0, 1, 2, 3, 6, 7] (ei := [(53, .bool false), (57, .int .i64 v23)]) journal_parts_ok (journal_parts_ref _ _ _ H) wf ⟨P_7, P_6 _, P_5, P_4 _, P_3 _, P_2 _, P_1, P_0, trivial⟩ (by kernel_rfl) ⟨rfl, rfl, trivial⟩ (by kernel_rfl) rfl rfl rfl rfl rfl ?_
            rintro _ h25 ⟨r24, rfl, H⟩
            obtain ⟨hy26, H⟩ := H
            refine sim_re (x := ⟨5, .int .i64 v22, [(53, .bool false), (54, .pointer (some ((⟨b11, 0, none⟩ : Addr).add 3)))]⟩) (pf_y rfl rfl rfl (y_ld tok rfl rfl rfl rfl hy26)) (fun P_5 => ?_)
            refine sim_p 9 (ei := [(53, .bool false), (55, .int .i64 v22), (58, .int .i64 r24)]) (d := (some 59)) wf (by kernel_rfl) ⟨rfl, rfl, rfl, trivial⟩ (by kernel_rfl) (by kernel_rfl) (fun _ => pf_p tok rfl rfl rfl rfl) (fun P_9 => ?_)
            refine sim_p 10 (ei := [(53, .bool false), (59, .bool (v22 != r24))]) (d := (some 60)) wf (by kernel_rfl) ⟨rfl, rfl, trivial⟩ (by kernel_rfl) (by kernel_rfl) (fun _ => pf_p tok rfl rfl rfl rfl) (fun P_10 => ?_)
            refine sim_end wf ⟨P_10 _, P_9 _, trivial, trivial, P_5, P_4 _, trivial, trivial, trivial, trivial, trivial⟩ (by kernel_rfl) ?_
            clear wf P_0 P_1 P_10 P_2 P_3 P_4 P_5 P_6 P_7 P_9
            exact x_join (v22 != r24) H ⟨rfl, rfl, rfl, rfl, rfl, rfl, rfl, trivial⟩
      ·
        refine c_seq ?_
        refine c_region ?_
        refine w_p tok rfl rfl rfl ?_
        refine w_p tok rfl rfl rfl ?_
        refine w_end ?_
        refine x_seq ?_
        refine c_if H rfl (fun H => ?_) (fun H => ?_)
        ·
          refine c_sim [(0, .pointer p0), (3, .int .i64 p3), (10, Slc.v t10_1), (11, .pointer (some (⟨b1, 0, none⟩ : Addr))), (12, .int .i64 t12_1), (13, Slc.v r7.1), (15, .pointer (some (⟨b11, 0, none⟩ : Addr)))] (by kernel_rfl) (by kernel_rfl) ⟨rfl, rfl, rfl, rfl, rfl, rfl, rfl, trivial⟩ (fun wf => ?_)
          refine sim_p 0 (ei := [(15, .pointer (some (⟨b11, 0, none⟩ : Addr)))]) (d := (some 42)) wf (by kernel_rfl) ⟨rfl, trivial⟩ (by kernel_rfl) (by kernel_rfl) (fun _ => pf_p tok rfl rfl rfl rfl) (fun P_0 => ?_)
          obtain ⟨v27, hv27, H⟩ := H
          refine sim_l 1 (ei := [(42, .pointer (some ((⟨b11, 0, none⟩ : Addr).add 3)))]) (d := (some 43)) wf (by kernel_rfl) ⟨rfl, trivial⟩ (by kernel_rfl) (by kernel_rfl) (pf_y rfl rfl rfl (y_ld tok rfl rfl rfl rfl hv27)) (fun P_1 => ?_)
          refine sim_p 2 (ei := [(15, .pointer (some (⟨b11, 0, none⟩ : Addr)))]) (d := (some 44)) wf (by kernel_rfl) ⟨rfl, trivial⟩ (by kernel_rfl) (by kernel_rfl) (fun _ => pf_p tok rfl rfl rfl rfl) (fun P_2 => ?_)
          obtain ⟨v28, hv28, H⟩ := H
          refine sim_l 3 (ei := [(44, .pointer (some ((⟨b11, 0, none⟩ : Addr).add 4)))]) (d := (some 45)) wf (by kernel_rfl) ⟨rfl, trivial⟩ (by kernel_rfl) (by kernel_rfl) (pf_y rfl rfl rfl (y_ld tok rfl rfl rfl rfl hv28)) (fun P_3 => ?_)
          refine sim_p 4 (ei := [(11, .pointer (some (⟨b1, 0, none⟩ : Addr)))]) (d := (some 46)) wf (by kernel_rfl) ⟨rfl, trivial⟩ (by kernel_rfl) (by kernel_rfl) (fun _ => pf_p tok rfl rfl rfl rfl) (fun P_4 => ?_)
          obtain ⟨h29, wh29, eh29, H⟩ := H
          refine sim_h 5 [0, 1, 4] [0, 1, 4] (ei := [(43, .int .i64 v27), (46, .pointer (some ((⟨b1, 0, none⟩ : Addr).add 3)))]) wf ⟨P_4 _, P_3, P_2 _, P_1, P_0 _, trivial⟩ (by kernel_rfl) ⟨rfl, rfl, trivial⟩ (by kernel_rfl) rfl rfl rfl (h_st tok rfl rfl rfl rfl rfl rfl wh29 eh29) ?_
          obtain ⟨hy30, H⟩ := H
          refine sim_re (x := ⟨3, .int .i64 v28, [(44, .pointer (some ((⟨b11, 0, none⟩ : Addr).add 4)))]⟩) (pf_y rfl rfl rfl (y_ld tok rfl rfl rfl rfl hy30)) (fun P_3 => ?_)
          refine sim_p 6 (ei := [(11, .pointer (some (⟨b1, 0, none⟩ : Addr)))]) (d := (some 47)) wf (by kernel_rfl) ⟨rfl, trivial⟩ (by kernel_rfl) (by kernel_rfl) (fun _ => pf_p tok rfl rfl rfl rfl) (fun P_6 => ?_)
          obtain ⟨h31, wh31, eh31, H⟩ := H
          refine sim_h 7 [0, 1, 2, 3, 4, 5, 6] [0, 1, 2, 3, 4, 6] (ei := [(45, .int .i64 v28), (47, .pointer (some ((⟨b1, 0, none⟩ : Addr).add 4)))]) wf ⟨P_6 _, trivial, P_3, P_2 _, trivial, trivial, trivial⟩ (by kernel_rfl) ⟨rfl, rfl, trivial⟩ (by kernel_rfl) rfl rfl rfl (h_st tok rfl rfl rfl rfl rfl rfl wh31 eh31) ?_
          refine sim_end wf ⟨trivial, trivial, trivial, trivial, trivial, trivial, trivial⟩ (by kernel_rfl) ?_
          clear wf P_0 P_1 P_2 P_3 P_4 P_6
          exact x_join () H ⟨rfl, rfl, rfl, rfl, rfl, rfl, rfl, trivial⟩
        ·
          refine c_skip ?_
          exact x_join () H ⟨rfl, rfl, rfl, rfl, rfl, rfl, rfl, trivial⟩
  ·
    refine c_exit ?_
    refine x_te ?_
    refine x_te ?_
    refine x_bh ?_
    refine x_seq ?_
    refine c_weak [(10, Slc.v t10_1), (11, .pointer (some (⟨b1, 0, none⟩ : Addr)))] ⟨rfl, rfl, trivial⟩ ?_
    refine c_seq ?_
    refine c_region ?_
    refine w_p tok rfl rfl rfl ?_
    refine w_p tok rfl rfl rfl ?_
    obtain ⟨v32, hv32, H⟩ := H
    refine w_y (y_ld tok rfl rfl rfl rfl hv32) rfl rfl ?_
    obtain ⟨s33, ps33, qs33, rs33, ts33, es33, H⟩ := H
    refine w_ye (y_sl (s := t10_1) (L := 0) (H := v32) (M := (t10_1.cap : Int)) tok rfl rfl rfl rfl rfl rfl rfl (by simp) ps33 qs33 rs33 ts33) (congrArg Slc.v es33) rfl rfl ?_
    refine w_p tok rfl rfl rfl ?_
    refine w_p tok rfl rfl rfl ?_
    refine w_end ?_
    refine x_seq ?_
    refine c_ret ?_
    exact x_ret _ rfl _ rfl ⟨(s33, true), rfl, H⟩

theorem journal_Store_begin_ok : CallOk Go.Proofs.Tryd.prog 21 := ⟨_, Go.Proofs.Tryd.func21, by kernel_rfl, by kernel_rfl⟩
theorem journal_Store_begin_ref (p0 : Option Addr) (p1 : Int) (k : (Unit) → Heap → Prop) (h : Heap) (H : journal_Store_begin p0 p1 k h) : CallsH Go.Proofs.Tryd.prog 21 #[.pointer p0, .int .u64 p1] h (fun v h' => ∃ r : Unit, v = .tuple #[] ∧ k r h') := by
  refine f_enter (N := 17) Go.Proofs.Tryd.func21 rfl rfl rfl (fun w0 => ?_)
  unfold journal_Store_begin at H
  refine c_weak [(0, .pointer p0), (1, .int .u64 p1)] ⟨rfl, rfl, trivial⟩ ?_
  refine c_region ?_
  refine w_p tok rfl rfl rfl ?_
  refine w_p tok rfl rfl rfl ?_
  refine w_p tok rfl rfl rfl ?_
  refine w_p tok rfl rfl rfl ?_
  refine w_p tok rfl rfl rfl ?_
  obtain ⟨a1, ha1, H⟩ := H
  refine w_y (y_nil' rfl rfl ha1) rfl rfl ?_
  refine w_p tok rfl rfl rfl ?_
  obtain ⟨h2, wh2, eh2, H⟩ := H
  refine w_h (h_st tok rfl rfl rfl rfl rfl rfl wh2 eh2) rfl rfl ?_
  refine w_y (y_nil' rfl rfl ha1) rfl rfl ?_
  refine w_p tok rfl rfl rfl ?_
  obtain ⟨h3, wh3, eh3, H⟩ := H
  refine w_h (h_st tok rfl rfl rfl rfl rfl rfl wh3 eh3) rfl rfl ?_
  refine w_y (y_nil' rfl rfl ha1) rfl rfl ?_
  refine w_p tok rfl rfl rfl ?_
  obtain ⟨h4, wh4, eh4, H⟩ := H
  refine w_h (h_st tok rfl rfl rfl rfl rfl rfl wh4 eh4) rfl rfl ?_
  refine w_y (y_nil' rfl rfl ha1) rfl rfl ?_
  refine w_p tok rfl rfl rfl ?_
  obtain ⟨h5, wh5, eh5, H⟩ := H
  refine w_h (h_st tok rfl rfl rfl rfl rfl rfl wh5 eh5) rfl rfl ?_
  refine w_end ?_
  exact x_end _ rfl _ rfl ⟨(), rfl, H⟩

theorem journal_Store_Save_ok : CallOk Go.Proofs.Tryd.prog 9 := ⟨_, Go.Proofs.Tryd.func9, by kernel_rfl, by kernel_rfl⟩
theorem journal_Store_Save_ref (p0 : Option Addr) (p1 : Slc) (k : (Int) → Heap → Prop) (h : Heap) (H : journal_Store_Save p0 p1 k h) : CallsH Go.Proofs.Tryd.prog 9 #[.pointer p0, Slc.v p1] h (fun v h' => ∃ r : Int, v = .int .i64 r ∧ k r h') := by
  refine f_enter (N := 27) Go.Proofs.Tryd.func9 rfl rfl rfl (fun w0 => ?_)
  unfold journal_Store_Save at H
  refine c_weak [(0, .pointer p0), (1, Slc.v p1)] ⟨rfl, rfl, trivial⟩ ?_
  refine c_seq ?_
  refine c_region ?_
  refine w_p tok rfl rfl rfl ?_
  refine w_end ?_
  refine x_seq ?_
  refine c_seq ?_
  refine c_seq ?_
  refine c_region ?_
  refine w_p tok rfl rfl rfl ?_
  refine w_p tok rfl rfl rfl ?_
  refine w_end ?_
  refine x_seq ?_
  refine c_if H rfl (fun H => ?_) (fun H => ?_)
  ·
    refine c_seq ?_
    refine c_region ?_
    refine w_p tok rfl rfl rfl ?_
    refine w_end ?_
    refine x_seq ?_
    refine c_ret ?_
    refine x_tr ?_
    exact x_ret _ rfl _ rfl ⟨1, rfl, H⟩
  ·
    refine c_skip ?_
    refine x_seq ?_
    refine c_seq ?_
    refine c_region ?_
    refine w_p tok rfl rfl rfl ?_
    obtain ⟨a1, ha1, H⟩ := H
    refine w_y (y_nil' rfl rfl ha1) rfl rfl ?_
    refine w_p tok rfl rfl rfl ?_
    obtain ⟨v2, hv2, H⟩ := H
    refine w_y (y_ld tok rfl rfl rfl rfl hv2) rfl rfl ?_
    refine w_p tok rfl rfl rfl ?_
    refine w_call slot_Pair_Save_ok (slot_Pair_Save_ref _ _ _ _ H) rfl rfl rfl rfl ?_
    rintro _ h4 ⟨r3, rfl, H⟩
    refine w_p tok rfl rfl rfl ?_
    refine w_p tok rfl rfl rfl ?_
    refine w_p tok rfl rfl rfl ?_
    refine w_p tok rfl rfl rfl ?_
    refine w_p tok rfl rfl rfl ?_
    refine w_end ?_
    refine x_seq ?_
    refine c_weak [(0, .pointer p0), (5, .int .u64 r3.1), (6, .int .i64 r3.2)] ⟨rfl, rfl, rfl, trivial⟩ ?_
    refine c_seq ?_
    refine c_seq ?_
    refine c_region ?_
    refine w_p tok rfl rfl rfl ?_
    refine w_p tok rfl rfl rfl ?_
    refine w_end ?_
    refine x_seq ?_
    refine c_if H rfl (fun H => ?_) (fun H => ?_)
    ·
      refine c_seq ?_
      refine c_region ?_
      refine w_p tok rfl rfl rfl ?_
      refine w_y (y_nil' rfl rfl ha1) rfl rfl ?_
      refine w_p tok rfl rfl rfl ?_
      obtain ⟨h5, wh5, eh5, H⟩ := H
      refine w_h (h_st tok rfl rfl rfl rfl rfl rfl wh5 eh5) rfl rfl ?_
      refine w_end ?_
      refine x_seq ?_
      refine c_weak [(6, .int .i64 r3.2)] ⟨rfl, trivial⟩ ?_
      refine c_seq ?_
      refine c_region ?_
      refine w_p tok rfl rfl rfl ?_
      refine w_p tok rfl rfl rfl ?_
      refine w_end ?_
      refine x_seq ?_
      refine c_ret ?_
      refine x_tr ?_
      exact x_ret _ rfl _ rfl ⟨r3.2, rfl, H⟩
    ·
      refine c_skip ?_
      refine x_seq ?_
      refine c_seq ?_
      refine c_region ?_
      refine w_p tok rfl rfl rfl ?_
      refine w_p tok rfl rfl rfl ?_
      refine w_call journal_Store_begin_ok (journal_Store_begin_ref _ _ _ _ H) rfl rfl rfl rfl ?_
      rintro _ h7 ⟨r6, rfl, H⟩
      refine w_end ?_
      refine x_seq ?_
      refine c_weak [] trivial ?_
      refine c_seq ?_
      refine c_region ?_
      refine w_p tok rfl rfl rfl ?_
      refine w_end ?_
      refine x_seq ?_
      refine c_ret ?_
      exact x_ret _ rfl _ rfl ⟨0, rfl, H⟩

theorem journal_Store_Append_ok : CallOk Go.Proofs.Tryd.prog 10 := ⟨_, Go.Proofs.Tryd.func10, by kernel_rfl, by kernel_rfl⟩
theorem journal_Store_Append_ref (p0 : Option Addr) (p1 : Slc) (k : (Int) → Heap → Prop) (h : Heap) (H : journal_Store_Append p0 p1 k h) : CallsH Go.Proofs.Tryd.prog 10 #[.pointer p0, Slc.v p1] h (fun v h' => ∃ r : Int, v = .int .i64 r ∧ k r h') := by
  refine f_enter (N := 115) Go.Proofs.Tryd.func10 rfl rfl rfl (fun w0 => ?_)
  unfold journal_Store_Append at H
  refine c_weak [(0, .pointer p0), (1, Slc.v p1)] ⟨rfl, rfl, trivial⟩ ?_
  refine c_seq ?_
  refine c_region ?_
  refine w_p tok rfl rfl rfl ?_
  refine w_end ?_
  refine x_seq ?_
  refine c_seq ?_
  refine c_block ?_
  refine c_seq ?_
  refine c_region ?_
  refine w_p tok rfl rfl rfl ?_
  refine w_p tok rfl rfl rfl ?_
  refine w_p tok rfl rfl rfl ?_
  refine w_cut 6 (α := Bool) (fun (s : Bool) => [(18, .bool s), (0, .pointer p0), (1, Slc.v p1)]) (fun (s : Bool) h => journal_Store_Append_g1 p0 p1 s k h) ?_ ?_
  ·
    rintro t18_1 h_1 H
    replace H : journal_Store_Append_g1 p0 p1 t18_1 k h_1 := H
    unfold journal_Store_Append_g1 at H
    refine w_weak [(18, .bool t18_1), (0, .pointer p0), (1, Slc.v p1)] ⟨rfl, rfl, rfl, trivial⟩ ?_
    refine w_p tok rfl rfl rfl ?_
    refine w_end ?_
    refine x_seq ?_
    refine c_if H rfl (fun H => ?_) (fun H => ?_)
    ·
      refine c_seq ?_
      refine c_region ?_
      refine w_p tok rfl rfl rfl ?_
      refine w_end ?_
      refine x_seq ?_
      refine c_ret ?_
      refine x_br ?_
      refine x_tr ?_
      exact x_ret _ rfl _ rfl ⟨13, rfl, H⟩
    ·
      refine c_seq ?_
      refine c_region ?_
      refine w_p tok rfl rfl rfl ?_
      refine w_p tok rfl rfl rfl ?_
      refine w_p tok rfl rfl rfl ?_
      refine w_p tok rfl rfl rfl ?_
      refine w_end ?_
      refine x_seq ?_
      refine c_if H rfl (fun H => ?_) (fun H => ?_)
      ·
        refine c_seq ?_
        refine c_region ?_
        refine w_p tok rfl rfl rfl ?_
        refine w_end ?_
        refine x_seq ?_
        refine c_weak [(4, .int .i64 3)] ⟨rfl, trivial⟩ ?_
        refine c_ret ?_
        refine x_br ?_
        refine x_tr ?_
        exact x_ret _ rfl _ rfl ⟨3, rfl, H⟩
      ·
        refine c_seq ?_
        refine c_sim [(0, .pointer p0), (1, Slc.v p1)] (by kernel_rfl) (by kernel_rfl) ⟨rfl, rfl, trivial⟩ (fun wf => ?_)
        refine sim_p 0 (ei := [(0, .pointer p0)]) (d := (some 24)) wf (by kernel_rfl) ⟨rfl, trivial⟩ (by kernel_rfl) (by kernel_rfl) (fun _ => pf_p tok rfl rfl rfl rfl) (fun P_0 => ?_)
        obtain ⟨a1, ha1, H⟩ := H
        refine sim_p 1 (ei := [(24, .pointer p0)]) (d := (some 25)) wf (by kernel_rfl) ⟨rfl, trivial⟩ (by kernel_rfl) (by kernel_rfl) (fun _ => pf_y rfl rfl rfl (y_nil' rfl rfl ha1)) (fun P_1 => ?_)
        refine sim_p 2 (ei := [(25, .pointer (some a1))]) (d := (some 26)) wf (by kernel_rfl) ⟨rfl, trivial⟩ (by kernel_rfl) (by kernel_rfl) (fun _ => pf_p tok rfl rfl rfl rfl) (fun P_2 => ?_)
        obtain ⟨v2, hv2, H⟩ := H
        refine sim_l 3 (ei := [(26, .pointer (some (a1.add 5)))]) (d := (some 27)) wf (by kernel_rfl) ⟨rfl, trivial⟩ (by kernel_rfl) (by kernel_rfl) (pf_y rfl rfl rfl (y_ld tok rfl rfl rfl rfl hv2)) (fun P_3 => ?_)
        refine sim_p 4 (ei := [(1, Slc.v p1)]) (d := (some 28)) wf (by kernel_rfl) ⟨rfl, trivial⟩ (by kernel_rfl) (by kernel_rfl) (fun _ => pf_p tok rfl rfl rfl rfl) (fun P_4 => ?_)
        refine sim_p 5 (ei := [(28, Slc.v p1)]) (d := (some 29)) wf (by kernel_rfl) ⟨rfl, trivial⟩ (by kernel_rfl) (by kernel_rfl) (fun _ => pf_p tok rfl rfl rfl rfl) (fun P_5 => ?_)
        refine sim_c 6 [4, 5] [4, 5] (ei := [(29, .int .i64 (p1.len : Int))]) journal_parts_ok (journal_parts_ref _ _ _ H) wf ⟨P_5 _, P_4 _, P_3, P_2 _, P_1 _, P_0 _, trivial⟩ (by kernel_rfl) ⟨rfl, trivial⟩ (by kernel_rfl) rfl rfl rfl rfl rfl ?_
        rintro _ h4 ⟨r3, rfl, H⟩
        obtain ⟨hy5, H⟩ := H
        refine sim_re (x := ⟨3, .int .i64 v2, [(26, .pointer (some (a1.add 5)))]⟩) (pf_y rfl rfl rfl (y_ld tok rfl rfl rfl rfl hy5)) (fun P_3 => ?_)
        refine sim_p 7 (ei := [(27, .int .i64 v2), (30, .int .i64 r3)]) (d := (some 31)) wf (by kernel_rfl) ⟨rfl, rfl, trivial⟩ (by kernel_rfl) (by kernel_rfl) (fun _ => pf_p tok rfl rfl rfl rfl) (fun P_7 => ?_)
        refine sim_p 8 (ei := [(31, .int .i64 (IntKind.i64.wrap (v2 + r3)))]) (d := (some 32)) wf (by kernel_rfl) ⟨rfl, trivial⟩ (by kernel_rfl) (by kernel_rfl) (fun _ => pf_p tok rfl rfl rfl rfl) (fun P_8 => ?_)
        refine sim_p 9 (ei := [(32, .bool (decide ((IntKind.i64.wrap (v2 + r3)) > 1024)))]) (d := (some 23)) wf (by kernel_rfl) ⟨rfl, trivial⟩ (by kernel_rfl) (by kernel_rfl) (fun _ => pf_p tok rfl rfl rfl rfl) (fun P_9 => ?_)
        refine sim_end wf ⟨P_9 _, P_8 _, P_7 _, trivial, trivial, P_3, P_2 _, P_1 _, P_0 _, trivial⟩ (by kernel_rfl) ?_
        clear wf P_0 P_1 P_2 P_3 P_4 P_5 P_7 P_8 P_9
        refine x_seq ?_
        refine c_weak [(0, .pointer p0), (1, Slc.v p1), (23, .bool (decide ((IntKind.i64.wrap (v2 + r3)) > 1024)))] ⟨rfl, rfl, rfl, trivial⟩ ?_
        refine c_if H rfl (fun H => ?_) (fun H => ?_)
        ·
          refine c_seq ?_
          refine c_region ?_
          refine w_p tok rfl rfl rfl ?_
          refine w_end ?_
          refine x_seq ?_
          refine c_ret ?_
          refine x_br ?_
          refine x_tr ?_
          exact x_ret _ rfl _ rfl ⟨8, rfl, H⟩
        ·
          refine c_skip ?_
          refine x_blk ?_
          refine x_seq ?_
          refine c_seq ?_
          refine c_region ?_
          refine w_p tok rfl rfl rfl ?_
          refine w_y (y_nil' rfl rfl ha1) rfl rfl ?_
          refine w_p tok rfl rfl rfl ?_
          obtain ⟨h6, wh6, eh6, H⟩ := H
          refine w_h (h_st tok rfl rfl rfl rfl rfl rfl wh6 eh6) rfl rfl ?_
          refine w_end ?_
          refine x_seq ?_
          refine c_seqJ (α := Addr) (fun (s : Addr) => [(5, .pointer (some s)), (0, .pointer p0), (1, Slc.v p1)]) (fun (s : Addr) h => journal_Store_Append_j2 p0 p1 s k h) ?_ ?_
          ·
            rintro t5_2 h_2 H
            replace H : journal_Store_Append_j2 p0 p1 t5_2 k h_2 := H
            unfold journal_Store_Append_j2 at H
            refine c_weak [(5, .pointer (some t5_2)), (0, .pointer p0), (1, Slc.v p1)] ⟨rfl, rfl, rfl, trivial⟩ ?_
            refine c_seq ?_
            refine c_seq ?_
            refine c_region ?_
            refine w_p tok rfl rfl rfl ?_
            obtain ⟨v7, hv7, H⟩ := H
            refine w_y (y_ld tok rfl rfl rfl rfl hv7) rfl rfl ?_
            refine w_p tok rfl rfl rfl ?_
            refine w_end ?_
            refine x_seq ?_
            refine c_block ?_
            obtain ⟨I3, μ3, H0, HI⟩ := H
            refine c_loop (σ := Int) (fun (s : Int) => [(52, .int .i64 s), (0, .pointer p0), (1, Slc.v p1), (5, .pointer (some t5_2)), (51, .int .i64 v7)]) I3 μ3 0 H0 ⟨rfl, rfl, rfl, rfl, rfl, trivial⟩ ?_
            rintro t52_3 h_3 H
            replace H := HI t52_3 h_3 H
            unfold journal_Store_Append_l3b at H
            refine c_weak [(52, .int .i64 t52_3), (0, .pointer p0), (1, Slc.v p1), (5, .pointer (some t5_2)), (51, .int .i64 v7)] ⟨rfl, rfl, rfl, rfl, rfl, trivial⟩ ?_
            refine c_seq ?_
            refine c_region ?_
            refine w_p tok rfl rfl rfl ?_
            refine w_end ?_
            refine x_seq ?_
            refine c_seq ?_
            refine c_if H rfl (fun H => ?_) (fun H => ?_)
            ·
              refine c_skip ?_
              refine x_seq ?_
              refine c_seq ?_
              refine c_block ?_
              refine c_seq ?_
              refine c_region ?_
              refine w_p tok rfl rfl rfl ?_
              refine w_p tok rfl rfl rfl ?_
              refine w_end ?_
              refine x_seq ?_
              refine c_seq ?_
              refine c_region ?_
              refine w_p tok rfl rfl rfl ?_
              refine w_p tok rfl rfl rfl ?_
              obtain ⟨h8, wh8, eh8, H⟩ := H
              refine w_h (h_st tok rfl rfl rfl rfl rfl rfl wh8 eh8) rfl rfl ?_
              refine w_end ?_
              refine x_seq ?_
              refine c_seq ?_
              refine c_sim [(0, .pointer p0), (1, Slc.v p1), (5, .pointer (some t5_2)), (6, .int .i64 t52_3), (51, .int .i64 v7), (52, .int .i64 t52_3)] (by kernel_rfl) (by kernel_rfl) ⟨rfl, rfl, rfl, rfl, rfl, rfl, trivial⟩ (fun wf => ?_)
              refine sim_p 0 (ei := [(0, .pointer p0)]) (d := (some 57)) wf (by kernel_rfl) ⟨rfl, trivial⟩ (by kernel_rfl) (by kernel_rfl) (fun _ => pf_p tok rfl rfl rfl rfl) (fun P_0 => ?_)
              obtain ⟨a9, ha9, H⟩ := H
              refine sim_p 1 (ei := [(57, .pointer p0)]) (d := (some 58)) wf (by kernel_rfl) ⟨rfl, trivial⟩ (by kernel_rfl) (by kernel_rfl) (fun _ => pf_y rfl rfl rfl (y_nil' rfl rfl ha9)) (fun P_1 => ?_)
              refine sim_p 2 (ei := [(58, .pointer (some a9))]) (d := (some 59)) wf (by kernel_rfl) ⟨rfl, trivial⟩ (by kernel_rfl) (by kernel_rfl) (fun _ => pf_p tok rfl rfl rfl rfl) (fun P_2 => ?_)
              obtain ⟨v10, hv10, H⟩ := H
              refine sim_l 3 (ei := [(59, .pointer (some a9))]) (d := (some 60)) wf (by kernel_rfl) ⟨rfl, trivial⟩ (by kernel_rfl) (by kernel_rfl) (pf_y rfl rfl rfl (y_ld tok rfl rfl rfl rfl hv10)) (fun P_3 => ?_)
              refine sim_p 4 (ei := [(0, .pointer p0)]) (d := (some 61)) wf (by kernel_rfl) ⟨rfl, trivial⟩ (by kernel_rfl) (by kernel_rfl) (fun _ => pf_p tok rfl rfl rfl rfl) (fun P_4 => ?_)
              refine sim_p 5 (ei := [(61, .pointer p0)]) (d := (some 62)) wf (by kernel_rfl) ⟨rfl, trivial⟩ (by kernel_rfl) (by kernel_rfl) (fun _ => pf_y rfl rfl rfl (y_nil' rfl rfl ha9)) (fun P_5 => ?_)
              refine sim_p 6 (ei := [(62, .pointer (some a9))]) (d := (some 63)) wf (by kernel_rfl) ⟨rfl, trivial⟩ (by kernel_rfl) (by kernel_rfl) (fun _ => pf_p tok rfl rfl rfl rfl) (fun P_6 => ?_)
              obtain ⟨v11, hv11, H⟩ := H
              refine sim_l 7 (ei := [(63, .pointer (some (a9.add 5)))]) (d := (some 64)) wf (by kernel_rfl) ⟨rfl, trivial⟩ (by kernel_rfl) (by kernel_rfl) (pf_y rfl rfl rfl (y_ld tok rfl rfl rfl rfl hv11)) (fun P_7 => ?_)
              refine sim_p 8 (ei := [(6, .int .i64 t52_3)]) (d := (some 65)) wf (by kernel_rfl) ⟨rfl, trivial⟩ (by kernel_rfl) (by kernel_rfl) (fun _ => pf_p tok rfl rfl rfl rfl) (fun P_8 => ?_)
              refine sim_p 9 (ei := [(64, .int .i64 v11), (65, .int .i64 t52_3)]) (d := (some 66)) wf (by kernel_rfl) ⟨rfl, rfl, trivial⟩ (by kernel_rfl) (by kernel_rfl) (fun _ => pf_p tok rfl rfl rfl rfl) (fun P_9 => ?_)
              obtain ⟨v12, hv12, H⟩ := H
              refine sim_l 10 (ei := [(5, .pointer (some t5_2))]) (d := (some 67)) wf (by kernel_rfl) ⟨rfl, trivial⟩ (by kernel_rfl) (by kernel_rfl) (pf_y rfl rfl rfl (y_lda tok rfl rfl rfl rfl rfl hv12)) (fun P_10 => ?_)
              refine sim_p 12 (ei := [(1, Slc.v p1)]) (d := (some 69)) wf (by kernel_rfl) ⟨rfl, trivial⟩ (by kernel_rfl) (by kernel_rfl) (fun _ => pf_p tok rfl rfl rfl rfl) (fun P_12 => ?_)
              refine sim_p 13 (ei := [(6, .int .i64 t52_3)]) (d := (some 70)) wf (by kernel_rfl) ⟨rfl, trivial⟩ (by kernel_rfl) (by kernel_rfl) (fun _ => pf_p tok rfl rfl rfl rfl) (fun P_13 => ?_)
              refine sim_p 14 (ei := [(70, .int .i64 t52_3)]) (d := (some 71)) wf (by kernel_rfl) ⟨rfl, trivial⟩ (by kernel_rfl) (by kernel_rfl) (fun _ => pf_p tok rfl rfl rfl rfl) (fun P_14 => ?_)
              refine sim_p 15 (ei := [(1, Slc.v p1)]) (d := (some 72)) wf (by kernel_rfl) ⟨rfl, trivial⟩ (by kernel_rfl) (by kernel_rfl) (fun _ => pf_p tok rfl rfl rfl rfl) (fun P_15 => ?_)
              refine sim_p 16 (ei := [(72, Slc.v p1)]) (d := (some 73)) wf (by kernel_rfl) ⟨rfl, trivial⟩ (by kernel_rfl) (by kernel_rfl) (fun _ => pf_p tok rfl rfl rfl rfl) (fun P_16 => ?_)
              refine sim_p 17 (ei := [(6, .int .i64 t52_3)]) (d := (some 74)) wf (by kernel_rfl) ⟨rfl, trivial⟩ (by kernel_rfl) (by kernel_rfl) (fun _ => pf_p tok rfl rfl rfl rfl) (fun P_17 => ?_)
              refine sim_p 18 (ei := [(74, .int .i64 t52_3)]) (d := (some 75)) wf (by kernel_rfl) ⟨rfl, trivial⟩ (by kernel_rfl) (by kernel_rfl) (fun _ => pf_p tok rfl rfl rfl rfl) (fun P_18 => ?_)
              refine sim_p 19 (ei := [(75, .int .i64 (IntKind.i64.wrap (t52_3 * 108)))]) (d := (some 76)) wf (by kernel_rfl) ⟨rfl, trivial⟩ (by kernel_rfl) (by kernel_rfl) (fun _ => pf_p tok rfl rfl rfl rfl) (fun P_19 => ?_)
              refine sim_p 20 (ei := [(73, .int .i64 (p1.len : Int)), (76, .int .i64 (IntKind.i64.wrap ((IntKind.i64.wrap (t52_3 * 108)) + 108)))]) (d := (some 77)) wf (by kernel_rfl) ⟨rfl, rfl, trivial⟩ (by kernel_rfl) (by kernel_rfl) (fun _ => pf_p tok rfl rfl rfl rfl) (fun P_20 => ?_)
              obtain ⟨s13, ps13, qs13, rs13, ts13, es13, H⟩ := H
              refine sim_p 21 (ei := [(69, Slc.v p1), (71, .int .i64 (IntKind.i64.wrap (t52_3 * 108))), (77, .int .i64 (if (IntKind.i64.wrap ((IntKind.i64.wrap (t52_3 * 108)) + 108)) < (p1.len : Int) then (IntKind.i64.wrap ((IntKind.i64.wrap (t52_3 * 108)) + 108)) else (p1.len : Int)))]) (d := (some 78)) wf (by kernel_rfl) ⟨rfl, rfl, rfl, trivial⟩ (by kernel_rfl) (by kernel_rfl) (fun _ => pf_ye rfl rfl rfl (y_sl (s := p1) (L := (IntKind.i64.wrap (t52_3 * 108))) (H := (if (IntKind.i64.wrap ((IntKind.i64.wrap (t52_3 * 108)) + 108)) < (p1.len : Int) then (IntKind.i64.wrap ((IntKind.i64.wrap (t52_3 * 108)) + 108)) else (p1.len : Int))) (M := (p1.cap : Int)) tok rfl rfl rfl rfl rfl rfl rfl (by simp) ps13 qs13 rs13 ts13) (congrArg Slc.v es13)) (fun P_21 => ?_)
              refine sim_c 11 [10] [10] (ei := [(67, .agg (S_journal_head.cs v12).toArray)]) journal_head_bytes_ok (journal_head_bytes_ref _ _ _ H) wf ⟨P_21 _, P_20 _, P_19 _, P_18 _, P_17 _, P_16 _, P_15 _, P_14 _, P_13 _, P_12 _, P_10, P_9 _, P_8 _, P_7, P_6 _, P_5 _, P_4 _, P_3, P_2 _, P_1 _, P_0 _, trivial⟩ (by kernel_rfl) ⟨rfl, trivial⟩ (by kernel_rfl) rfl rfl rfl rfl rfl ?_
              rintro _ h15 ⟨r14, rfl, H⟩
              obtain ⟨hy16, hy17, H⟩ := H
              refine sim_re (x := ⟨7, .int .i64 v11, [(63, .pointer (some (a9.add 5)))]⟩) (pf_y rfl rfl rfl (y_ld tok rfl rfl rfl rfl hy16)) (fun P_7 => ?_)
              refine sim_re (x := ⟨3, .pointer v10, [(59, .pointer (some a9))]⟩) (pf_y rfl rfl rfl (y_ld tok rfl rfl rfl rfl hy17)) (fun P_3 => ?_)
              obtain ⟨b18, h19, eb18, eh19, H⟩ := H
              refine sim_h 22 [10, 11, 12, 13, 14, 15, 16, 17, 18, 19, 20, 21] [10, 12, 13, 14, 15, 16, 17, 18, 19, 20, 21] (ei := [(68, Slc.v r14), (78, Slc.v s13)]) wf ⟨P_21 _, P_20 _, P_19 _, P_18 _, P_17 _, P_16 _, P_15 _, P_14 _, P_13 _, P_12 _, trivial, P_9 _, P_8 _, P_7, P_6 _, P_5 _, P_4 _, P_3, P_2 _, P_1 _, P_0 _, trivial⟩ (by kernel_rfl) ⟨rfl, rfl, trivial⟩ (by kernel_rfl) rfl rfl rfl (h_bs tok rfl rfl rfl rfl rfl rfl rfl eb18 eh19) ?_
              obtain ⟨hy20, hy21, H⟩ := H
              refine sim_re (x := ⟨7, .int .i64 v11, [(63, .pointer (some (a9.add 5)))]⟩) (pf_y rfl rfl rfl (y_ld tok rfl rfl rfl rfl hy20)) (fun P_7 => ?_)
              refine sim_re (x := ⟨3, .pointer v10, [(59, .pointer (some a9))]⟩) (pf_y rfl rfl rfl (y_ld tok rfl rfl rfl rfl hy21)) (fun P_3 => ?_)
              refine sim_c 23 [10, 11, 12, 13, 14, 15, 16, 17, 18, 19, 20, 21, 22] [10, 12, 13, 14, 15, 16, 17, 18, 19, 20, 21] (ei := [(79, Slc.v (⟨some ⟨b18, 0, none⟩, 2, 2⟩ : Slc))]) slices_Concat_byte_byte_ok (slices_Concat_byte_byte_ref _ _ _ H) wf ⟨trivial, trivial, trivial, trivial, trivial, trivial, trivial, trivial, trivial, trivial, trivial, P_9 _, P_8 _, P_7, P_6 _, P_5 _, P_4 _, P_3, P_2 _, P_1 _, P_0 _, trivial⟩ (by kernel_rfl) ⟨rfl, trivial⟩ (by kernel_rfl) rfl rfl rfl rfl rfl ?_
              rintro _ h23 ⟨r22, rfl, H⟩
              obtain ⟨hy24, hy25, H⟩ := H
              refine sim_re (x := ⟨7, .int .i64 v11, [(63, .pointer (some (a9.add 5)))]⟩) (pf_y rfl rfl rfl (y_ld tok rfl rfl rfl rfl hy24)) (fun P_7 => ?_)
              refine sim_re (x := ⟨3, .pointer v10, [(59, .pointer (some a9))]⟩) (pf_y rfl rfl rfl (y_ld tok rfl rfl rfl rfl hy25)) (fun P_3 => ?_)
              refine sim_c 24 [0, 1, 2, 3, 4, 5, 6, 7, 8, 9, 10, 11, 12, 13, 14, 15, 16, 17, 18, 19, 20, 21, 22, 23] [0, 1, 2, 3, 4, 5, 6, 7, 8, 9, 10, 12, 13, 14, 15, 16, 17, 18, 19, 20, 21] (ei := [(60, .pointer v10), (66, .int .i64 (IntKind.i64.wrap (v11 + t52_3))), (80, Slc.v r22)]) disk_Disk_Write_ok (disk_Disk_Write_ref _ _ _ _ _ H) wf ⟨trivial, trivial, trivial, trivial, trivial, trivial, trivial, trivial, trivial, trivial, trivial, P_9 _, P_8 _, P_7, P_6 _, P_5 _, P_4 _, P_3, P_2 _, P_1 _, P_0 _, trivial⟩ (by kernel_rfl) ⟨rfl, rfl, rfl, trivial⟩ (by kernel_rfl) rfl rfl rfl rfl rfl ?_
              rintro _ h27 ⟨r26, rfl, H⟩
              refine sim_p 25 (ei := [(81, .int .i64 r26)]) (d := (some 7)) wf (by kernel_rfl) ⟨rfl, trivial⟩ (by kernel_rfl) (by kernel_rfl) (fun _ => pf_p tok rfl rfl rfl rfl) (fun P_25 => ?_)
              refine sim_end wf ⟨P_25 _, trivial, trivial, trivial, trivial, trivial, trivial, trivial, trivial, trivial, trivial, trivial, trivial, trivial, trivial, trivial, trivial, trivial, trivial, trivial, trivial, trivial, trivial⟩ (by kernel_rfl) ?_
              clear wf P_0 P_1 P_10 P_12 P_13 P_14 P_15 P_16 P_17 P_18 P_19 P_2 P_20 P_21 P_25 P_3 P_4 P_5 P_6 P_7 P_8 P_9
              refine x_seq ?_
              refine c_weak [(0, .pointer p0), (1, Slc.v p1), (5, .pointer (some t5_2)), (51, .int .i64 v7), (52, .int .i64 t52_3), (7, .int .i64 r26)] ⟨rfl, rfl, rfl, rfl, rfl, rfl, trivial⟩ ?_
              refine c_seq ?_
              refine c_region ?_
              refine w_p tok rfl rfl rfl ?_
              refine w_p tok rfl rfl rfl ?_
              refine w_end ?_
              refine x_seq ?_
              refine c_if H rfl (fun H => ?_) (fun H => ?_)
              ·
                refine c_seq ?_
                refine c_region ?_
                refine w_p tok rfl rfl rfl ?_
                refine w_p tok rfl rfl rfl ?_
                refine w_end ?_
                refine x_seq ?_
                refine c_weak [(4, .int .i64 r26)] ⟨rfl, trivial⟩ ?_
                refine c_ret ?_
                refine x_br ?_
                refine x_tr ?_
                refine x_tr ?_
                refine x_br ?_
                refine x_tr ?_
                exact x_ret _ rfl _ rfl ⟨r26, rfl, H⟩
              ·
                refine c_skip ?_
                refine x_blk ?_
                refine x_seq ?_
                refine c_region ?_
                refine w_p tok rfl rfl rfl ?_
                refine w_p tok rfl rfl rfl ?_
                refine w_end ?_
                exact x_join (IntKind.i64.wrap (t52_3 + 1)) H ⟨rfl, rfl, rfl, rfl, rfl, trivial⟩
            ·
              refine c_exit ?_
              refine x_te ?_
              refine x_te ?_
              refine x_bh ?_
              refine x_seq ?_
              refine c_seq ?_
              refine c_seq ?_
              refine c_region ?_
              refine w_p tok rfl rfl rfl ?_
              obtain ⟨a28, ha28, H⟩ := H
              refine w_y (y_nil' rfl rfl ha28) rfl rfl ?_
              refine w_p tok rfl rfl rfl ?_
              obtain ⟨v29, hv29, H⟩ := H
              refine w_y (y_ld tok rfl rfl rfl rfl hv29) rfl rfl ?_
              refine w_call disk_Disk_Sync_ok (disk_Disk_Sync_ref _ _ _ H) rfl rfl rfl rfl ?_
              rintro _ h31 ⟨r30, rfl, H⟩
              refine w_p tok rfl rfl rfl ?_
              refine w_end ?_
              refine x_seq ?_
              refine c_weak [(0, .pointer p0), (5, .pointer (some t5_2)), (8, .int .i64 r30)] ⟨rfl, rfl, rfl, trivial⟩ ?_
              refine c_seq ?_
              refine c_region ?_
              refine w_p tok rfl rfl rfl ?_
              refine w_p tok rfl rfl rfl ?_
              refine w_end ?_
              refine x_seq ?_
              refine c_if H rfl (fun H => ?_) (fun H => ?_)
              ·
                refine c_seq ?_
                refine c_region ?_
                refine w_p tok rfl rfl rfl ?_
                refine w_p tok rfl rfl rfl ?_
                refine w_end ?_
                refine x_seq ?_
                refine c_ret ?_
                refine x_tr ?_
                exact x_ret _ rfl _ rfl ⟨r30, rfl, H⟩
              ·
                refine c_skip ?_
                refine x_seq ?_
                refine c_seq ?_
                refine c_sim [(0, .pointer p0), (5, .pointer (some t5_2))] (by kernel_rfl) (by kernel_rfl) ⟨rfl, rfl, trivial⟩ (fun wf => ?_)
                refine sim_p 0 (ei := [(0, .pointer p0)]) (d := (some 94)) wf (by kernel_rfl) ⟨rfl, trivial⟩ (by kernel_rfl) (by kernel_rfl) (fun _ => pf_p tok rfl rfl rfl rfl) (fun P_0 => ?_)
                refine sim_p 1 (ei := [(0, .pointer p0)]) (d := (some 95)) wf (by kernel_rfl) ⟨rfl, trivial⟩ (by kernel_rfl) (by kernel_rfl) (fun _ => pf_p tok rfl rfl rfl rfl) (fun P_1 => ?_)
                refine sim_p 2 (ei := [(0, .pointer p0)]) (d := (some 96)) wf (by kernel_rfl) ⟨rfl, trivial⟩ (by kernel_rfl) (by kernel_rfl) (fun _ => pf_p tok rfl rfl rfl rfl) (fun P_2 => ?_)
                refine sim_p 3 (ei := [(0, .pointer p0)]) (d := (some 97)) wf (by kernel_rfl) ⟨rfl, trivial⟩ (by kernel_rfl) (by kernel_rfl) (fun _ => pf_p tok rfl rfl rfl rfl) (fun P_3 => ?_)
                refine sim_p 4 (ei := [(97, .pointer p0)]) (d := (some 98)) wf (by kernel_rfl) ⟨rfl, trivial⟩ (by kernel_rfl) (by kernel_rfl) (fun _ => pf_y rfl rfl rfl (y_nil' rfl rfl ha28)) (fun P_4 => ?_)
                refine sim_p 5 (ei := [(98, .pointer (some a28))]) (d := (some 99)) wf (by kernel_rfl) ⟨rfl, trivial⟩ (by kernel_rfl) (by kernel_rfl) (fun _ => pf_p tok rfl rfl rfl rfl) (fun P_5 => ?_)
                obtain ⟨v32, hv32, H⟩ := H
                refine sim_l 6 (ei := [(99, .pointer (some (a28.add 4)))]) (d := (some 100)) wf (by kernel_rfl) ⟨rfl, trivial⟩ (by kernel_rfl) (by kernel_rfl) (pf_y rfl rfl rfl (y_ld tok rfl rfl rfl rfl hv32)) (fun P_6 => ?_)
                refine sim_p 7 (ei := [(100, .int .u64 v32)]) (d := (some 101)) wf (by kernel_rfl) ⟨rfl, trivial⟩ (by kernel_rfl) (by kernel_rfl) (fun _ => pf_p tok rfl rfl rfl rfl) (fun P_7 => ?_)
                refine sim_p 8 (ei := [(0, .pointer p0)]) (d := (some 102)) wf (by kernel_rfl) ⟨rfl, trivial⟩ (by kernel_rfl) (by kernel_rfl) (fun _ => pf_p tok rfl rfl rfl rfl) (fun P_8 => ?_)
                refine sim_p 9 (ei := [(102, .pointer p0)]) (d := (some 103)) wf (by kernel_rfl) ⟨rfl, trivial⟩ (by kernel_rfl) (by kernel_rfl) (fun _ => pf_y rfl rfl rfl (y_nil' rfl rfl ha28)) (fun P_9 => ?_)
                refine sim_p 10 (ei := [(103, .pointer (some a28))]) (d := (some 104)) wf (by kernel_rfl) ⟨rfl, trivial⟩ (by kernel_rfl) (by kernel_rfl) (fun _ => pf_p tok rfl rfl rfl rfl) (fun P_10 => ?_)
                obtain ⟨v33, hv33, H⟩ := H
                refine sim_l 11 (ei := [(104, .pointer (some (a28.add 5)))]) (d := (some 105)) wf (by kernel_rfl) ⟨rfl, trivial⟩ (by kernel_rfl) (by kernel_rfl) (pf_y rfl rfl rfl (y_ld tok rfl rfl rfl rfl hv33)) (fun P_11 => ?_)
                refine sim_p 12 (ei := [(5, .pointer (some t5_2))]) (d := (some 106)) wf (by kernel_rfl) ⟨rfl, trivial⟩ (by kernel_rfl) (by kernel_rfl) (fun _ => pf_p tok rfl rfl rfl rfl) (fun P_12 => ?_)
                obtain ⟨v34, hv34, H⟩ := H
                refine sim_l 13 (ei := [(106, .pointer (some (t5_2.add 3)))]) (d := (some 107)) wf (by kernel_rfl) ⟨rfl, trivial⟩ (by kernel_rfl) (by kernel_rfl) (pf_y rfl rfl rfl (y_ld tok rfl rfl rfl rfl hv34)) (fun P_13 => ?_)
                refine sim_p 14 (ei := [(105, .int .i64 v33), (107, .int .i64 v34)]) (d := (some 108)) wf (by kernel_rfl) ⟨rfl, rfl, trivial⟩ (by kernel_rfl) (by kernel_rfl) (fun _ => pf_p tok rfl rfl rfl rfl) (fun P_14 => ?_)
                refine sim_p 15 (ei := [(94, .pointer p0)]) (d := (some 109)) wf (by kernel_rfl) ⟨rfl, trivial⟩ (by kernel_rfl) (by kernel_rfl) (fun _ => pf_y rfl rfl rfl (y_nil' rfl rfl ha28)) (fun P_15 => ?_)
                refine sim_p 16 (ei := [(109, .pointer (some a28))]) (d := (some 110)) wf (by kernel_rfl) ⟨rfl, trivial⟩ (by kernel_rfl) (by kernel_rfl) (fun _ => pf_p tok rfl rfl rfl rfl) (fun P_16 => ?_)
                obtain ⟨h35, wh35, eh35, H⟩ := H
                refine sim_h 17 [0, 3, 4, 5, 6, 8, 9, 10, 11, 15, 16] [0, 3, 4, 5, 6, 8, 9, 10, 11, 15, 16] (ei := [(110, .pointer (some (a28.add 2)))]) wf ⟨P_16 _, P_15 _, P_14 _, P_13, P_12 _, P_11, P_10 _, P_9 _, P_8 _, P_7 _, P_6, P_5 _, P_4 _, P_3 _, P_2 _, P_1 _, P_0 _, trivial⟩ (by kernel_rfl) ⟨rfl, trivial⟩ (by kernel_rfl) rfl rfl rfl (h_st tok rfl rfl rfl rfl rfl rfl wh35 eh35) ?_
                obtain ⟨hy36, H⟩ := H
                refine sim_re (x := ⟨13, .int .i64 v34, [(106, .pointer (some (t5_2.add 3)))]⟩) (pf_y rfl rfl rfl (y_ld tok rfl rfl rfl rfl hy36)) (fun P_13 => ?_)
                refine sim_p 18 (ei := [(95, .pointer p0)]) (d := (some 111)) wf (by kernel_rfl) ⟨rfl, trivial⟩ (by kernel_rfl) (by kernel_rfl) (fun _ => pf_y rfl rfl rfl (y_nil' rfl rfl ha28)) (fun P_18 => ?_)
                refine sim_p 19 (ei := [(111, .pointer (some a28))]) (d := (some 112)) wf (by kernel_rfl) ⟨rfl, trivial⟩ (by kernel_rfl) (by kernel_rfl) (fun _ => pf_p tok rfl rfl rfl rfl) (fun P_19 => ?_)
                obtain ⟨h37, wh37, eh37, H⟩ := H
                refine sim_h 20 [0, 1, 3, 4, 5, 6, 7, 8, 9, 10, 11, 15, 16, 17, 18, 19] [0, 1, 3, 4, 5, 6, 7, 8, 9, 10, 11, 15, 16, 18, 19] (ei := [(101, .int .u64 (IntKind.u64.wrap (v32 + 1))), (112, .pointer (some (a28.add 4)))]) wf ⟨P_19 _, P_18 _, trivial, trivial, P_14 _, P_13, P_12 _, trivial, trivial, trivial, trivial, P_7 _, trivial, trivial, trivial, trivial, P_2 _, P_1 _, trivial, trivial⟩ (by kernel_rfl) ⟨rfl, rfl, trivial⟩ (by kernel_rfl) rfl rfl rfl (h_st tok rfl rfl rfl rfl rfl rfl wh37 eh37) ?_
                obtain ⟨hy38, H⟩ := H
                refine sim_re (x := ⟨13, .int .i64 v34, [(106, .pointer (some (t5_2.add 3)))]⟩) (pf_y rfl rfl rfl (y_ld tok rfl rfl rfl rfl hy38)) (fun P_13 => ?_)
                refine sim_p 21 (ei := [(96, .pointer p0)]) (d := (some 113)) wf (by kernel_rfl) ⟨rfl, trivial⟩ (by kernel_rfl) (by kernel_rfl) (fun _ => pf_y rfl rfl rfl (y_nil' rfl rfl ha28)) (fun P_21 => ?_)
                refine sim_p 22 (ei := [(113, .pointer (some a28))]) (d := (some 114)) wf (by kernel_rfl) ⟨rfl, trivial⟩ (by kernel_rfl) (by kernel_rfl) (fun _ => pf_p tok rfl rfl rfl rfl) (fun P_22 => ?_)
                obtain ⟨h39, wh39, eh39, H⟩ := H
                refine sim_h 23 [0, 1, 2, 3, 4, 5, 6, 7, 8, 9, 10, 11, 12, 13, 14, 15, 16, 17, 18, 19, 20, 21, 22] [0, 1, 2, 3, 4, 5, 6, 7, 8, 9, 10, 11, 12, 13, 14, 15, 16, 18, 19, 21, 22] (ei := [(108, .int .i64 (IntKind.i64.wrap (v33 + v34))), (114, .pointer (some (a28.add 5)))]) wf ⟨P_22 _, P_21 _, trivial, trivial, trivial, trivial, P_14 _, P_13, P_12 _, trivial, trivial, trivial, trivial, trivial, trivial, trivial, trivial, trivial, P_2 _, trivial, trivial, trivial⟩ (by kernel_rfl) ⟨rfl, rfl, trivial⟩ (by kernel_rfl) rfl rfl rfl (h_st tok rfl rfl rfl rfl rfl rfl wh39 eh39) ?_
                refine sim_end wf ⟨trivial, trivial, trivial, trivial, trivial, trivial, trivial, trivial, trivial, trivial, trivial, trivial, trivial, trivial, trivial, trivial, trivial, trivial, trivial, trivial, trivial, trivial⟩ (by kernel_rfl) ?_
                clear wf P_0 P_1 P_10 P_11 P_12 P_13 P_14 P_15 P_16 P_18 P_19 P_2 P_21 P_22 P_3 P_4 P_5 P_6 P_7 P_8 P_9
                refine x_seq ?_
                refine c_weak [] trivial ?_
                refine c_seq ?_
                refine c_region ?_
                refine w_p tok rfl rfl rfl ?_
                refine w_end ?_
                refine x_seq ?_
                refine c_ret ?_
                exact x_ret _ rfl _ rfl ⟨0, rfl, H⟩
          ·
            refine c_sim [(0, .pointer p0), (1, Slc.v p1)] (by kernel_rfl) (by kernel_rfl) ⟨rfl, rfl, trivial⟩ (fun wf => ?_)
            refine sim_p 0 (ei := [(0, .pointer p0)]) (d := (some 36)) wf (by kernel_rfl) ⟨rfl, trivial⟩ (by kernel_rfl) (by kernel_rfl) (fun _ => pf_p tok rfl rfl rfl rfl) (fun P_0 => ?_)
            refine sim_p 1 (ei := [(36, .pointer p0)]) (d := (some 37)) wf (by kernel_rfl) ⟨rfl, trivial⟩ (by kernel_rfl) (by kernel_rfl) (fun _ => pf_y rfl rfl rfl (y_nil' rfl rfl ha1)) (fun P_1 => ?_)
            refine sim_p 2 (ei := [(37, .pointer (some a1))]) (d := (some 38)) wf (by kernel_rfl) ⟨rfl, trivial⟩ (by kernel_rfl) (by kernel_rfl) (fun _ => pf_p tok rfl rfl rfl rfl) (fun P_2 => ?_)
            obtain ⟨v40, hv40, H⟩ := H
            refine sim_l 3 (ei := [(38, .pointer (some (a1.add 3)))]) (d := (some 39)) wf (by kernel_rfl) ⟨rfl, trivial⟩ (by kernel_rfl) (by kernel_rfl) (pf_y rfl rfl rfl (y_ld tok rfl rfl rfl rfl hv40)) (fun P_3 => ?_)
            refine sim_p 4 (ei := [(0, .pointer p0)]) (d := (some 40)) wf (by kernel_rfl) ⟨rfl, trivial⟩ (by kernel_rfl) (by kernel_rfl) (fun _ => pf_p tok rfl rfl rfl rfl) (fun P_4 => ?_)
            refine sim_p 5 (ei := [(40, .pointer p0)]) (d := (some 41)) wf (by kernel_rfl) ⟨rfl, trivial⟩ (by kernel_rfl) (by kernel_rfl) (fun _ => pf_y rfl rfl rfl (y_nil' rfl rfl ha1)) (fun P_5 => ?_)
            refine sim_p 6 (ei := [(41, .pointer (some a1))]) (d := (some 42)) wf (by kernel_rfl) ⟨rfl, trivial⟩ (by kernel_rfl) (by kernel_rfl) (fun _ => pf_p tok rfl rfl rfl rfl) (fun P_6 => ?_)
            obtain ⟨v41, hv41, H⟩ := H
            refine sim_l 7 (ei := [(42, .pointer (some (a1.add 4)))]) (d := (some 43)) wf (by kernel_rfl) ⟨rfl, trivial⟩ (by kernel_rfl) (by kernel_rfl) (pf_y rfl rfl rfl (y_ld tok rfl rfl rfl rfl hv41)) (fun P_7 => ?_)
            refine sim_p 8 (ei := [(1, Slc.v p1)]) (d := (some 44)) wf (by kernel_rfl) ⟨rfl, trivial⟩ (by kernel_rfl) (by kernel_rfl) (fun _ => pf_p tok rfl rfl rfl rfl) (fun P_8 => ?_)
            refine sim_p 9 (ei := [(44, Slc.v p1)]) (d := (some 45)) wf (by kernel_rfl) ⟨rfl, trivial⟩ (by kernel_rfl) (by kernel_rfl) (fun _ => pf_p tok rfl rfl rfl rfl) (fun P_9 => ?_)
            refine sim_p 11 (ei := [(1, Slc.v p1)]) (d := (some 47)) wf (by kernel_rfl) ⟨rfl, trivial⟩ (by kernel_rfl) (by kernel_rfl) (fun _ => pf_p tok rfl rfl rfl rfl) (fun P_11 => ?_)
            refine sim_p 12 (ei := [(47, Slc.v p1)]) (d := (some 48)) wf (by kernel_rfl) ⟨rfl, trivial⟩ (by kernel_rfl) (by kernel_rfl) (fun _ => pf_p tok rfl rfl rfl rfl) (fun P_12 => ?_)
            refine sim_or 10 14 wf ⟨P_12 _, P_11 _, P_9 _, P_8 _, P_7, P_6 _, P_5 _, P_4 _, P_3, P_2 _, P_1 _, P_0 _, trivial⟩ (by kernel_rfl) (by kernel_rfl) H (fun H => ?_) (fun H => ?_)
            ·
              refine sim_ci 10 [8, 9] [8, 9] (ei := [(45, .int .i64 (p1.len : Int))]) journal_parts_ok (journal_parts_ref _ _ _ H) wf ⟨P_12 _, P_11 _, P_9 _, P_8 _, P_7, P_6 _, P_5 _, P_4 _, P_3, P_2 _, P_1 _, P_0 _, trivial⟩ (by kernel_rfl) ⟨rfl, trivial⟩ (by kernel_rfl) rfl rfl rfl rfl rfl ?_
              rintro _ h43 ⟨r42, rfl, H⟩
              obtain ⟨hy44, hy45, H⟩ := H
              refine sim_re (x := ⟨7, .int .u64 v41, [(42, .pointer (some (a1.add 4)))]⟩) (pf_y rfl rfl rfl (y_ld tok rfl rfl rfl rfl hy44)) (fun P_7 => ?_)
              refine sim_re (x := ⟨3, .int .u64 v40, [(38, .pointer (some (a1.add 3)))]⟩) (pf_y rfl rfl rfl (y_ld tok rfl rfl rfl rfl hy45)) (fun P_3 => ?_)
              refine sim_p 13 (ei := [(39, .int .u64 v40), (43, .int .u64 v41), (46, .int .i64 r42), (48, .int .i64 (p1.len : Int))]) (d := (some 49)) wf (by kernel_rfl) ⟨rfl, rfl, rfl, rfl, trivial⟩ (by kernel_rfl) (by kernel_rfl) (fun _ => pf_y rfl rfl rfl (y_build tok rfl rfl rfl rfl rfl)) (fun P_13 => ?_)
              obtain ⟨b46, h47, eb46, eh47, H⟩ := H
              refine sim_h 14 [] [8, 9] (ei := []) wf ⟨P_13 _, P_12 _, P_11 _, trivial, trivial, P_7, P_6 _, P_5 _, P_4 _, P_3, P_2 _, P_1 _, P_0 _, trivial⟩ (by kernel_rfl) trivial (by kernel_rfl) rfl rfl rfl (h_alloc tok rfl rfl eb46 eh47) ?_
              obtain ⟨hy48, hy49, H⟩ := H
              refine sim_re (x := ⟨7, .int .u64 v41, [(42, .pointer (some (a1.add 4)))]⟩) (pf_y rfl rfl rfl (y_ld tok rfl rfl rfl rfl hy48)) (fun P_7 => ?_)
              refine sim_re (x := ⟨3, .int .u64 v40, [(38, .pointer (some (a1.add 3)))]⟩) (pf_y rfl rfl rfl (y_ld tok rfl rfl rfl rfl hy49)) (fun P_3 => ?_)
              obtain ⟨h50, wh50, eh50, H⟩ := H
              refine sim_h 15 [0, 1, 2, 3, 4, 5, 6, 7, 8, 9, 10, 11, 12, 13, 14] [0, 1, 2, 3, 4, 5, 6, 7, 8, 9, 11, 12, 13] (ei := [(5, .pointer (some (⟨b46, 0, none⟩ : Addr))), (49, .agg (S_journal_head.cs (⟨v40, v41, 0, r42, (p1.len : Int)⟩ : S_journal_head)).toArray)]) wf ⟨P_13 _, P_12 _, P_11 _, trivial, trivial, P_7, P_6 _, P_5 _, P_4 _, P_3, P_2 _, P_1 _, P_0 _, trivial⟩ (by kernel_rfl) ⟨rfl, rfl, trivial⟩ (by kernel_rfl) rfl rfl rfl (h_sts tok rfl rfl rfl rfl rfl (oneC (by kernel_rfl)) wh50 eh50) ?_
              refine sim_end wf ⟨trivial, trivial, trivial, trivial, trivial, trivial, trivial, trivial, trivial, trivial, trivial, trivial, trivial, trivial⟩ (by kernel_rfl) ?_
              clear wf P_0 P_1 P_11 P_12 P_13 P_2 P_3 P_4 P_5 P_6 P_7 P_8 P_9
              exact x_join (⟨b46, 0, none⟩ : Addr) H ⟨rfl, rfl, rfl, trivial⟩
            ·
              obtain ⟨b51, h52, eb51, eh52, H⟩ := H
              refine sim_hi 14 [] [] (ei := []) wf ⟨P_12 _, P_11 _, P_9 _, P_8 _, P_7, P_6 _, P_5 _, P_4 _, P_3, P_2 _, P_1 _, P_0 _, trivial⟩ (by kernel_rfl) trivial (by kernel_rfl) rfl rfl rfl (h_alloc tok rfl rfl eb51 eh52) ?_
              obtain ⟨hy53, hy54, H⟩ := H
              refine sim_re (x := ⟨7, .int .u64 v41, [(42, .pointer (some (a1.add 4)))]⟩) (pf_y rfl rfl rfl (y_ld tok rfl rfl rfl rfl hy53)) (fun P_7 => ?_)
              refine sim_re (x := ⟨3, .int .u64 v40, [(38, .pointer (some (a1.add 3)))]⟩) (pf_y rfl rfl rfl (y_ld tok rfl rfl rfl rfl hy54)) (fun P_3 => ?_)
              refine sim_c 10 [8, 9] [8, 9] (ei := [(45, .int .i64 (p1.len : Int))]) journal_parts_ok (journal_parts_ref _ _ _ H) wf ⟨P_12 _, P_11 _, P_9 _, P_8 _, P_7, P_6 _, P_5 _, P_4 _, P_3, P_2 _, P_1 _, P_0 _, trivial⟩ (by kernel_rfl) ⟨rfl, trivial⟩ (by kernel_rfl) rfl rfl rfl rfl rfl ?_
              rintro _ h56 ⟨r55, rfl, H⟩
              obtain ⟨hy57, hy58, H⟩ := H
              refine sim_re (x := ⟨7, .int .u64 v41, [(42, .pointer (some (a1.add 4)))]⟩) (pf_y rfl rfl rfl (y_ld tok rfl rfl rfl rfl hy57)) (fun P_7 => ?_)
              refine sim_re (x := ⟨3, .int .u64 v40, [(38, .pointer (some (a1.add 3)))]⟩) (pf_y rfl rfl rfl (y_ld tok rfl rfl rfl rfl hy58)) (fun P_3 => ?_)
              refine sim_p 13 (ei := [(39, .int .u64 v40), (43, .int .u64 v41), (46, .int .i64 r55), (48, .int .i64 (p1.len : Int))]) (d := (some 49)) wf (by kernel_rfl) ⟨rfl, rfl, rfl, rfl, trivial⟩ (by kernel_rfl) (by kernel_rfl) (fun _ => pf_y rfl rfl rfl (y_build tok rfl rfl rfl rfl rfl)) (fun P_13 => ?_)
              obtain ⟨h59, wh59, eh59, H⟩ := H
              refine sim_h 15 [0, 1, 2, 3, 4, 5, 6, 7, 8, 9, 10, 11, 12, 13, 14] [0, 1, 2, 3, 4, 5, 6, 7, 8, 9, 11, 12, 13] (ei := [(5, .pointer (some (⟨b51, 0, none⟩ : Addr))), (49, .agg (S_journal_head.cs (⟨v40, v41, 0, r55, (p1.len : Int)⟩ : S_journal_head)).toArray)]) wf ⟨P_13 _, P_12 _, P_11 _, trivial, trivial, P_7, P_6 _, P_5 _, P_4 _, P_3, P_2 _, P_1 _, P_0 _, trivial⟩ (by kernel_rfl) ⟨rfl, rfl, trivial⟩ (by kernel_rfl) rfl rfl rfl (h_sts tok rfl rfl rfl rfl rfl (oneC (by kernel_rfl)) wh59 eh59) ?_
              refine sim_end wf ⟨trivial, trivial, trivial, trivial, trivial, trivial, trivial, trivial, trivial, trivial, trivial, trivial, trivial, trivial⟩ (by kernel_rfl) ?_
              clear wf P_0 P_1 P_11 P_12 P_13 P_2 P_3 P_4 P_5 P_6 P_7 P_8 P_9
              exact x_join (⟨b51, 0, none⟩ : Addr) H ⟨rfl, rfl, rfl, trivial⟩
  ·
    refine w_gif (d := 12) H rfl (fun H => ?_) (fun H => ?_)
    ·
      refine w_skip rfl rfl ?_
      refine w_skip rfl rfl ?_
      refine w_skip rfl rfl ?_
      refine w_skip rfl rfl ?_
      refine w_skip rfl rfl ?_
      refine w_p tok rfl rfl rfl ?_
      exact w_jn true H ⟨rfl, rfl, rfl, trivial⟩
    ·
      refine w_p tok rfl rfl rfl ?_
      obtain ⟨a60, ha60, H⟩ := H
      refine w_y (y_nil' rfl rfl ha60) rfl rfl ?_
      refine w_p tok rfl rfl rfl ?_
      obtain ⟨v61, hv61, H⟩ := H
      refine w_y (y_ld tok rfl rfl rfl rfl hv61) rfl rfl ?_
      refine w_p tok rfl rfl rfl ?_
      refine w_p tok rfl rfl rfl ?_
      exact w_jn (!v61) H ⟨rfl, rfl, rfl, trivial⟩

theorem journal_Store_Recover_ok : CallOk Go.Proofs.Tryd.prog 13 := ⟨_, Go.Proofs.Tryd.func13, by kernel_rfl, by kernel_rfl⟩
theorem journal_Store_Recover_ref (p0 : Option Addr) (k : (Slc × Slc × Int) → Heap → Prop) (h : Heap) (H : journal_Store_Recover p0 k h) : CallsH Go.Proofs.Tryd.prog 13 #[.pointer p0] h (fun v h' => ∃ r : Slc × Slc × Int, v = .tuple #[Slc.v r.1, Slc.v r.2.1, .int .i64 r.2.2] ∧ k r h') := by
  refine f_enter (N := 47) Go.Proofs.Tryd.func13 rfl rfl rfl (fun w0 => ?_)
  unfold journal_Store_Recover at H
  refine c_weak [(0, .pointer p0)] ⟨rfl, trivial⟩ ?_
  refine c_seq ?_
  refine c_region ?_
  refine w_p tok rfl rfl rfl ?_
  refine w_p tok rfl rfl rfl ?_
  refine w_p tok rfl rfl rfl ?_
  refine w_end ?_
  refine x_seq ?_
  refine c_scope ?_
  refine c_seq ?_
  refine c_seq ?_
  refine c_region ?_
  refine w_p tok rfl rfl rfl ?_
  refine w_p tok rfl rfl rfl ?_
  refine w_end ?_
  refine x_seq ?_
  refine c_if H rfl (fun H => ?_) (fun H => ?_)
  ·
    refine c_seq ?_
    refine c_region ?_
    refine w_p tok rfl rfl rfl ?_
    refine w_p tok rfl rfl rfl ?_
    refine w_p tok rfl rfl rfl ?_
    refine w_end ?_
    refine x_seq ?_
    refine c_ret ?_
    refine x_tr ?_
    refine x_sr ?_
    exact x_ret _ rfl _ rfl ⟨((⟨none, 0, 0⟩ : Slc), (⟨none, 0, 0⟩ : Slc), 6), rfl, H⟩
  ·
    refine c_skip ?_
    refine x_seq ?_
    refine c_seq ?_
    refine c_region ?_
    refine w_p tok rfl rfl rfl ?_
    obtain ⟨a1, ha1, H⟩ := H
    refine w_y (y_nil' rfl rfl ha1) rfl rfl ?_
    refine w_p tok rfl rfl rfl ?_
    obtain ⟨v2, hv2, H⟩ := H
    refine w_y (y_ld tok rfl rfl rfl rfl hv2) rfl rfl ?_
    refine w_call slot_Pair_Load_ok (slot_Pair_Load_ref _ _ _ H) rfl rfl rfl rfl ?_
    rintro _ h4 ⟨r3, rfl, H⟩
    refine w_p tok rfl rfl rfl ?_
    refine w_p tok rfl rfl rfl ?_
    refine w_p tok rfl rfl rfl ?_
    refine w_p tok rfl rfl rfl ?_
    refine w_p tok rfl rfl rfl ?_
    refine w_p tok rfl rfl rfl ?_
    refine w_p tok rfl rfl rfl ?_
    refine w_end ?_
    refine x_seq ?_
    refine c_weak [(0, .pointer p0), (2, Slc.v r3.1), (3, Slc.v (⟨none, 0, 0⟩ : Slc)), (4, .int .i64 r3.2.2), (5, .int .u64 r3.2.1)] ⟨rfl, rfl, rfl, rfl, rfl, trivial⟩ ?_
    refine c_seq ?_
    refine c_seq ?_
    refine c_region ?_
    refine w_p tok rfl rfl rfl ?_
    refine w_p tok rfl rfl rfl ?_
    refine w_end ?_
    refine x_seq ?_
    refine c_if H rfl (fun H => ?_) (fun H => ?_)
    ·
      refine c_seq ?_
      refine c_region ?_
      refine w_p tok rfl rfl rfl ?_
      refine w_p tok rfl rfl rfl ?_
      refine w_p tok rfl rfl rfl ?_
      refine w_p tok rfl rfl rfl ?_
      refine w_end ?_
      refine x_seq ?_
      refine c_ret ?_
      refine x_tr ?_
      refine x_sr ?_
      exact x_ret _ rfl _ rfl ⟨((⟨none, 0, 0⟩ : Slc), (⟨none, 0, 0⟩ : Slc), r3.2.2), rfl, H⟩
    ·
      refine c_skip ?_
      refine x_seq ?_
      refine c_seq ?_
      refine c_region ?_
      refine w_p tok rfl rfl rfl ?_
      refine w_end ?_
      refine x_seq ?_
      refine c_seq ?_
      refine c_label ?_
      refine x_seq ?_
      refine c_seq ?_
      refine c_seq ?_
      refine c_region ?_
      refine w_p tok rfl rfl rfl ?_
      refine w_end ?_
      refine x_seq ?_
      refine c_block ?_
      obtain ⟨I1, μ1, H0, HI⟩ := H
      refine c_loop (σ := Slc × Int × Int) (fun (s : Slc × Int × Int) => [(3, Slc.v s.1), (6, .int .i64 s.2.1), (7, .int .u64 s.2.2), (0, .pointer p0), (2, Slc.v r3.1), (5, .int .u64 r3.2.1)]) I1 μ1 ((⟨none, 0, 0⟩ : Slc), 512, 0) H0 ⟨rfl, rfl, rfl, rfl, rfl, rfl, trivial⟩ ?_
      rintro ⟨t3_1, t6_1, t7_1⟩ h_1 H
      replace H := HI t3_1 t6_1 t7_1 h_1 H
      unfold journal_Store_Recover_l1b at H
      refine c_weak [(3, Slc.v t3_1), (6, .int .i64 t6_1), (7, .int .u64 t7_1), (0, .pointer p0), (2, Slc.v r3.1), (5, .int .u64 r3.2.1)] ⟨rfl, rfl, rfl, rfl, rfl, rfl, trivial⟩ ?_
      refine c_seq ?_
      refine c_block ?_
      refine c_seq ?_
      refine c_region ?_
      refine w_p tok rfl rfl rfl ?_
      refine w_p tok rfl rfl rfl ?_
      refine w_p tok rfl rfl rfl ?_
      refine w_p tok rfl rfl rfl ?_
      refine w_call journal_Store_record_ok (journal_Store_record_ref _ _ _ _ _ _ H) rfl rfl rfl rfl ?_
      rintro _ h6 ⟨r5, rfl, H⟩
      refine w_p tok rfl rfl rfl ?_
      refine w_p tok rfl rfl rfl ?_
      refine w_p tok rfl rfl rfl ?_
      refine w_p tok rfl rfl rfl ?_
      refine w_p tok rfl rfl rfl ?_
      refine w_end ?_
      refine x_seq ?_
      refine c_weak [(3, Slc.v t3_1), (6, .int .i64 t6_1), (7, .int .u64 t7_1), (0, .pointer p0), (2, Slc.v r3.1), (5, .int .u64 r3.2.1), (8, Slc.v r5.1), (9, .bool r5.2)] ⟨rfl, rfl, rfl, rfl, rfl, rfl, rfl, rfl, trivial⟩ ?_
      refine c_seq ?_
      refine c_seq ?_
      refine c_region ?_
      refine w_p tok rfl rfl rfl ?_
      refine w_p tok rfl rfl rfl ?_
      refine w_end ?_
      refine x_seq ?_
      refine c_if H rfl (fun H => ?_) (fun H => ?_)
      ·
        refine c_exit ?_
        refine x_te ?_
        refine x_bm rfl ?_
        refine x_te ?_
        refine x_te ?_
        refine x_bh ?_
        refine x_seq ?_
        refine c_weak [(3, Slc.v t3_1), (2, Slc.v r3.1)] ⟨rfl, rfl, trivial⟩ ?_
        refine c_seq ?_
        refine c_region ?_
        refine w_p tok rfl rfl rfl ?_
        refine w_p tok rfl rfl rfl ?_
        refine w_p tok rfl rfl rfl ?_
        refine w_p tok rfl rfl rfl ?_
        refine w_p tok rfl rfl rfl ?_
        refine w_end ?_
        refine x_seq ?_
        refine c_ret ?_
        refine x_sr ?_
        exact x_ret _ rfl _ rfl ⟨(r3.1, t3_1, 0), rfl, H⟩
      ·
        refine c_skip ?_
        refine x_seq ?_
        refine c_seq ?_
        refine c_region ?_
        refine w_p tok rfl rfl rfl ?_
        refine w_p tok rfl rfl rfl ?_
        obtain ⟨b7, h8, eb7, eh8, H⟩ := H
        refine w_h (h_bs tok rfl rfl rfl rfl rfl rfl rfl eb7 eh8) rfl rfl ?_
        refine w_a (a_app (s := t3_1) (r := (⟨some ⟨b7, 0, none⟩, 1, 1⟩ : Slc)) tok rfl rfl rfl rfl rfl (slcAt_push eb7 eh8) H) rfl rfl ?_
        rintro _ h10 ⟨s9, rfl, H⟩
        refine w_p tok rfl rfl rfl ?_
        refine w_end ?_
        refine x_seq ?_
        refine c_weak [(3, Slc.v s9), (6, .int .i64 t6_1), (7, .int .u64 t7_1), (0, .pointer p0), (2, Slc.v r3.1), (5, .int .u64 r3.2.1), (8, Slc.v r5.1)] ⟨rfl, rfl, rfl, rfl, rfl, rfl, rfl, trivial⟩ ?_
        refine c_region ?_
        refine w_p tok rfl rfl rfl ?_
        refine w_p tok rfl rfl rfl ?_
        refine w_p tok rfl rfl rfl ?_
        refine w_call journal_parts_ok (journal_parts_ref _ _ _ H) rfl rfl rfl rfl ?_
        rintro _ h12 ⟨r11, rfl, H⟩
        refine w_p tok rfl rfl rfl ?_
        obtain ⟨x13, ex13, H⟩ := H
        refine w_pe tok rfl (congrArg (fun z => (.int .i64 z : Value)) ex13) rfl rfl ?_
        refine w_end ?_
        refine x_blk ?_
        refine x_seq ?_
        refine c_region ?_
        refine w_p tok rfl rfl rfl ?_
        refine w_p tok rfl rfl rfl ?_
        obtain ⟨x14, ex14, H⟩ := H
        refine w_pe tok rfl (congrArg (fun z => (.int .u64 z : Value)) ex14) rfl rfl ?_
        refine w_end ?_
        exact x_join (s9, x13, x14) H ⟨rfl, rfl, rfl, rfl, rfl, rfl, trivial⟩

theorem journal_empty_1_ok : CallOk Go.Proofs.Tryd.prog 45 := ⟨_, Go.Proofs.Tryd.func45, by kernel_rfl, by kernel_rfl⟩
theorem journal_empty_1_ref (p0 : Int) (k : (Bool) → Heap → Prop) (h : Heap) (H : journal_empty_1 p0 k h) : CallsH Go.Proofs.Tryd.prog 45 #[.int .u8 p0] h (fun v h' => ∃ r : Bool, v = .bool r ∧ k r h') := by
  refine f_enter (N := 5) Go.Proofs.Tryd.func45 rfl rfl rfl (fun w0 => ?_)
  unfold journal_empty_1 at H
  refine c_weak [(0, .int .u8 p0)] ⟨rfl, trivial⟩ ?_
  refine c_seq ?_
  refine c_region ?_
  refine w_p tok rfl rfl rfl ?_
  refine w_end ?_
  refine x_seq ?_
  refine c_seq ?_
  refine c_region ?_
  refine w_p tok rfl rfl rfl ?_
  refine w_p tok rfl rfl rfl ?_
  refine w_p tok rfl rfl rfl ?_
  refine w_end ?_
  refine x_seq ?_
  refine c_ret ?_
  exact x_ret _ rfl _ rfl ⟨(p0 != 0), rfl, H⟩

theorem slices_IndexFunc_byte_byte__journal_empty_1_ok : CallOk Go.Proofs.Tryd.prog 59 := ⟨_, Go.Proofs.Tryd.func59, by kernel_rfl, by kernel_rfl⟩
theorem slices_IndexFunc_byte_byte__journal_empty_1_ref (p0 : Slc) (k : (Int) → Heap → Prop) (h : Heap) (H : slices_IndexFunc_byte_byte__journal_empty_1 p0 k h) : CallsH Go.Proofs.Tryd.prog 59 #[Slc.v p0, (Value.func (.func 45) #[] #[])] h (fun v h' => ∃ r : Int, v = .int .i64 r ∧ k r h') := by
  refine f_enter (N := 19) Go.Proofs.Tryd.func59 rfl rfl rfl (fun w0 => ?_)
  unfold slices_IndexFunc_byte_byte__journal_empty_1 at H
  refine c_weak [(0, Slc.v p0), (1, (Value.func (.func 45) #[] #[]))] ⟨rfl, rfl, trivial⟩ ?_
  refine c_seq ?_
  refine c_region ?_
  refine w_p tok rfl rfl rfl ?_
  refine w_end ?_
  refine x_seq ?_
  refine c_seq ?_
  refine c_seq ?_
  refine c_region ?_
  refine w_p tok rfl rfl rfl ?_
  refine w_p tok rfl rfl rfl ?_
  refine w_p tok rfl rfl rfl ?_
  refine w_end ?_
  refine x_seq ?_
  refine c_block ?_
  obtain ⟨I1, μ1, H0, HI⟩ := H
  refine c_loop (σ := Int) (fun (s : Int) => [(8, .int .i64 s), (0, Slc.v p0), (1, (Value.func (.func 45) #[] #[])), (7, .int .i64 (p0.len : Int))]) I1 μ1 0 H0 ⟨rfl, rfl, rfl, rfl, trivial⟩ ?_
  rintro t8_1 h_1 H
  replace H := HI t8_1 h_1 H
  unfold slices_IndexFunc_byte_byte__journal_empty_1_l1b at H
  refine c_weak [(8, .int .i64 t8_1), (0, Slc.v p0), (1, (Value.func (.func 45) #[] #[])), (7, .int .i64 (p0.len : Int))] ⟨rfl, rfl, rfl, rfl, trivial⟩ ?_
  refine c_seq ?_
  refine c_region ?_
  refine w_p tok rfl rfl rfl ?_
  refine w_end ?_
  refine x_seq ?_
  refine c_seq ?_
  refine c_if H rfl (fun H => ?_) (fun H => ?_)
  ·
    refine c_skip ?_
    refine x_seq ?_
    refine c_seq ?_
    refine c_block ?_
    refine c_seq ?_
    refine c_region ?_
    refine w_p tok rfl rfl rfl ?_
    refine w_p tok rfl rfl rfl ?_
    refine w_end ?_
    refine x_seq ?_
    refine c_seq ?_
    refine c_region ?_
    refine w_p tok rfl rfl rfl ?_
    refine w_p tok rfl rfl rfl ?_
    refine w_p tok rfl rfl rfl ?_
    obtain ⟨a1, ha1, la1, ua1, H⟩ := H
    refine w_y (y_ixa' tok rfl rfl ha1 rfl rfl rfl la1 ua1) rfl rfl ?_
    obtain ⟨v2, hv2, H⟩ := H
    refine w_y (y_ld tok rfl rfl rfl rfl hv2) rfl rfl ?_
    refine w_callv (vs := [.int .u8 v2]) (cap := []) journal_empty_1_ok (journal_empty_1_ref _ _ _ H) rfl rfl rfl rfl rfl ?_
    rintro _ h4 ⟨r3, rfl, H⟩
    refine w_end ?_
    refine x_seq ?_
    refine c_weak [(8, .int .i64 t8_1), (0, Slc.v p0), (1, (Value.func (.func 45) #[] #[])), (7, .int .i64 (p0.len : Int)), (5, .int .i64 t8_1), (16, .bool r3)] ⟨rfl, rfl, rfl, rfl, rfl, rfl, trivial⟩ ?_
    refine c_if H rfl (fun H => ?_) (fun H => ?_)
    ·
      refine c_seq ?_
      refine c_region ?_
      refine w_p tok rfl rfl rfl ?_
      refine w_p tok rfl rfl rfl ?_
      refine w_end ?_
      refine x_seq ?_
      refine c_weak [(4, .int .i64 t8_1)] ⟨rfl, trivial⟩ ?_
      refine c_ret ?_
      refine x_br ?_
      refine x_tr ?_
      refine x_tr ?_
      refine x_br ?_
      refine x_tr ?_
      exact x_ret _ rfl _ rfl ⟨t8_1, rfl, H⟩
    ·
      refine c_skip ?_
      refine x_blk ?_
      refine x_seq ?_
      refine c_region ?_
      refine w_p tok rfl rfl rfl ?_
      refine w_p tok rfl rfl rfl ?_
      refine w_end ?_
      exact x_join (IntKind.i64.wrap (t8_1 + 1)) H ⟨rfl, rfl, rfl, rfl, trivial⟩
  ·
    refine c_exit ?_
    refine x_te ?_
    refine x_te ?_
    refine x_bh ?_
    refine x_seq ?_
    refine c_seq ?_
    refine c_region ?_
    obtain ⟨x5, ex5, H⟩ := H
    refine w_pe tok rfl (congrArg (fun z => (.int .i64 z : Value)) ex5) rfl rfl ?_
    refine w_end ?_
    refine x_seq ?_
    refine c_ret ?_
    exact x_ret _ rfl _ rfl ⟨x5, rfl, H⟩

theorem slices_ContainsFunc_byte_byte__journal_empty_1_ok : CallOk Go.Proofs.Tryd.prog 44 := ⟨_, Go.Proofs.Tryd.func44, by kernel_rfl, by kernel_rfl⟩
theorem slices_ContainsFunc_byte_byte__journal_empty_1_ref (p0 : Slc) (k : (Bool) → Heap → Prop) (h : Heap) (H : slices_ContainsFunc_byte_byte__journal_empty_1 p0 k h) : CallsH Go.Proofs.Tryd.prog 44 #[Slc.v p0, (Value.func (.func 45) #[] #[])] h (fun v h' => ∃ r : Bool, v = .bool r ∧ k r h') := by
  refine f_enter (N := 9) Go.Proofs.Tryd.func44 rfl rfl rfl (fun w0 => ?_)
  unfold slices_ContainsFunc_byte_byte__journal_empty_1 at H
  refine c_weak [(0, Slc.v p0), (1, (Value.func (.func 45) #[] #[]))] ⟨rfl, rfl, trivial⟩ ?_
  refine c_seq ?_
  refine c_region ?_
  refine w_p tok rfl rfl rfl ?_
  refine w_end ?_
  refine x_seq ?_
  refine c_seq ?_
  refine c_region ?_
  refine w_p tok rfl rfl rfl ?_
  refine w_p tok rfl rfl rfl ?_
  refine w_call slices_IndexFunc_byte_byte__journal_empty_1_ok (slices_IndexFunc_byte_byte__journal_empty_1_ref _ _ _ H) rfl rfl rfl rfl ?_
  rintro _ h2 ⟨r1, rfl, H⟩
  refine w_p tok rfl rfl rfl ?_
  refine w_p tok rfl rfl rfl ?_
  refine w_end ?_
  refine x_seq ?_
  refine c_ret ?_
  exact x_ret _ rfl _ rfl ⟨(decide (r1 ≥ 0)), rfl, H⟩

theorem journal_empty_ok : CallOk Go.Proofs.Tryd.prog 33 := ⟨_, Go.Proofs.Tryd.func33, by kernel_rfl, by kernel_rfl⟩
theorem journal_empty_ref (p0 : Slc) (k : (Bool) → Heap → Prop) (h : Heap) (H : journal_empty p0 k h) : CallsH Go.Proofs.Tryd.prog 33 #[Slc.v p0] h (fun v h' => ∃ r : Bool, v = .bool r ∧ k r h') := by
  refine f_enter (N := 6) Go.Proofs.Tryd.func33 rfl rfl rfl (fun w0 => ?_)
  unfold journal_empty at H
  refine c_weak [(0, Slc.v p0)] ⟨rfl, trivial⟩ ?_
  refine c_seq ?_
  refine c_region ?_
  refine w_p tok rfl rfl rfl ?_
  refine w_end ?_
  refine x_seq ?_
  refine c_seq ?_
  refine c_region ?_
  refine w_p tok rfl rfl rfl ?_
  refine w_call slices_ContainsFunc_byte_byte__journal_empty_1_ok (slices_ContainsFunc_byte_byte__journal_empty_1_ref _ _ _ H) rfl rfl rfl rfl ?_
  rintro _ h2 ⟨r1, rfl, H⟩
  refine w_p tok rfl rfl rfl ?_
  refine w_p tok rfl rfl rfl ?_
  refine w_end ?_
  refine x_seq ?_
  refine c_ret ?_
  exact x_ret _ rfl _ rfl ⟨(!r1), rfl, H⟩

theorem journal_Store_Scrub_ok : CallOk Go.Proofs.Tryd.prog 16 := ⟨_, Go.Proofs.Tryd.func16, by kernel_rfl, by kernel_rfl⟩
theorem journal_Store_Scrub_ref (p0 : Option Addr) (p1 : Slc) (k : (Int) → Heap → Prop) (h : Heap) (H : journal_Store_Scrub p0 p1 k h) : CallsH Go.Proofs.Tryd.prog 16 #[.pointer p0, Slc.v p1] h (fun v h' => ∃ r : Int, v = .int .i64 r ∧ k r h') := by
  refine f_enter (N := 68) Go.Proofs.Tryd.func16 rfl rfl rfl (fun w0 => ?_)
  unfold journal_Store_Scrub at H
  refine c_weak [(0, .pointer p0), (1, Slc.v p1)] ⟨rfl, rfl, trivial⟩ ?_
  refine c_seq ?_
  refine c_region ?_
  refine w_p tok rfl rfl rfl ?_
  refine w_end ?_
  refine x_seq ?_
  refine c_seq ?_
  refine c_seq ?_
  refine c_region ?_
  refine w_p tok rfl rfl rfl ?_
  refine w_p tok rfl rfl rfl ?_
  refine w_end ?_
  refine x_seq ?_
  refine c_if H rfl (fun H => ?_) (fun H => ?_)
  ·
    refine c_seq ?_
    refine c_region ?_
    refine w_p tok rfl rfl rfl ?_
    refine w_end ?_
    refine x_seq ?_
    refine c_ret ?_
    refine x_tr ?_
    exact x_ret _ rfl _ rfl ⟨1, rfl, H⟩
  ·
    refine c_skip ?_
    refine x_seq ?_
    refine c_seq ?_
    refine c_region ?_
    refine w_p tok rfl rfl rfl ?_
    obtain ⟨a1, ha1, H⟩ := H
    refine w_y (y_nil' rfl rfl ha1) rfl rfl ?_
    refine w_p tok rfl rfl rfl ?_
    obtain ⟨h2, wh2, eh2, H⟩ := H
    refine w_h (h_st tok rfl rfl rfl rfl rfl rfl wh2 eh2) rfl rfl ?_
    refine w_end ?_
    refine x_seq ?_
    refine c_seq ?_
    refine c_region ?_
    refine w_p tok rfl rfl rfl ?_
    refine w_y (y_nil' rfl rfl ha1) rfl rfl ?_
    refine w_p tok rfl rfl rfl ?_
    obtain ⟨v3, hv3, H⟩ := H
    refine w_y (y_ld tok rfl rfl rfl rfl hv3) rfl rfl ?_
    refine w_p tok rfl rfl rfl ?_
    refine w_call slot_Pair_Wipe_ok (slot_Pair_Wipe_ref _ _ _ _ H) rfl rfl rfl rfl ?_
    rintro _ h5 ⟨r4, rfl, H⟩
    refine w_p tok rfl rfl rfl ?_
    refine w_p tok rfl rfl rfl ?_
    refine w_p tok rfl rfl rfl ?_
    refine w_p tok rfl rfl rfl ?_
    refine w_p tok rfl rfl rfl ?_
    refine w_end ?_
    refine x_seq ?_
    refine c_weak [(0, .pointer p0), (5, .int .u64 r4.1), (6, .int .i64 r4.2)] ⟨rfl, rfl, rfl, trivial⟩ ?_
    refine c_seq ?_
    refine c_seq ?_
    refine c_region ?_
    refine w_p tok rfl rfl rfl ?_
    refine w_p tok rfl rfl rfl ?_
    refine w_end ?_
    refine x_seq ?_
    refine c_if H rfl (fun H => ?_) (fun H => ?_)
    ·
      refine c_seq ?_
      refine c_region ?_
      refine w_p tok rfl rfl rfl ?_
      refine w_p tok rfl rfl rfl ?_
      refine w_end ?_
      refine x_seq ?_
      refine c_ret ?_
      refine x_tr ?_
      exact x_ret _ rfl _ rfl ⟨r4.2, rfl, H⟩
    ·
      refine c_skip ?_
      refine x_seq ?_
      refine c_seq ?_
      refine c_seq ?_
      refine c_region ?_
      refine w_p tok rfl rfl rfl ?_
      refine w_end ?_
      refine x_seq ?_
      refine c_block ?_
      obtain ⟨I1, μ1, H0, HI⟩ := H
      refine c_loop (σ := Int) (fun (s : Int) => [(7, .int .i64 s), (0, .pointer p0), (5, .int .u64 r4.1)]) I1 μ1 512 H0 ⟨rfl, rfl, rfl, trivial⟩ ?_
      rintro t7_1 h_1 H
      replace H := HI t7_1 h_1 H
      unfold journal_Store_Scrub_l1b at H
      refine c_weak [(7, .int .i64 t7_1), (0, .pointer p0), (5, .int .u64 r4.1)] ⟨rfl, rfl, rfl, trivial⟩ ?_
      refine c_seq ?_
      refine c_seq ?_
      refine c_region ?_
      refine w_p tok rfl rfl rfl ?_
      refine w_p tok rfl rfl rfl ?_
      refine w_end ?_
      refine x_seq ?_
      refine c_if H rfl (fun H => ?_) (fun H => ?_)
      ·
        refine c_skip ?_
        refine x_seq ?_
        refine c_seqJ (α := Unit) (fun (s : Unit) => [(0, .pointer p0), (5, .int .u64 r4.1), (7, .int .i64 t7_1)]) (fun (s : Unit) h => journal_Store_Scrub_j2 p0 r4.1 t7_1 k (fun s h' => I1 s h' ∧ μ1 s h' < μ1 t7_1 h_1) h) ?_ ?_
        ·
          rintro _ h_2 H
          replace H : journal_Store_Scrub_j2 p0 r4.1 t7_1 k (fun s h' => I1 s h' ∧ μ1 s h' < μ1 t7_1 h_1) h_2 := H
          unfold journal_Store_Scrub_j2 at H
          refine c_weak [(0, .pointer p0), (5, .int .u64 r4.1), (7, .int .i64 t7_1)] ⟨rfl, rfl, rfl, trivial⟩ ?_
          refine c_region ?_
          refine w_p tok rfl rfl rfl ?_
          refine w_p tok rfl rfl rfl ?_
          obtain ⟨x6, ex6, H⟩ := H
          refine w_pe tok rfl (congrArg (fun z => (.int .i64 z : Value)) ex6) rfl rfl ?_
          refine w_end ?_
          exact x_join x6 H ⟨rfl, rfl, rfl, trivial⟩
        ·
          refine c_block ?_
          refine c_seq ?_
          refine c_seq ?_
          refine c_region ?_
          refine w_p tok rfl rfl rfl ?_
          obtain ⟨a7, ha7, H⟩ := H
          refine w_y (y_nil' rfl rfl ha7) rfl rfl ?_
          refine w_p tok rfl rfl rfl ?_
          obtain ⟨v8, hv8, H⟩ := H
          refine w_y (y_ld tok rfl rfl rfl rfl hv8) rfl rfl ?_
          refine w_p tok rfl rfl rfl ?_
          refine w_call disk_Disk_Read_ok (disk_Disk_Read_ref _ _ _ _ H) rfl rfl rfl rfl ?_
          rintro _ h10 ⟨r9, rfl, H⟩
          refine w_p tok rfl rfl rfl ?_
          refine w_p tok rfl rfl rfl ?_
          refine w_p tok rfl rfl rfl ?_
          refine w_p tok rfl rfl rfl ?_
          refine w_p tok rfl rfl rfl ?_
          refine w_end ?_
          refine x_seq ?_
          refine c_weak [(7, .int .i64 t7_1), (0, .pointer p0), (5, .int .u64 r4.1), (8, Slc.v r9.1), (9, .int .i64 r9.2)] ⟨rfl, rfl, rfl, rfl, rfl, trivial⟩ ?_
          refine c_seq ?_
          refine c_region ?_
          refine w_p tok rfl rfl rfl ?_
          refine w_p tok rfl rfl rfl ?_
          refine w_p tok rfl rfl rfl ?_
          refine w_cut 3 (α := Bool) (fun (s : Bool) => [(47, .bool s), (0, .pointer p0), (5, .int .u64 r4.1), (7, .int .i64 t7_1)]) (fun (s : Bool) h => journal_Store_Scrub_g3 p0 r4.1 t7_1 s k (fun s h' => I1 s h' ∧ μ1 s h' < μ1 t7_1 h_1) h) ?_ ?_
          ·
            rintro t47_3 h_3 H
            replace H : journal_Store_Scrub_g3 p0 r4.1 t7_1 t47_3 k (fun s h' => I1 s h' ∧ μ1 s h' < μ1 t7_1 h_1) h_3 := H
            unfold journal_Store_Scrub_g3 at H
            refine w_weak [(47, .bool t47_3), (0, .pointer p0), (5, .int .u64 r4.1), (7, .int .i64 t7_1)] ⟨rfl, rfl, rfl, rfl, trivial⟩ ?_
            refine w_end ?_
            refine x_seq ?_
            refine c_if H rfl (fun H => ?_) (fun H => ?_)
            ·
              refine c_exit ?_
              refine x_te ?_
              refine x_bh ?_
              exact x_join () H ⟨rfl, rfl, rfl, trivial⟩
            ·
              refine c_skip ?_
              refine x_seq ?_
              refine c_seq ?_
              refine c_region ?_
              refine w_p tok rfl rfl rfl ?_
              obtain ⟨a11, ha11, H⟩ := H
              refine w_y (y_nil' rfl rfl ha11) rfl rfl ?_
              refine w_p tok rfl rfl rfl ?_
              obtain ⟨v12, hv12, H⟩ := H
              refine w_y (y_ld tok rfl rfl rfl rfl hv12) rfl rfl ?_
              refine w_p tok rfl rfl rfl ?_
              refine w_call disk_Disk_Write_ok (disk_Disk_Write_ref _ _ _ _ _ H) rfl rfl rfl rfl ?_
              rintro _ h14 ⟨r13, rfl, H⟩
              refine w_p tok rfl rfl rfl ?_
              refine w_end ?_
              refine x_seq ?_
              refine c_weak [(0, .pointer p0), (5, .int .u64 r4.1), (7, .int .i64 t7_1), (10, .int .i64 r13)] ⟨rfl, rfl, rfl, rfl, trivial⟩ ?_
              refine c_seq ?_
              refine c_region ?_
              refine w_p tok rfl rfl rfl ?_
              refine w_p tok rfl rfl rfl ?_
              refine w_end ?_
              refine x_seq ?_
              refine c_if H rfl (fun H => ?_) (fun H => ?_)
              ·
                refine c_seq ?_
                refine c_region ?_
                refine w_p tok rfl rfl rfl ?_
                refine w_p tok rfl rfl rfl ?_
                refine w_end ?_
                refine x_seq ?_
                refine c_weak [(4, .int .i64 r13)] ⟨rfl, trivial⟩ ?_
                refine c_ret ?_
                refine x_br ?_
                refine x_tr ?_
                refine x_tr ?_
                refine x_br ?_
                refine x_tr ?_
                exact x_ret _ rfl _ rfl ⟨r13, rfl, H⟩
              ·
                refine c_skip ?_
                refine x_blk ?_
                exact x_join () H ⟨rfl, rfl, rfl, trivial⟩
          ·
            refine w_gif (d := 44) H rfl (fun H => ?_) (fun H => ?_)
            ·
              refine w_p tok rfl rfl rfl ?_
              refine w_call journal_empty_ok (journal_empty_ref _ _ _ H) rfl rfl rfl rfl ?_
              rintro _ h16 ⟨r15, rfl, H⟩
              refine w_p tok rfl rfl rfl ?_
              exact w_jn r15 H ⟨rfl, rfl, rfl, rfl, trivial⟩
            ·
              refine w_skip rfl rfl ?_
              refine w_skip rfl rfl ?_
              refine w_p tok rfl rfl rfl ?_
              exact w_jn false H ⟨rfl, rfl, rfl, rfl, trivial⟩
      ·
        refine c_exit ?_
        refine x_te ?_
        refine x_te ?_
        refine x_bh ?_
        refine x_seq ?_
        refine c_seq ?_
        refine c_seq ?_
        refine c_region ?_
        refine w_p tok rfl rfl rfl ?_
        obtain ⟨a17, ha17, H⟩ := H
        refine w_y (y_nil' rfl rfl ha17) rfl rfl ?_
        refine w_p tok rfl rfl rfl ?_
        obtain ⟨v18, hv18, H⟩ := H
        refine w_y (y_ld tok rfl rfl rfl rfl hv18) rfl rfl ?_
        refine w_call disk_Disk_Sync_ok (disk_Disk_Sync_ref _ _ _ H) rfl rfl rfl rfl ?_
        rintro _ h20 ⟨r19, rfl, H⟩
        refine w_p tok rfl rfl rfl ?_
        refine w_end ?_
        refine x_seq ?_
        refine c_weak [(0, .pointer p0), (5, .int .u64 r4.1), (11, .int .i64 r19)] ⟨rfl, rfl, rfl, trivial⟩ ?_
        refine c_seq ?_
        refine c_region ?_
        refine w_p tok rfl rfl rfl ?_
        refine w_p tok rfl rfl rfl ?_
        refine w_end ?_
        refine x_seq ?_
        refine c_if H rfl (fun H => ?_) (fun H => ?_)
        ·
          refine c_seq ?_
          refine c_region ?_
          refine w_p tok rfl rfl rfl ?_
          refine w_p tok rfl rfl rfl ?_
          refine w_end ?_
          refine x_seq ?_
          refine c_ret ?_
          refine x_tr ?_
          exact x_ret _ rfl _ rfl ⟨r19, rfl, H⟩
        ·
          refine c_skip ?_
          refine x_seq ?_
          refine c_seq ?_
          refine c_region ?_
          refine w_p tok rfl rfl rfl ?_
          refine w_p tok rfl rfl rfl ?_
          refine w_call journal_Store_begin_ok (journal_Store_begin_ref _ _ _ _ H) rfl rfl rfl rfl ?_
          rintro _ h22 ⟨r21, rfl, H⟩
          refine w_end ?_
          refine x_seq ?_
          refine c_weak [] trivial ?_
          refine c_seq ?_
          refine c_region ?_
          refine w_p tok rfl rfl rfl ?_
          refine w_end ?_
          refine x_seq ?_
          refine c_ret ?_
          exact x_ret _ rfl _ rfl ⟨0, rfl, H⟩

theorem disk_Disk_Raw_ok : CallOk Go.Proofs.Tryd.prog 17 := ⟨_, Go.Proofs.Tryd.func17, by kernel_rfl, by kernel_rfl⟩
theorem disk_Disk_Raw_ref (p0 : Option Addr) (k : (Slc) → Heap → Prop) (h : Heap) (H : disk_Disk_Raw p0 k h) : CallsH Go.Proofs.Tryd.prog 17 #[.pointer p0] h (fun v h' => ∃ r : Slc, v = Slc.v r ∧ k r h') := by
  refine f_enter (N := 27) Go.Proofs.Tryd.func17 rfl rfl rfl (fun w0 => ?_)
  unfold disk_Disk_Raw at H
  refine c_weak [(0, .pointer p0)] ⟨rfl, trivial⟩ ?_
  refine c_seq ?_
  refine c_region ?_
  refine w_p tok rfl rfl rfl ?_
  refine w_end ?_
  refine x_seq ?_
  refine c_seq ?_
  refine c_seq ?_
  refine c_region ?_
  refine w_p tok rfl rfl rfl ?_
  refine w_p tok rfl rfl rfl ?_
  refine w_end ?_
  refine x_seq ?_
  refine c_if H rfl (fun H => ?_) (fun H => ?_)
  ·
    refine c_seq ?_
    refine c_region ?_
    refine w_p tok rfl rfl rfl ?_
    refine w_end ?_
    refine x_seq ?_
    refine c_ret ?_
    refine x_tr ?_
    exact x_ret _ rfl _ rfl ⟨(⟨none, 0, 0⟩ : Slc), rfl, H⟩
  ·
    refine c_skip ?_
    refine x_seq ?_
    refine c_seq ?_
    refine c_region ?_
    obtain ⟨b1, h2, ph2, qh2, rh2, th2, eb1, eh2, H⟩ := H
    refine w_h (h_mk tok rfl rfl rfl rfl rfl rfl ph2 qh2 rh2 th2 eb1 eh2) rfl rfl ?_
    refine w_p tok rfl rfl rfl ?_
    refine w_end ?_
    refine x_seq ?_
    refine c_seq ?_
    refine c_seq ?_
    refine c_region ?_
    refine w_p tok rfl rfl rfl ?_
    obtain ⟨a3, ha3, H⟩ := H
    refine w_y (y_nil' rfl rfl ha3) rfl rfl ?_
    refine w_p tok rfl rfl rfl ?_
    obtain ⟨v4, hv4, H⟩ := H
    refine w_y (y_ld tok rfl rfl rfl rfl hv4) rfl rfl ?_
    obtain ⟨r5, e6, c7, b8, h9, er5, mr5, eb8, eh9, H⟩ := H
    refine w_h (h_rng (kt := 3) (et := 67) (m := v4) rfl rfl (by kernel_rfl) er5 mr5 eb8 eh9) rfl rfl ?_
    refine w_end ?_
    refine x_seq ?_
    refine c_weak [(3, Slc.v (⟨some ⟨b1, 0, none⟩, (131072 : Int).toNat, (131072 : Int).toNat⟩ : Slc)), (13, .pointer (some (⟨b8, 0, none⟩ : Addr)))] ⟨rfl, rfl, trivial⟩ ?_
    refine c_block ?_
    obtain ⟨I1, μ1, H0, HI⟩ := H
    refine c_loop (σ := Unit) (fun (s : Unit) => [(3, Slc.v (⟨some ⟨b1, 0, none⟩, (131072 : Int).toNat, (131072 : Int).toNat⟩ : Slc)), (13, .pointer (some (⟨b8, 0, none⟩ : Addr)))]) I1 μ1 () H0 ⟨rfl, rfl, trivial⟩ ?_
    rintro _ h_1 H
    replace H := HI  h_1 H
    unfold disk_Disk_Raw_l1b at H
    refine c_weak [(3, Slc.v (⟨some ⟨b1, 0, none⟩, (131072 : Int).toNat, (131072 : Int).toNat⟩ : Slc)), (13, .pointer (some (⟨b8, 0, none⟩ : Addr)))] ⟨rfl, rfl, trivial⟩ ?_
    refine c_seq ?_
    refine c_region ?_
    obtain ⟨bn10, rn10, ckn10, sincen10, lastn10, esn10, seenn10, han10, h1n10, h2n10, h3n10, h4n10, HAn10, HBn10⟩ := H
    refine w_a (a_nx rfl rfl han10 h1n10 h2n10 h3n10 h4n10) rfl rfl ?_
    rintro _ h11 (⟨rfl, rfl, hsn10⟩ | ⟨xn10, hxn10, hnn10, rfl, ehn10⟩)
    ·
      replace H := HAn10 hsn10
      refine w_p tok rfl rfl rfl ?_
      refine w_end ?_
      refine x_seq ?_
      refine c_seq ?_
      refine c_if H rfl (fun H => ?_) (fun H => ?_)
      ·
        refine c_skip ?_
        refine x_seq ?_
        refine c_block ?_
        refine c_seq ?_
        refine c_region ?_
        obtain ⟨bn12, rn12, ckn12, sincen12, esn12, seenn12, xn12, kn12, vn12, han12, h1n12, h2n12, hmn12, hnn12, hkn12, hvn12, H⟩ := H
        refine w_y (y_en rfl rfl han12 h1n12 h2n12 hmn12 hnn12 hkn12 hvn12) rfl rfl ?_
        refine w_p tok rfl rfl rfl ?_
        refine w_p tok rfl rfl rfl ?_
        obtain ⟨b13, h14, eb13, eh14, H⟩ := H
        refine w_h (h_alloc tok rfl rfl eb13 eh14) rfl rfl ?_
        refine w_p tok rfl rfl rfl ?_
        obtain ⟨h15, wh15, eh15, H⟩ := H
        refine w_h (h_sts tok rfl rfl rfl rfl rfl (oneC (by kernel_rfl)) wh15 eh15) rfl rfl ?_
        refine w_end ?_
        refine x_seq ?_
        refine c_sim [(3, Slc.v (⟨some ⟨b1, 0, none⟩, (131072 : Int).toNat, (131072 : Int).toNat⟩ : Slc)), (4, .int .i64 kn12), (5, .pointer (some (⟨b13, 0, none⟩ : Addr))), (13, .pointer (some (⟨b8, 0, none⟩ : Addr)))] (by kernel_rfl) (by kernel_rfl) ⟨rfl, rfl, rfl, rfl, trivial⟩ (fun wf => ?_)
        refine sim_p 0 (ei := [(3, Slc.v (⟨some ⟨b1, 0, none⟩, (131072 : Int).toNat, (131072 : Int).toNat⟩ : Slc))]) (d := (some 19)) wf (by kernel_rfl) ⟨rfl, trivial⟩ (by kernel_rfl) (by kernel_rfl) (fun _ => pf_p tok rfl rfl rfl rfl) (fun P_0 => ?_)
        refine sim_p 1 (ei := [(4, .int .i64 kn12)]) (d := (some 20)) wf (by kernel_rfl) ⟨rfl, trivial⟩ (by kernel_rfl) (by kernel_rfl) (fun _ => pf_p tok rfl rfl rfl rfl) (fun P_1 => ?_)
        refine sim_p 2 (ei := [(20, .int .i64 kn12)]) (d := (some 21)) wf (by kernel_rfl) ⟨rfl, trivial⟩ (by kernel_rfl) (by kernel_rfl) (fun _ => pf_p tok rfl rfl rfl rfl) (fun P_2 => ?_)
        obtain ⟨s16, ps16, qs16, rs16, ts16, es16, H⟩ := H
        refine sim_p 3 (ei := [(19, Slc.v (⟨some ⟨b1, 0, none⟩, (131072 : Int).toNat, (131072 : Int).toNat⟩ : Slc)), (21, .int .i64 (IntKind.i64.wrap (kn12 * 128)))]) (d := (some 22)) wf (by kernel_rfl) ⟨rfl, rfl, trivial⟩ (by kernel_rfl) (by kernel_rfl) (fun _ => pf_ye rfl rfl rfl (y_sl (s := (⟨some ⟨b1, 0, none⟩, (131072 : Int).toNat, (131072 : Int).toNat⟩ : Slc)) (L := (IntKind.i64.wrap (kn12 * 128))) (H := ((⟨some ⟨b1, 0, none⟩, (131072 : Int).toNat, (131072 : Int).toNat⟩ : Slc).len : Int)) (M := ((⟨some ⟨b1, 0, none⟩, (131072 : Int).toNat, (131072 : Int).toNat⟩ : Slc).cap : Int)) tok rfl rfl rfl rfl rfl rfl rfl (by simp) ps16 qs16 rs16 ts16) (congrArg Slc.v es16)) (fun P_3 => ?_)
        refine sim_p 4 (ei := [(5, .pointer (some (⟨b13, 0, none⟩ : Addr)))]) (d := (some 23)) wf (by kernel_rfl) ⟨rfl, trivial⟩ (by kernel_rfl) (by kernel_rfl) (fun _ => pf_p tok rfl rfl rfl rfl) (fun P_4 => ?_)
        obtain ⟨s17, ps17, qs17, rs17, es17, H⟩ := H
        refine sim_p 5 (ei := [(23, .pointer (some (⟨b13, 0, none⟩ : Addr)))]) (d := (some 24)) wf (by kernel_rfl) ⟨rfl, trivial⟩ (by kernel_rfl) (by kernel_rfl) (fun _ => pf_ye rfl rfl rfl (y_sla (L := 0) (H := 128) tok rfl rfl rfl rfl rfl rfl ps17 qs17 rs17) (congrArg Slc.v es17)) (fun P_5 => ?_)
        obtain ⟨l18, H⟩ := H
        refine sim_a 6 [0, 1, 2, 3, 4, 5] [0, 1, 2, 3, 4, 5] (ei := [(22, Slc.v s16), (24, Slc.v s17)]) wf ⟨P_5 _, P_4 _, P_3 _, P_2 _, P_1 _, P_0 _, trivial⟩ (by kernel_rfl) ⟨rfl, rfl, trivial⟩ (by kernel_rfl) rfl rfl rfl (a_cpy (d := s16) (s := s17) tok rfl rfl rfl rfl rfl H) ?_
        rintro _ h19 ⟨rfl, H⟩
        refine sim_end wf ⟨trivial, trivial, trivial, trivial, trivial, trivial, trivial⟩ (by kernel_rfl) ?_
        clear wf P_0 P_1 P_2 P_3 P_4 P_5
        refine x_blk ?_
        exact x_join () H ⟨rfl, rfl, trivial⟩
      ·
        refine c_exit ?_
        refine x_te ?_
        refine x_te ?_
        refine x_bh ?_
        refine x_seq ?_
        refine c_seq ?_
        refine c_region ?_
        refine w_p tok rfl rfl rfl ?_
        refine w_p tok rfl rfl rfl ?_
        refine w_end ?_
        refine x_seq ?_
        refine c_ret ?_
        exact x_ret _ rfl _ rfl ⟨(⟨some ⟨b1, 0, none⟩, (131072 : Int).toNat, (131072 : Int).toNat⟩ : Slc), rfl, H⟩
    ·
      replace H := HBn10 xn10 hxn10 hnn10 h11 ehn10
      refine w_p tok rfl rfl rfl ?_
      refine w_end ?_
      refine x_seq ?_
      refine c_seq ?_
      refine c_if H rfl (fun H => ?_) (fun H => ?_)
      ·
        refine c_skip ?_
        refine x_seq ?_
        refine c_block ?_
        refine c_seq ?_
        refine c_region ?_
        obtain ⟨bn20, rn20, ckn20, sincen20, esn20, seenn20, xn20, kn20, vn20, han20, h1n20, h2n20, hmn20, hnn20, hkn20, hvn20, H⟩ := H
        refine w_y (y_en rfl rfl han20 h1n20 h2n20 hmn20 hnn20 hkn20 hvn20) rfl rfl ?_
        refine w_p tok rfl rfl rfl ?_
        refine w_p tok rfl rfl rfl ?_
        obtain ⟨b21, h22, eb21, eh22, H⟩ := H
        refine w_h (h_alloc tok rfl rfl eb21 eh22) rfl rfl ?_
        refine w_p tok rfl rfl rfl ?_
        obtain ⟨h23, wh23, eh23, H⟩ := H
        refine w_h (h_sts tok rfl rfl rfl rfl rfl (oneC (by kernel_rfl)) wh23 eh23) rfl rfl ?_
        refine w_end ?_
        refine x_seq ?_
        refine c_sim [(3, Slc.v (⟨some ⟨b1, 0, none⟩, (131072 : Int).toNat, (131072 : Int).toNat⟩ : Slc)), (4, .int .i64 kn20), (5, .pointer (some (⟨b21, 0, none⟩ : Addr))), (13, .pointer (some (⟨b8, 0, none⟩ : Addr)))] (by kernel_rfl) (by kernel_rfl) ⟨rfl, rfl, rfl, rfl, trivial⟩ (fun wf => ?_)
        refine sim_p 0 (ei := [(3, Slc.v (⟨some ⟨b1, 0, none⟩, (131072 : Int).toNat, (131072 : Int).toNat⟩ : Slc))]) (d := (some 19)) wf (by kernel_rfl) ⟨rfl, trivial⟩ (by kernel_rfl) (by kernel_rfl) (fun _ => pf_p tok rfl rfl rfl rfl) (fun P_0 => ?_)
        refine sim_p 1 (ei := [(4, .int .i64 kn20)]) (d := (some 20)) wf (by kernel_rfl) ⟨rfl, trivial⟩ (by kernel_rfl) (by kernel_rfl) (fun _ => pf_p tok rfl rfl rfl rfl) (fun P_1 => ?_)
        refine sim_p 2 (ei := [(20, .int .i64 kn20)]) (d := (some 21)) wf (by kernel_rfl) ⟨rfl, trivial⟩ (by kernel_rfl) (by kernel_rfl) (fun _ => pf_p tok rfl rfl rfl rfl) (fun P_2 => ?_)
        obtain ⟨s24, ps24, qs24, rs24, ts24, es24, H⟩ := H
        refine sim_p 3 (ei := [(19, Slc.v (⟨some ⟨b1, 0, none⟩, (131072 : Int).toNat, (131072 : Int).toNat⟩ : Slc)), (21, .int .i64 (IntKind.i64.wrap (kn20 * 128)))]) (d := (some 22)) wf (by kernel_rfl) ⟨rfl, rfl, trivial⟩ (by kernel_rfl) (by kernel_rfl) (fun _ => pf_ye rfl rfl rfl (y_sl (s := (⟨some ⟨b1, 0, none⟩, (131072 : Int).toNat, (131072 : Int).toNat⟩ : Slc)) (L := (IntKind.i64.wrap (kn20 * 128))) (H := ((⟨some ⟨b1, 0, none⟩, (131072 : Int).toNat, (131072 : Int).toNat⟩ : Slc).len : Int)) (M := ((⟨some ⟨b1, 0, none⟩, (131072 : Int).toNat, (131072 : Int).toNat⟩ : Slc).cap : Int)) tok rfl rfl rfl rfl rfl rfl rfl (by simp) ps24 qs24 rs24 ts24) (congrArg Slc.v es24)) (fun P_3 => ?_)
        refine sim_p 4 (ei := [(5, .pointer (some (⟨b21, 0, none⟩ : Addr)))]) (d := (some 23)) wf (by kernel_rfl) ⟨rfl, trivial⟩ (by kernel_rfl) (by kernel_rfl) (fun _ => pf_p tok rfl rfl rfl rfl) (fun P_4 => ?_)
        obtain ⟨s25, ps25, qs25, rs25, es25, H⟩ := H
        refine sim_p 5 (ei := [(23, .pointer (some (⟨b21, 0, none⟩ : Addr)))]) (d := (some 24)) wf (by kernel_rfl) ⟨rfl, trivial⟩ (by kernel_rfl) (by kernel_rfl) (fun _ => pf_ye rfl rfl rfl (y_sla (L := 0) (H := 128) tok rfl rfl rfl rfl rfl rfl ps25 qs25 rs25) (congrArg Slc.v es25)) (fun P_5 => ?_)
        obtain ⟨l26, H⟩ := H
        refine sim_a 6 [0, 1, 2, 3, 4, 5] [0, 1, 2, 3, 4, 5] (ei := [(22, Slc.v s24), (24, Slc.v s25)]) wf ⟨P_5 _, P_4 _, P_3 _, P_2 _, P_1 _, P_0 _, trivial⟩ (by kernel_rfl) ⟨rfl, rfl, trivial⟩ (by kernel_rfl) rfl rfl rfl (a_cpy (d := s24) (s := s25) tok rfl rfl rfl rfl rfl H) ?_
        rintro _ h27 ⟨rfl, H⟩
        refine sim_end wf ⟨trivial, trivial, trivial, trivial, trivial, trivial, trivial⟩ (by kernel_rfl) ?_
        clear wf P_0 P_1 P_2 P_3 P_4 P_5
        refine x_blk ?_
        exact x_join () H ⟨rfl, rfl, trivial⟩
      ·
        refine c_exit ?_
        refine x_te ?_
        refine x_te ?_
        refine x_bh ?_
        refine x_seq ?_
        refine c_seq ?_
        refine c_region ?_
        refine w_p tok rfl rfl rfl ?_
        refine w_p tok rfl rfl rfl ?_
        refine w_end ?_
        refine x_seq ?_
        refine c_ret ?_
        exact x_ret _ rfl _ rfl ⟨(⟨some ⟨b1, 0, none⟩, (131072 : Int).toNat, (131072 : Int).toNat⟩ : Slc), rfl, H⟩

theorem ref11_SameRows_ok : CallOk Go.Proofs.Tryd.prog 15 := ⟨_, Go.Proofs.Tryd.func15, by kernel_rfl, by kernel_rfl⟩
theorem ref11_SameRows_ref (p0 : Slc) (p1 : Slc) (k : (Bool) → Heap → Prop) (h : Heap) (H : ref11_SameRows p0 p1 k h) : CallsH Go.Proofs.Tryd.prog 15 #[Slc.v p0, Slc.v p1] h (fun v h' => ∃ r : Bool, v = .bool r ∧ k r h') := by
  refine f_enter (N := 27) Go.Proofs.Tryd.func15 rfl rfl rfl (fun w0 => ?_)
  unfold ref11_SameRows at H
  refine c_weak [(0, Slc.v p0), (1, Slc.v p1)] ⟨rfl, rfl, trivial⟩ ?_
  refine c_seq ?_
  refine c_region ?_
  refine w_p tok rfl rfl rfl ?_
  refine w_end ?_
  refine x_seq ?_
  refine c_seq ?_
  refine c_seq ?_
  refine c_region ?_
  refine w_p tok rfl rfl rfl ?_
  refine w_p tok rfl rfl rfl ?_
  refine w_p tok rfl rfl rfl ?_
  refine w_p tok rfl rfl rfl ?_
  refine w_p tok rfl rfl rfl ?_
  refine w_end ?_
  refine x_seq ?_
  refine c_if H rfl (fun H => ?_) (fun H => ?_)
  ·
    refine c_seq ?_
    refine c_region ?_
    refine w_p tok rfl rfl rfl ?_
    refine w_end ?_
    refine x_seq ?_
    refine c_weak [(4, .bool false)] ⟨rfl, trivial⟩ ?_
    refine c_ret ?_
    refine x_tr ?_
    exact x_ret _ rfl _ rfl ⟨false, rfl, H⟩
  ·
    refine c_skip ?_
    refine x_seq ?_
    refine c_seq ?_
    refine c_seq ?_
    refine c_region ?_
    refine w_p tok rfl rfl rfl ?_
    refine w_end ?_
    refine x_seq ?_
    refine c_block ?_
    obtain ⟨I1, μ1, H0, HI⟩ := H
    refine c_loop (σ := Int) (fun (s : Int) => [(5, .int .i64 s), (0, Slc.v p0), (1, Slc.v p1)]) I1 μ1 0 H0 ⟨rfl, rfl, rfl, trivial⟩ ?_
    rintro t5_1 h_1 H
    replace H := HI t5_1 h_1 H
    unfold ref11_SameRows_l1b at H
    refine c_weak [(5, .int .i64 t5_1), (0, Slc.v p0), (1, Slc.v p1)] ⟨rfl, rfl, rfl, trivial⟩ ?_
    refine c_seq ?_
    refine c_seq ?_
    refine c_region ?_
    refine w_p tok rfl rfl rfl ?_
    refine w_p tok rfl rfl rfl ?_
    refine w_p tok rfl rfl rfl ?_
    refine w_p tok rfl rfl rfl ?_
    refine w_end ?_
    refine x_seq ?_
    refine c_if H rfl (fun H => ?_) (fun H => ?_)
    ·
      refine c_skip ?_
      refine x_seq ?_
      refine c_seq ?_
      refine c_block ?_
      refine c_seq ?_
      refine c_sim [(0, Slc.v p0), (1, Slc.v p1), (5, .int .i64 t5_1)] (by kernel_rfl) (by kernel_rfl) ⟨rfl, rfl, rfl, trivial⟩ (fun wf => ?_)
      refine sim_p 0 (ei := [(0, Slc.v p0)]) (d := (some 17)) wf (by kernel_rfl) ⟨rfl, trivial⟩ (by kernel_rfl) (by kernel_rfl) (fun _ => pf_p tok rfl rfl rfl rfl) (fun P_0 => ?_)
      refine sim_p 1 (ei := [(5, .int .i64 t5_1)]) (d := (some 18)) wf (by kernel_rfl) ⟨rfl, trivial⟩ (by kernel_rfl) (by kernel_rfl) (fun _ => pf_p tok rfl rfl rfl rfl) (fun P_1 => ?_)
      obtain ⟨a1, ha1, la1, ua1, H⟩ := H
      refine sim_p 2 (ei := [(17, Slc.v p0), (18, .int .i64 t5_1)]) (d := (some 19)) wf (by kernel_rfl) ⟨rfl, rfl, trivial⟩ (by kernel_rfl) (by kernel_rfl) (fun _ => pf_y rfl rfl rfl (y_ixa' tok rfl rfl ha1 rfl rfl rfl la1 ua1)) (fun P_2 => ?_)
      obtain ⟨v2, hv2, H⟩ := H
      refine sim_l 3 (ei := [(19, .pointer (some (a1.add (t5_1.toNat * 1))))]) (d := (some 20)) wf (by kernel_rfl) ⟨rfl, trivial⟩ (by kernel_rfl) (by kernel_rfl) (pf_y rfl rfl rfl (y_ld tok rfl rfl rfl rfl hv2)) (fun P_3 => ?_)
      refine sim_p 4 (ei := [(1, Slc.v p1)]) (d := (some 21)) wf (by kernel_rfl) ⟨rfl, trivial⟩ (by kernel_rfl) (by kernel_rfl) (fun _ => pf_p tok rfl rfl rfl rfl) (fun P_4 => ?_)
      refine sim_p 5 (ei := [(5, .int .i64 t5_1)]) (d := (some 22)) wf (by kernel_rfl) ⟨rfl, trivial⟩ (by kernel_rfl) (by kernel_rfl) (fun _ => pf_p tok rfl rfl rfl rfl) (fun P_5 => ?_)
      obtain ⟨a3, ha3, la3, ua3, H⟩ := H
      refine sim_p 6 (ei := [(21, Slc.v p1), (22, .int .i64 t5_1)]) (d := (some 23)) wf (by kernel_rfl) ⟨rfl, rfl, trivial⟩ (by kernel_rfl) (by kernel_rfl) (fun _ => pf_y rfl rfl rfl (y_ixa' tok rfl rfl ha3 rfl rfl rfl la3 ua3)) (fun P_6 => ?_)
      obtain ⟨v4, hv4, H⟩ := H
      refine sim_l 7 (ei := [(23, .pointer (some (a3.add (t5_1.toNat * 1))))]) (d := (some 24)) wf (by kernel_rfl) ⟨rfl, trivial⟩ (by kernel_rfl) (by kernel_rfl) (pf_y rfl rfl rfl (y_ld tok rfl rfl rfl rfl hv4)) (fun P_7 => ?_)
      refine sim_c 8 [0, 1, 2, 3, 4, 5, 6, 7] [0, 1, 2, 3, 4, 5, 6, 7] (ei := [(20, Slc.v v2), (24, Slc.v v4)]) ref01_Same_ok (ref01_Same_ref _ _ _ _ H) wf ⟨P_7, P_6 _, P_5 _, P_4 _, P_3, P_2 _, P_1 _, P_0 _, trivial⟩ (by kernel_rfl) ⟨rfl, rfl, trivial⟩ (by kernel_rfl) rfl rfl rfl rfl rfl ?_
      rintro _ h6 ⟨r5, rfl, H⟩
      refine sim_p 9 (ei := [(25, .bool r5)]) (d := (some 26)) wf (by kernel_rfl) ⟨rfl, trivial⟩ (by kernel_rfl) (by kernel_rfl) (fun _ => pf_p tok rfl rfl rfl rfl) (fun P_9 => ?_)
      refine sim_end wf ⟨P_9 _, trivial, trivial, trivial, trivial, trivial, trivial, trivial, trivial, trivial⟩ (by kernel_rfl) ?_
      clear wf P_0 P_1 P_2 P_3 P_4 P_5 P_6 P_7 P_9
      refine x_seq ?_
      refine c_weak [(0, Slc.v p0), (1, Slc.v p1), (5, .int .i64 t5_1), (26, .bool (!r5))] ⟨rfl, rfl, rfl, rfl, trivial⟩ ?_
      refine c_if H rfl (fun H => ?_) (fun H => ?_)
      ·
        refine c_seq ?_
        refine c_region ?_
        refine w_p tok rfl rfl rfl ?_
        refine w_end ?_
        refine x_seq ?_
        refine c_ret ?_
        refine x_br ?_
        refine x_tr ?_
        refine x_tr ?_
        refine x_br ?_
        refine x_tr ?_
        exact x_ret _ rfl _ rfl ⟨false, rfl, H⟩
      ·
        refine c_skip ?_
        refine x_blk ?_
        refine x_seq ?_
        refine c_region ?_
        refine w_p tok rfl rfl rfl ?_
        refine w_p tok rfl rfl rfl ?_
        obtain ⟨x7, ex7, H⟩ := H
        refine w_pe tok rfl (congrArg (fun z => (.int .i64 z : Value)) ex7) rfl rfl ?_
        refine w_end ?_
        exact x_join x7 H ⟨rfl, rfl, rfl, trivial⟩
    ·
      refine c_exit ?_
      refine x_te ?_
      refine x_te ?_
      refine x_bh ?_
      refine x_seq ?_
      refine c_weak [] trivial ?_
      refine c_seq ?_
      refine c_region ?_
      refine w_p tok rfl rfl rfl ?_
      refine w_end ?_
      refine x_seq ?_
      refine c_ret ?_
      exact x_ret _ rfl _ rfl ⟨true, rfl, H⟩

theorem law11_awake_ok : CallOk Go.Proofs.Tryd.prog 5 := ⟨_, Go.Proofs.Tryd.func5, by kernel_rfl, by kernel_rfl⟩
theorem law11_awake_ref (k : (Bool) → Heap → Prop) (h : Heap) (H : law11_awake k h) : CallsH Go.Proofs.Tryd.prog 5 #[] h (fun v h' => ∃ r : Bool, v = .bool r ∧ k r h') := by
  refine f_enter (N := 90) Go.Proofs.Tryd.func5 rfl rfl rfl (fun w0 => ?_)
  unfold law11_awake at H
  refine c_seq ?_
  refine c_region ?_
  refine w_p tok rfl rfl rfl ?_
  refine w_end ?_
  refine x_seq ?_
  refine c_seq ?_
  refine c_region ?_
  refine w_call disk_New_ok (disk_New_ref  _ _ H) rfl rfl rfl rfl ?_
  rintro _ h2 ⟨r1, rfl, H⟩
  refine w_p tok rfl rfl rfl ?_
  refine w_end ?_
  refine x_seq ?_
  refine c_seq ?_
  refine c_region ?_
  refine w_p tok rfl rfl rfl ?_
  refine w_call journal_Open_ok (journal_Open_ref _ _ _ H) rfl rfl rfl rfl ?_
  rintro _ h4 ⟨r3, rfl, H⟩
  refine w_p tok rfl rfl rfl ?_
  refine w_p tok rfl rfl rfl ?_
  refine w_p tok rfl rfl rfl ?_
  refine w_p tok rfl rfl rfl ?_
  refine w_p tok rfl rfl rfl ?_
  refine w_end ?_
  refine x_seq ?_
  refine c_weak [(1, .pointer r1), (2, .pointer r3.1), (3, .int .i64 r3.2)] ⟨rfl, rfl, rfl, trivial⟩ ?_
  refine c_seq ?_
  refine c_region ?_
  refine w_p tok rfl rfl rfl ?_
  obtain ⟨b5, h6, eb5, eh6, H⟩ := H
  refine w_h (h_bs tok rfl rfl rfl rfl rfl rfl rfl eb5 eh6) rfl rfl ?_
  obtain ⟨h7, eh7, H⟩ := H
  refine w_h (h_mark tok rfl rfl rfl rfl eb5 eh6 rfl eh7) rfl rfl ?_
  refine w_call journal_Store_Save_ok (journal_Store_Save_ref _ _ _ _ H) rfl rfl rfl rfl ?_
  rintro _ h9 ⟨r8, rfl, H⟩
  refine w_p tok rfl rfl rfl ?_
  obtain ⟨b10, h11, eb10, eh11, H⟩ := H
  refine w_h (h_bs tok rfl rfl rfl rfl rfl rfl rfl eb10 eh11) rfl rfl ?_
  obtain ⟨h12, eh12, H⟩ := H
  refine w_h (h_mark tok rfl rfl rfl rfl eb10 eh11 rfl eh12) rfl rfl ?_
  refine w_call journal_Store_Append_ok (journal_Store_Append_ref _ _ _ _ H) rfl rfl rfl rfl ?_
  rintro _ h14 ⟨r13, rfl, H⟩
  refine w_p tok rfl rfl rfl ?_
  obtain ⟨b15, h16, eb15, eh16, H⟩ := H
  refine w_h (h_bs tok rfl rfl rfl rfl rfl rfl rfl eb15 eh16) rfl rfl ?_
  obtain ⟨h17, eh17, H⟩ := H
  refine w_h (h_mark tok rfl rfl rfl rfl eb15 eh16 rfl eh17) rfl rfl ?_
  refine w_call journal_Store_Append_ok (journal_Store_Append_ref _ _ _ _ H) rfl rfl rfl rfl ?_
  rintro _ h19 ⟨r18, rfl, H⟩
  refine w_p tok rfl rfl rfl ?_
  refine w_p tok rfl rfl rfl ?_
  refine w_p tok rfl rfl rfl ?_
  refine w_end ?_
  refine x_seq ?_
  refine c_weak [(1, .pointer r1), (3, .int .i64 r3.2), (4, .int .i64 r8), (5, .int .i64 r13), (6, .int .i64 r18)] ⟨rfl, rfl, rfl, rfl, rfl, trivial⟩ ?_
  refine c_seq ?_
  refine c_region ?_
  refine w_p tok rfl rfl rfl ?_
  refine w_call disk_Disk_Boot_ok (disk_Disk_Boot_ref _ _ _ _ H) rfl rfl rfl rfl ?_
  rintro _ h21 ⟨r20, rfl, H⟩
  refine w_end ?_
  refine x_seq ?_
  refine c_seq ?_
  refine c_region ?_
  refine w_p tok rfl rfl rfl ?_
  refine w_call journal_Open_ok (journal_Open_ref _ _ _ H) rfl rfl rfl rfl ?_
  rintro _ h23 ⟨r22, rfl, H⟩
  refine w_p tok rfl rfl rfl ?_
  refine w_p tok rfl rfl rfl ?_
  refine w_p tok rfl rfl rfl ?_
  refine w_p tok rfl rfl rfl ?_
  refine w_p tok rfl rfl rfl ?_
  refine w_end ?_
  refine x_seq ?_
  refine c_weak [(3, .int .i64 r3.2), (4, .int .i64 r8), (5, .int .i64 r13), (6, .int .i64 r18), (7, .pointer r22.1)] ⟨rfl, rfl, rfl, rfl, rfl, trivial⟩ ?_
  refine c_seq ?_
  refine c_region ?_
  refine w_p tok rfl rfl rfl ?_
  refine w_call journal_Store_Recover_ok (journal_Store_Recover_ref _ _ _ H) rfl rfl rfl rfl ?_
  rintro _ h25 ⟨r24, rfl, H⟩
  refine w_p tok rfl rfl rfl ?_
  refine w_p tok rfl rfl rfl ?_
  refine w_p tok rfl rfl rfl ?_
  refine w_p tok rfl rfl rfl ?_
  refine w_p tok rfl rfl rfl ?_
  refine w_p tok rfl rfl rfl ?_
  refine w_p tok rfl rfl rfl ?_
  refine w_end ?_
  refine x_seq ?_
  refine c_seq ?_
  refine c_region ?_
  refine w_p tok rfl rfl rfl ?_
  refine w_p tok rfl rfl rfl ?_
  refine w_p tok rfl rfl rfl ?_
  refine w_cutU 3 [(48, .bool ((r3.2 == 0) && (r8 == 0))), (5, .int .i64 r13), (6, .int .i64 r18), (7, .pointer r22.1), (9, Slc.v r24.1), (10, Slc.v r24.2.1), (11, .int .i64 r24.2.2)] ?_ ?_
  ·
    refine w_p tok rfl rfl rfl ?_
    refine w_cutU 3 [(52, .bool (((r3.2 == 0) && (r8 == 0)) && (r13 == 0))), (6, .int .i64 r18), (7, .pointer r22.1), (9, Slc.v r24.1), (10, Slc.v r24.2.1), (11, .int .i64 r24.2.2)] ?_ ?_
    ·
      refine w_p tok rfl rfl rfl ?_
      refine w_cutU 3 [(56, .bool ((((r3.2 == 0) && (r8 == 0)) && (r13 == 0)) && (r18 == 0))), (7, .pointer r22.1), (9, Slc.v r24.1), (10, Slc.v r24.2.1), (11, .int .i64 r24.2.2)] ?_ ?_
      ·
        refine w_p tok rfl rfl rfl ?_
        refine w_cutU 3 [(60, .bool (((((r3.2 == 0) && (r8 == 0)) && (r13 == 0)) && (r18 == 0)) && (r24.2.2 == 0))), (7, .pointer r22.1), (9, Slc.v r24.1), (10, Slc.v r24.2.1)] ?_ ?_
        ·
          refine w_p tok rfl rfl rfl ?_
          refine w_cut 4 (α := Bool) (fun (s : Bool) => [(65, .bool s), (7, .pointer r22.1), (10, Slc.v r24.2.1)]) (fun (s : Bool) h => law11_awake_g1 r22.1 r24.2.1 s k h) ?_ ?_
          ·
            rintro t65_1 h_1 H
            replace H : law11_awake_g1 r22.1 r24.2.1 t65_1 k h_1 := H
            unfold law11_awake_g1 at H
            refine w_weak [(65, .bool t65_1), (7, .pointer r22.1), (10, Slc.v r24.2.1)] ⟨rfl, rfl, rfl, trivial⟩ ?_
            refine w_p tok rfl rfl rfl ?_
            refine w_cutU 4 [(70, .bool (t65_1 && ((r24.2.1.len : Int) == 2))), (7, .pointer r22.1), (10, Slc.v r24.2.1)] ?_ ?_
            ·
              refine w_p tok rfl rfl rfl ?_
              refine w_cut 6 (α := Bool) (fun (s : Bool) => [(77, .bool s), (7, .pointer r22.1), (10, Slc.v r24.2.1)]) (fun (s : Bool) h => law11_awake_g2 r22.1 r24.2.1 s k h) ?_ ?_
              ·
                rintro t77_2 h_2 H
                replace H : law11_awake_g2 r22.1 r24.2.1 t77_2 k h_2 := H
                unfold law11_awake_g2 at H
                refine w_weak [(77, .bool t77_2), (7, .pointer r22.1), (10, Slc.v r24.2.1)] ⟨rfl, rfl, rfl, trivial⟩ ?_
                refine w_p tok rfl rfl rfl ?_
                refine w_cut 6 (α := Bool) (fun (s : Bool) => [(84, .bool s), (7, .pointer r22.1)]) (fun (s : Bool) h => law11_awake_g3 r22.1 s k h) ?_ ?_
                ·
                  rintro t84_3 h_3 H
                  replace H : law11_awake_g3 r22.1 t84_3 k h_3 := H
                  unfold law11_awake_g3 at H
                  refine w_weak [(84, .bool t84_3), (7, .pointer r22.1)] ⟨rfl, rfl, trivial⟩ ?_
                  refine w_p tok rfl rfl rfl ?_
                  refine w_cut 4 (α := Bool) (fun (s : Bool) => [(89, .bool s)]) (fun (s : Bool) h => law11_awake_g4 s k h) ?_ ?_
                  ·
                    rintro t89_4 h_4 H
                    replace H : law11_awake_g4 t89_4 k h_4 := H
                    unfold law11_awake_g4 at H
                    refine w_weak [(89, .bool t89_4)] ⟨rfl, trivial⟩ ?_
                    refine w_p tok rfl rfl rfl ?_
                    refine w_end ?_
                    refine x_seq ?_
                    refine c_ret ?_
                    exact x_ret _ rfl _ rfl ⟨t89_4, rfl, H⟩
                  ·
                    refine w_gif (d := 85) H rfl (fun H => ?_) (fun H => ?_)
                    ·
                      refine w_p tok rfl rfl rfl ?_
                      refine w_call journal_Store_Append_ok (journal_Store_Append_ref _ _ _ _ H) rfl rfl rfl rfl ?_
                      rintro _ h27 ⟨r26, rfl, H⟩
                      refine w_p tok rfl rfl rfl ?_
                      refine w_p tok rfl rfl rfl ?_
                      exact w_jn (r26 == 13) H ⟨rfl, trivial⟩
                    ·
                      refine w_skip rfl rfl ?_
                      refine w_skip rfl rfl ?_
                      refine w_skip rfl rfl ?_
                      refine w_p tok rfl rfl rfl ?_
                      exact w_jn false H ⟨rfl, trivial⟩
                ·
                  refine w_gif (d := 78) H rfl (fun H => ?_) (fun H => ?_)
                  ·
                    refine w_p tok rfl rfl rfl ?_
                    obtain ⟨a28, ha28, la28, ua28, H⟩ := H
                    refine w_y (y_ixa' tok rfl rfl ha28 rfl rfl rfl la28 ua28) rfl rfl ?_
                    obtain ⟨v29, hv29, H⟩ := H
                    refine w_y (y_ld tok rfl rfl rfl rfl hv29) rfl rfl ?_
                    obtain ⟨l30, ll30, hl30, H⟩ := H
                    refine w_y (y_b2s (s := v29) (l := l30) tok rfl rfl rfl rfl rfl ll30 hl30) rfl rfl ?_
                    refine w_p tok rfl rfl rfl ?_
                    refine w_p tok rfl rfl rfl ?_
                    exact w_jn ((bsOf l30).toList == (⟨#[98]⟩ : ByteArray).toList) H ⟨rfl, rfl, trivial⟩
                  ·
                    refine w_skip rfl rfl ?_
                    refine w_skip rfl rfl ?_
                    refine w_skip rfl rfl ?_
                    refine w_skip rfl rfl ?_
                    refine w_skip rfl rfl ?_
                    refine w_p tok rfl rfl rfl ?_
                    exact w_jn false H ⟨rfl, rfl, trivial⟩
              ·
                refine w_gif (d := 71) H rfl (fun H => ?_) (fun H => ?_)
                ·
                  refine w_p tok rfl rfl rfl ?_
                  obtain ⟨a31, ha31, la31, ua31, H⟩ := H
                  refine w_y (y_ixa' tok rfl rfl ha31 rfl rfl rfl la31 ua31) rfl rfl ?_
                  obtain ⟨v32, hv32, H⟩ := H
                  refine w_y (y_ld tok rfl rfl rfl rfl hv32) rfl rfl ?_
                  obtain ⟨l33, ll33, hl33, H⟩ := H
                  refine w_y (y_b2s (s := v32) (l := l33) tok rfl rfl rfl rfl rfl ll33 hl33) rfl rfl ?_
                  refine w_p tok rfl rfl rfl ?_
                  refine w_p tok rfl rfl rfl ?_
                  exact w_jn ((bsOf l33).toList == (⟨#[97]⟩ : ByteArray).toList) H ⟨rfl, rfl, rfl, trivial⟩
                ·
                  refine w_skip rfl rfl ?_
                  refine w_skip rfl rfl ?_
                  refine w_skip rfl rfl ?_
                  refine w_skip rfl rfl ?_
                  refine w_skip rfl rfl ?_
                  refine w_p tok rfl rfl rfl ?_
                  exact w_jn false H ⟨rfl, rfl, rfl, trivial⟩
            ·
              refine w_gs (d := 66) rfl (fun hb => ?_) (fun hb => ?_)
              ·
                refine w_p tok rfl rfl rfl ?_
                refine w_p tok rfl rfl rfl ?_
                refine w_p tok rfl rfl rfl ?_
                refine w_p tok rfl rfl rfl ?_
                refine w_jn () rfl ⟨?_, rfl, rfl, trivial⟩
                exact congrArg (fun b => some (Value.bool b)) (and_t hb)
              ·
                refine w_skip rfl rfl ?_
                refine w_skip rfl rfl ?_
                refine w_skip rfl rfl ?_
                refine w_p tok rfl rfl rfl ?_
                refine w_jn () rfl ⟨?_, rfl, rfl, trivial⟩
                exact congrArg (fun b => some (Value.bool b)) (and_f hb)
          ·
            refine w_gif (d := 61) H rfl (fun H => ?_) (fun H => ?_)
            ·
              refine w_p tok rfl rfl rfl ?_
              obtain ⟨l34, ll34, hl34, H⟩ := H
              refine w_y (y_b2s (s := r24.1) (l := l34) tok rfl rfl rfl rfl rfl ll34 hl34) rfl rfl ?_
              refine w_p tok rfl rfl rfl ?_
              refine w_p tok rfl rfl rfl ?_
              exact w_jn ((bsOf l34).toList == (⟨#[105]⟩ : ByteArray).toList) H ⟨rfl, rfl, rfl, trivial⟩
            ·
              refine w_skip rfl rfl ?_
              refine w_skip rfl rfl ?_
              refine w_skip rfl rfl ?_
              refine w_p tok rfl rfl rfl ?_
              exact w_jn false H ⟨rfl, rfl, rfl, trivial⟩
        ·
          refine w_gs (d := 57) rfl (fun hb => ?_) (fun hb => ?_)
          ·
            refine w_p tok rfl rfl rfl ?_
            refine w_p tok rfl rfl rfl ?_
            refine w_p tok rfl rfl rfl ?_
            refine w_jn () rfl ⟨?_, rfl, rfl, rfl, trivial⟩
            exact congrArg (fun b => some (Value.bool b)) (and_t hb)
          ·
            refine w_skip rfl rfl ?_
            refine w_skip rfl rfl ?_
            refine w_p tok rfl rfl rfl ?_
            refine w_jn () rfl ⟨?_, rfl, rfl, rfl, trivial⟩
            exact congrArg (fun b => some (Value.bool b)) (and_f hb)
      ·
        refine w_gs (d := 53) rfl (fun hb => ?_) (fun hb => ?_)
        ·
          refine w_p tok rfl rfl rfl ?_
          refine w_p tok rfl rfl rfl ?_
          refine w_p tok rfl rfl rfl ?_
          refine w_jn () rfl ⟨?_, rfl, rfl, rfl, rfl, trivial⟩
          exact congrArg (fun b => some (Value.bool b)) (and_t hb)
        ·
          refine w_skip rfl rfl ?_
          refine w_skip rfl rfl ?_
          refine w_p tok rfl rfl rfl ?_
          refine w_jn () rfl ⟨?_, rfl, rfl, rfl, rfl, trivial⟩
          exact congrArg (fun b => some (Value.bool b)) (and_f hb)
    ·
      refine w_gs (d := 49) rfl (fun hb => ?_) (fun hb => ?_)
      ·
        refine w_p tok rfl rfl rfl ?_
        refine w_p tok rfl rfl rfl ?_
        refine w_p tok rfl rfl rfl ?_
        refine w_jn () rfl ⟨?_, rfl, rfl, rfl, rfl, rfl, trivial⟩
        exact congrArg (fun b => some (Value.bool b)) (and_t hb)
      ·
        refine w_skip rfl rfl ?_
        refine w_skip rfl rfl ?_
        refine w_p tok rfl rfl rfl ?_
        refine w_jn () rfl ⟨?_, rfl, rfl, rfl, rfl, rfl, trivial⟩
        exact congrArg (fun b => some (Value.bool b)) (and_f hb)
  ·
    refine w_gs (d := 45) rfl (fun hb => ?_) (fun hb => ?_)
    ·
      refine w_p tok rfl rfl rfl ?_
      refine w_p tok rfl rfl rfl ?_
      refine w_p tok rfl rfl rfl ?_
      refine w_jn () rfl ⟨?_, rfl, rfl, rfl, rfl, rfl, rfl, trivial⟩
      exact congrArg (fun b => some (Value.bool b)) (and_t hb)
    ·
      refine w_skip rfl rfl ?_
      refine w_skip rfl rfl ?_
      refine w_p tok rfl rfl rfl ?_
      refine w_jn () rfl ⟨?_, rfl, rfl, rfl, rfl, rfl, rfl, trivial⟩
      exact congrArg (fun b => some (Value.bool b)) (and_f hb)

theorem law11_JournalKeeps_ok : CallOk Go.Proofs.Tryd.prog 3 := ⟨_, Go.Proofs.Tryd.func3, by kernel_rfl, by kernel_rfl⟩
theorem law11_JournalKeeps_ref (p0 : Slc) (p1 : Slc) (p2 : Slc) (k : (Bool) → Heap → Prop) (h : Heap) (H : law11_JournalKeeps p0 p1 p2 k h) : CallsH Go.Proofs.Tryd.prog 3 #[Slc.v p0, Slc.v p1, Slc.v p2] h (fun v h' => ∃ r : Bool, v = .bool r ∧ k r h') := by
  refine f_enter (N := 205) Go.Proofs.Tryd.func3 rfl rfl rfl (fun w0 => ?_)
  unfold law11_JournalKeeps at H
  refine c_weak [(0, Slc.v p0), (1, Slc.v p1), (2, Slc.v p2)] ⟨rfl, rfl, rfl, trivial⟩ ?_
  refine c_seq ?_
  refine c_region ?_
  refine w_p tok rfl rfl rfl ?_
  refine w_end ?_
  refine x_seq ?_
  refine c_seq ?_
  refine c_seq ?_
  refine c_region ?_
  refine w_p tok rfl rfl rfl ?_
  refine w_p tok rfl rfl rfl ?_
  refine w_p tok rfl rfl rfl ?_
  refine w_p tok rfl rfl rfl ?_
  refine w_cutU 4 [(30, .bool ((decide ((p0.len : Int) > 6)) || (decide ((p1.len : Int) > 8)))), (0, Slc.v p0), (1, Slc.v p1), (2, Slc.v p2)] ?_ ?_
  ·
    refine w_p tok rfl rfl rfl ?_
    refine w_cutU 4 [(35, .bool (((decide ((p0.len : Int) > 6)) || (decide ((p1.len : Int) > 8))) || (decide ((p2.len : Int) > 20)))), (0, Slc.v p0), (1, Slc.v p1), (2, Slc.v p2)] ?_ ?_
    ·
      refine w_end ?_
      refine x_seq ?_
      refine c_if H rfl (fun H => ?_) (fun H => ?_)
      ·
        refine c_seq ?_
        refine c_region ?_
        refine w_call law11_awake_ok (law11_awake_ref  _ _ H) rfl rfl rfl rfl ?_
        rintro _ h2 ⟨r1, rfl, H⟩
        refine w_p tok rfl rfl rfl ?_
        refine w_end ?_
        refine x_seq ?_
        refine c_ret ?_
        refine x_tr ?_
        exact x_ret _ rfl _ rfl ⟨r1, rfl, H⟩
      ·
        refine c_skip ?_
        refine x_seq ?_
        refine c_seq ?_
        refine c_region ?_
        refine w_call disk_New_ok (disk_New_ref  _ _ H) rfl rfl rfl rfl ?_
        rintro _ h4 ⟨r3, rfl, H⟩
        refine w_p tok rfl rfl rfl ?_
        refine w_end ?_
        refine x_seq ?_
        refine c_seq ?_
        refine c_region ?_
        refine w_p tok rfl rfl rfl ?_
        refine w_end ?_
        refine x_seq ?_
        refine c_seq ?_
        refine c_region ?_
        refine w_p tok rfl rfl rfl ?_
        refine w_end ?_
        refine x_seq ?_
        refine c_seq ?_
        refine c_seq ?_
        refine c_region ?_
        refine w_p tok rfl rfl rfl ?_
        refine w_end ?_
        refine x_seq ?_
        refine c_block ?_
        obtain ⟨I1, μ1, H0, HI⟩ := H
        refine c_loop (σ := Slc × Bool × Int) (fun (s : Slc × Bool × Int) => [(8, Slc.v s.1), (9, .bool s.2.1), (10, .int .i64 s.2.2), (0, Slc.v p0), (1, Slc.v p1), (2, Slc.v p2), (7, .pointer r3)]) I1 μ1 ((⟨none, 0, 0⟩ : Slc), false, 0) H0 ⟨rfl, rfl, rfl, rfl, rfl, rfl, rfl, trivial⟩ ?_
        rintro ⟨t8_1, t9_1, t10_1⟩ h_1 H
        replace H := HI t8_1 t9_1 t10_1 h_1 H
        unfold law11_JournalKeeps_l1b at H
        refine c_weak [(8, Slc.v t8_1), (9, .bool t9_1), (10, .int .i64 t10_1), (0, Slc.v p0), (1, Slc.v p1), (2, Slc.v p2), (7, .pointer r3)] ⟨rfl, rfl, rfl, rfl, rfl, rfl, rfl, trivial⟩ ?_
        refine c_seq ?_
        refine c_seq ?_
        refine c_region ?_
        refine w_p tok rfl rfl rfl ?_
        refine w_p tok rfl rfl rfl ?_
        refine w_p tok rfl rfl rfl ?_
        refine w_p tok rfl rfl rfl ?_
        refine w_end ?_
        refine x_seq ?_
        refine c_if H rfl (fun H => ?_) (fun H => ?_)
        ·
          refine c_skip ?_
          refine x_seq ?_
          refine c_seqJ (α := Slc × Bool) (fun (s : Slc × Bool) => [(8, Slc.v s.1), (9, .bool s.2), (0, Slc.v p0), (1, Slc.v p1), (2, Slc.v p2), (7, .pointer r3), (10, .int .i64 t10_1)]) (fun (s : Slc × Bool) h => law11_JournalKeeps_j2 p0 p1 p2 r3 t10_1 s.1 s.2 k (fun s h' => I1 s h' ∧ μ1 s h' < μ1 (t8_1, t9_1, t10_1) h_1) h) ?_ ?_
          ·
            rintro ⟨t8_2, t9_2⟩ h_2 H
            replace H : law11_JournalKeeps_j2 p0 p1 p2 r3 t10_1 t8_2 t9_2 k (fun s h' => I1 s h' ∧ μ1 s h' < μ1 (t8_1, t9_1, t10_1) h_1) h_2 := H
            unfold law11_JournalKeeps_j2 at H
            refine c_weak [(8, Slc.v t8_2), (9, .bool t9_2), (0, Slc.v p0), (1, Slc.v p1), (2, Slc.v p2), (7, .pointer r3), (10, .int .i64 t10_1)] ⟨rfl, rfl, rfl, rfl, rfl, rfl, rfl, trivial⟩ ?_
            refine c_region ?_
            refine w_p tok rfl rfl rfl ?_
            refine w_p tok rfl rfl rfl ?_
            obtain ⟨x5, ex5, H⟩ := H
            refine w_pe tok rfl (congrArg (fun z => (.int .i64 z : Value)) ex5) rfl rfl ?_
            refine w_end ?_
            exact x_join (t8_2, t9_2, x5) H ⟨rfl, rfl, rfl, rfl, rfl, rfl, rfl, trivial⟩
          ·
            refine c_block ?_
            refine c_seq ?_
            refine c_region ?_
            refine w_p tok rfl rfl rfl ?_
            refine w_p tok rfl rfl rfl ?_
            obtain ⟨a6, ha6, la6, ua6, H⟩ := H
            refine w_y (y_ixa' tok rfl rfl ha6 rfl rfl rfl la6 ua6) rfl rfl ?_
            obtain ⟨v7, hv7, H⟩ := H
            refine w_y (y_ld tok rfl rfl rfl rfl hv7) rfl rfl ?_
            refine w_p tok rfl rfl rfl ?_
            refine w_end ?_
            refine x_seq ?_
            refine c_weak [(8, Slc.v t8_1), (9, .bool t9_1), (10, .int .i64 t10_1), (0, Slc.v p0), (1, Slc.v p1), (2, Slc.v p2), (7, .pointer r3), (11, Slc.v v7)] ⟨rfl, rfl, rfl, rfl, rfl, rfl, rfl, rfl, trivial⟩ ?_
            refine c_seq ?_
            refine c_seq ?_
            refine c_region ?_
            refine w_p tok rfl rfl rfl ?_
            refine w_p tok rfl rfl rfl ?_
            refine w_p tok rfl rfl rfl ?_
            refine w_end ?_
            refine x_seq ?_
            refine c_if H rfl (fun H => ?_) (fun H => ?_)
            ·
              refine c_seq ?_
              refine c_region ?_
              refine w_call law11_awake_ok (law11_awake_ref  _ _ H) rfl rfl rfl rfl ?_
              rintro _ h9 ⟨r8, rfl, H⟩
              refine w_p tok rfl rfl rfl ?_
              refine w_end ?_
              refine x_seq ?_
              refine c_weak [(6, .bool r8)] ⟨rfl, trivial⟩ ?_
              refine c_ret ?_
              refine x_tr ?_
              refine x_br ?_
              refine x_tr ?_
              refine x_tr ?_
              refine x_br ?_
              refine x_tr ?_
              exact x_ret _ rfl _ rfl ⟨r8, rfl, H⟩
            ·
              refine c_skip ?_
              refine x_seq ?_
              refine c_seq ?_
              refine c_region ?_
              refine w_p tok rfl rfl rfl ?_
              refine w_call journal_Open_ok (journal_Open_ref _ _ _ H) rfl rfl rfl rfl ?_
              rintro _ h11 ⟨r10, rfl, H⟩
              refine w_p tok rfl rfl rfl ?_
              refine w_p tok rfl rfl rfl ?_
              refine w_p tok rfl rfl rfl ?_
              refine w_p tok rfl rfl rfl ?_
              refine w_p tok rfl rfl rfl ?_
              refine w_end ?_
              refine x_seq ?_
              refine c_weak [(8, Slc.v t8_1), (9, .bool t9_1), (10, .int .i64 t10_1), (0, Slc.v p0), (1, Slc.v p1), (2, Slc.v p2), (7, .pointer r3), (11, Slc.v v7), (12, .pointer r10.1), (13, .int .i64 r10.2)] ⟨rfl, rfl, rfl, rfl, rfl, rfl, rfl, rfl, rfl, rfl, trivial⟩ ?_
              refine c_seq ?_
              refine c_region ?_
              refine w_p tok rfl rfl rfl ?_
              refine w_p tok rfl rfl rfl ?_
              obtain ⟨b12, h13, eb12, eh13, H⟩ := H
              refine w_h (h_bs tok rfl rfl rfl rfl rfl rfl rfl eb12 eh13) rfl rfl ?_
              refine w_p tok rfl rfl rfl ?_
              refine w_p tok rfl rfl rfl ?_
              refine w_p tok rfl rfl rfl ?_
              obtain ⟨b14, h15, eb14, eh15, H⟩ := H
              refine w_h (h_bs tok rfl rfl rfl rfl rfl rfl rfl eb14 eh15) rfl rfl ?_
              refine w_a (a_app (s := (⟨some ⟨b12, 0, none⟩, 1, 1⟩ : Slc)) (r := (⟨some ⟨b14, 0, none⟩, 1, 1⟩ : Slc)) tok rfl rfl rfl rfl rfl (slcAt_push eb14 eh15) H) rfl rfl ?_
              rintro _ h17 ⟨s16, rfl, H⟩
              refine w_p tok rfl rfl rfl ?_
              refine w_end ?_
              refine x_seq ?_
              refine c_weak [(8, Slc.v t8_1), (9, .bool t9_1), (10, .int .i64 t10_1), (0, Slc.v p0), (1, Slc.v p1), (2, Slc.v p2), (7, .pointer r3), (11, Slc.v v7), (12, .pointer r10.1), (13, .int .i64 r10.2), (14, Slc.v s16)] ⟨rfl, rfl, rfl, rfl, rfl, rfl, rfl, rfl, rfl, rfl, rfl, trivial⟩ ?_
              refine c_seqJ (α := Unit) (fun (s : Unit) => [(0, Slc.v p0), (1, Slc.v p1), (2, Slc.v p2), (7, .pointer r3), (8, Slc.v t8_1), (9, .bool t9_1), (10, .int .i64 t10_1), (11, Slc.v v7), (12, .pointer r10.1), (13, .int .i64 r10.2), (14, Slc.v s16)]) (fun (s : Unit) h => law11_JournalKeeps_j3 p0 p1 p2 r3 t8_1 t9_1 t10_1 v7 r10.1 r10.2 s16 k (fun s h' => I1 s h' ∧ μ1 s h' < μ1 (t8_1, t9_1, t10_1) h_1) h) ?_ ?_
              ·
                rintro _ h_3 H
                replace H : law11_JournalKeeps_j3 p0 p1 p2 r3 t8_1 t9_1 t10_1 v7 r10.1 r10.2 s16 k (fun s h' => I1 s h' ∧ μ1 s h' < μ1 (t8_1, t9_1, t10_1) h_1) h_3 := H
                unfold law11_JournalKeeps_j3 at H
                refine c_weak [(0, Slc.v p0), (1, Slc.v p1), (2, Slc.v p2), (7, .pointer r3), (8, Slc.v t8_1), (9, .bool t9_1), (10, .int .i64 t10_1), (11, Slc.v v7), (12, .pointer r10.1), (13, .int .i64 r10.2), (14, Slc.v s16)] ⟨rfl, rfl, rfl, rfl, rfl, rfl, rfl, rfl, rfl, rfl, rfl, trivial⟩ ?_
                refine c_seq ?_
                refine c_region ?_
                refine w_p tok rfl rfl rfl ?_
                refine w_p tok rfl rfl rfl ?_
                refine w_call journal_Store_Save_ok (journal_Store_Save_ref _ _ _ _ H) rfl rfl rfl rfl ?_
                rintro _ h19 ⟨r18, rfl, H⟩
                refine w_p tok rfl rfl rfl ?_
                refine w_end ?_
                refine x_seq ?_
                refine c_seq ?_
                refine c_region ?_
                refine w_p tok rfl rfl rfl ?_
                refine w_end ?_
                refine x_seq ?_
                refine c_seqJ (α := Int) (fun (s : Int) => [(16, .int .i64 s), (0, Slc.v p0), (1, Slc.v p1), (2, Slc.v p2), (7, .pointer r3), (8, Slc.v t8_1), (9, .bool t9_1), (10, .int .i64 t10_1), (11, Slc.v v7), (13, .int .i64 r10.2), (14, Slc.v s16), (15, .int .i64 r18)]) (fun (s : Int) h => law11_JournalKeeps_j4 p0 p1 p2 r3 t8_1 t9_1 t10_1 v7 r10.2 s16 r18 s k (fun s h' => I1 s h' ∧ μ1 s h' < μ1 (t8_1, t9_1, t10_1) h_1) h) ?_ ?_
                ·
                  rintro t16_4 h_4 H
                  replace H : law11_JournalKeeps_j4 p0 p1 p2 r3 t8_1 t9_1 t10_1 v7 r10.2 s16 r18 t16_4 k (fun s h' => I1 s h' ∧ μ1 s h' < μ1 (t8_1, t9_1, t10_1) h_1) h_4 := H
                  unfold law11_JournalKeeps_j4 at H
                  refine c_weak [(16, .int .i64 t16_4), (0, Slc.v p0), (1, Slc.v p1), (2, Slc.v p2), (7, .pointer r3), (8, Slc.v t8_1), (9, .bool t9_1), (10, .int .i64 t10_1), (11, Slc.v v7), (13, .int .i64 r10.2), (14, Slc.v s16), (15, .int .i64 r18)] ⟨rfl, rfl, rfl, rfl, rfl, rfl, rfl, rfl, rfl, rfl, rfl, rfl, trivial⟩ ?_
                  refine c_seq ?_
                  refine c_seq ?_
                  refine c_region ?_
                  refine w_p tok rfl rfl rfl ?_
                  refine w_p tok rfl rfl rfl ?_
                  refine w_p tok rfl rfl rfl ?_
                  refine w_cut 8 (α := Bool) (fun (s : Bool) => [(116, .bool s), (0, Slc.v p0), (1, Slc.v p1), (2, Slc.v p2), (7, .pointer r3), (8, Slc.v t8_1), (9, .bool t9_1), (10, .int .i64 t10_1), (11, Slc.v v7), (14, Slc.v s16), (15, .int .i64 r18), (16, .int .i64 t16_4)]) (fun (s : Bool) h => law11_JournalKeeps_g5 p0 p1 p2 r3 t8_1 t9_1 t10_1 v7 s16 r18 t16_4 s k (fun s h' => I1 s h' ∧ μ1 s h' < μ1 (t8_1, t9_1, t10_1) h_1) h) ?_ ?_
                  ·
                    rintro t116_5 h_5 H
                    replace H : law11_JournalKeeps_g5 p0 p1 p2 r3 t8_1 t9_1 t10_1 v7 s16 r18 t16_4 t116_5 k (fun s h' => I1 s h' ∧ μ1 s h' < μ1 (t8_1, t9_1, t10_1) h_1) h_5 := H
                    unfold law11_JournalKeeps_g5 at H
                    refine w_weak [(116, .bool t116_5), (0, Slc.v p0), (1, Slc.v p1), (2, Slc.v p2), (7, .pointer r3), (8, Slc.v t8_1), (9, .bool t9_1), (10, .int .i64 t10_1), (11, Slc.v v7), (14, Slc.v s16), (15, .int .i64 r18), (16, .int .i64 t16_4)] ⟨rfl, rfl, rfl, rfl, rfl, rfl, rfl, rfl, rfl, rfl, rfl, rfl, trivial⟩ ?_
                    refine w_p tok rfl rfl rfl ?_
                    refine w_cut 14 (α := Bool) (fun (s : Bool) => [(131, .bool s), (0, Slc.v p0), (1, Slc.v p1), (2, Slc.v p2), (7, .pointer r3), (8, Slc.v t8_1), (9, .bool t9_1), (10, .int .i64 t10_1), (11, Slc.v v7), (14, Slc.v s16), (15, .int .i64 r18), (16, .int .i64 t16_4)]) (fun (s : Bool) h => law11_JournalKeeps_g6 p0 p1 p2 r3 t8_1 t9_1 t10_1 v7 s16 r18 t16_4 s k (fun s h' => I1 s h' ∧ μ1 s h' < μ1 (t8_1, t9_1, t10_1) h_1) h) ?_ ?_
                    ·
                      rintro t131_6 h_6 H
                      replace H : law11_JournalKeeps_g6 p0 p1 p2 r3 t8_1 t9_1 t10_1 v7 s16 r18 t16_4 t131_6 k (fun s h' => I1 s h' ∧ μ1 s h' < μ1 (t8_1, t9_1, t10_1) h_1) h_6 := H
                      unfold law11_JournalKeeps_g6 at H
                      refine w_weak [(131, .bool t131_6), (0, Slc.v p0), (1, Slc.v p1), (2, Slc.v p2), (7, .pointer r3), (8, Slc.v t8_1), (9, .bool t9_1), (10, .int .i64 t10_1), (11, Slc.v v7), (14, Slc.v s16), (15, .int .i64 r18), (16, .int .i64 t16_4)] ⟨rfl, rfl, rfl, rfl, rfl, rfl, rfl, rfl, rfl, rfl, rfl, rfl, trivial⟩ ?_
                      refine w_end ?_
                      refine x_seq ?_
                      refine c_if H rfl (fun H => ?_) (fun H => ?_)
                      ·
                        refine c_seq ?_
                        refine c_region ?_
                        refine w_p tok rfl rfl rfl ?_
                        refine w_end ?_
                        refine x_seq ?_
                        refine c_weak [(6, .bool false)] ⟨rfl, trivial⟩ ?_
                        refine c_ret ?_
                        refine x_tr ?_
                        refine x_br ?_
                        refine x_tr ?_
                        refine x_tr ?_
                        refine x_br ?_
                        refine x_tr ?_
                        exact x_ret _ rfl _ rfl ⟨false, rfl, H⟩
                      ·
                        refine c_skip ?_
                        refine x_seq ?_
                        refine c_seq ?_
                        refine c_region ?_
                        refine w_p tok rfl rfl rfl ?_
                        refine w_p tok rfl rfl rfl ?_
                        refine w_call disk_Disk_Boot_ok (disk_Disk_Boot_ref _ _ _ _ H) rfl rfl rfl rfl ?_
                        rintro _ h21 ⟨r20, rfl, H⟩
                        refine w_end ?_
                        refine x_seq ?_
                        refine c_seq ?_
                        refine c_region ?_
                        refine w_p tok rfl rfl rfl ?_
                        refine w_call journal_Open_ok (journal_Open_ref _ _ _ H) rfl rfl rfl rfl ?_
                        rintro _ h23 ⟨r22, rfl, H⟩
                        refine w_p tok rfl rfl rfl ?_
                        refine w_p tok rfl rfl rfl ?_
                        refine w_p tok rfl rfl rfl ?_
                        refine w_p tok rfl rfl rfl ?_
                        refine w_p tok rfl rfl rfl ?_
                        refine w_end ?_
                        refine x_seq ?_
                        refine c_weak [(0, Slc.v p0), (1, Slc.v p1), (2, Slc.v p2), (7, .pointer r3), (8, Slc.v t8_1), (9, .bool t9_1), (10, .int .i64 t10_1), (11, Slc.v v7), (14, Slc.v s16), (15, .int .i64 r18), (16, .int .i64 t16_4), (18, .pointer r22.1)] ⟨rfl, rfl, rfl, rfl, rfl, rfl, rfl, rfl, rfl, rfl, rfl, rfl, trivial⟩ ?_
                        refine c_seq ?_
                        refine c_region ?_
                        refine w_p tok rfl rfl rfl ?_
                        refine w_call journal_Store_Recover_ok (journal_Store_Recover_ref _ _ _ H) rfl rfl rfl rfl ?_
                        rintro _ h25 ⟨r24, rfl, H⟩
                        refine w_p tok rfl rfl rfl ?_
                        refine w_p tok rfl rfl rfl ?_
                        refine w_p tok rfl rfl rfl ?_
                        refine w_p tok rfl rfl rfl ?_
                        refine w_p tok rfl rfl rfl ?_
                        refine w_p tok rfl rfl rfl ?_
                        refine w_p tok rfl rfl rfl ?_
                        refine w_end ?_
                        refine x_seq ?_
                        refine c_weak [(0, Slc.v p0), (1, Slc.v p1), (2, Slc.v p2), (7, .pointer r3), (8, Slc.v t8_1), (9, .bool t9_1), (10, .int .i64 t10_1), (11, Slc.v v7), (14, Slc.v s16), (15, .int .i64 r18), (16, .int .i64 t16_4), (20, Slc.v r24.1), (21, Slc.v r24.2.1), (22, .int .i64 r24.2.2)] ⟨rfl, rfl, rfl, rfl, rfl, rfl, rfl, rfl, rfl, rfl, rfl, rfl, rfl, rfl, trivial⟩ ?_
                        refine c_seq ?_
                        refine c_seq ?_
                        refine c_region ?_
                        refine w_p tok rfl rfl rfl ?_
                        refine w_p tok rfl rfl rfl ?_
                        refine w_p tok rfl rfl rfl ?_
                        refine w_cut 4 (α := Bool) (fun (s : Bool) => [(152, .bool s), (0, Slc.v p0), (1, Slc.v p1), (2, Slc.v p2), (7, .pointer r3), (8, Slc.v t8_1), (9, .bool t9_1), (10, .int .i64 t10_1), (11, Slc.v v7), (14, Slc.v s16), (15, .int .i64 r18), (16, .int .i64 t16_4), (20, Slc.v r24.1), (21, Slc.v r24.2.1), (22, .int .i64 r24.2.2)]) (fun (s : Bool) h => law11_JournalKeeps_g7 p0 p1 p2 r3 t8_1 t9_1 t10_1 v7 s16 r18 t16_4 r24.1 r24.2.1 r24.2.2 s k (fun s h' => I1 s h' ∧ μ1 s h' < μ1 (t8_1, t9_1, t10_1) h_1) h) ?_ ?_
                        ·
                          rintro t152_7 h_7 H
                          replace H : law11_JournalKeeps_g7 p0 p1 p2 r3 t8_1 t9_1 t10_1 v7 s16 r18 t16_4 r24.1 r24.2.1 r24.2.2 t152_7 k (fun s h' => I1 s h' ∧ μ1 s h' < μ1 (t8_1, t9_1, t10_1) h_1) h_7 := H
                          unfold law11_JournalKeeps_g7 at H
                          refine w_weak [(152, .bool t152_7), (0, Slc.v p0), (1, Slc.v p1), (2, Slc.v p2), (7, .pointer r3), (8, Slc.v t8_1), (9, .bool t9_1), (10, .int .i64 t10_1), (11, Slc.v v7), (14, Slc.v s16), (15, .int .i64 r18), (16, .int .i64 t16_4), (20, Slc.v r24.1), (21, Slc.v r24.2.1), (22, .int .i64 r24.2.2)] ⟨rfl, rfl, rfl, rfl, rfl, rfl, rfl, rfl, rfl, rfl, rfl, rfl, rfl, rfl, rfl, trivial⟩ ?_
                          refine w_end ?_
                          refine x_seq ?_
                          refine c_if H rfl (fun H => ?_) (fun H => ?_)
                          ·
                            refine c_seq ?_
                            refine c_seq ?_
                            refine c_region ?_
                            refine w_p tok rfl rfl rfl ?_
                            refine w_p tok rfl rfl rfl ?_
                            refine w_p tok rfl rfl rfl ?_
                            refine w_p tok rfl rfl rfl ?_
                            refine w_p tok rfl rfl rfl ?_
                            refine w_cutU 6 [(163, .bool ((decide ((r24.2.1.len : Int) < t16_4)) || (decide ((r24.2.1.len : Int) > (IntKind.i64.wrap (t16_4 + 1)))))), (0, Slc.v p0), (1, Slc.v p1), (2, Slc.v p2), (7, .pointer r3), (10, .int .i64 t10_1), (11, Slc.v v7), (14, Slc.v s16), (21, Slc.v r24.2.1)] ?_ ?_
                            ·
                              refine w_p tok rfl rfl rfl ?_
                              refine w_cutU 6 [(170, .bool (((decide ((r24.2.1.len : Int) < t16_4)) || (decide ((r24.2.1.len : Int) > (IntKind.i64.wrap (t16_4 + 1))))) || (decide ((r24.2.1.len : Int) > (v7.len : Int))))), (0, Slc.v p0), (1, Slc.v p1), (2, Slc.v p2), (7, .pointer r3), (10, .int .i64 t10_1), (11, Slc.v v7), (14, Slc.v s16), (21, Slc.v r24.2.1)] ?_ ?_
                              ·
                                refine w_p tok rfl rfl rfl ?_
                                refine w_cut 8 (α := Bool) (fun (s : Bool) => [(179, .bool s), (0, Slc.v p0), (1, Slc.v p1), (2, Slc.v p2), (7, .pointer r3), (10, .int .i64 t10_1), (14, Slc.v s16)]) (fun (s : Bool) h => law11_JournalKeeps_g8 p0 p1 p2 r3 t10_1 s16 s k (fun s h' => I1 s h' ∧ μ1 s h' < μ1 (t8_1, t9_1, t10_1) h_1) h) ?_ ?_
                                ·
                                  rintro t179_8 h_8 H
                                  replace H : law11_JournalKeeps_g8 p0 p1 p2 r3 t10_1 s16 t179_8 k (fun s h' => I1 s h' ∧ μ1 s h' < μ1 (t8_1, t9_1, t10_1) h_1) h_8 := H
                                  unfold law11_JournalKeeps_g8 at H
                                  refine w_weak [(179, .bool t179_8), (0, Slc.v p0), (1, Slc.v p1), (2, Slc.v p2), (7, .pointer r3), (10, .int .i64 t10_1), (14, Slc.v s16)] ⟨rfl, rfl, rfl, rfl, rfl, rfl, rfl, trivial⟩ ?_
                                  refine w_end ?_
                                  refine x_seq ?_
                                  refine c_if H rfl (fun H => ?_) (fun H => ?_)
                                  ·
                                    refine c_seq ?_
                                    refine c_region ?_
                                    refine w_p tok rfl rfl rfl ?_
                                    refine w_end ?_
                                    refine x_seq ?_
                                    refine c_weak [(6, .bool false)] ⟨rfl, trivial⟩ ?_
                                    refine c_ret ?_
                                    refine x_tr ?_
                                    refine x_tr ?_
                                    refine x_br ?_
                                    refine x_tr ?_
                                    refine x_tr ?_
                                    refine x_br ?_
                                    refine x_tr ?_
                                    exact x_ret _ rfl _ rfl ⟨false, rfl, H⟩
                                  ·
                                    refine c_skip ?_
                                    refine x_seq ?_
                                    refine c_seq ?_
                                    refine c_region ?_
                                    refine w_p tok rfl rfl rfl ?_
                                    refine w_p tok rfl rfl rfl ?_
                                    refine w_end ?_
                                    refine x_seq ?_
                                    refine c_seq ?_
                                    refine c_region ?_
                                    refine w_p tok rfl rfl rfl ?_
                                    refine w_end ?_
                                    refine x_seq ?_
                                    refine c_exit ?_
                                    refine x_te ?_
                                    refine x_bh ?_
                                    exact x_join (s16, true) H ⟨rfl, rfl, rfl, rfl, rfl, rfl, rfl, trivial⟩
                                ·
                                  refine w_gif (d := 171) H rfl (fun H => ?_) (fun H => ?_)
                                  ·
                                    refine w_skip rfl rfl ?_
                                    refine w_skip rfl rfl ?_
                                    refine w_skip rfl rfl ?_
                                    refine w_skip rfl rfl ?_
                                    refine w_skip rfl rfl ?_
                                    refine w_skip rfl rfl ?_
                                    refine w_skip rfl rfl ?_
                                    refine w_p tok rfl rfl rfl ?_
                                    exact w_jn true H ⟨rfl, rfl, rfl, rfl, rfl, rfl, rfl, trivial⟩
                                  ·
                                    refine w_p tok rfl rfl rfl ?_
                                    refine w_p tok rfl rfl rfl ?_
                                    refine w_p tok rfl rfl rfl ?_
                                    refine w_p tok rfl rfl rfl ?_
                                    obtain ⟨s26, ps26, qs26, rs26, ts26, es26, H⟩ := H
                                    refine w_ye (y_sl (s := v7) (L := 0) (H := (r24.2.1.len : Int)) (M := (v7.cap : Int)) tok rfl rfl rfl rfl rfl rfl rfl (by simp) ps26 qs26 rs26 ts26) (congrArg Slc.v es26) rfl rfl ?_
                                    refine w_call ref11_SameRows_ok (ref11_SameRows_ref _ _ _ _ H) rfl rfl rfl rfl ?_
                                    rintro _ h28 ⟨r27, rfl, H⟩
                                    refine w_p tok rfl rfl rfl ?_
                                    refine w_p tok rfl rfl rfl ?_
                                    exact w_jn (!r27) H ⟨rfl, rfl, rfl, rfl, rfl, rfl, rfl, trivial⟩
                              ·
                                refine w_gs (d := 164) rfl (fun hb => ?_) (fun hb => ?_)
                                ·
                                  refine w_skip rfl rfl ?_
                                  refine w_skip rfl rfl ?_
                                  refine w_skip rfl rfl ?_
                                  refine w_skip rfl rfl ?_
                                  refine w_skip rfl rfl ?_
                                  refine w_p tok rfl rfl rfl ?_
                                  refine w_jn () rfl ⟨?_, rfl, rfl, rfl, rfl, rfl, rfl, rfl, rfl, trivial⟩
                                  exact congrArg (fun b => some (Value.bool b)) (or_t hb)
                                ·
                                  refine w_p tok rfl rfl rfl ?_
                                  refine w_p tok rfl rfl rfl ?_
                                  refine w_p tok rfl rfl rfl ?_
                                  refine w_p tok rfl rfl rfl ?_
                                  refine w_p tok rfl rfl rfl ?_
                                  refine w_p tok rfl rfl rfl ?_
                                  refine w_jn () rfl ⟨?_, rfl, rfl, rfl, rfl, rfl, rfl, rfl, rfl, trivial⟩
                                  exact congrArg (fun b => some (Value.bool b)) (or_f hb)
                            ·
                              refine w_gs (d := 157) rfl (fun hb => ?_) (fun hb => ?_)
                              ·
                                refine w_skip rfl rfl ?_
                                refine w_skip rfl rfl ?_
                                refine w_skip rfl rfl ?_
                                refine w_skip rfl rfl ?_
                                refine w_skip rfl rfl ?_
                                refine w_p tok rfl rfl rfl ?_
                                refine w_jn () rfl ⟨?_, rfl, rfl, rfl, rfl, rfl, rfl, rfl, rfl, trivial⟩
                                exact congrArg (fun b => some (Value.bool b)) (or_t hb)
                              ·
                                refine w_p tok rfl rfl rfl ?_
                                refine w_p tok rfl rfl rfl ?_
                                refine w_p tok rfl rfl rfl ?_
                                refine w_p tok rfl rfl rfl ?_
                                refine w_p tok rfl rfl rfl ?_
                                refine w_p tok rfl rfl rfl ?_
                                refine w_jn () rfl ⟨?_, rfl, rfl, rfl, rfl, rfl, rfl, rfl, rfl, trivial⟩
                                exact congrArg (fun b => some (Value.bool b)) (or_f hb)
                          ·
                            refine c_skip ?_
                            refine x_seq ?_
                            refine c_seq ?_
                            refine c_region ?_
                            refine w_p tok rfl rfl rfl ?_
                            refine w_p tok rfl rfl rfl ?_
                            refine w_p tok rfl rfl rfl ?_
                            refine w_cutU 7 [(190, .bool ((r18 == 0) || ((!t9_1) && (r24.2.2 != 6)))), (0, Slc.v p0), (1, Slc.v p1), (2, Slc.v p2), (7, .pointer r3), (8, Slc.v t8_1), (9, .bool t9_1), (10, .int .i64 t10_1), (20, Slc.v r24.1), (22, .int .i64 r24.2.2)] ?_ ?_
                            ·
                              refine w_p tok rfl rfl rfl ?_
                              refine w_cut 12 (α := Bool) (fun (s : Bool) => [(203, .bool s), (0, Slc.v p0), (1, Slc.v p1), (2, Slc.v p2), (7, .pointer r3), (8, Slc.v t8_1), (9, .bool t9_1), (10, .int .i64 t10_1)]) (fun (s : Bool) h => law11_JournalKeeps_g9 p0 p1 p2 r3 t8_1 t9_1 t10_1 s k (fun s h' => I1 s h' ∧ μ1 s h' < μ1 (t8_1, t9_1, t10_1) h_1) h) ?_ ?_
                              ·
                                rintro t203_9 h_9 H
                                replace H : law11_JournalKeeps_g9 p0 p1 p2 r3 t8_1 t9_1 t10_1 t203_9 k (fun s h' => I1 s h' ∧ μ1 s h' < μ1 (t8_1, t9_1, t10_1) h_1) h_9 := H
                                unfold law11_JournalKeeps_g9 at H
                                refine w_weak [(203, .bool t203_9), (0, Slc.v p0), (1, Slc.v p1), (2, Slc.v p2), (7, .pointer r3), (8, Slc.v t8_1), (9, .bool t9_1), (10, .int .i64 t10_1)] ⟨rfl, rfl, rfl, rfl, rfl, rfl, rfl, rfl, trivial⟩ ?_
                                refine w_end ?_
                                refine x_seq ?_
                                refine c_if H rfl (fun H => ?_) (fun H => ?_)
                                ·
                                  refine c_seq ?_
                                  refine c_region ?_
                                  refine w_p tok rfl rfl rfl ?_
                                  refine w_end ?_
                                  refine x_seq ?_
                                  refine c_weak [(6, .bool false)] ⟨rfl, trivial⟩ ?_
                                  refine c_ret ?_
                                  refine x_br ?_
                                  refine x_tr ?_
                                  refine x_tr ?_
                                  refine x_br ?_
                                  refine x_tr ?_
                                  exact x_ret _ rfl _ rfl ⟨false, rfl, H⟩
                                ·
                                  refine c_skip ?_
                                  refine x_blk ?_
                                  exact x_join (t8_1, t9_1) H ⟨rfl, rfl, rfl, rfl, rfl, rfl, rfl, trivial⟩
                              ·
                                refine w_gif (d := 191) H rfl (fun H => ?_) (fun H => ?_)
                                ·
                                  refine w_skip rfl rfl ?_
                                  refine w_skip rfl rfl ?_
                                  refine w_skip rfl rfl ?_
                                  refine w_skip rfl rfl ?_
                                  refine w_skip rfl rfl ?_
                                  refine w_skip rfl rfl ?_
                                  refine w_skip rfl rfl ?_
                                  refine w_skip rfl rfl ?_
                                  refine w_skip rfl rfl ?_
                                  refine w_skip rfl rfl ?_
                                  refine w_skip rfl rfl ?_
                                  refine w_p tok rfl rfl rfl ?_
                                  exact w_jn true H ⟨rfl, rfl, rfl, rfl, rfl, rfl, rfl, rfl, trivial⟩
                                ·
                                  refine w_p tok rfl rfl rfl ?_
                                  refine w_p tok rfl rfl rfl ?_
                                  refine w_cut 9 (α := Bool) (fun (s : Bool) => [(202, .bool s), (0, Slc.v p0), (1, Slc.v p1), (2, Slc.v p2), (7, .pointer r3), (8, Slc.v t8_1), (9, .bool t9_1), (10, .int .i64 t10_1), (191, .bool false)]) (fun (s : Bool) h => law11_JournalKeeps_g10 p0 p1 p2 r3 t8_1 t9_1 t10_1 false s k (fun s h' => I1 s h' ∧ μ1 s h' < μ1 (t8_1, t9_1, t10_1) h_1) h) ?_ ?_
                                  ·
                                    rintro t202_10 h_10 H
                                    replace H : law11_JournalKeeps_g10 p0 p1 p2 r3 t8_1 t9_1 t10_1 false t202_10 k (fun s h' => I1 s h' ∧ μ1 s h' < μ1 (t8_1, t9_1, t10_1) h_1) h_10 := H
                                    unfold law11_JournalKeeps_g10 at H
                                    refine w_weak [(202, .bool t202_10), (0, Slc.v p0), (1, Slc.v p1), (2, Slc.v p2), (7, .pointer r3), (8, Slc.v t8_1), (9, .bool t9_1), (10, .int .i64 t10_1), (191, .bool false)] ⟨rfl, rfl, rfl, rfl, rfl, rfl, rfl, rfl, rfl, trivial⟩ ?_
                                    refine w_p tok rfl rfl rfl ?_
                                    exact w_jn t202_10 H ⟨rfl, rfl, rfl, rfl, rfl, rfl, rfl, rfl, trivial⟩
                                  ·
                                    refine w_gif (d := 193) H rfl (fun H => ?_) (fun H => ?_)
                                    ·
                                      refine w_p tok rfl rfl rfl ?_
                                      refine w_p tok rfl rfl rfl ?_
                                      refine w_p tok rfl rfl rfl ?_
                                      refine w_cut 5 (α := Bool) (fun (s : Bool) => [(201, .bool s), (0, Slc.v p0), (1, Slc.v p1), (2, Slc.v p2), (7, .pointer r3), (8, Slc.v t8_1), (9, .bool t9_1), (10, .int .i64 t10_1), (191, .bool false), (193, .bool true)]) (fun (s : Bool) h => law11_JournalKeeps_g11 p0 p1 p2 r3 t8_1 t9_1 t10_1 false true s k (fun s h' => I1 s h' ∧ μ1 s h' < μ1 (t8_1, t9_1, t10_1) h_1) h) ?_ ?_
                                      ·
                                        rintro t201_11 h_11 H
                                        replace H : law11_JournalKeeps_g11 p0 p1 p2 r3 t8_1 t9_1 t10_1 false true t201_11 k (fun s h' => I1 s h' ∧ μ1 s h' < μ1 (t8_1, t9_1, t10_1) h_1) h_11 := H
                                        unfold law11_JournalKeeps_g11 at H
                                        refine w_weak [(201, .bool t201_11), (0, Slc.v p0), (1, Slc.v p1), (2, Slc.v p2), (7, .pointer r3), (8, Slc.v t8_1), (9, .bool t9_1), (10, .int .i64 t10_1), (191, .bool false), (193, .bool true)] ⟨rfl, rfl, rfl, rfl, rfl, rfl, rfl, rfl, rfl, rfl, trivial⟩ ?_
                                        refine w_p tok rfl rfl rfl ?_
                                        exact w_jn t201_11 H ⟨rfl, rfl, rfl, rfl, rfl, rfl, rfl, rfl, rfl, trivial⟩
                                      ·
                                        refine w_gif (d := 196) H rfl (fun H => ?_) (fun H => ?_)
                                        ·
                                          refine w_skip rfl rfl ?_
                                          refine w_skip rfl rfl ?_
                                          refine w_skip rfl rfl ?_
                                          refine w_skip rfl rfl ?_
                                          refine w_p tok rfl rfl rfl ?_
                                          exact w_jn true H ⟨rfl, rfl, rfl, rfl, rfl, rfl, rfl, rfl, rfl, rfl, trivial⟩
                                        ·
                                          refine w_p tok rfl rfl rfl ?_
                                          refine w_p tok rfl rfl rfl ?_
                                          refine w_call ref01_Same_ok (ref01_Same_ref _ _ _ _ H) rfl rfl rfl rfl ?_
                                          rintro _ h30 ⟨r29, rfl, H⟩
                                          refine w_p tok rfl rfl rfl ?_
                                          refine w_p tok rfl rfl rfl ?_
                                          exact w_jn (!r29) H ⟨rfl, rfl, rfl, rfl, rfl, rfl, rfl, rfl, rfl, rfl, trivial⟩
                                    ·
                                      refine w_skip rfl rfl ?_
                                      refine w_skip rfl rfl ?_
                                      refine w_skip rfl rfl ?_
                                      refine w_skip rfl rfl ?_
                                      refine w_skip rfl rfl ?_
                                      refine w_skip rfl rfl ?_
                                      refine w_skip rfl rfl ?_
                                      refine w_skip rfl rfl ?_
                                      refine w_p tok rfl rfl rfl ?_
                                      exact w_jn false H ⟨rfl, rfl, rfl, rfl, rfl, rfl, rfl, rfl, rfl, trivial⟩
                            ·
                              refine w_gs (d := 183) rfl (fun hb => ?_) (fun hb => ?_)
                              ·
                                refine w_skip rfl rfl ?_
                                refine w_skip rfl rfl ?_
                                refine w_skip rfl rfl ?_
                                refine w_skip rfl rfl ?_
                                refine w_skip rfl rfl ?_
                                refine w_skip rfl rfl ?_
                                refine w_p tok rfl rfl rfl ?_
                                refine w_jn () rfl ⟨?_, rfl, rfl, rfl, rfl, rfl, rfl, rfl, rfl, rfl, trivial⟩
                                exact congrArg (fun b => some (Value.bool b)) (or_t hb)
                              ·
                                refine w_p tok rfl rfl rfl ?_
                                refine w_p tok rfl rfl rfl ?_
                                refine w_p tok rfl rfl rfl ?_
                                refine w_cutU 3 [(189, .bool ((!t9_1) && (r24.2.2 != 6))), (0, Slc.v p0), (1, Slc.v p1), (2, Slc.v p2), (7, .pointer r3), (8, Slc.v t8_1), (9, .bool t9_1), (10, .int .i64 t10_1), (20, Slc.v r24.1), (22, .int .i64 r24.2.2), (183, .bool false)] ?_ ?_
                                ·
                                  refine w_p tok rfl rfl rfl ?_
                                  refine w_jn () rfl ⟨?_, rfl, rfl, rfl, rfl, rfl, rfl, rfl, rfl, rfl, trivial⟩
                                  exact congrArg (fun b => some (Value.bool b)) (or_f hb)
                                ·
                                  refine w_gs (d := 186) rfl (fun hb => ?_) (fun hb => ?_)
                                  ·
                                    refine w_p tok rfl rfl rfl ?_
                                    refine w_p tok rfl rfl rfl ?_
                                    refine w_p tok rfl rfl rfl ?_
                                    refine w_jn () rfl ⟨?_, rfl, rfl, rfl, rfl, rfl, rfl, rfl, rfl, rfl, rfl, trivial⟩
                                    exact congrArg (fun b => some (Value.bool b)) (and_t hb)
                                  ·
                                    refine w_skip rfl rfl ?_
                                    refine w_skip rfl rfl ?_
                                    refine w_p tok rfl rfl rfl ?_
                                    refine w_jn () rfl ⟨?_, rfl, rfl, rfl, rfl, rfl, rfl, rfl, rfl, rfl, rfl, trivial⟩
                                    exact congrArg (fun b => some (Value.bool b)) (and_f hb)
                        ·
                          refine w_gif (d := 148) H rfl (fun H => ?_) (fun H => ?_)
                          ·
                            refine w_p tok rfl rfl rfl ?_
                            refine w_p tok rfl rfl rfl ?_
                            refine w_call ref01_Same_ok (ref01_Same_ref _ _ _ _ H) rfl rfl rfl rfl ?_
                            rintro _ h32 ⟨r31, rfl, H⟩
                            refine w_p tok rfl rfl rfl ?_
                            exact w_jn r31 H ⟨rfl, rfl, rfl, rfl, rfl, rfl, rfl, rfl, rfl, rfl, rfl, rfl, rfl, rfl, rfl, trivial⟩
                          ·
                            refine w_skip rfl rfl ?_
                            refine w_skip rfl rfl ?_
                            refine w_skip rfl rfl ?_
                            refine w_p tok rfl rfl rfl ?_
                            exact w_jn false H ⟨rfl, rfl, rfl, rfl, rfl, rfl, rfl, rfl, rfl, rfl, rfl, rfl, rfl, rfl, rfl, trivial⟩
                    ·
                      refine w_gif (d := 117) H rfl (fun H => ?_) (fun H => ?_)
                      ·
                        refine w_skip rfl rfl ?_
                        refine w_skip rfl rfl ?_
                        refine w_skip rfl rfl ?_
                        refine w_skip rfl rfl ?_
                        refine w_skip rfl rfl ?_
                        refine w_skip rfl rfl ?_
                        refine w_skip rfl rfl ?_
                        refine w_skip rfl rfl ?_
                        refine w_skip rfl rfl ?_
                        refine w_skip rfl rfl ?_
                        refine w_skip rfl rfl ?_
                        refine w_skip rfl rfl ?_
                        refine w_skip rfl rfl ?_
                        refine w_p tok rfl rfl rfl ?_
                        exact w_jn true H ⟨rfl, rfl, rfl, rfl, rfl, rfl, rfl, rfl, rfl, rfl, rfl, rfl, trivial⟩
                      ·
                        refine w_p tok rfl rfl rfl ?_
                        refine w_p tok rfl rfl rfl ?_
                        refine w_p tok rfl rfl rfl ?_
                        refine w_cutU 5 [(125, .bool ((r18 == 0) && (decide (t16_4 < (v7.len : Int))))), (0, Slc.v p0), (1, Slc.v p1), (2, Slc.v p2), (7, .pointer r3), (8, Slc.v t8_1), (9, .bool t9_1), (10, .int .i64 t10_1), (11, Slc.v v7), (14, Slc.v s16), (15, .int .i64 r18), (16, .int .i64 t16_4), (117, .bool false)] ?_ ?_
                        ·
                          refine w_p tok rfl rfl rfl ?_
                          refine w_cut 4 (α := Bool) (fun (s : Bool) => [(130, .bool s), (0, Slc.v p0), (1, Slc.v p1), (2, Slc.v p2), (7, .pointer r3), (8, Slc.v t8_1), (9, .bool t9_1), (10, .int .i64 t10_1), (11, Slc.v v7), (14, Slc.v s16), (15, .int .i64 r18), (16, .int .i64 t16_4), (117, .bool false)]) (fun (s : Bool) h => law11_JournalKeeps_g12 p0 p1 p2 r3 t8_1 t9_1 t10_1 v7 s16 r18 t16_4 false s k (fun s h' => I1 s h' ∧ μ1 s h' < μ1 (t8_1, t9_1, t10_1) h_1) h) ?_ ?_
                          ·
                            rintro t130_12 h_12 H
                            replace H : law11_JournalKeeps_g12 p0 p1 p2 r3 t8_1 t9_1 t10_1 v7 s16 r18 t16_4 false t130_12 k (fun s h' => I1 s h' ∧ μ1 s h' < μ1 (t8_1, t9_1, t10_1) h_1) h_12 := H
                            unfold law11_JournalKeeps_g12 at H
                            refine w_weak [(130, .bool t130_12), (0, Slc.v p0), (1, Slc.v p1), (2, Slc.v p2), (7, .pointer r3), (8, Slc.v t8_1), (9, .bool t9_1), (10, .int .i64 t10_1), (11, Slc.v v7), (14, Slc.v s16), (15, .int .i64 r18), (16, .int .i64 t16_4), (117, .bool false)] ⟨rfl, rfl, rfl, rfl, rfl, rfl, rfl, rfl, rfl, rfl, rfl, rfl, rfl, trivial⟩ ?_
                            refine w_p tok rfl rfl rfl ?_
                            exact w_jn t130_12 H ⟨rfl, rfl, rfl, rfl, rfl, rfl, rfl, rfl, rfl, rfl, rfl, rfl, trivial⟩
                          ·
                            refine w_gif (d := 126) H rfl (fun H => ?_) (fun H => ?_)
                            ·
                              refine w_p tok rfl rfl rfl ?_
                              refine w_call disk_Disk_Dead_ok (disk_Disk_Dead_ref _ _ _ H) rfl rfl rfl rfl ?_
                              rintro _ h34 ⟨r33, rfl, H⟩
                              refine w_p tok rfl rfl rfl ?_
                              refine w_p tok rfl rfl rfl ?_
                              exact w_jn (!r33) H ⟨rfl, rfl, rfl, rfl, rfl, rfl, rfl, rfl, rfl, rfl, rfl, rfl, rfl, trivial⟩
                            ·
                              refine w_skip rfl rfl ?_
                              refine w_skip rfl rfl ?_
                              refine w_skip rfl rfl ?_
                              refine w_p tok rfl rfl rfl ?_
                              exact w_jn false H ⟨rfl, rfl, rfl, rfl, rfl, rfl, rfl, rfl, rfl, rfl, rfl, rfl, rfl, trivial⟩
                        ·
                          refine w_gs (d := 120) rfl (fun hb => ?_) (fun hb => ?_)
                          ·
                            refine w_p tok rfl rfl rfl ?_
                            refine w_p tok rfl rfl rfl ?_
                            refine w_p tok rfl rfl rfl ?_
                            refine w_p tok rfl rfl rfl ?_
                            refine w_p tok rfl rfl rfl ?_
                            refine w_jn () rfl ⟨?_, rfl, rfl, rfl, rfl, rfl, rfl, rfl, rfl, rfl, rfl, rfl, rfl, trivial⟩
                            exact congrArg (fun b => some (Value.bool b)) (and_t hb)
                          ·
                            refine w_skip rfl rfl ?_
                            refine w_skip rfl rfl ?_
                            refine w_skip rfl rfl ?_
                            refine w_skip rfl rfl ?_
                            refine w_p tok rfl rfl rfl ?_
                            refine w_jn () rfl ⟨?_, rfl, rfl, rfl, rfl, rfl, rfl, rfl, rfl, rfl, rfl, rfl, rfl, trivial⟩
                            exact congrArg (fun b => some (Value.bool b)) (and_f hb)
                  ·
                    refine w_gif (d := 108) H rfl (fun H => ?_) (fun H => ?_)
                    ·
                      refine w_skip rfl rfl ?_
                      refine w_skip rfl rfl ?_
                      refine w_skip rfl rfl ?_
                      refine w_skip rfl rfl ?_
                      refine w_skip rfl rfl ?_
                      refine w_skip rfl rfl ?_
                      refine w_skip rfl rfl ?_
                      refine w_p tok rfl rfl rfl ?_
                      exact w_jn true H ⟨rfl, rfl, rfl, rfl, rfl, rfl, rfl, rfl, rfl, rfl, rfl, rfl, trivial⟩
                    ·
                      refine w_p tok rfl rfl rfl ?_
                      refine w_p tok rfl rfl rfl ?_
                      refine w_p tok rfl rfl rfl ?_
                      refine w_cut 4 (α := Bool) (fun (s : Bool) => [(115, .bool s), (0, Slc.v p0), (1, Slc.v p1), (2, Slc.v p2), (7, .pointer r3), (8, Slc.v t8_1), (9, .bool t9_1), (10, .int .i64 t10_1), (11, Slc.v v7), (14, Slc.v s16), (15, .int .i64 r18), (16, .int .i64 t16_4), (108, .bool false)]) (fun (s : Bool) h => law11_JournalKeeps_g13 p0 p1 p2 r3 t8_1 t9_1 t10_1 v7 s16 r18 t16_4 false s k (fun s h' => I1 s h' ∧ μ1 s h' < μ1 (t8_1, t9_1, t10_1) h_1) h) ?_ ?_
                      ·
                        rintro t115_13 h_13 H
                        replace H : law11_JournalKeeps_g13 p0 p1 p2 r3 t8_1 t9_1 t10_1 v7 s16 r18 t16_4 false t115_13 k (fun s h' => I1 s h' ∧ μ1 s h' < μ1 (t8_1, t9_1, t10_1) h_1) h_13 := H
                        unfold law11_JournalKeeps_g13 at H
                        refine w_weak [(115, .bool t115_13), (0, Slc.v p0), (1, Slc.v p1), (2, Slc.v p2), (7, .pointer r3), (8, Slc.v t8_1), (9, .bool t9_1), (10, .int .i64 t10_1), (11, Slc.v v7), (14, Slc.v s16), (15, .int .i64 r18), (16, .int .i64 t16_4), (108, .bool false)] ⟨rfl, rfl, rfl, rfl, rfl, rfl, rfl, rfl, rfl, rfl, rfl, rfl, rfl, trivial⟩ ?_
                        refine w_p tok rfl rfl rfl ?_
                        exact w_jn t115_13 H ⟨rfl, rfl, rfl, rfl, rfl, rfl, rfl, rfl, rfl, rfl, rfl, rfl, trivial⟩
                      ·
                        refine w_gif (d := 111) H rfl (fun H => ?_) (fun H => ?_)
                        ·
                          refine w_p tok rfl rfl rfl ?_
                          refine w_call disk_Disk_Dead_ok (disk_Disk_Dead_ref _ _ _ H) rfl rfl rfl rfl ?_
                          rintro _ h36 ⟨r35, rfl, H⟩
                          refine w_p tok rfl rfl rfl ?_
                          refine w_p tok rfl rfl rfl ?_
                          exact w_jn (!r35) H ⟨rfl, rfl, rfl, rfl, rfl, rfl, rfl, rfl, rfl, rfl, rfl, rfl, rfl, trivial⟩
                        ·
                          refine w_skip rfl rfl ?_
                          refine w_skip rfl rfl ?_
                          refine w_skip rfl rfl ?_
                          refine w_p tok rfl rfl rfl ?_
                          exact w_jn false H ⟨rfl, rfl, rfl, rfl, rfl, rfl, rfl, rfl, rfl, rfl, rfl, rfl, rfl, trivial⟩
                ·
                  refine c_seq ?_
                  refine c_region ?_
                  refine w_p tok rfl rfl rfl ?_
                  refine w_end ?_
                  refine x_seq ?_
                  refine c_block ?_
                  obtain ⟨I14, μ14, H0, HI⟩ := H
                  refine c_loop (σ := Int × Int) (fun (s : Int × Int) => [(16, .int .i64 s.1), (17, .int .i64 s.2), (0, Slc.v p0), (1, Slc.v p1), (2, Slc.v p2), (7, .pointer r3), (8, Slc.v t8_1), (9, .bool t9_1), (10, .int .i64 t10_1), (11, Slc.v v7), (12, .pointer r10.1), (13, .int .i64 r10.2), (14, Slc.v s16), (15, .int .i64 r18)]) I14 μ14 (0, 0) H0 ⟨rfl, rfl, rfl, rfl, rfl, rfl, rfl, rfl, rfl, rfl, rfl, rfl, rfl, rfl, trivial⟩ ?_
                  rintro ⟨t16_14, t17_14⟩ h_14 H
                  replace H := HI t16_14 t17_14 h_14 H
                  unfold law11_JournalKeeps_l14b at H
                  refine c_weak [(16, .int .i64 t16_14), (17, .int .i64 t17_14), (0, Slc.v p0), (1, Slc.v p1), (2, Slc.v p2), (7, .pointer r3), (8, Slc.v t8_1), (9, .bool t9_1), (10, .int .i64 t10_1), (11, Slc.v v7), (12, .pointer r10.1), (13, .int .i64 r10.2), (14, Slc.v s16), (15, .int .i64 r18)] ⟨rfl, rfl, rfl, rfl, rfl, rfl, rfl, rfl, rfl, rfl, rfl, rfl, rfl, rfl, trivial⟩ ?_
                  refine c_seq ?_
                  refine c_seq ?_
                  refine c_region ?_
                  refine w_p tok rfl rfl rfl ?_
                  refine w_p tok rfl rfl rfl ?_
                  refine w_p tok rfl rfl rfl ?_
                  refine w_p tok rfl rfl rfl ?_
                  refine w_p tok rfl rfl rfl ?_
                  refine w_cutU 3 [(87, .bool ((decide (t17_14 < (v7.len : Int))) && (r18 == 0))), (0, Slc.v p0), (1, Slc.v p1), (2, Slc.v p2), (7, .pointer r3), (8, Slc.v t8_1), (9, .bool t9_1), (10, .int .i64 t10_1), (11, Slc.v v7), (12, .pointer r10.1), (13, .int .i64 r10.2), (14, Slc.v s16), (15, .int .i64 r18), (16, .int .i64 t16_14), (17, .int .i64 t17_14)] ?_ ?_
                  ·
                    refine w_end ?_
                    refine x_seq ?_
                    refine c_if H rfl (fun H => ?_) (fun H => ?_)
                    ·
                      refine c_skip ?_
                      refine x_seq ?_
                      refine c_seq ?_
                      refine c_block ?_
                      refine c_seq ?_
                      refine c_seq ?_
                      refine c_region ?_
                      refine w_p tok rfl rfl rfl ?_
                      refine w_p tok rfl rfl rfl ?_
                      obtain ⟨a37, ha37, la37, ua37, H⟩ := H
                      refine w_y (y_ixa' tok rfl rfl ha37 rfl rfl rfl la37 ua37) rfl rfl ?_
                      obtain ⟨v38, hv38, H⟩ := H
                      refine w_y (y_ld tok rfl rfl rfl rfl hv38) rfl rfl ?_
                      refine w_p tok rfl rfl rfl ?_
                      refine w_p tok rfl rfl rfl ?_
                      refine w_end ?_
                      refine x_seq ?_
                      refine c_if H rfl (fun H => ?_) (fun H => ?_)
                      ·
                        refine c_seq ?_
                        refine c_region ?_
                        refine w_call law11_awake_ok (law11_awake_ref  _ _ H) rfl rfl rfl rfl ?_
                        rintro _ h40 ⟨r39, rfl, H⟩
                        refine w_p tok rfl rfl rfl ?_
                        refine w_end ?_
                        refine x_seq ?_
                        refine c_weak [(6, .bool r39)] ⟨rfl, trivial⟩ ?_
                        refine c_ret ?_
                        refine x_tr ?_
                        refine x_br ?_
                        refine x_tr ?_
                        refine x_tr ?_
                        refine x_br ?_
                        refine x_tr ?_
                        refine x_br ?_
                        refine x_tr ?_
                        refine x_tr ?_
                        refine x_br ?_
                        refine x_tr ?_
                        exact x_ret _ rfl _ rfl ⟨r39, rfl, H⟩
                      ·
                        refine c_skip ?_
                        refine x_seq ?_
                        refine c_weak [(0, Slc.v p0), (1, Slc.v p1), (2, Slc.v p2), (7, .pointer r3), (8, Slc.v t8_1), (9, .bool t9_1), (10, .int .i64 t10_1), (11, Slc.v v7), (12, .pointer r10.1), (13, .int .i64 r10.2), (14, Slc.v s16), (15, .int .i64 r18), (16, .int .i64 t16_14), (17, .int .i64 t17_14)] ⟨rfl, rfl, rfl, rfl, rfl, rfl, rfl, rfl, rfl, rfl, rfl, rfl, rfl, rfl, trivial⟩ ?_
                        refine c_seq ?_
                        refine c_seq ?_
                        refine c_region ?_
                        refine w_p tok rfl rfl rfl ?_
                        refine w_p tok rfl rfl rfl ?_
                        refine w_p tok rfl rfl rfl ?_
                        obtain ⟨a41, ha41, la41, ua41, H⟩ := H
                        refine w_y (y_ixa' tok rfl rfl ha41 rfl rfl rfl la41 ua41) rfl rfl ?_
                        obtain ⟨v42, hv42, H⟩ := H
                        refine w_y (y_ld tok rfl rfl rfl rfl hv42) rfl rfl ?_
                        refine w_call journal_Store_Append_ok (journal_Store_Append_ref _ _ _ _ H) rfl rfl rfl rfl ?_
                        rintro _ h44 ⟨r43, rfl, H⟩
                        refine w_p tok rfl rfl rfl ?_
                        refine w_end ?_
                        refine x_seq ?_
                        refine c_if H rfl (fun H => ?_) (fun H => ?_)
                        ·
                          refine c_exit ?_
                          refine x_te ?_
                          refine x_bm rfl ?_
                          refine x_te ?_
                          refine x_te ?_
                          refine x_bh ?_
                          exact x_join t16_14 H ⟨rfl, rfl, rfl, rfl, rfl, rfl, rfl, rfl, rfl, rfl, rfl, rfl, trivial⟩
                        ·
                          refine c_skip ?_
                          refine x_seq ?_
                          refine c_weak [(0, Slc.v p0), (1, Slc.v p1), (2, Slc.v p2), (7, .pointer r3), (8, Slc.v t8_1), (9, .bool t9_1), (10, .int .i64 t10_1), (11, Slc.v v7), (12, .pointer r10.1), (13, .int .i64 r10.2), (14, Slc.v s16), (15, .int .i64 r18), (16, .int .i64 t16_14), (17, .int .i64 t17_14)] ⟨rfl, rfl, rfl, rfl, rfl, rfl, rfl, rfl, rfl, rfl, rfl, rfl, rfl, rfl, trivial⟩ ?_
                          refine c_region ?_
                          refine w_p tok rfl rfl rfl ?_
                          refine w_p tok rfl rfl rfl ?_
                          obtain ⟨x45, ex45, H⟩ := H
                          refine w_pe tok rfl (congrArg (fun z => (.int .i64 z : Value)) ex45) rfl rfl ?_
                          refine w_end ?_
                          refine x_blk ?_
                          refine x_seq ?_
                          refine c_region ?_
                          refine w_p tok rfl rfl rfl ?_
                          refine w_p tok rfl rfl rfl ?_
                          obtain ⟨x46, ex46, H⟩ := H
                          refine w_pe tok rfl (congrArg (fun z => (.int .i64 z : Value)) ex46) rfl rfl ?_
                          refine w_end ?_
                          exact x_join (x45, x46) H ⟨rfl, rfl, rfl, rfl, rfl, rfl, rfl, rfl, rfl, rfl, rfl, rfl, rfl, rfl, trivial⟩
                    ·
                      refine c_exit ?_
                      refine x_te ?_
                      refine x_te ?_
                      refine x_bh ?_
                      exact x_join t16_14 H ⟨rfl, rfl, rfl, rfl, rfl, rfl, rfl, rfl, rfl, rfl, rfl, rfl, trivial⟩
                  ·
                    refine w_gs (d := 84) rfl (fun hb => ?_) (fun hb => ?_)
                    ·
                      refine w_p tok rfl rfl rfl ?_
                      refine w_p tok rfl rfl rfl ?_
                      refine w_p tok rfl rfl rfl ?_
                      refine w_jn () rfl ⟨?_, rfl, rfl, rfl, rfl, rfl, rfl, rfl, rfl, rfl, rfl, rfl, rfl, rfl, rfl, trivial⟩
                      exact congrArg (fun b => some (Value.bool b)) (and_t hb)
                    ·
                      refine w_skip rfl rfl ?_
                      refine w_skip rfl rfl ?_
                      refine w_p tok rfl rfl rfl ?_
                      refine w_jn () rfl ⟨?_, rfl, rfl, rfl, rfl, rfl, rfl, rfl, rfl, rfl, rfl, rfl, rfl, rfl, rfl, trivial⟩
                      exact congrArg (fun b => some (Value.bool b)) (and_f hb)
              ·
                refine c_seq ?_
                refine c_region ?_
                refine w_p tok rfl rfl rfl ?_
                refine w_p tok rfl rfl rfl ?_
                refine w_p tok rfl rfl rfl ?_
                refine w_p tok rfl rfl rfl ?_
                refine w_end ?_
                refine x_seq ?_
                refine c_if H rfl (fun H => ?_) (fun H => ?_)
                ·
                  refine c_region ?_
                  refine w_p tok rfl rfl rfl ?_
                  refine w_p tok rfl rfl rfl ?_
                  refine w_p tok rfl rfl rfl ?_
                  obtain ⟨a47, ha47, la47, ua47, H⟩ := H
                  refine w_y (y_ixa' tok rfl rfl ha47 rfl rfl rfl la47 ua47) rfl rfl ?_
                  obtain ⟨v48, hv48, H⟩ := H
                  refine w_y (y_ld tok rfl rfl rfl rfl hv48) rfl rfl ?_
                  refine w_p tok rfl rfl rfl ?_
                  refine w_p tok rfl rfl rfl ?_
                  refine w_call disk_Disk_Fuse_ok (disk_Disk_Fuse_ref _ _ _ _ H) rfl rfl rfl rfl ?_
                  rintro _ h50 ⟨r49, rfl, H⟩
                  refine w_end ?_
                  exact x_join () H ⟨rfl, rfl, rfl, rfl, rfl, rfl, rfl, rfl, rfl, rfl, rfl, trivial⟩
                ·
                  refine c_skip ?_
                  exact x_join () H ⟨rfl, rfl, rfl, rfl, rfl, rfl, rfl, rfl, rfl, rfl, rfl, trivial⟩
        ·
          refine c_exit ?_
          refine x_te ?_
          refine x_te ?_
          refine x_bh ?_
          refine x_seq ?_
          refine c_weak [] trivial ?_
          refine c_seq ?_
          refine c_region ?_
          refine w_call law11_awake_ok (law11_awake_ref  _ _ H) rfl rfl rfl rfl ?_
          rintro _ h52 ⟨r51, rfl, H⟩
          refine w_p tok rfl rfl rfl ?_
          refine w_end ?_
          refine x_seq ?_
          refine c_ret ?_
          exact x_ret _ rfl _ rfl ⟨r51, rfl, H⟩
    ·
      refine w_gs (d := 31) rfl (fun hb => ?_) (fun hb => ?_)
      ·
        refine w_skip rfl rfl ?_
        refine w_skip rfl rfl ?_
        refine w_skip rfl rfl ?_
        refine w_p tok rfl rfl rfl ?_
        refine w_jn () rfl ⟨?_, rfl, rfl, rfl, trivial⟩
        exact congrArg (fun b => some (Value.bool b)) (or_t hb)
      ·
        refine w_p tok rfl rfl rfl ?_
        refine w_p tok rfl rfl rfl ?_
        refine w_p tok rfl rfl rfl ?_
        refine w_p tok rfl rfl rfl ?_
        refine w_jn () rfl ⟨?_, rfl, rfl, rfl, trivial⟩
        exact congrArg (fun b => some (Value.bool b)) (or_f hb)
  ·
    refine w_gs (d := 26) rfl (fun hb => ?_) (fun hb => ?_)
    ·
      refine w_skip rfl rfl ?_
      refine w_skip rfl rfl ?_
      refine w_skip rfl rfl ?_
      refine w_p tok rfl rfl rfl ?_
      refine w_jn () rfl ⟨?_, rfl, rfl, rfl, trivial⟩
      exact congrArg (fun b => some (Value.bool b)) (or_t hb)
    ·
      refine w_p tok rfl rfl rfl ?_
      refine w_p tok rfl rfl rfl ?_
      refine w_p tok rfl rfl rfl ?_
      refine w_p tok rfl rfl rfl ?_
      refine w_jn () rfl ⟨?_, rfl, rfl, rfl, trivial⟩
      exact congrArg (fun b => some (Value.bool b)) (or_f hb)

theorem law11_JournalScrubs_ok : CallOk Go.Proofs.Tryd.prog 4 := ⟨_, Go.Proofs.Tryd.func4, by kernel_rfl, by kernel_rfl⟩
theorem law11_JournalScrubs_ref (p0 : Slc) (p1 : Slc) (k : (Bool) → Heap → Prop) (h : Heap) (H : law11_JournalScrubs p0 p1 k h) : CallsH Go.Proofs.Tryd.prog 4 #[Slc.v p0, Slc.v p1] h (fun v h' => ∃ r : Bool, v = .bool r ∧ k r h') := by
  refine f_enter (N := 116) Go.Proofs.Tryd.func4 rfl rfl rfl (fun w0 => ?_)
  unfold law11_JournalScrubs at H
  refine c_weak [(0, Slc.v p0), (1, Slc.v p1)] ⟨rfl, rfl, trivial⟩ ?_
  refine c_seq ?_
  refine c_region ?_
  refine w_p tok rfl rfl rfl ?_
  refine w_end ?_
  refine x_seq ?_
  refine c_seq ?_
  refine c_seq ?_
  refine c_region ?_
  refine w_p tok rfl rfl rfl ?_
  refine w_p tok rfl rfl rfl ?_
  refine w_p tok rfl rfl rfl ?_
  refine w_p tok rfl rfl rfl ?_
  refine w_cutU 4 [(23, .bool ((decide ((p0.len : Int) > 5)) || (decide ((p1.len : Int) > 300)))), (0, Slc.v p0), (1, Slc.v p1)] ?_ ?_
  ·
    refine w_end ?_
    refine x_seq ?_
    refine c_if H rfl (fun H => ?_) (fun H => ?_)
    ·
      refine c_seq ?_
      refine c_region ?_
      refine w_call law11_awake_ok (law11_awake_ref  _ _ H) rfl rfl rfl rfl ?_
      rintro _ h2 ⟨r1, rfl, H⟩
      refine w_p tok rfl rfl rfl ?_
      refine w_end ?_
      refine x_seq ?_
      refine c_ret ?_
      refine x_tr ?_
      exact x_ret _ rfl _ rfl ⟨r1, rfl, H⟩
    ·
      refine c_skip ?_
      refine x_seq ?_
      refine c_seq ?_
      refine c_region ?_
      refine w_call disk_New_ok (disk_New_ref  _ _ H) rfl rfl rfl rfl ?_
      rintro _ h4 ⟨r3, rfl, H⟩
      refine w_p tok rfl rfl rfl ?_
      refine w_end ?_
      refine x_seq ?_
      refine c_seq ?_
      refine c_region ?_
      refine w_p tok rfl rfl rfl ?_
      refine w_call journal_Open_ok (journal_Open_ref _ _ _ H) rfl rfl rfl rfl ?_
      rintro _ h6 ⟨r5, rfl, H⟩
      refine w_p tok rfl rfl rfl ?_
      refine w_p tok rfl rfl rfl ?_
      refine w_p tok rfl rfl rfl ?_
      refine w_p tok rfl rfl rfl ?_
      refine w_p tok rfl rfl rfl ?_
      refine w_end ?_
      refine x_seq ?_
      refine c_weak [(0, Slc.v p0), (1, Slc.v p1), (5, .pointer r3), (6, .pointer r5.1)] ⟨rfl, rfl, rfl, rfl, trivial⟩ ?_
      refine c_seq ?_
      refine c_seq ?_
      refine c_region ?_
      refine w_p tok rfl rfl rfl ?_
      refine w_end ?_
      refine x_seq ?_
      refine c_block ?_
      obtain ⟨I1, μ1, H0, HI⟩ := H
      refine c_loop (σ := Int) (fun (s : Int) => [(8, .int .i64 s), (0, Slc.v p0), (1, Slc.v p1), (5, .pointer r3), (6, .pointer r5.1)]) I1 μ1 0 H0 ⟨rfl, rfl, rfl, rfl, rfl, trivial⟩ ?_
      rintro t8_1 h_1 H
      replace H := HI t8_1 h_1 H
      unfold law11_JournalScrubs_l1b at H
      refine c_weak [(8, .int .i64 t8_1), (0, Slc.v p0), (1, Slc.v p1), (5, .pointer r3), (6, .pointer r5.1)] ⟨rfl, rfl, rfl, rfl, rfl, trivial⟩ ?_
      refine c_seq ?_
      refine c_seq ?_
      refine c_region ?_
      refine w_p tok rfl rfl rfl ?_
      refine w_p tok rfl rfl rfl ?_
      refine w_p tok rfl rfl rfl ?_
      refine w_p tok rfl rfl rfl ?_
      refine w_end ?_
      refine x_seq ?_
      refine c_if H rfl (fun H => ?_) (fun H => ?_)
      ·
        refine c_skip ?_
        refine x_seq ?_
        refine c_seq ?_
        refine c_block ?_
        refine c_seq ?_
        refine c_seq ?_
        refine c_region ?_
        refine w_p tok rfl rfl rfl ?_
        refine w_p tok rfl rfl rfl ?_
        obtain ⟨a7, ha7, la7, ua7, H⟩ := H
        refine w_y (y_ixa' tok rfl rfl ha7 rfl rfl rfl la7 ua7) rfl rfl ?_
        obtain ⟨v8, hv8, H⟩ := H
        refine w_y (y_ld tok rfl rfl rfl rfl hv8) rfl rfl ?_
        refine w_p tok rfl rfl rfl ?_
        refine w_p tok rfl rfl rfl ?_
        refine w_end ?_
        refine x_seq ?_
        refine c_weak [(8, .int .i64 t8_1), (0, Slc.v p0), (1, Slc.v p1), (5, .pointer r3), (6, .pointer r5.1), (42, .bool (decide ((v8.len : Int) > 300)))] ⟨rfl, rfl, rfl, rfl, rfl, rfl, trivial⟩ ?_
        refine c_if H rfl (fun H => ?_) (fun H => ?_)
        ·
          refine c_seq ?_
          refine c_region ?_
          refine w_call law11_awake_ok (law11_awake_ref  _ _ H) rfl rfl rfl rfl ?_
          rintro _ h10 ⟨r9, rfl, H⟩
          refine w_p tok rfl rfl rfl ?_
          refine w_end ?_
          refine x_seq ?_
          refine c_weak [(4, .bool r9)] ⟨rfl, trivial⟩ ?_
          refine c_ret ?_
          refine x_tr ?_
          refine x_br ?_
          refine x_tr ?_
          refine x_tr ?_
          refine x_br ?_
          refine x_tr ?_
          exact x_ret _ rfl _ rfl ⟨r9, rfl, H⟩
        ·
          refine c_skip ?_
          refine x_seq ?_
          refine c_seq ?_
          refine c_region ?_
          refine w_p tok rfl rfl rfl ?_
          refine w_p tok rfl rfl rfl ?_
          refine w_p tok rfl rfl rfl ?_
          obtain ⟨a11, ha11, la11, ua11, H⟩ := H
          refine w_y (y_ixa' tok rfl rfl ha11 rfl rfl rfl la11 ua11) rfl rfl ?_
          obtain ⟨v12, hv12, H⟩ := H
          refine w_y (y_ld tok rfl rfl rfl rfl hv12) rfl rfl ?_
          refine w_call journal_Store_Save_ok (journal_Store_Save_ref _ _ _ _ H) rfl rfl rfl rfl ?_
          rintro _ h14 ⟨r13, rfl, H⟩
          refine w_end ?_
          refine x_seq ?_
          refine c_weak [(8, .int .i64 t8_1), (0, Slc.v p0), (1, Slc.v p1), (5, .pointer r3), (6, .pointer r5.1)] ⟨rfl, rfl, rfl, rfl, rfl, trivial⟩ ?_
          refine c_region ?_
          refine w_p tok rfl rfl rfl ?_
          refine w_p tok rfl rfl rfl ?_
          refine w_p tok rfl rfl rfl ?_
          obtain ⟨a15, ha15, la15, ua15, H⟩ := H
          refine w_y (y_ixa' tok rfl rfl ha15 rfl rfl rfl la15 ua15) rfl rfl ?_
          obtain ⟨v16, hv16, H⟩ := H
          refine w_y (y_ld tok rfl rfl rfl rfl hv16) rfl rfl ?_
          refine w_call journal_Store_Append_ok (journal_Store_Append_ref _ _ _ _ H) rfl rfl rfl rfl ?_
          rintro _ h18 ⟨r17, rfl, H⟩
          refine w_end ?_
          refine x_blk ?_
          refine x_seq ?_
          refine c_region ?_
          refine w_p tok rfl rfl rfl ?_
          refine w_p tok rfl rfl rfl ?_
          obtain ⟨x19, ex19, H⟩ := H
          refine w_pe tok rfl (congrArg (fun z => (.int .i64 z : Value)) ex19) rfl rfl ?_
          refine w_end ?_
          exact x_join x19 H ⟨rfl, rfl, rfl, rfl, rfl, trivial⟩
      ·
        refine c_exit ?_
        refine x_te ?_
        refine x_te ?_
        refine x_bh ?_
        refine x_seq ?_
        refine c_seq ?_
        refine c_seq ?_
        refine c_region ?_
        refine w_p tok rfl rfl rfl ?_
        refine w_p tok rfl rfl rfl ?_
        refine w_call journal_Store_Scrub_ok (journal_Store_Scrub_ref _ _ _ _ H) rfl rfl rfl rfl ?_
        rintro _ h21 ⟨r20, rfl, H⟩
        refine w_p tok rfl rfl rfl ?_
        refine w_end ?_
        refine x_seq ?_
        refine c_weak [(1, Slc.v p1), (5, .pointer r3), (6, .pointer r5.1), (59, .bool (r20 != 0))] ⟨rfl, rfl, rfl, rfl, trivial⟩ ?_
        refine c_if H rfl (fun H => ?_) (fun H => ?_)
        ·
          refine c_seq ?_
          refine c_region ?_
          refine w_p tok rfl rfl rfl ?_
          refine w_end ?_
          refine x_seq ?_
          refine c_ret ?_
          refine x_tr ?_
          exact x_ret _ rfl _ rfl ⟨false, rfl, H⟩
        ·
          refine c_skip ?_
          refine x_seq ?_
          refine c_seq ?_
          refine c_region ?_
          refine w_call disk_New_ok (disk_New_ref  _ _ H) rfl rfl rfl rfl ?_
          rintro _ h23 ⟨r22, rfl, H⟩
          refine w_p tok rfl rfl rfl ?_
          refine w_end ?_
          refine x_seq ?_
          refine c_seq ?_
          refine c_region ?_
          refine w_p tok rfl rfl rfl ?_
          refine w_call journal_Open_ok (journal_Open_ref _ _ _ H) rfl rfl rfl rfl ?_
          rintro _ h25 ⟨r24, rfl, H⟩
          refine w_p tok rfl rfl rfl ?_
          refine w_p tok rfl rfl rfl ?_
          refine w_p tok rfl rfl rfl ?_
          refine w_p tok rfl rfl rfl ?_
          refine w_p tok rfl rfl rfl ?_
          refine w_end ?_
          refine x_seq ?_
          refine c_weak [(1, Slc.v p1), (5, .pointer r3), (6, .pointer r5.1), (9, .pointer r22), (10, .pointer r24.1)] ⟨rfl, rfl, rfl, rfl, rfl, trivial⟩ ?_
          refine c_seq ?_
          refine c_region ?_
          refine w_p tok rfl rfl rfl ?_
          refine w_p tok rfl rfl rfl ?_
          refine w_call journal_Store_Scrub_ok (journal_Store_Scrub_ref _ _ _ _ H) rfl rfl rfl rfl ?_
          rintro _ h27 ⟨r26, rfl, H⟩
          refine w_end ?_
          refine x_seq ?_
          refine c_seq ?_
          refine c_region ?_
          refine w_p tok rfl rfl rfl ?_
          refine w_call disk_Disk_Raw_ok (disk_Disk_Raw_ref _ _ _ H) rfl rfl rfl rfl ?_
          rintro _ h29 ⟨r28, rfl, H⟩
          refine w_p tok rfl rfl rfl ?_
          refine w_call disk_Disk_Raw_ok (disk_Disk_Raw_ref _ _ _ H) rfl rfl rfl rfl ?_
          rintro _ h31 ⟨r30, rfl, H⟩
          refine w_p tok rfl rfl rfl ?_
          refine w_p tok rfl rfl rfl ?_
          refine w_end ?_
          refine x_seq ?_
          refine c_weak [(1, Slc.v p1), (6, .pointer r5.1), (12, Slc.v r28), (13, Slc.v r30)] ⟨rfl, rfl, rfl, rfl, trivial⟩ ?_
          refine c_seq ?_
          refine c_seq ?_
          refine c_region ?_
          refine w_p tok rfl rfl rfl ?_
          refine w_end ?_
          refine x_seq ?_
          refine c_block ?_
          obtain ⟨I2, μ2, H0, HI⟩ := H
          refine c_loop (σ := Int) (fun (s : Int) => [(14, .int .i64 s), (1, Slc.v p1), (6, .pointer r5.1), (12, Slc.v r28), (13, Slc.v r30)]) I2 μ2 0 H0 ⟨rfl, rfl, rfl, rfl, rfl, trivial⟩ ?_
          rintro t14_2 h_2 H
          replace H := HI t14_2 h_2 H
          unfold law11_JournalScrubs_l2b at H
          refine c_weak [(14, .int .i64 t14_2), (1, Slc.v p1), (6, .pointer r5.1), (12, Slc.v r28), (13, Slc.v r30)] ⟨rfl, rfl, rfl, rfl, rfl, trivial⟩ ?_
          refine c_seq ?_
          refine c_seq ?_
          refine c_region ?_
          refine w_p tok rfl rfl rfl ?_
          refine w_p tok rfl rfl rfl ?_
          refine w_p tok rfl rfl rfl ?_
          refine w_p tok rfl rfl rfl ?_
          refine w_end ?_
          refine x_seq ?_
          refine c_if H rfl (fun H => ?_) (fun H => ?_)
          ·
            refine c_skip ?_
            refine x_seq ?_
            refine c_seqJ (α := Unit) (fun (s : Unit) => [(1, Slc.v p1), (6, .pointer r5.1), (12, Slc.v r28), (13, Slc.v r30), (14, .int .i64 t14_2)]) (fun (s : Unit) h => law11_JournalScrubs_j3 p1 r5.1 r28 r30 t14_2 k (fun s h' => I1 s h' ∧ μ1 s h' < μ1 t8_1 h_1) (fun s h' => I2 s h' ∧ μ2 s h' < μ2 t14_2 h_2) h) ?_ ?_
            ·
              rintro _ h_3 H
              replace H : law11_JournalScrubs_j3 p1 r5.1 r28 r30 t14_2 k (fun s h' => I1 s h' ∧ μ1 s h' < μ1 t8_1 h_1) (fun s h' => I2 s h' ∧ μ2 s h' < μ2 t14_2 h_2) h_3 := H
              unfold law11_JournalScrubs_j3 at H
              refine c_weak [(1, Slc.v p1), (6, .pointer r5.1), (12, Slc.v r28), (13, Slc.v r30), (14, .int .i64 t14_2)] ⟨rfl, rfl, rfl, rfl, rfl, trivial⟩ ?_
              refine c_region ?_
              refine w_p tok rfl rfl rfl ?_
              refine w_p tok rfl rfl rfl ?_
              obtain ⟨x32, ex32, H⟩ := H
              refine w_pe tok rfl (congrArg (fun z => (.int .i64 z : Value)) ex32) rfl rfl ?_
              refine w_end ?_
              exact x_join x32 H ⟨rfl, rfl, rfl, rfl, rfl, trivial⟩
            ·
              refine c_block ?_
              refine c_seq ?_
              refine c_draw (by kernel_rfl) (by kernel_rfl) ?_
              refine q_p tok rfl rfl rfl ?_
              refine q_p tok rfl rfl rfl ?_
              refine q_p tok rfl rfl rfl ?_
              refine q_p tok rfl rfl rfl ?_
              refine q_cut 10 (α := Bool) (fun (s : Bool) => [(92, .bool s), (1, Slc.v p1), (6, .pointer r5.1), (12, Slc.v r28), (13, Slc.v r30), (14, .int .i64 t14_2)]) (fun (s : Bool) => law11_JournalScrubs_g4 p1 r5.1 r28 r30 t14_2 s k (fun s h' => I1 s h' ∧ μ1 s h' < μ1 t8_1 h_1) (fun s h' => I2 s h' ∧ μ2 s h' < μ2 t14_2 h_2) h_2) ?_ ?_
              ·
                rintro t92_4 H
                replace H : law11_JournalScrubs_g4 p1 r5.1 r28 r30 t14_2 t92_4 k (fun s h' => I1 s h' ∧ μ1 s h' < μ1 t8_1 h_1) (fun s h' => I2 s h' ∧ μ2 s h' < μ2 t14_2 h_2) h_2 := H
                unfold law11_JournalScrubs_g4 at H
                refine q_weak [(92, .bool t92_4), (1, Slc.v p1), (6, .pointer r5.1), (12, Slc.v r28), (13, Slc.v r30), (14, .int .i64 t14_2)] ⟨rfl, rfl, rfl, rfl, rfl, rfl, trivial⟩ ?_
                refine q_end ?_
                refine x_seq ?_
                refine c_if H rfl (fun H => ?_) (fun H => ?_)
                ·
                  refine c_seq ?_
                  refine c_region ?_
                  refine w_p tok rfl rfl rfl ?_
                  refine w_p tok rfl rfl rfl ?_
                  refine w_p tok rfl rfl rfl ?_
                  obtain ⟨x33, ex33, H⟩ := H
                  refine w_pe tok rfl (congrArg (fun z => (.int .i64 z : Value)) ex33) rfl rfl ?_
                  refine w_end ?_
                  refine x_seq ?_
                  refine c_seq ?_
                  refine c_draw (by kernel_rfl) (by kernel_rfl) ?_
                  refine q_p tok rfl rfl rfl ?_
                  refine q_p tok rfl rfl rfl ?_
                  refine q_p tok rfl rfl rfl ?_
                  refine q_cut 10 (α := Bool) (fun (s : Bool) => [(108, .bool s), (1, Slc.v p1), (6, .pointer r5.1), (12, Slc.v r28), (13, Slc.v r30), (14, .int .i64 t14_2)]) (fun (s : Bool) => law11_JournalScrubs_g5 p1 r5.1 r28 r30 t14_2 s k (fun s h' => I1 s h' ∧ μ1 s h' < μ1 t8_1 h_1) (fun s h' => I2 s h' ∧ μ2 s h' < μ2 t14_2 h_2) h_2) ?_ ?_
                  ·
                    rintro t108_5 H
                    replace H : law11_JournalScrubs_g5 p1 r5.1 r28 r30 t14_2 t108_5 k (fun s h' => I1 s h' ∧ μ1 s h' < μ1 t8_1 h_1) (fun s h' => I2 s h' ∧ μ2 s h' < μ2 t14_2 h_2) h_2 := H
                    unfold law11_JournalScrubs_g5 at H
                    refine q_weak [(108, .bool t108_5), (1, Slc.v p1), (6, .pointer r5.1), (12, Slc.v r28), (13, Slc.v r30), (14, .int .i64 t14_2)] ⟨rfl, rfl, rfl, rfl, rfl, rfl, trivial⟩ ?_
                    refine q_end ?_
                    refine x_seq ?_
                    refine c_if H rfl (fun H => ?_) (fun H => ?_)
                    ·
                      refine c_seq ?_
                      refine c_region ?_
                      refine w_p tok rfl rfl rfl ?_
                      refine w_end ?_
                      refine x_seq ?_
                      refine c_ret ?_
                      refine x_br ?_
                      refine x_tr ?_
                      refine x_tr ?_
                      refine x_br ?_
                      refine x_tr ?_
                      exact x_ret _ rfl _ rfl ⟨false, rfl, H⟩
                    ·
                      refine c_skip ?_
                      refine x_blk ?_
                      exact x_join () H ⟨rfl, rfl, rfl, rfl, rfl, trivial⟩
                  ·
                    refine q_gif (d := 98) H rfl (fun H => ?_) (fun H => ?_)
                    ·
                      refine q_skip rfl rfl ?_
                      refine q_skip rfl rfl ?_
                      refine q_skip rfl rfl ?_
                      refine q_skip rfl rfl ?_
                      refine q_skip rfl rfl ?_
                      refine q_skip rfl rfl ?_
                      refine q_skip rfl rfl ?_
                      refine q_skip rfl rfl ?_
                      refine q_skip rfl rfl ?_
                      refine q_p tok rfl rfl rfl ?_
                      exact q_jn true H ⟨rfl, rfl, rfl, rfl, rfl, rfl, trivial⟩
                    ·
                      refine q_p tok rfl rfl rfl ?_
                      refine q_p tok rfl rfl rfl ?_
                      obtain ⟨a34, ha34, la34, ua34, H⟩ := H
                      refine q_y (y_ixa' tok rfl rfl ha34 rfl rfl rfl la34 ua34) rfl rfl ?_
                      obtain ⟨v35, hv35, H⟩ := H
                      refine q_y (y_ld tok rfl rfl rfl rfl hv35) rfl rfl ?_
                      refine q_p tok rfl rfl rfl ?_
                      refine q_p tok rfl rfl rfl ?_
                      obtain ⟨a36, ha36, la36, ua36, H⟩ := H
                      refine q_y (y_ixa' tok rfl rfl ha36 rfl rfl rfl la36 ua36) rfl rfl ?_
                      obtain ⟨v37, hv37, H⟩ := H
                      refine q_y (y_ld tok rfl rfl rfl rfl hv37) rfl rfl ?_
                      refine q_p tok rfl rfl rfl ?_
                      refine q_p tok rfl rfl rfl ?_
                      exact q_jn (v35 != v37) H ⟨rfl, rfl, rfl, rfl, rfl, rfl, trivial⟩
                ·
                  refine c_skip ?_
                  refine x_blk ?_
                  exact x_join () H ⟨rfl, rfl, rfl, rfl, rfl, trivial⟩
              ·
                refine q_gif (d := 82) H rfl (fun H => ?_) (fun H => ?_)
                ·
                  refine q_p tok rfl rfl rfl ?_
                  refine q_p tok rfl rfl rfl ?_
                  obtain ⟨a38, ha38, la38, ua38, H⟩ := H
                  refine q_y (y_ixa' tok rfl rfl ha38 rfl rfl rfl la38 ua38) rfl rfl ?_
                  obtain ⟨v39, hv39, H⟩ := H
                  refine q_y (y_ld tok rfl rfl rfl rfl hv39) rfl rfl ?_
                  refine q_p tok rfl rfl rfl ?_
                  refine q_p tok rfl rfl rfl ?_
                  obtain ⟨a40, ha40, la40, ua40, H⟩ := H
                  refine q_y (y_ixa' tok rfl rfl ha40 rfl rfl rfl la40 ua40) rfl rfl ?_
                  obtain ⟨v41, hv41, H⟩ := H
                  refine q_y (y_ld tok rfl rfl rfl rfl hv41) rfl rfl ?_
                  refine q_p tok rfl rfl rfl ?_
                  refine q_p tok rfl rfl rfl ?_
                  exact q_jn (v39 != v41) H ⟨rfl, rfl, rfl, rfl, rfl, rfl, trivial⟩
                ·
                  refine q_skip rfl rfl ?_
                  refine q_skip rfl rfl ?_
                  refine q_skip rfl rfl ?_
                  refine q_skip rfl rfl ?_
                  refine q_skip rfl rfl ?_
                  refine q_skip rfl rfl ?_
                  refine q_skip rfl rfl ?_
                  refine q_skip rfl rfl ?_
                  refine q_skip rfl rfl ?_
                  refine q_p tok rfl rfl rfl ?_
                  exact q_jn false H ⟨rfl, rfl, rfl, rfl, rfl, rfl, trivial⟩
          ·
            refine c_exit ?_
            refine x_te ?_
            refine x_te ?_
            refine x_bh ?_
            refine x_seq ?_
            refine c_weak [(1, Slc.v p1), (6, .pointer r5.1)] ⟨rfl, rfl, trivial⟩ ?_
            refine c_seq ?_
            refine c_region ?_
            refine w_p tok rfl rfl rfl ?_
            refine w_p tok rfl rfl rfl ?_
            refine w_call journal_Store_Append_ok (journal_Store_Append_ref _ _ _ _ H) rfl rfl rfl rfl ?_
            rintro _ h43 ⟨r42, rfl, H⟩
            refine w_p tok rfl rfl rfl ?_
            refine w_p tok rfl rfl rfl ?_
            refine w_cut 2 (α := Bool) (fun (s : Bool) => [(115, .bool s)]) (fun (s : Bool) h => law11_JournalScrubs_g6 s k (fun s h' => I1 s h' ∧ μ1 s h' < μ1 t8_1 h_1) (fun s h' => I2 s h' ∧ μ2 s h' < μ2 t14_2 h_2) h) ?_ ?_
            ·
              rintro t115_6 h_6 H
              replace H : law11_JournalScrubs_g6 t115_6 k (fun s h' => I1 s h' ∧ μ1 s h' < μ1 t8_1 h_1) (fun s h' => I2 s h' ∧ μ2 s h' < μ2 t14_2 h_2) h_6 := H
              unfold law11_JournalScrubs_g6 at H
              refine w_weak [(115, .bool t115_6)] ⟨rfl, trivial⟩ ?_
              refine w_p tok rfl rfl rfl ?_
              refine w_end ?_
              refine x_seq ?_
              refine c_ret ?_
              exact x_ret _ rfl _ rfl ⟨t115_6, rfl, H⟩
            ·
              refine w_gif (d := 113) H rfl (fun H => ?_) (fun H => ?_)
              ·
                refine w_call law11_awake_ok (law11_awake_ref  _ _ H) rfl rfl rfl rfl ?_
                rintro _ h45 ⟨r44, rfl, H⟩
                refine w_p tok rfl rfl rfl ?_
                exact w_jn r44 H ⟨rfl, trivial⟩
              ·
                refine w_skip rfl rfl ?_
                refine w_p tok rfl rfl rfl ?_
                exact w_jn false H ⟨rfl, trivial⟩
  ·
    refine w_gs (d := 19) rfl (fun hb => ?_) (fun hb => ?_)
    ·
      refine w_skip rfl rfl ?_
      refine w_skip rfl rfl ?_
      refine w_skip rfl rfl ?_
      refine w_p tok rfl rfl rfl ?_
      refine w_jn () rfl ⟨?_, rfl, rfl, trivial⟩
      exact congrArg (fun b => some (Value.bool b)) (or_t hb)
    ·
      refine w_p tok rfl rfl rfl ?_
      refine w_p tok rfl rfl rfl ?_
      refine w_p tok rfl rfl rfl ?_
      refine w_p tok rfl rfl rfl ?_
      refine w_jn () rfl ⟨?_, rfl, rfl, trivial⟩
      exact congrArg (fun b => some (Value.bool b)) (or_f hb)
end Go.Q.Yf

/- A part of the proof of statements of this seat: lemmas, no statement of their own. -/
import Derived.Test.YtgldbcbnficihaaYaTab
import Derived.Test.YtgldbcbnficihaaYaLease
set_option linter.unusedVariables false
set_option maxRecDepth 100000
set_option maxHeartbeats 1000000
namespace Go.Q.Ya
/-- (*quaestor quaestorref12.Lease).Take -/
def ref12_Lease_Take (p0 : Option Addr) (k : (Int × Int) → Heap → Prop) (h : Heap) : Prop :=
  ∃ a1 : Addr, p0 = some a1 ∧ (∃ v2 : Int, cellH h (a1.add 1) = some (.int .u64 v2) ∧ (∃ v3 : Int, cellH h (a1.add 2) = some (.int .u64 v3) ∧ (if (decide (v2 < v3)) then (∃ v4 : Int, cellH h (a1.add 1) = some (.int .u64 v4) ∧ (∃ h5 : Heap, WrH h (a1.add 1) ∧ h5 = setH h (a1.add 1) (.int .u64 (IntKind.u64.wrap (v4 + 1))) ∧ (∃ v6 : Int, cellH h5 (a1.add 1) = some (.int .u64 v6) ∧ (∃ x7 : Int, x7 = (IntKind.u64.wrap (v6 - 1)) ∧ (k (x7, 0) h5))))) else (∃ v8 : Int, cellH h (a1.add 2) = some (.int .u64 v8) ∧ (if (v8 == 4611686018427387904) then (k (0, 12) h) else (k (0, 14) h))))))

/-- (*quaestor quaestorref12.Lease).Grant -/
def ref12_Lease_Grant (p0 : Option Addr) (p1 : Int) (k : (Int) → Heap → Prop) (h : Heap) : Prop :=
  ∃ a1 : Addr, p0 = some a1 ∧ (∃ v2 : Int, cellH h (a1.add 2) = some (.int .u64 v2) ∧ (if (decide (p1 < v2)) then (k 13 h) else (if (decide (p1 > 4611686018427387904)) then (k 12 h) else (∃ h3 : Heap, WrH h (a1.add 2) ∧ h3 = setH h (a1.add 2) (.int .u64 p1) ∧ (k 0 h3)))))

/-- (*quaestor quaestorref12.Lease).Wants -/
def ref12_Lease_Wants_g1 (t0_1 : Option Addr) (t1_1 : Int) (t16_1 : Bool) (k : (Int × Int) → Heap → Prop) (h_1 : Heap) : Prop :=
  if t16_1 then (k (0, 12) h_1) else (∃ a1 : Addr, t0_1 = some a1 ∧ (∃ v2 : Int, cellH h_1 (a1.add 2) = some (.int .u64 v2) ∧ (∃ x3 : Int, x3 = (IntKind.u64.wrap (v2 + t1_1)) ∧ (k (x3, 0) h_1))))
def ref12_Lease_Wants (p0 : Option Addr) (p1 : Int) (k : (Int × Int) → Heap → Prop) (h : Heap) : Prop :=
  if (decide (p1 > 4611686018427387904)) then (ref12_Lease_Wants_g1 p0 p1 true k h) else (∃ a4 : Addr, p0 = some a4 ∧ (∃ v5 : Int, cellH h (a4.add 2) = some (.int .u64 v5) ∧ (ref12_Lease_Wants_g1 p0 p1 (decide ((IntKind.u64.wrap (v5 + p1)) > 4611686018427387904)) k h)))

/-- quaestor quaestorref12.New -/
def ref12_New_j1 (t0_1 : Int) (t1_1 : Int) (k : (Option Addr) → Heap → Prop) (h_1 : Heap) : Prop :=
  ∃ (b1 : Nat) (h2 : Heap), b1 = h_1.size ∧ h2 = h_1.push (.cells (S_quaestorref12_Lease.cs (⟨t0_1, t1_1, t1_1⟩ : S_quaestorref12_Lease)).toArray 49) ∧ (k (some (⟨b1, 0, none⟩ : Addr)) h2)
def ref12_New (p0 : Int) (p1 : Int) (k : (Option Addr) → Heap → Prop) (h : Heap) : Prop :=
  if (decide (p1 > 4611686018427387904)) then (ref12_New_j1 p0 4611686018427387904 k h) else (ref12_New_j1 p0 p1 k h)

/-- (*quaestor lease.Lease).Left -/
def lease_Lease_Left (p0 : Option Addr) (k : (Int) → Heap → Prop) (h : Heap) : Prop :=
  if (p0.isNone) then (k 0 h) else (∃ a1 : Addr, p0 = some a1 ∧ (∃ v2 : Int, cellH h (a1.add 2) = some (.int .u64 v2) ∧ (∃ v3 : Int, cellH h (a1.add 1) = some (.int .u64 v3) ∧ (k (IntKind.u64.wrap (v2 - v3)) h))))

/-- slices.Clone   byte byte  -/
def slices_Clone_byte_byte (p0 : Slc) (k : (Slc) → Heap → Prop) (h : Heap) : Prop :=
  if (p0.a.isNone) then (k (⟨none, 0, 0⟩ : Slc) h) else (∃ (b1 : Nat) (h2 : Heap), b1 = h.size ∧ h2 = h.push (.cells ([]).toArray 5) ∧ (∃ l5 : List Value, SlcAt h2 p0 l5 ∧ App 5 1 1 [.int .u8 0] h2 (⟨some ⟨b1, 0, none⟩, 0, 0⟩ : Slc) p0.len l5 (fun s3 h4 => k s3 h4)))

/-- quaestor num.Put -/
def num_Put_l1b (t13_1 : Int) (t1_1 : Int) (t7_1 : Slc) (t14_1 : Int) (k : (Slc) → Heap → Prop) (nx1 : (Int × Slc × Int) → Heap → Prop) (h_1 : Heap) : Prop :=
  if (decide (t14_1 < t13_1)) then (∃ (b3 : Nat) (h4 : Heap), b3 = h_1.size ∧ h4 = h_1.push (.cells ([.int .u8 (IntKind.u8.wrap t1_1)]).toArray 5) ∧ (App 5 1 1 [.int .u8 0] h4 t7_1 1 ([.int .u8 (IntKind.u8.wrap t1_1)]) (fun s5 h6 => ∃ x7 : Int, x7 = (shr .u64 t1_1 (8 : Int).toNat) ∧ (nx1 (x7, s5, (IntKind.i64.wrap (t14_1 + 1))) h6)))) else (k t7_1 h_1)
def num_Put_l1 (t13_1 : Int) (i1 : Int) (i7 : Slc) (i14 : Int) (k : (Slc) → Heap → Prop) (h : Heap) : Prop :=
  ∃ (I : (Int × Slc × Int) → Heap → Prop) (μ : (Int × Slc × Int) → Heap → Nat), I (i1, i7, i14) h ∧ ∀ (t1_1 : Int) (t7_1 : Slc) (t14_1 : Int) (h : Heap), I (t1_1, t7_1, t14_1) h → num_Put_l1b t13_1 t1_1 t7_1 t14_1 k (fun s h' => I s h' ∧ μ s h' < μ (t1_1, t7_1, t14_1) h) h
def num_Put (p0 : Slc) (p1 : Int) (p2 : Int) (k : (Slc) → Heap → Prop) (h : Heap) : Prop :=
  slices_Clone_byte_byte p0 (fun (r1 : Slc) h2 => if (decide (p2 > 8)) then (k r1 h2) else (num_Put_l1 p2 p1 r1 0 k h2)) h

/-- quaestor aead.NonceOf -/
def aead_NonceOf (p0 : Int) (p1 : Int) (k : (List Int × Int) → Heap → Prop) (h : Heap) : Prop :=
  ∃ (b1 : Nat) (h2 : Heap), b1 = h.size ∧ h2 = h.push (.cells (((List.replicate 12 (0 : Int))).map (Value.int .u8)).toArray 40) ∧ (if (decide (p1 > 4611686018427387904)) then (∃ h3 : Heap, (List.replicate 12 (0 : Int)).length = 12 ∧ WrsAt h2 (⟨b1, 0, none⟩ : Addr) 12 ∧ h3 = setsH h2 (⟨b1, 0, none⟩ : Addr) 0 (((List.replicate 12 (0 : Int))).map (Value.int .u8)) ∧ (∃ v4 : List Int, v4.length = 12 ∧ CellsAt h3 (⟨b1, 0, none⟩ : Addr) ((v4).map (Value.int .u8)) ∧ k (v4, 12) h3)) else (num_Put (⟨none, 0, 0⟩ : Slc) p1 8 (fun (r5 : Slc) h6 => num_Put r5 (IntKind.u64.wrap p0) 2 (fun (r7 : Slc) h8 => num_Put r7 0 2 (fun (r9 : Slc) h10 => ∃ a11 : Addr, r9.a = some a11 ∧ 12 ≤ r9.len ∧ (∃ v12 : List Int, v12.length = 12 ∧ CellsAt h10 a11 ((v12).map (Value.int .u8)) ∧ (∃ h13 : Heap, v12.length = 12 ∧ WrsAt h10 (⟨b1, 0, none⟩ : Addr) 12 ∧ h13 = setsH h10 (⟨b1, 0, none⟩ : Addr) 0 ((v12).map (Value.int .u8)) ∧ (∃ v14 : List Int, v14.length = 12 ∧ CellsAt h13 (⟨b1, 0, none⟩ : Addr) ((v14).map (Value.int .u8)) ∧ k (v14, 0) h13)))) h8) h6) h2))

/-- quaestor quaestorref01.Form -/
def ref01_Form_l1b (t1_1 : Int) (t0_1 : Int) (t5_1 : Slc) (t6_1 : Int) (k : (Slc) → Heap → Prop) (nx1 : (Int × Slc × Int) → Heap → Prop) (h_1 : Heap) : Prop :=
  if (decide (t6_1 < t1_1)) then (∃ (b1 : Nat) (h2 : Heap), b1 = h_1.size ∧ h2 = h_1.push (.cells ([.int .u8 (IntKind.u8.wrap (Int.tmod t0_1 256))]).toArray 5) ∧ (App 5 1 1 [.int .u8 0] h2 t5_1 1 ([.int .u8 (IntKind.u8.wrap (Int.tmod t0_1 256))]) (fun s3 h4 => ∃ x5 : Int, x5 = (IntKind.u64.wrap (Int.tdiv t0_1 256)) ∧ (∃ x6 : Int, x6 = (IntKind.i64.wrap (t6_1 + 1)) ∧ (nx1 (x5, s3, x6) h4))))) else (k t5_1 h_1)
def ref01_Form_l1 (t1_1 : Int) (i0 : Int) (i5 : Slc) (i6 : Int) (k : (Slc) → Heap → Prop) (h : Heap) : Prop :=
  ∃ (I : (Int × Slc × Int) → Heap → Prop) (μ : (Int × Slc × Int) → Heap → Nat), I (i0, i5, i6) h ∧ ∀ (t0_1 : Int) (t5_1 : Slc) (t6_1 : Int) (h : Heap), I (t0_1, t5_1, t6_1) h → ref01_Form_l1b t1_1 t0_1 t5_1 t6_1 k (fun s h' => I s h' ∧ μ s h' < μ (t0_1, t5_1, t6_1) h) h
def ref01_Form (p0 : Int) (p1 : Int) (k : (Slc) → Heap → Prop) (h : Heap) : Prop :=
  ref01_Form_l1 p1 p0 (⟨none, 0, 0⟩ : Slc) 0 k h

/-- quaestor quaestorref06.Nonce -/
def ref06_Nonce_l1b (t4_1 : Addr) (t5_1 : Addr) (t6_1 : Slc) (t7_1 : Int) (k : (List Int) → Heap → Prop) (nx1 : (Int) → Heap → Prop) (h_1 : Heap) : Prop :=
  if (decide (t7_1 < 10)) then (∃ a12 : Addr, t6_1.a = some a12 ∧ 0 ≤ t7_1 ∧ t7_1 < t6_1.len ∧ (∃ v13 : Int, cellH h_1 (a12.add (t7_1.toNat * 1)) = some (.int .u8 v13) ∧ (0 ≤ t7_1 ∧ t7_1 < 12 ∧ (∃ h15 : Heap, WrH h_1 (t5_1.add (t7_1.toNat * 1)) ∧ h15 = setH h_1 (t5_1.add (t7_1.toNat * 1)) (.int .u8 v13) ∧ (∃ x16 : Int, x16 = (IntKind.i64.wrap (t7_1 + 1)) ∧ (nx1 x16 h15)))))) else (∃ v17 : List Int, v17.length = 12 ∧ CellsAt h_1 t5_1 ((v17).map (Value.int .u8)) ∧ (∃ h18 : Heap, v17.length = 12 ∧ WrsAt h_1 t4_1 12 ∧ h18 = setsH h_1 t4_1 0 ((v17).map (Value.int .u8)) ∧ (∃ v19 : List Int, v19.length = 12 ∧ CellsAt h18 t4_1 ((v19).map (Value.int .u8)) ∧ k v19 h18)))
def ref06_Nonce_l1 (t4_1 : Addr) (t5_1 : Addr) (t6_1 : Slc) (i7 : Int) (k : (List Int) → Heap → Prop) (h : Heap) : Prop :=
  ∃ (I : Int → Heap → Prop) (μ : Int → Heap → Nat), I i7 h ∧ ∀ (t7_1 : Int) (h : Heap), I t7_1 h → ref06_Nonce_l1b t4_1 t5_1 t6_1 t7_1 k (fun s h' => I s h' ∧ μ s h' < μ t7_1 h) h
def ref06_Nonce (p0 : Int) (p1 : Int) (k : (List Int) → Heap → Prop) (h : Heap) : Prop :=
  ∃ (b1 : Nat) (h2 : Heap), b1 = h.size ∧ h2 = h.push (.cells (((List.replicate 12 (0 : Int))).map (Value.int .u8)).toArray 39) ∧ (∃ (b3 : Nat) (h4 : Heap), b3 = h2.size ∧ h4 = h2.push (.cells (((List.replicate 12 (0 : Int))).map (Value.int .u8)).toArray 39) ∧ (ref01_Form p1 8 (fun (r5 : Slc) h6 => ref01_Form (IntKind.u64.wrap p0) 2 (fun (r7 : Slc) h8 => ∃ l11 : List Value, SlcAt h8 r7 l11 ∧ App 5 1 1 [.int .u8 0] h8 r5 r7.len l11 (fun s9 h10 => ref06_Nonce_l1 (⟨b1, 0, none⟩ : Addr) (⟨b3, 0, none⟩ : Addr) s9 0 k h10)) h6) h4))

/-- (*quaestor lease.Lease).Nonce -/
def lease_Lease_Nonce (p0 : Option Addr) (k : (List Int × Int) → Heap → Prop) (h : Heap) : Prop :=
  ∃ (b1 : Nat) (h2 : Heap), b1 = h.size ∧ h2 = h.push (.cells (((List.replicate 12 (0 : Int))).map (Value.int .u8)).toArray 40) ∧ (lease_Lease_Take p0 (fun (r3 : Int × Int) h4 => if (r3.2 != 0) then (∃ h5 : Heap, (List.replicate 12 (0 : Int)).length = 12 ∧ WrsAt h4 (⟨b1, 0, none⟩ : Addr) 12 ∧ h5 = setsH h4 (⟨b1, 0, none⟩ : Addr) 0 (((List.replicate 12 (0 : Int))).map (Value.int .u8)) ∧ (∃ v6 : List Int, v6.length = 12 ∧ CellsAt h5 (⟨b1, 0, none⟩ : Addr) ((v6).map (Value.int .u8)) ∧ k (v6, r3.2) h5)) else (∃ a7 : Addr, p0 = some a7 ∧ (∃ v8 : Int, cellH h4 a7 = some (.int .u16 v8) ∧ (aead_NonceOf v8 r3.1 (fun (r9 : List Int × Int) h10 => ∃ h11 : Heap, r9.1.length = 12 ∧ WrsAt h10 (⟨b1, 0, none⟩ : Addr) 12 ∧ h11 = setsH h10 (⟨b1, 0, none⟩ : Addr) 0 ((r9.1).map (Value.int .u8)) ∧ (∃ v12 : List Int, v12.length = 12 ∧ CellsAt h11 (⟨b1, 0, none⟩ : Addr) ((v12).map (Value.int .u8)) ∧ k (v12, r9.2) h11)) h4)))) h2)

/-- (*quaestor quaestorref12.Lease).Nonce -/
def ref12_Lease_Nonce (p0 : Option Addr) (k : (List Int × Int) → Heap → Prop) (h : Heap) : Prop :=
  ∃ (b1 : Nat) (h2 : Heap), b1 = h.size ∧ h2 = h.push (.cells (((List.replicate 12 (0 : Int))).map (Value.int .u8)).toArray 39) ∧ (ref12_Lease_Take p0 (fun (r3 : Int × Int) h4 => if (r3.2 != 0) then (∃ h5 : Heap, (List.replicate 12 (0 : Int)).length = 12 ∧ WrsAt h4 (⟨b1, 0, none⟩ : Addr) 12 ∧ h5 = setsH h4 (⟨b1, 0, none⟩ : Addr) 0 (((List.replicate 12 (0 : Int))).map (Value.int .u8)) ∧ (∃ v6 : List Int, v6.length = 12 ∧ CellsAt h5 (⟨b1, 0, none⟩ : Addr) ((v6).map (Value.int .u8)) ∧ k (v6, r3.2) h5)) else (∃ a7 : Addr, p0 = some a7 ∧ (∃ v8 : Int, cellH h4 a7 = some (.int .u16 v8) ∧ (ref06_Nonce v8 r3.1 (fun (r9 : List Int) h10 => ∃ h11 : Heap, r9.length = 12 ∧ WrsAt h10 (⟨b1, 0, none⟩ : Addr) 12 ∧ h11 = setsH h10 (⟨b1, 0, none⟩ : Addr) 0 ((r9).map (Value.int .u8)) ∧ (∃ v12 : List Int, v12.length = 12 ∧ CellsAt h11 (⟨b1, 0, none⟩ : Addr) ((v12).map (Value.int .u8)) ∧ k (v12, 0) h11)) h4)))) h2)

/-- quaestor quaestorlaw12.LeasePlays -/
def law12_LeasePlays_g3 (t2_3 : Slc) (t7_3 : Option Addr) (t8_3 : Option Addr) (t9_3 : Int) (t115_3 : Bool) (k : (Bool) → Heap → Prop) (nx1 : (Int) → Heap → Prop) (h_3 : Heap) : Prop :=
  if t115_3 then (k false h_3) else (∃ x8 : Int, x8 = (IntKind.i64.wrap (t9_3 + 1)) ∧ (nx1 x8 h_3))
def law12_LeasePlays_j2 (t2_2 : Slc) (t7_2 : Option Addr) (t8_2 : Option Addr) (t9_2 : Int) (t11_2 : Int) (t12_2 : Int) (t13_2 : Int) (t14_2 : Int) (k : (Bool) → Heap → Prop) (nx1 : (Int) → Heap → Prop) (h_2 : Heap) : Prop :=
  if ((t11_2 != t12_2) || (t13_2 != t14_2)) then (law12_LeasePlays_g3 t2_2 t7_2 t8_2 t9_2 true k nx1 h_2) else (∃ r9 : Int, lease_Lease_Left t7_2 (fun r h' => r = r9 ∧ h' = h_2) h_2 ∧ (∃ a11 : Addr, t8_2 = some a11 ∧ (∃ v12 : Int, cellH h_2 (a11.add 2) = some (.int .u64 v12) ∧ (∃ v13 : Int, cellH h_2 (a11.add 1) = some (.int .u64 v13) ∧ (law12_LeasePlays_g3 t2_2 t7_2 t8_2 t9_2 (r9 != (IntKind.u64.wrap (v12 - v13))) k nx1 h_2)))))
def law12_LeasePlays_l1b (t2_1 : Slc) (t7_1 : Option Addr) (t8_1 : Option Addr) (t9_1 : Int) (k : (Bool) → Heap → Prop) (nx1 : (Int) → Heap → Prop) (h_1 : Heap) : Prop :=
  if ((decide (t9_1 < (t2_1.len : Int))) && (decide (t9_1 < 60))) then (∃ a5 : Addr, t2_1.a = some a5 ∧ 0 ≤ t9_1 ∧ t9_1 < t2_1.len ∧ (∃ v6 : Int, cellH h_1 (a5.add (t9_1.toNat * 1)) = some (.int .u64 v6) ∧ (∃ x7 : Int, x7 = (IntKind.u64.wrap (Int.tdiv v6 4)) ∧ (∃ a14 : Addr, t2_1.a = some a14 ∧ 0 ≤ t9_1 ∧ t9_1 < t2_1.len ∧ (∃ v15 : Int, cellH h_1 (a14.add (t9_1.toNat * 1)) = some (.int .u64 v15) ∧ (if ((Int.tmod v15 4) == 0) then (lease_Lease_Take t7_1 (fun (r16 : Int × Int) h17 => ref12_Lease_Take t8_1 (fun (r18 : Int × Int) h19 => law12_LeasePlays_j2 t2_1 t7_1 t8_1 t9_1 r16.1 r18.1 r16.2 r18.2 k nx1 h19) h17) h_1) else (if ((Int.tmod v15 4) == 1) then (lease_Lease_Nonce t7_1 (fun (r20 : List Int × Int) h21 => ∃ (b22 : Nat) (h23 : Heap), b22 = h21.size ∧ h23 = h21.push (.cells (((List.replicate 12 (0 : Int))).map (Value.int .u8)).toArray 40) ∧ (∃ h24 : Heap, r20.1.length = 12 ∧ WrsAt h23 (⟨b22, 0, none⟩ : Addr) 12 ∧ h24 = setsH h23 (⟨b22, 0, none⟩ : Addr) 0 ((r20.1).map (Value.int .u8)) ∧ (ref12_Lease_Nonce t8_1 (fun (r25 : List Int × Int) h26 => ∃ (b27 : Nat) (h28 : Heap), b27 = h26.size ∧ h28 = h26.push (.cells (((List.replicate 12 (0 : Int))).map (Value.int .u8)).toArray 39) ∧ (∃ h29 : Heap, r25.1.length = 12 ∧ WrsAt h28 (⟨b27, 0, none⟩ : Addr) 12 ∧ h29 = setsH h28 (⟨b27, 0, none⟩ : Addr) 0 ((r25.1).map (Value.int .u8)) ∧ (∃ v30 : List Int, v30.length = 12 ∧ CellsAt h29 (⟨b22, 0, none⟩ : Addr) ((v30).map (Value.int .u8)) ∧ (∃ v31 : List Int, v31.length = 12 ∧ CellsAt h29 (⟨b27, 0, none⟩ : Addr) ((v31).map (Value.int .u8)) ∧ (v30.length = 12 ∧ v31.length = 12 ∧ (if (if BinOp.neq = .eql then (v30 == v31) else !(v30 == v31)) then (k false h29) else (law12_LeasePlays_j2 t2_1 t7_1 t8_1 t9_1 0 0 r20.2 r25.2 k nx1 h29))))))) h24))) h_1) else (if ((Int.tmod v15 4) == 2) then (lease_Lease_Grant t7_1 x7 (fun (r33 : Int) h34 => ref12_Lease_Grant t8_1 x7 (fun (r35 : Int) h36 => law12_LeasePlays_j2 t2_1 t7_1 t8_1 t9_1 0 0 r33 r35 k nx1 h36) h34) h_1) else (lease_Lease_Wants t7_1 x7 (fun (r37 : Int × Int) h38 => ref12_Lease_Wants t8_1 x7 (fun (r39 : Int × Int) h40 => law12_LeasePlays_j2 t2_1 t7_1 t8_1 t9_1 r37.1 r39.1 r37.2 r39.2 k nx1 h40) h38) h_1))))))))) else (law12_awake  (fun (r41 : Bool) h42 => k r41 h42) h_1)
def law12_LeasePlays_l1 (t2_1 : Slc) (t7_1 : Option Addr) (t8_1 : Option Addr) (i9 : Int) (k : (Bool) → Heap → Prop) (h : Heap) : Prop :=
  ∃ (I : Int → Heap → Prop) (μ : Int → Heap → Nat), I i9 h ∧ ∀ (t9_1 : Int) (h : Heap), I t9_1 h → law12_LeasePlays_l1b t2_1 t7_1 t8_1 t9_1 k (fun s h' => I s h' ∧ μ s h' < μ t9_1 h) h
def law12_LeasePlays (p0 : Int) (p1 : Int) (p2 : Slc) (k : (Bool) → Heap → Prop) (h : Heap) : Prop :=
  lease_New p0 p1 (fun (r1 : Option Addr) h2 => ref12_New p0 p1 (fun (r3 : Option Addr) h4 => law12_LeasePlays_l1 p2 r1 r3 0 k h4) h2) h

/-- quaestor quaestorlaw12.LeaseEnds -/
def law12_LeaseEnds_g5 (t115_5 : Bool) (k : (Bool) → Heap → Prop) (nx1 : (Int) → Heap → Prop) (h_5 : Heap) : Prop :=
  k t115_5 h_5
def law12_LeaseEnds_g4 (t112_4 : Bool) (k : (Bool) → Heap → Prop) (nx1 : (Int) → Heap → Prop) (h_4 : Heap) : Prop :=
  if t112_4 then (law12_awake  (fun (r29 : Bool) h30 => law12_LeaseEnds_g5 r29 k nx1 h30) h_4) else (law12_LeaseEnds_g5 false k nx1 h_4)
def law12_LeaseEnds_g3 (t2_3 : Int) (t17_3 : Option Addr) (t19_3 : Int) (t21_3 : Int) (t23_3 : Int) (t94_3 : Bool) (k : (Bool) → Heap → Prop) (nx1 : (Int) → Heap → Prop) (h_3 : Heap) : Prop :=
  if (((t94_3 && (t19_3 == 14)) && (t21_3 == 14)) && (t23_3 == 14)) then (lease_Lease_Grant t17_3 t2_3 (fun (r31 : Int) h32 => law12_LeaseEnds_g4 (r31 == 1) k nx1 h32) h_3) else (law12_LeaseEnds_g4 false k nx1 h_3)
def law12_LeaseEnds_g2 (t2_2 : Int) (t17_2 : Option Addr) (t19_2 : Int) (t21_2 : Int) (t23_2 : Int) (t89_2 : Bool) (k : (Bool) → Heap → Prop) (nx1 : (Int) → Heap → Prop) (h_2 : Heap) : Prop :=
  if t89_2 then (lease_Lease_Left t17_2 (fun (r33 : Int) h34 => law12_LeaseEnds_g3 t2_2 t17_2 t19_2 t21_2 t23_2 (r33 == 0) k nx1 h34) h_2) else (law12_LeaseEnds_g3 t2_2 t17_2 t19_2 t21_2 t23_2 false k nx1 h_2)
def law12_LeaseEnds_l1b (t0_1 : Int) (t1_1 : Int) (t2_1 : Int) (t7_1 : Option Addr) (t8_1 : Int) (t9_1 : Int) (k : (Bool) → Heap → Prop) (nx1 : (Int) → Heap → Prop) (h_1 : Heap) : Prop :=
  if (decide (t9_1 < (IntKind.i64.wrap (Int.tmod t1_1 10)))) then (lease_Lease_Nonce t7_1 (fun (r5 : List Int × Int) h6 => ∃ (b7 : Nat) (h8 : Heap), b7 = h6.size ∧ h8 = h6.push (.cells (((List.replicate 12 (0 : Int))).map (Value.int .u8)).toArray 40) ∧ (∃ h9 : Heap, r5.1.length = 12 ∧ WrsAt h8 (⟨b7, 0, none⟩ : Addr) 12 ∧ h9 = setsH h8 (⟨b7, 0, none⟩ : Addr) 0 ((r5.1).map (Value.int .u8)) ∧ (if (r5.2 != 0) then (k false h9) else (∃ x10 : Int, x10 = (IntKind.i64.wrap (t9_1 + 1)) ∧ (nx1 x10 h9))))) h_1) else (lease_Lease_Nonce t7_1 (fun (r11 : List Int × Int) h12 => ∃ (b13 : Nat) (h14 : Heap), b13 = h12.size ∧ h14 = h12.push (.cells (((List.replicate 12 (0 : Int))).map (Value.int .u8)).toArray 40) ∧ (∃ h15 : Heap, r11.1.length = 12 ∧ WrsAt h14 (⟨b13, 0, none⟩ : Addr) 12 ∧ h15 = setsH h14 (⟨b13, 0, none⟩ : Addr) 0 ((r11.1).map (Value.int .u8)) ∧ (lease_Lease_Wants t7_1 1 (fun (r16 : Int × Int) h17 => lease_New t0_1 t2_1 (fun (r18 : Option Addr) h19 => lease_Lease_Take none (fun (r20 : Int × Int) h21 => lease_Lease_Nonce none (fun (r22 : List Int × Int) h23 => ∃ (b24 : Nat) (h25 : Heap), b24 = h23.size ∧ h25 = h23.push (.cells (((List.replicate 12 (0 : Int))).map (Value.int .u8)).toArray 40) ∧ (∃ h26 : Heap, r22.1.length = 12 ∧ WrsAt h25 (⟨b24, 0, none⟩ : Addr) 12 ∧ h26 = setsH h25 (⟨b24, 0, none⟩ : Addr) 0 ((r22.1).map (Value.int .u8)) ∧ (lease_Lease_Wants none t2_1 (fun (r27 : Int × Int) h28 => if (((t8_1 == 0) && (r11.2 == 12)) && (r16.2 == 12)) then (lease_Lease_Left r18 (fun (r35 : Int) h36 => law12_LeaseEnds_g2 t2_1 none r20.2 r22.2 r27.2 (r35 == 0) k nx1 h36) h28) else (law12_LeaseEnds_g2 t2_1 none r20.2 r22.2 r27.2 false k nx1 h28)) h26))) h21) h19) h17) h15))) h_1)
def law12_LeaseEnds_l1 (t0_1 : Int) (t1_1 : Int) (t2_1 : Int) (t7_1 : Option Addr) (t8_1 : Int) (i9 : Int) (k : (Bool) → Heap → Prop) (h : Heap) : Prop :=
  ∃ (I : Int → Heap → Prop) (μ : Int → Heap → Nat), I i9 h ∧ ∀ (t9_1 : Int) (h : Heap), I t9_1 h → law12_LeaseEnds_l1b t0_1 t1_1 t2_1 t7_1 t8_1 t9_1 k (fun s h' => I s h' ∧ μ s h' < μ t9_1 h) h
def law12_LeaseEnds (p0 : Int) (p1 : Int) (p2 : Int) (k : (Bool) → Heap → Prop) (h : Heap) : Prop :=
  lease_New p0 (IntKind.u64.wrap (4611686018427387904 - (IntKind.u64.wrap (Int.tmod p1 10)))) (fun (r1 : Option Addr) h2 => lease_Lease_Grant r1 4611686018427387904 (fun (r3 : Int) h4 => law12_LeaseEnds_l1 p0 p1 p2 r1 r3 0 k h4) h2) h

theorem ref12_Lease_Take_ok : CallOk Go.Proofs.Try.prog 15 := ⟨_, Go.Proofs.Try.func15, by kernel_rfl, by kernel_rfl⟩
theorem ref12_Lease_Take_ref (p0 : Option Addr) (k : (Int × Int) → Heap → Prop) (h : Heap) (H : ref12_Lease_Take p0 k h) : CallsH Go.Proofs.Try.prog 15 #[.pointer p0] h (fun v h' => ∃ r : Int × Int, v = .tuple #[.int .u64 r.1, .int .i64 r.2] ∧ k r h') := by
  refine f_enter (N := 30) Go.Proofs.Try.func15 rfl rfl rfl (fun w0 => ?_)
  unfold ref12_Lease_Take at H
  refine c_weak [(0, .pointer p0)] ⟨rfl, trivial⟩ ?_
  refine c_seq ?_
  refine c_region ?_
  refine w_p tok rfl rfl rfl ?_
  refine w_p tok rfl rfl rfl ?_
  refine w_end ?_
  refine x_seq ?_
  refine c_seq ?_
  refine c_seq ?_
  refine c_draw (by kernel_rfl) (by kernel_rfl) ?_
  refine q_p tok rfl rfl rfl ?_
  obtain ⟨a1, ha1, H⟩ := H
  refine q_y (y_nil' rfl rfl ha1) rfl rfl ?_
  refine q_p tok rfl rfl rfl ?_
  obtain ⟨v2, hv2, H⟩ := H
  refine q_y (y_ld tok rfl rfl rfl rfl hv2) rfl rfl ?_
  refine q_p tok rfl rfl rfl ?_
  refine q_y (y_nil' rfl rfl ha1) rfl rfl ?_
  refine q_p tok rfl rfl rfl ?_
  obtain ⟨v3, hv3, H⟩ := H
  refine q_y (y_ld tok rfl rfl rfl rfl hv3) rfl rfl ?_
  refine q_p tok rfl rfl rfl ?_
  refine q_end ?_
  refine x_seq ?_
  refine c_weak [(0, .pointer p0), (12, .bool (decide (v2 < v3)))] ⟨rfl, rfl, trivial⟩ ?_
  refine c_if H rfl (fun H => ?_) (fun H => ?_)
  ·
    refine c_seq ?_
    refine c_region ?_
    refine w_p tok rfl rfl rfl ?_
    refine w_y (y_nil' rfl rfl ha1) rfl rfl ?_
    refine w_p tok rfl rfl rfl ?_
    obtain ⟨v4, hv4, H⟩ := H
    refine w_y (y_ld tok rfl rfl rfl rfl hv4) rfl rfl ?_
    refine w_p tok rfl rfl rfl ?_
    refine w_y (y_nil' rfl rfl ha1) rfl rfl ?_
    refine w_p tok rfl rfl rfl ?_
    obtain ⟨h5, wh5, eh5, H⟩ := H
    refine w_h (h_st tok rfl rfl rfl rfl rfl rfl wh5 eh5) rfl rfl ?_
    refine w_end ?_
    refine x_seq ?_
    refine c_weak [(0, .pointer p0)] ⟨rfl, trivial⟩ ?_
    refine c_seq ?_
    refine c_region ?_
    refine w_p tok rfl rfl rfl ?_
    refine w_y (y_nil' rfl rfl ha1) rfl rfl ?_
    refine w_p tok rfl rfl rfl ?_
    obtain ⟨v6, hv6, H⟩ := H
    refine w_y (y_ld tok rfl rfl rfl rfl hv6) rfl rfl ?_
    refine w_p tok rfl rfl rfl ?_
    obtain ⟨x7, ex7, H⟩ := H
    refine w_pe tok rfl (congrArg (fun z => (.int .u64 z : Value)) ex7) rfl rfl ?_
    refine w_p tok rfl rfl rfl ?_
    refine w_end ?_
    refine x_seq ?_
    refine c_ret ?_
    refine x_tr ?_
    exact x_ret _ rfl _ rfl ⟨(x7, 0), rfl, H⟩
  ·
    refine c_skip ?_
    refine x_seq ?_
    refine c_seq ?_
    refine c_seq ?_
    refine c_region ?_
    refine w_p tok rfl rfl rfl ?_
    refine w_y (y_nil' rfl rfl ha1) rfl rfl ?_
    refine w_p tok rfl rfl rfl ?_
    obtain ⟨v8, hv8, H⟩ := H
    refine w_y (y_ld tok rfl rfl rfl rfl hv8) rfl rfl ?_
    refine w_p tok rfl rfl rfl ?_
    refine w_end ?_
    refine x_seq ?_
    refine c_if H rfl (fun H => ?_) (fun H => ?_)
    ·
      refine c_seq ?_
      refine c_region ?_
      refine w_p tok rfl rfl rfl ?_
      refine w_p tok rfl rfl rfl ?_
      refine w_end ?_
      refine x_seq ?_
      refine c_weak [(2, .int .u64 0), (3, .int .i64 12)] ⟨rfl, rfl, trivial⟩ ?_
      refine c_ret ?_
      refine x_tr ?_
      exact x_ret _ rfl _ rfl ⟨(0, 12), rfl, H⟩
    ·
      refine c_skip ?_
      refine x_seq ?_
      refine c_weak [] trivial ?_
      refine c_seq ?_
      refine c_region ?_
      refine w_p tok rfl rfl rfl ?_
      refine w_p tok rfl rfl rfl ?_
      refine w_end ?_
      refine x_seq ?_
      refine c_ret ?_
      exact x_ret _ rfl _ rfl ⟨(0, 14), rfl, H⟩

theorem ref12_Lease_Grant_ok : CallOk Go.Proofs.Try.prog 18 := ⟨_, Go.Proofs.Try.func18, by kernel_rfl, by kernel_rfl⟩
theorem ref12_Lease_Grant_ref (p0 : Option Addr) (p1 : Int) (k : (Int) → Heap → Prop) (h : Heap) (H : ref12_Lease_Grant p0 p1 k h) : CallsH Go.Proofs.Try.prog 18 #[.pointer p0, .int .u64 p1] h (fun v h' => ∃ r : Int, v = .int .i64 r ∧ k r h') := by
  refine f_enter (N := 17) Go.Proofs.Try.func18 rfl rfl rfl (fun w0 => ?_)
  unfold ref12_Lease_Grant at H
  refine c_weak [(0, .pointer p0), (1, .int .u64 p1)] ⟨rfl, rfl, trivial⟩ ?_
  refine c_seq ?_
  refine c_region ?_
  refine w_p tok rfl rfl rfl ?_
  refine w_end ?_
  refine x_seq ?_
  refine c_seq ?_
  refine c_seq ?_
  refine c_region ?_
  refine w_p tok rfl rfl rfl ?_
  refine w_p tok rfl rfl rfl ?_
  obtain ⟨a1, ha1, H⟩ := H
  refine w_y (y_nil' rfl rfl ha1) rfl rfl ?_
  refine w_p tok rfl rfl rfl ?_
  obtain ⟨v2, hv2, H⟩ := H
  refine w_y (y_ld tok rfl rfl rfl rfl hv2) rfl rfl ?_
  refine w_p tok rfl rfl rfl ?_
  refine w_end ?_
  refine x_seq ?_
  refine c_if H rfl (fun H => ?_) (fun H => ?_)
  ·
    refine c_seq ?_
    refine c_region ?_
    refine w_p tok rfl rfl rfl ?_
    refine w_end ?_
    refine x_seq ?_
    refine c_weak [(4, .int .i64 13)] ⟨rfl, trivial⟩ ?_
    refine c_ret ?_
    refine x_tr ?_
    exact x_ret _ rfl _ rfl ⟨13, rfl, H⟩
  ·
    refine c_skip ?_
    refine x_seq ?_
    refine c_weak [(0, .pointer p0), (1, .int .u64 p1)] ⟨rfl, rfl, trivial⟩ ?_
    refine c_seq ?_
    refine c_seq ?_
    refine c_region ?_
    refine w_p tok rfl rfl rfl ?_
    refine w_p tok rfl rfl rfl ?_
    refine w_end ?_
    refine x_seq ?_
    refine c_if H rfl (fun H => ?_) (fun H => ?_)
    ·
      refine c_seq ?_
      refine c_region ?_
      refine w_p tok rfl rfl rfl ?_
      refine w_end ?_
      refine x_seq ?_
      refine c_ret ?_
      refine x_tr ?_
      exact x_ret _ rfl _ rfl ⟨12, rfl, H⟩
    ·
      refine c_skip ?_
      refine x_seq ?_
      refine c_seq ?_
      refine c_region ?_
      refine w_p tok rfl rfl rfl ?_
      refine w_p tok rfl rfl rfl ?_
      refine w_y (y_nil' rfl rfl ha1) rfl rfl ?_
      refine w_p tok rfl rfl rfl ?_
      obtain ⟨h3, wh3, eh3, H⟩ := H
      refine w_h (h_st tok rfl rfl rfl rfl rfl rfl wh3 eh3) rfl rfl ?_
      refine w_end ?_
      refine x_seq ?_
      refine c_weak [] trivial ?_
      refine c_seq ?_
      refine c_region ?_
      refine w_p tok rfl rfl rfl ?_
      refine w_end ?_
      refine x_seq ?_
      refine c_ret ?_
      exact x_ret _ rfl _ rfl ⟨0, rfl, H⟩

theorem ref12_Lease_Wants_ok : CallOk Go.Proofs.Try.prog 19 := ⟨_, Go.Proofs.Try.func19, by kernel_rfl, by kernel_rfl⟩
theorem ref12_Lease_Wants_ref (p0 : Option Addr) (p1 : Int) (k : (Int × Int) → Heap → Prop) (h : Heap) (H : ref12_Lease_Wants p0 p1 k h) : CallsH Go.Proofs.Try.prog 19 #[.pointer p0, .int .u64 p1] h (fun v h' => ∃ r : Int × Int, v = .tuple #[.int .u64 r.1, .int .i64 r.2] ∧ k r h') := by
  refine f_enter (N := 23) Go.Proofs.Try.func19 rfl rfl rfl (fun w0 => ?_)
  unfold ref12_Lease_Wants at H
  refine c_weak [(0, .pointer p0), (1, .int .u64 p1)] ⟨rfl, rfl, trivial⟩ ?_
  refine c_seq ?_
  refine c_region ?_
  refine w_p tok rfl rfl rfl ?_
  refine w_p tok rfl rfl rfl ?_
  refine w_end ?_
  refine x_seq ?_
  refine c_seq ?_
  refine c_seq ?_
  refine c_region ?_
  refine w_p tok rfl rfl rfl ?_
  refine w_p tok rfl rfl rfl ?_
  refine w_p tok rfl rfl rfl ?_
  refine w_cut 8 (α := Bool) (fun (s : Bool) => [(16, .bool s), (0, .pointer p0), (1, .int .u64 p1)]) (fun (s : Bool) h => ref12_Lease_Wants_g1 p0 p1 s k h) ?_ ?_
  ·
    rintro t16_1 h_1 H
    replace H : ref12_Lease_Wants_g1 p0 p1 t16_1 k h_1 := H
    unfold ref12_Lease_Wants_g1 at H
    refine w_weak [(16, .bool t16_1), (0, .pointer p0), (1, .int .u64 p1)] ⟨rfl, rfl, rfl, trivial⟩ ?_
    refine w_end ?_
    refine x_seq ?_
    refine c_if H rfl (fun H => ?_) (fun H => ?_)
    ·
      refine c_seq ?_
      refine c_region ?_
      refine w_p tok rfl rfl rfl ?_
      refine w_p tok rfl rfl rfl ?_
      refine w_end ?_
      refine x_seq ?_
      refine c_ret ?_
      refine x_tr ?_
      exact x_ret _ rfl _ rfl ⟨(0, 12), rfl, H⟩
    ·
      refine c_skip ?_
      refine x_seq ?_
      refine c_seq ?_
      refine c_region ?_
      refine w_p tok rfl rfl rfl ?_
      obtain ⟨a1, ha1, H⟩ := H
      refine w_y (y_nil' rfl rfl ha1) rfl rfl ?_
      refine w_p tok rfl rfl rfl ?_
      obtain ⟨v2, hv2, H⟩ := H
      refine w_y (y_ld tok rfl rfl rfl rfl hv2) rfl rfl ?_
      refine w_p tok rfl rfl rfl ?_
      refine w_p tok rfl rfl rfl ?_
      obtain ⟨x3, ex3, H⟩ := H
      refine w_pe tok rfl (congrArg (fun z => (.int .u64 z : Value)) ex3) rfl rfl ?_
      refine w_p tok rfl rfl rfl ?_
      refine w_end ?_
      refine x_seq ?_
      refine c_weak [(4, .int .u64 x3), (5, .int .i64 0)] ⟨rfl, rfl, trivial⟩ ?_
      refine c_ret ?_
      exact x_ret _ rfl _ rfl ⟨(x3, 0), rfl, H⟩
  ·
    refine w_gif (d := 8) H rfl (fun H => ?_) (fun H => ?_)
    ·
      refine w_skip rfl rfl ?_
      refine w_skip rfl rfl ?_
      refine w_skip rfl rfl ?_
      refine w_skip rfl rfl ?_
      refine w_skip rfl rfl ?_
      refine w_skip rfl rfl ?_
      refine w_skip rfl rfl ?_
      refine w_p tok rfl rfl rfl ?_
      exact w_jn true H ⟨rfl, rfl, rfl, trivial⟩
    ·
      refine w_p tok rfl rfl rfl ?_
      obtain ⟨a4, ha4, H⟩ := H
      refine w_y (y_nil' rfl rfl ha4) rfl rfl ?_
      refine w_p tok rfl rfl rfl ?_
      obtain ⟨v5, hv5, H⟩ := H
      refine w_y (y_ld tok rfl rfl rfl rfl hv5) rfl rfl ?_
      refine w_p tok rfl rfl rfl ?_
      refine w_p tok rfl rfl rfl ?_
      refine w_p tok rfl rfl rfl ?_
      refine w_p tok rfl rfl rfl ?_
      exact w_jn (decide ((IntKind.u64.wrap (v5 + p1)) > 4611686018427387904)) H ⟨rfl, rfl, rfl, trivial⟩

theorem ref12_New_ok : CallOk Go.Proofs.Try.prog 14 := ⟨_, Go.Proofs.Try.func14, by kernel_rfl, by kernel_rfl⟩
theorem ref12_New_ref (p0 : Int) (p1 : Int) (k : (Option Addr) → Heap → Prop) (h : Heap) (H : ref12_New p0 p1 k h) : CallsH Go.Proofs.Try.prog 14 #[.int .u16 p0, .int .u64 p1] h (fun v h' => ∃ r : Option Addr, v = .pointer r ∧ k r h') := by
  refine f_enter (N := 12) Go.Proofs.Try.func14 rfl rfl rfl (fun w0 => ?_)
  unfold ref12_New at H
  refine c_weak [(0, .int .u16 p0), (1, .int .u64 p1)] ⟨rfl, rfl, trivial⟩ ?_
  refine c_seq ?_
  refine c_region ?_
  refine w_p tok rfl rfl rfl ?_
  refine w_end ?_
  refine x_seq ?_
  refine c_seqJ (α := Int) (fun (s : Int) => [(1, .int .u64 s), (0, .int .u16 p0)]) (fun (s : Int) h => ref12_New_j1 p0 s k h) ?_ ?_
  ·
    rintro t1_1 h_1 H
    replace H : ref12_New_j1 p0 t1_1 k h_1 := H
    unfold ref12_New_j1 at H
    refine c_weak [(1, .int .u64 t1_1), (0, .int .u16 p0)] ⟨rfl, rfl, trivial⟩ ?_
    refine c_seq ?_
    refine c_region ?_
    refine w_p tok rfl rfl rfl ?_
    refine w_p tok rfl rfl rfl ?_
    refine w_p tok rfl rfl rfl ?_
    refine w_y (y_build tok rfl rfl rfl rfl rfl) rfl rfl ?_
    obtain ⟨b1, h2, eb1, eh2, H⟩ := H
    refine w_h (h_box rfl rfl eb1 eh2) rfl rfl ?_
    refine w_p tok rfl rfl rfl ?_
    refine w_end ?_
    refine x_seq ?_
    refine c_weak [(4, .pointer (some (⟨b1, 0, none⟩ : Addr)))] ⟨rfl, trivial⟩ ?_
    refine c_ret ?_
    exact x_ret _ rfl _ rfl ⟨(some (⟨b1, 0, none⟩ : Addr)), rfl, H⟩
  ·
    refine c_seq ?_
    refine c_region ?_
    refine w_p tok rfl rfl rfl ?_
    refine w_p tok rfl rfl rfl ?_
    refine w_end ?_
    refine x_seq ?_
    refine c_if H rfl (fun H => ?_) (fun H => ?_)
    ·
      refine c_region ?_
      refine w_p tok rfl rfl rfl ?_
      refine w_end ?_
      exact x_join 4611686018427387904 H ⟨rfl, rfl, trivial⟩
    ·
      refine c_skip ?_
      exact x_join p1 H ⟨rfl, rfl, trivial⟩

theorem lease_Lease_Left_ok : CallOk Go.Proofs.Try.prog 20 := ⟨_, Go.Proofs.Try.func20, by kernel_rfl, by kernel_rfl⟩
theorem lease_Lease_Left_ref (p0 : Option Addr) (k : (Int) → Heap → Prop) (h : Heap) (H : lease_Lease_Left p0 k h) : CallsH Go.Proofs.Try.prog 20 #[.pointer p0] h (fun v h' => ∃ r : Int, v = .int .u64 r ∧ k r h') := by
  refine f_enter (N := 14) Go.Proofs.Try.func20 rfl rfl rfl (fun w0 => ?_)
  unfold lease_Lease_Left at H
  refine c_weak [(0, .pointer p0)] ⟨rfl, trivial⟩ ?_
  refine c_seq ?_
  refine c_region ?_
  refine w_p tok rfl rfl rfl ?_
  refine w_end ?_
  refine x_seq ?_
  refine c_seq ?_
  refine c_seq ?_
  refine c_region ?_
  refine w_p tok rfl rfl rfl ?_
  refine w_p tok rfl rfl rfl ?_
  refine w_end ?_
  refine x_seq ?_
  refine c_if H rfl (fun H => ?_) (fun H => ?_)
  ·
    refine c_seq ?_
    refine c_region ?_
    refine w_p tok rfl rfl rfl ?_
    refine w_end ?_
    refine x_seq ?_
    refine c_ret ?_
    refine x_tr ?_
    exact x_ret _ rfl _ rfl ⟨0, rfl, H⟩
  ·
    refine c_skip ?_
    refine x_seq ?_
    refine c_seq ?_
    refine c_draw (by kernel_rfl) (by kernel_rfl) ?_
    refine q_p tok rfl rfl rfl ?_
    obtain ⟨a1, ha1, H⟩ := H
    refine q_y (y_nil' rfl rfl ha1) rfl rfl ?_
    refine q_p tok rfl rfl rfl ?_
    obtain ⟨v2, hv2, H⟩ := H
    refine q_y (y_ld tok rfl rfl rfl rfl hv2) rfl rfl ?_
    refine q_p tok rfl rfl rfl ?_
    refine q_y (y_nil' rfl rfl ha1) rfl rfl ?_
    refine q_p tok rfl rfl rfl ?_
    obtain ⟨v3, hv3, H⟩ := H
    refine q_y (y_ld tok rfl rfl rfl rfl hv3) rfl rfl ?_
    refine q_p tok rfl rfl rfl ?_
    refine q_p tok rfl rfl rfl ?_
    refine q_end ?_
    refine x_seq ?_
    refine c_weak [(2, .int .u64 (IntKind.u64.wrap (v2 - v3)))] ⟨rfl, trivial⟩ ?_
    refine c_ret ?_
    exact x_ret _ rfl _ rfl ⟨(IntKind.u64.wrap (v2 - v3)), rfl, H⟩

theorem slices_Clone_byte_byte_ok : CallOk Go.Proofs.Try.prog 48 := ⟨_, Go.Proofs.Try.func48, by kernel_rfl, by kernel_rfl⟩
theorem slices_Clone_byte_byte_ref (p0 : Slc) (k : (Slc) → Heap → Prop) (h : Heap) (H : slices_Clone_byte_byte p0 k h) : CallsH Go.Proofs.Try.prog 48 #[Slc.v p0] h (fun v h' => ∃ r : Slc, v = Slc.v r ∧ k r h') := by
  refine f_enter (N := 8) Go.Proofs.Try.func48 rfl rfl rfl (fun w0 => ?_)
  unfold slices_Clone_byte_byte at H
  refine c_weak [(0, Slc.v p0)] ⟨rfl, trivial⟩ ?_
  refine c_seq ?_
  refine c_region ?_
  refine w_p tok rfl rfl rfl ?_
  refine w_end ?_
  refine x_seq ?_
  refine c_seq ?_
  refine c_seq ?_
  refine c_region ?_
  refine w_p tok rfl rfl rfl ?_
  refine w_p tok rfl rfl rfl ?_
  refine w_end ?_
  refine x_seq ?_
  refine c_if H rfl (fun H => ?_) (fun H => ?_)
  ·
    refine c_seq ?_
    refine c_region ?_
    refine w_p tok rfl rfl rfl ?_
    refine w_end ?_
    refine x_seq ?_
    refine c_ret ?_
    refine x_tr ?_
    exact x_ret _ rfl _ rfl ⟨(⟨none, 0, 0⟩ : Slc), rfl, H⟩
  ·
    refine c_skip ?_
    refine x_seq ?_
    refine c_seq ?_
    refine c_region ?_
    obtain ⟨b1, h2, eb1, eh2, H⟩ := H
    refine w_h (h_bs tok rfl rfl rfl rfl rfl rfl rfl eb1 eh2) rfl rfl ?_
    refine w_p tok rfl rfl rfl ?_
    obtain ⟨l5, hl5, H⟩ := H
    refine w_a (a_app (s := (⟨some ⟨b1, 0, none⟩, 0, 0⟩ : Slc)) (r := p0) tok rfl rfl rfl rfl rfl hl5 H) rfl rfl ?_
    rintro _ h4 ⟨s3, rfl, H⟩
    refine w_p tok rfl rfl rfl ?_
    refine w_end ?_
    refine x_seq ?_
    refine c_ret ?_
    exact x_ret _ rfl _ rfl ⟨s3, rfl, H⟩

theorem num_Put_ok : CallOk Go.Proofs.Try.prog 46 := ⟨_, Go.Proofs.Try.func46, by kernel_rfl, by kernel_rfl⟩
theorem num_Put_ref (p0 : Slc) (p1 : Int) (p2 : Int) (k : (Slc) → Heap → Prop) (h : Heap) (H : num_Put p0 p1 p2 k h) : CallsH Go.Proofs.Try.prog 46 #[Slc.v p0, .int .u64 p1, .int .i64 p2] h (fun v h' => ∃ r : Slc, v = Slc.v r ∧ k r h') := by
  refine f_enter (N := 25) Go.Proofs.Try.func46 rfl rfl rfl (fun w0 => ?_)
  unfold num_Put at H
  refine c_weak [(0, Slc.v p0), (1, .int .u64 p1), (2, .int .i64 p2)] ⟨rfl, rfl, rfl, trivial⟩ ?_
  refine c_seq ?_
  refine c_region ?_
  refine w_p tok rfl rfl rfl ?_
  refine w_end ?_
  refine x_seq ?_
  refine c_seq ?_
  refine c_region ?_
  refine w_p tok rfl rfl rfl ?_
  refine w_call slices_Clone_byte_byte_ok (slices_Clone_byte_byte_ref _ _ _ H) rfl rfl rfl rfl ?_
  rintro _ h2 ⟨r1, rfl, H⟩
  refine w_p tok rfl rfl rfl ?_
  refine w_end ?_
  refine x_seq ?_
  refine c_seq ?_
  refine c_seq ?_
  refine c_region ?_
  refine w_p tok rfl rfl rfl ?_
  refine w_p tok rfl rfl rfl ?_
  refine w_end ?_
  refine x_seq ?_
  refine c_if H rfl (fun H => ?_) (fun H => ?_)
  ·
    refine c_seq ?_
    refine c_region ?_
    refine w_p tok rfl rfl rfl ?_
    refine w_p tok rfl rfl rfl ?_
    refine w_end ?_
    refine x_seq ?_
    refine c_weak [(6, Slc.v r1)] ⟨rfl, trivial⟩ ?_
    refine c_ret ?_
    refine x_tr ?_
    exact x_ret _ rfl _ rfl ⟨r1, rfl, H⟩
  ·
    refine c_skip ?_
    refine x_seq ?_
    refine c_seq ?_
    refine c_seq ?_
    refine c_region ?_
    refine w_p tok rfl rfl rfl ?_
    refine w_p tok rfl rfl rfl ?_
    refine w_end ?_
    refine x_seq ?_
    refine c_weak [(1, .int .u64 p1), (7, Slc.v r1), (13, .int .i64 p2), (14, .int .i64 0)] ⟨rfl, rfl, rfl, rfl, trivial⟩ ?_
    refine c_block ?_
    obtain ⟨I1, μ1, H0, HI⟩ := H
    refine c_loop (σ := Int × Slc × Int) (fun (s : Int × Slc × Int) => [(1, .int .u64 s.1), (7, Slc.v s.2.1), (14, .int .i64 s.2.2), (13, .int .i64 p2)]) I1 μ1 (p1, r1, 0) H0 ⟨rfl, rfl, rfl, rfl, trivial⟩ ?_
    rintro ⟨t1_1, t7_1, t14_1⟩ h_1 H
    replace H := HI t1_1 t7_1 t14_1 h_1 H
    unfold num_Put_l1b at H
    refine c_weak [(1, .int .u64 t1_1), (7, Slc.v t7_1), (14, .int .i64 t14_1), (13, .int .i64 p2)] ⟨rfl, rfl, rfl, rfl, trivial⟩ ?_
    refine c_seq ?_
    refine c_region ?_
    refine w_p tok rfl rfl rfl ?_
    refine w_end ?_
    refine x_seq ?_
    refine c_seq ?_
    refine c_if H rfl (fun H => ?_) (fun H => ?_)
    ·
      refine c_skip ?_
      refine x_seq ?_
      refine c_seq ?_
      refine c_block ?_
      refine c_seq ?_
      refine c_region ?_
      refine w_p tok rfl rfl rfl ?_
      refine w_p tok rfl rfl rfl ?_
      refine w_p tok rfl rfl rfl ?_
      obtain ⟨b3, h4, eb3, eh4, H⟩ := H
      refine w_h (h_bs tok rfl rfl rfl rfl rfl rfl rfl eb3 eh4) rfl rfl ?_
      refine w_a (a_app (s := t7_1) (r := (⟨some ⟨b3, 0, none⟩, 1, 1⟩ : Slc)) tok rfl rfl rfl rfl rfl (slcAt_push eb3 eh4) H) rfl rfl ?_
      rintro _ h6 ⟨s5, rfl, H⟩
      refine w_p tok rfl rfl rfl ?_
      refine w_end ?_
      refine x_seq ?_
      refine c_region ?_
      refine w_p tok rfl rfl rfl ?_
      refine w_p tok rfl rfl rfl ?_
      obtain ⟨x7, ex7, H⟩ := H
      refine w_pe tok rfl (congrArg (fun z => (.int .u64 z : Value)) ex7) rfl rfl ?_
      refine w_end ?_
      refine x_blk ?_
      refine x_seq ?_
      refine c_weak [(1, .int .u64 x7), (7, Slc.v s5), (14, .int .i64 t14_1), (13, .int .i64 p2)] ⟨rfl, rfl, rfl, rfl, trivial⟩ ?_
      refine c_region ?_
      refine w_p tok rfl rfl rfl ?_
      refine w_p tok rfl rfl rfl ?_
      refine w_end ?_
      exact x_join (x7, s5, (IntKind.i64.wrap (t14_1 + 1))) H ⟨rfl, rfl, rfl, rfl, trivial⟩
    ·
      refine c_exit ?_
      refine x_te ?_
      refine x_te ?_
      refine x_bh ?_
      refine x_seq ?_
      refine c_seq ?_
      refine c_region ?_
      refine w_p tok rfl rfl rfl ?_
      refine w_p tok rfl rfl rfl ?_
      refine w_end ?_
      refine x_seq ?_
      refine c_ret ?_
      exact x_ret _ rfl _ rfl ⟨t7_1, rfl, H⟩

theorem aead_NonceOf_ok : CallOk Go.Proofs.Try.prog 41 := ⟨_, Go.Proofs.Try.func41, by kernel_rfl, by kernel_rfl⟩
theorem aead_NonceOf_ref (p0 : Int) (p1 : Int) (k : (List Int × Int) → Heap → Prop) (h : Heap) (H : aead_NonceOf p0 p1 k h) : CallsH Go.Proofs.Try.prog 41 #[.int .u16 p0, .int .u64 p1] h (fun v h' => ∃ r : List Int × Int, v = .tuple #[.agg ((r.1).map (Value.int .u8)).toArray, .int .i64 r.2] ∧ k r h') := by
  refine f_enter (N := 19) Go.Proofs.Try.func41 rfl rfl rfl (fun w0 => ?_)
  unfold aead_NonceOf at H
  refine c_weak [(0, .int .u16 p0), (1, .int .u64 p1)] ⟨rfl, rfl, trivial⟩ ?_
  refine c_seq ?_
  refine c_region ?_
  obtain ⟨b1, h2, eb1, eh2, H⟩ := H
  refine w_h (h_alloc tok rfl rfl eb1 eh2) rfl rfl ?_
  refine w_p tok rfl rfl rfl ?_
  refine w_end ?_
  refine x_seq ?_
  refine c_seq ?_
  refine c_seq ?_
  refine c_region ?_
  refine w_p tok rfl rfl rfl ?_
  refine w_p tok rfl rfl rfl ?_
  refine w_end ?_
  refine x_seq ?_
  refine c_if H rfl (fun H => ?_) (fun H => ?_)
  ·
    refine c_seq ?_
    refine c_region ?_
    refine w_y (y_builda tok rfl rfl rfl rfl rfl) rfl rfl ?_
    obtain ⟨h3, lh3, wh3, eh3, H⟩ := H
    refine w_h (h_sts tok rfl rfl rfl rfl (by rw [List.length_map]; exact lh3.symm) (by simp [Value.oneCell']) wh3 eh3) rfl rfl ?_
    refine w_p tok rfl rfl rfl ?_
    refine w_end ?_
    refine x_seq ?_
    refine c_ret ?_
    refine x_tr ?_
    obtain ⟨v4, lv4, hv4, H⟩ := H
    exact x_retc tok _ rfl [.agg ((v4).map (Value.int .u8)).toArray, .int .i64 12] ⟨⟨_, _, rfl, rfl, .inr ⟨rfl, _, rfl, (by rw [List.length_map]; exact lv4), hv4⟩⟩, rfl, trivial⟩ ⟨(v4, 12), rfl, H⟩
  ·
    refine c_skip ?_
    refine x_seq ?_
    refine c_seq ?_
    refine c_region ?_
    refine w_p tok rfl rfl rfl ?_
    refine w_call num_Put_ok (num_Put_ref _ _ _ _ _ H) rfl rfl rfl rfl ?_
    rintro _ h6 ⟨r5, rfl, H⟩
    refine w_p tok rfl rfl rfl ?_
    refine w_p tok rfl rfl rfl ?_
    refine w_call num_Put_ok (num_Put_ref _ _ _ _ _ H) rfl rfl rfl rfl ?_
    rintro _ h8 ⟨r7, rfl, H⟩
    refine w_call num_Put_ok (num_Put_ref _ _ _ _ _ H) rfl rfl rfl rfl ?_
    rintro _ h10 ⟨r9, rfl, H⟩
    refine w_p tok rfl rfl rfl ?_
    refine w_end ?_
    refine x_seq ?_
    refine c_weak [(4, .pointer (some (⟨b1, 0, none⟩ : Addr))), (6, Slc.v r9)] ⟨rfl, rfl, trivial⟩ ?_
    refine c_seq ?_
    refine c_region ?_
    refine w_p tok rfl rfl rfl ?_
    obtain ⟨a11, ha11, ua11, H⟩ := H
    refine w_y (y_s2a tok rfl rfl ha11 rfl ua11) rfl rfl ?_
    obtain ⟨v12, lv12, hv12, H⟩ := H
    refine w_y (y_lda tok rfl rfl rfl rfl (by rw [List.length_map]; exact lv12) hv12) rfl rfl ?_
    obtain ⟨h13, lh13, wh13, eh13, H⟩ := H
    refine w_h (h_sts tok rfl rfl rfl rfl (by rw [List.length_map]; exact lh13.symm) (by simp [Value.oneCell']) wh13 eh13) rfl rfl ?_
    refine w_p tok rfl rfl rfl ?_
    refine w_end ?_
    refine x_seq ?_
    refine c_ret ?_
    obtain ⟨v14, lv14, hv14, H⟩ := H
    exact x_retc tok _ rfl [.agg ((v14).map (Value.int .u8)).toArray, .int .i64 0] ⟨⟨_, _, rfl, rfl, .inr ⟨rfl, _, rfl, (by rw [List.length_map]; exact lv14), hv14⟩⟩, rfl, trivial⟩ ⟨(v14, 0), rfl, H⟩

theorem ref01_Form_ok : CallOk Go.Proofs.Try.prog 47 := ⟨_, Go.Proofs.Try.func47, by kernel_rfl, by kernel_rfl⟩
theorem ref01_Form_ref (p0 : Int) (p1 : Int) (k : (Slc) → Heap → Prop) (h : Heap) (H : ref01_Form p0 p1 k h) : CallsH Go.Proofs.Try.prog 47 #[.int .u64 p0, .int .i64 p1] h (fun v h' => ∃ r : Slc, v = Slc.v r ∧ k r h') := by
  refine f_enter (N := 21) Go.Proofs.Try.func47 rfl rfl rfl (fun w0 => ?_)
  unfold ref01_Form at H
  refine c_weak [(0, .int .u64 p0), (1, .int .i64 p1)] ⟨rfl, rfl, trivial⟩ ?_
  refine c_seq ?_
  refine c_region ?_
  refine w_p tok rfl rfl rfl ?_
  refine w_end ?_
  refine x_seq ?_
  refine c_seq ?_
  refine c_region ?_
  refine w_p tok rfl rfl rfl ?_
  refine w_end ?_
  refine x_seq ?_
  refine c_seq ?_
  refine c_seq ?_
  refine c_region ?_
  refine w_p tok rfl rfl rfl ?_
  refine w_end ?_
  refine x_seq ?_
  refine c_block ?_
  obtain ⟨I1, μ1, H0, HI⟩ := H
  refine c_loop (σ := Int × Slc × Int) (fun (s : Int × Slc × Int) => [(0, .int .u64 s.1), (5, Slc.v s.2.1), (6, .int .i64 s.2.2), (1, .int .i64 p1)]) I1 μ1 (p0, (⟨none, 0, 0⟩ : Slc), 0) H0 ⟨rfl, rfl, rfl, rfl, trivial⟩ ?_
  rintro ⟨t0_1, t5_1, t6_1⟩ h_1 H
  replace H := HI t0_1 t5_1 t6_1 h_1 H
  unfold ref01_Form_l1b at H
  refine c_weak [(0, .int .u64 t0_1), (5, Slc.v t5_1), (6, .int .i64 t6_1), (1, .int .i64 p1)] ⟨rfl, rfl, rfl, rfl, trivial⟩ ?_
  refine c_seq ?_
  refine c_seq ?_
  refine c_region ?_
  refine w_p tok rfl rfl rfl ?_
  refine w_p tok rfl rfl rfl ?_
  refine w_p tok rfl rfl rfl ?_
  refine w_end ?_
  refine x_seq ?_
  refine c_if H rfl (fun H => ?_) (fun H => ?_)
  ·
    refine c_skip ?_
    refine x_seq ?_
    refine c_seq ?_
    refine c_block ?_
    refine c_seq ?_
    refine c_region ?_
    refine w_p tok rfl rfl rfl ?_
    refine w_p tok rfl rfl rfl ?_
    refine w_p tok rfl rfl rfl ?_
    refine w_p tok rfl rfl rfl ?_
    obtain ⟨b1, h2, eb1, eh2, H⟩ := H
    refine w_h (h_bs tok rfl rfl rfl rfl rfl rfl rfl eb1 eh2) rfl rfl ?_
    refine w_a (a_app (s := t5_1) (r := (⟨some ⟨b1, 0, none⟩, 1, 1⟩ : Slc)) tok rfl rfl rfl rfl rfl (slcAt_push eb1 eh2) H) rfl rfl ?_
    rintro _ h4 ⟨s3, rfl, H⟩
    refine w_p tok rfl rfl rfl ?_
    refine w_end ?_
    refine x_seq ?_
    refine c_weak [(0, .int .u64 t0_1), (5, Slc.v s3), (6, .int .i64 t6_1), (1, .int .i64 p1)] ⟨rfl, rfl, rfl, rfl, trivial⟩ ?_
    refine c_region ?_
    refine w_p tok rfl rfl rfl ?_
    refine w_p tok rfl rfl rfl ?_
    obtain ⟨x5, ex5, H⟩ := H
    refine w_pe tok rfl (congrArg (fun z => (.int .u64 z : Value)) ex5) rfl rfl ?_
    refine w_end ?_
    refine x_blk ?_
    refine x_seq ?_
    refine c_region ?_
    refine w_p tok rfl rfl rfl ?_
    refine w_p tok rfl rfl rfl ?_
    obtain ⟨x6, ex6, H⟩ := H
    refine w_pe tok rfl (congrArg (fun z => (.int .i64 z : Value)) ex6) rfl rfl ?_
    refine w_end ?_
    exact x_join (x5, s3, x6) H ⟨rfl, rfl, rfl, rfl, trivial⟩
  ·
    refine c_exit ?_
    refine x_te ?_
    refine x_te ?_
    refine x_bh ?_
    refine x_seq ?_
    refine c_seq ?_
    refine c_region ?_
    refine w_p tok rfl rfl rfl ?_
    refine w_p tok rfl rfl rfl ?_
    refine w_end ?_
    refine x_seq ?_
    refine c_weak [(4, Slc.v t5_1)] ⟨rfl, trivial⟩ ?_
    refine c_ret ?_
    exact x_ret _ rfl _ rfl ⟨t5_1, rfl, H⟩

theorem ref06_Nonce_ok : CallOk Go.Proofs.Try.prog 42 := ⟨_, Go.Proofs.Try.func42, by kernel_rfl, by kernel_rfl⟩
theorem ref06_Nonce_ref (p0 : Int) (p1 : Int) (k : (List Int) → Heap → Prop) (h : Heap) (H : ref06_Nonce p0 p1 k h) : CallsH Go.Proofs.Try.prog 42 #[.int .u16 p0, .int .u64 p1] h (fun v h' => ∃ r : List Int, v = .agg ((r).map (Value.int .u8)).toArray ∧ k r h') := by
  refine f_enter (N := 25) Go.Proofs.Try.func42 rfl rfl rfl (fun w0 => ?_)
  unfold ref06_Nonce at H
  refine c_weak [(0, .int .u16 p0), (1, .int .u64 p1)] ⟨rfl, rfl, trivial⟩ ?_
  refine c_seq ?_
  refine c_region ?_
  obtain ⟨b1, h2, eb1, eh2, H⟩ := H
  refine w_h (h_alloc tok rfl rfl eb1 eh2) rfl rfl ?_
  refine w_end ?_
  refine x_seq ?_
  refine c_seq ?_
  refine c_region ?_
  obtain ⟨b3, h4, eb3, eh4, H⟩ := H
  refine w_h (h_alloc tok rfl rfl eb3 eh4) rfl rfl ?_
  refine w_end ?_
  refine x_seq ?_
  refine c_seq ?_
  refine c_region ?_
  refine w_p tok rfl rfl rfl ?_
  refine w_call ref01_Form_ok (ref01_Form_ref _ _ _ _ H) rfl rfl rfl rfl ?_
  rintro _ h6 ⟨r5, rfl, H⟩
  refine w_p tok rfl rfl rfl ?_
  refine w_p tok rfl rfl rfl ?_
  refine w_call ref01_Form_ok (ref01_Form_ref _ _ _ _ H) rfl rfl rfl rfl ?_
  rintro _ h8 ⟨r7, rfl, H⟩
  obtain ⟨l11, hl11, H⟩ := H
  refine w_a (a_app (s := r5) (r := r7) tok rfl rfl rfl rfl rfl hl11 H) rfl rfl ?_
  rintro _ h10 ⟨s9, rfl, H⟩
  refine w_p tok rfl rfl rfl ?_
  refine w_end ?_
  refine x_seq ?_
  refine c_weak [(4, .pointer (some (⟨b1, 0, none⟩ : Addr))), (5, .pointer (some (⟨b3, 0, none⟩ : Addr))), (6, Slc.v s9)] ⟨rfl, rfl, rfl, trivial⟩ ?_
  refine c_seq ?_
  refine c_seq ?_
  refine c_region ?_
  refine w_p tok rfl rfl rfl ?_
  refine w_end ?_
  refine x_seq ?_
  refine c_block ?_
  obtain ⟨I1, μ1, H0, HI⟩ := H
  refine c_loop (σ := Int) (fun (s : Int) => [(7, .int .i64 s), (4, .pointer (some (⟨b1, 0, none⟩ : Addr))), (5, .pointer (some (⟨b3, 0, none⟩ : Addr))), (6, Slc.v s9)]) I1 μ1 0 H0 ⟨rfl, rfl, rfl, rfl, trivial⟩ ?_
  rintro t7_1 h_1 H
  replace H := HI t7_1 h_1 H
  unfold ref06_Nonce_l1b at H
  refine c_weak [(7, .int .i64 t7_1), (4, .pointer (some (⟨b1, 0, none⟩ : Addr))), (5, .pointer (some (⟨b3, 0, none⟩ : Addr))), (6, Slc.v s9)] ⟨rfl, rfl, rfl, rfl, trivial⟩ ?_
  refine c_seq ?_
  refine c_seq ?_
  refine c_region ?_
  refine w_p tok rfl rfl rfl ?_
  refine w_p tok rfl rfl rfl ?_
  refine w_end ?_
  refine x_seq ?_
  refine c_if H rfl (fun H => ?_) (fun H => ?_)
  ·
    refine c_skip ?_
    refine x_seq ?_
    refine c_seq ?_
    refine c_block ?_
    refine c_region ?_
    refine w_p tok rfl rfl rfl ?_
    refine w_p tok rfl rfl rfl ?_
    refine w_p tok rfl rfl rfl ?_
    obtain ⟨a12, ha12, la12, ua12, H⟩ := H
    refine w_y (y_ixa' tok rfl rfl ha12 rfl rfl rfl la12 ua12) rfl rfl ?_
    obtain ⟨v13, hv13, H⟩ := H
    refine w_y (y_ld tok rfl rfl rfl rfl hv13) rfl rfl ?_
    obtain ⟨lb14, ub14, H⟩ := H
    refine w_y (y_ixp tok rfl rfl rfl rfl rfl lb14 ub14) rfl rfl ?_
    obtain ⟨h15, wh15, eh15, H⟩ := H
    refine w_h (h_st tok rfl rfl rfl rfl rfl rfl wh15 eh15) rfl rfl ?_
    refine w_end ?_
    refine x_blk ?_
    refine x_seq ?_
    refine c_weak [(7, .int .i64 t7_1), (4, .pointer (some (⟨b1, 0, none⟩ : Addr))), (5, .pointer (some (⟨b3, 0, none⟩ : Addr))), (6, Slc.v s9)] ⟨rfl, rfl, rfl, rfl, trivial⟩ ?_
    refine c_region ?_
    refine w_p tok rfl rfl rfl ?_
    refine w_p tok rfl rfl rfl ?_
    obtain ⟨x16, ex16, H⟩ := H
    refine w_pe tok rfl (congrArg (fun z => (.int .i64 z : Value)) ex16) rfl rfl ?_
    refine w_end ?_
    exact x_join x16 H ⟨rfl, rfl, rfl, rfl, trivial⟩
  ·
    refine c_exit ?_
    refine x_te ?_
    refine x_te ?_
    refine x_bh ?_
    refine x_seq ?_
    refine c_seq ?_
    refine c_region ?_
    obtain ⟨v17, lv17, hv17, H⟩ := H
    refine w_y (y_lda tok rfl rfl rfl rfl (by rw [List.length_map]; exact lv17) hv17) rfl rfl ?_
    obtain ⟨h18, lh18, wh18, eh18, H⟩ := H
    refine w_h (h_sts tok rfl rfl rfl rfl (by rw [List.length_map]; exact lh18.symm) (by simp [Value.oneCell']) wh18 eh18) rfl rfl ?_
    refine w_end ?_
    refine x_seq ?_
    refine c_ret ?_
    obtain ⟨v19, lv19, hv19, H⟩ := H
    exact x_retc tok _ rfl [.agg ((v19).map (Value.int .u8)).toArray] ⟨⟨_, _, rfl, rfl, .inr ⟨rfl, _, rfl, (by rw [List.length_map]; exact lv19), hv19⟩⟩, trivial⟩ ⟨v19, rfl, H⟩

theorem lease_Lease_Nonce_ok : CallOk Go.Proofs.Try.prog 16 := ⟨_, Go.Proofs.Try.func16, by kernel_rfl, by kernel_rfl⟩
theorem lease_Lease_Nonce_ref (p0 : Option Addr) (k : (List Int × Int) → Heap → Prop) (h : Heap) (H : lease_Lease_Nonce p0 k h) : CallsH Go.Proofs.Try.prog 16 #[.pointer p0] h (fun v h' => ∃ r : List Int × Int, v = .tuple #[.agg ((r.1).map (Value.int .u8)).toArray, .int .i64 r.2] ∧ k r h') := by
  refine f_enter (N := 23) Go.Proofs.Try.func16 rfl rfl rfl (fun w0 => ?_)
  unfold lease_Lease_Nonce at H
  refine c_weak [(0, .pointer p0)] ⟨rfl, trivial⟩ ?_
  refine c_seq ?_
  refine c_region ?_
  obtain ⟨b1, h2, eb1, eh2, H⟩ := H
  refine w_h (h_alloc tok rfl rfl eb1 eh2) rfl rfl ?_
  refine w_p tok rfl rfl rfl ?_
  refine w_end ?_
  refine x_seq ?_
  refine c_seq ?_
  refine c_region ?_
  refine w_p tok rfl rfl rfl ?_
  refine w_call lease_Lease_Take_ok (lease_Lease_Take_ref _ _ _ H) rfl rfl rfl rfl ?_
  rintro _ h4 ⟨r3, rfl, H⟩
  refine w_p tok rfl rfl rfl ?_
  refine w_p tok rfl rfl rfl ?_
  refine w_p tok rfl rfl rfl ?_
  refine w_p tok rfl rfl rfl ?_
  refine w_p tok rfl rfl rfl ?_
  refine w_end ?_
  refine x_seq ?_
  refine c_seq ?_
  refine c_seq ?_
  refine c_region ?_
  refine w_p tok rfl rfl rfl ?_
  refine w_p tok rfl rfl rfl ?_
  refine w_end ?_
  refine x_seq ?_
  refine c_weak [(0, .pointer p0), (2, .pointer (some (⟨b1, 0, none⟩ : Addr))), (4, .int .u64 r3.1), (5, .int .i64 r3.2), (12, .bool (r3.2 != 0))] ⟨rfl, rfl, rfl, rfl, rfl, trivial⟩ ?_
  refine c_if H rfl (fun H => ?_) (fun H => ?_)
  ·
    refine c_seq ?_
    refine c_region ?_
    refine w_y (y_builda tok rfl rfl rfl rfl rfl) rfl rfl ?_
    refine w_p tok rfl rfl rfl ?_
    obtain ⟨h5, lh5, wh5, eh5, H⟩ := H
    refine w_h (h_sts tok rfl rfl rfl rfl (by rw [List.length_map]; exact lh5.symm) (by simp [Value.oneCell']) wh5 eh5) rfl rfl ?_
    refine w_p tok rfl rfl rfl ?_
    refine w_end ?_
    refine x_seq ?_
    refine c_ret ?_
    refine x_tr ?_
    obtain ⟨v6, lv6, hv6, H⟩ := H
    exact x_retc tok _ rfl [.agg ((v6).map (Value.int .u8)).toArray, .int .i64 r3.2] ⟨⟨_, _, rfl, rfl, .inr ⟨rfl, _, rfl, (by rw [List.length_map]; exact lv6), hv6⟩⟩, rfl, trivial⟩ ⟨(v6, r3.2), rfl, H⟩
  ·
    refine c_skip ?_
    refine x_seq ?_
    refine c_seq ?_
    refine c_region ?_
    refine w_p tok rfl rfl rfl ?_
    obtain ⟨a7, ha7, H⟩ := H
    refine w_y (y_nil' rfl rfl ha7) rfl rfl ?_
    refine w_p tok rfl rfl rfl ?_
    obtain ⟨v8, hv8, H⟩ := H
    refine w_y (y_ld tok rfl rfl rfl rfl hv8) rfl rfl ?_
    refine w_p tok rfl rfl rfl ?_
    refine w_call aead_NonceOf_ok (aead_NonceOf_ref _ _ _ _ H) rfl rfl rfl rfl ?_
    rintro _ h10 ⟨r9, rfl, H⟩
    refine w_p tok rfl rfl rfl ?_
    refine w_p tok rfl rfl rfl ?_
    obtain ⟨h11, lh11, wh11, eh11, H⟩ := H
    refine w_h (h_sts tok rfl rfl rfl rfl (by rw [List.length_map]; exact lh11.symm) (by simp [Value.oneCell']) wh11 eh11) rfl rfl ?_
    refine w_p tok rfl rfl rfl ?_
    refine w_end ?_
    refine x_seq ?_
    refine c_weak [(2, .pointer (some (⟨b1, 0, none⟩ : Addr))), (3, .int .i64 r9.2)] ⟨rfl, rfl, trivial⟩ ?_
    refine c_ret ?_
    obtain ⟨v12, lv12, hv12, H⟩ := H
    exact x_retc tok _ rfl [.agg ((v12).map (Value.int .u8)).toArray, .int .i64 r9.2] ⟨⟨_, _, rfl, rfl, .inr ⟨rfl, _, rfl, (by rw [List.length_map]; exact lv12), hv12⟩⟩, rfl, trivial⟩ ⟨(v12, r9.2), rfl, H⟩

theorem ref12_Lease_Nonce_ok : CallOk Go.Proofs.Try.prog 17 := ⟨_, Go.Proofs.Try.func17, by kernel_rfl, by kernel_rfl⟩
theorem ref12_Lease_Nonce_ref (p0 : Option Addr) (k : (List Int × Int) → Heap → Prop) (h : Heap) (H : ref12_Lease_Nonce p0 k h) : CallsH Go.Proofs.Try.prog 17 #[.pointer p0] h (fun v h' => ∃ r : List Int × Int, v = .tuple #[.agg ((r.1).map (Value.int .u8)).toArray, .int .i64 r.2] ∧ k r h') := by
  refine f_enter (N := 21) Go.Proofs.Try.func17 rfl rfl rfl (fun w0 => ?_)
  unfold ref12_Lease_Nonce at H
  refine c_weak [(0, .pointer p0)] ⟨rfl, trivial⟩ ?_
  refine c_seq ?_
  refine c_region ?_
  obtain ⟨b1, h2, eb1, eh2, H⟩ := H
  refine w_h (h_alloc tok rfl rfl eb1 eh2) rfl rfl ?_
  refine w_p tok rfl rfl rfl ?_
  refine w_end ?_
  refine x_seq ?_
  refine c_seq ?_
  refine c_region ?_
  refine w_p tok rfl rfl rfl ?_
  refine w_call ref12_Lease_Take_ok (ref12_Lease_Take_ref _ _ _ H) rfl rfl rfl rfl ?_
  rintro _ h4 ⟨r3, rfl, H⟩
  refine w_p tok rfl rfl rfl ?_
  refine w_p tok rfl rfl rfl ?_
  refine w_p tok rfl rfl rfl ?_
  refine w_p tok rfl rfl rfl ?_
  refine w_p tok rfl rfl rfl ?_
  refine w_end ?_
  refine x_seq ?_
  refine c_seq ?_
  refine c_seq ?_
  refine c_region ?_
  refine w_p tok rfl rfl rfl ?_
  refine w_p tok rfl rfl rfl ?_
  refine w_end ?_
  refine x_seq ?_
  refine c_weak [(0, .pointer p0), (2, .pointer (some (⟨b1, 0, none⟩ : Addr))), (4, .int .u64 r3.1), (5, .int .i64 r3.2), (12, .bool (r3.2 != 0))] ⟨rfl, rfl, rfl, rfl, rfl, trivial⟩ ?_
  refine c_if H rfl (fun H => ?_) (fun H => ?_)
  ·
    refine c_seq ?_
    refine c_region ?_
    refine w_y (y_builda tok rfl rfl rfl rfl rfl) rfl rfl ?_
    refine w_p tok rfl rfl rfl ?_
    obtain ⟨h5, lh5, wh5, eh5, H⟩ := H
    refine w_h (h_sts tok rfl rfl rfl rfl (by rw [List.length_map]; exact lh5.symm) (by simp [Value.oneCell']) wh5 eh5) rfl rfl ?_
    refine w_p tok rfl rfl rfl ?_
    refine w_end ?_
    refine x_seq ?_
    refine c_ret ?_
    refine x_tr ?_
    obtain ⟨v6, lv6, hv6, H⟩ := H
    exact x_retc tok _ rfl [.agg ((v6).map (Value.int .u8)).toArray, .int .i64 r3.2] ⟨⟨_, _, rfl, rfl, .inr ⟨rfl, _, rfl, (by rw [List.length_map]; exact lv6), hv6⟩⟩, rfl, trivial⟩ ⟨(v6, r3.2), rfl, H⟩
  ·
    refine c_skip ?_
    refine x_seq ?_
    refine c_seq ?_
    refine c_region ?_
    refine w_p tok rfl rfl rfl ?_
    obtain ⟨a7, ha7, H⟩ := H
    refine w_y (y_nil' rfl rfl ha7) rfl rfl ?_
    refine w_p tok rfl rfl rfl ?_
    obtain ⟨v8, hv8, H⟩ := H
    refine w_y (y_ld tok rfl rfl rfl rfl hv8) rfl rfl ?_
    refine w_p tok rfl rfl rfl ?_
    refine w_call ref06_Nonce_ok (ref06_Nonce_ref _ _ _ _ H) rfl rfl rfl rfl ?_
    rintro _ h10 ⟨r9, rfl, H⟩
    obtain ⟨h11, lh11, wh11, eh11, H⟩ := H
    refine w_h (h_sts tok rfl rfl rfl rfl (by rw [List.length_map]; exact lh11.symm) (by simp [Value.oneCell']) wh11 eh11) rfl rfl ?_
    refine w_p tok rfl rfl rfl ?_
    refine w_end ?_
    refine x_seq ?_
    refine c_weak [(2, .pointer (some (⟨b1, 0, none⟩ : Addr))), (3, .int .i64 0)] ⟨rfl, rfl, trivial⟩ ?_
    refine c_ret ?_
    obtain ⟨v12, lv12, hv12, H⟩ := H
    exact x_retc tok _ rfl [.agg ((v12).map (Value.int .u8)).toArray, .int .i64 0] ⟨⟨_, _, rfl, rfl, .inr ⟨rfl, _, rfl, (by rw [List.length_map]; exact lv12), hv12⟩⟩, rfl, trivial⟩ ⟨(v12, 0), rfl, H⟩

theorem law12_LeasePlays_ok : CallOk Go.Proofs.Try.prog 4 := ⟨_, Go.Proofs.Try.func4, by kernel_rfl, by kernel_rfl⟩
theorem law12_LeasePlays_ref (p0 : Int) (p1 : Int) (p2 : Slc) (k : (Bool) → Heap → Prop) (h : Heap) (H : law12_LeasePlays p0 p1 p2 k h) : CallsH Go.Proofs.Try.prog 4 #[.int .u16 p0, .int .u64 p1, Slc.v p2] h (fun v h' => ∃ r : Bool, v = .bool r ∧ k r h') := by
  refine f_enter (N := 117) Go.Proofs.Try.func4 rfl rfl rfl (fun w0 => ?_)
  unfold law12_LeasePlays at H
  refine c_weak [(0, .int .u16 p0), (1, .int .u64 p1), (2, Slc.v p2)] ⟨rfl, rfl, rfl, trivial⟩ ?_
  refine c_seq ?_
  refine c_region ?_
  refine w_p tok rfl rfl rfl ?_
  refine w_end ?_
  refine x_seq ?_
  refine c_seq ?_
  refine c_region ?_
  refine w_p tok rfl rfl rfl ?_
  refine w_p tok rfl rfl rfl ?_
  refine w_call lease_New_ok (lease_New_ref _ _ _ _ H) rfl rfl rfl rfl ?_
  rintro _ h2 ⟨r1, rfl, H⟩
  refine w_p tok rfl rfl rfl ?_
  refine w_p tok rfl rfl rfl ?_
  refine w_call ref12_New_ok (ref12_New_ref _ _ _ _ H) rfl rfl rfl rfl ?_
  rintro _ h4 ⟨r3, rfl, H⟩
  refine w_p tok rfl rfl rfl ?_
  refine w_p tok rfl rfl rfl ?_
  refine w_end ?_
  refine x_seq ?_
  refine c_weak [(2, Slc.v p2), (7, .pointer r1), (8, .pointer r3)] ⟨rfl, rfl, rfl, trivial⟩ ?_
  refine c_seq ?_
  refine c_seq ?_
  refine c_region ?_
  refine w_p tok rfl rfl rfl ?_
  refine w_end ?_
  refine x_seq ?_
  refine c_block ?_
  obtain ⟨I1, μ1, H0, HI⟩ := H
  refine c_loop (σ := Int) (fun (s : Int) => [(9, .int .i64 s), (2, Slc.v p2), (7, .pointer r1), (8, .pointer r3)]) I1 μ1 0 H0 ⟨rfl, rfl, rfl, rfl, trivial⟩ ?_
  rintro t9_1 h_1 H
  replace H := HI t9_1 h_1 H
  unfold law12_LeasePlays_l1b at H
  refine c_weak [(9, .int .i64 t9_1), (2, Slc.v p2), (7, .pointer r1), (8, .pointer r3)] ⟨rfl, rfl, rfl, rfl, trivial⟩ ?_
  refine c_seq ?_
  refine c_seq ?_
  refine c_region ?_
  refine w_p tok rfl rfl rfl ?_
  refine w_p tok rfl rfl rfl ?_
  refine w_p tok rfl rfl rfl ?_
  refine w_p tok rfl rfl rfl ?_
  refine w_p tok rfl rfl rfl ?_
  refine w_cutU 3 [(32, .bool ((decide (t9_1 < (p2.len : Int))) && (decide (t9_1 < 60)))), (2, Slc.v p2), (7, .pointer r1), (8, .pointer r3), (9, .int .i64 t9_1)] ?_ ?_
  ·
    refine w_end ?_
    refine x_seq ?_
    refine c_if H rfl (fun H => ?_) (fun H => ?_)
    ·
      refine c_skip ?_
      refine x_seq ?_
      refine c_seq ?_
      refine c_block ?_
      refine c_seq ?_
      refine c_region ?_
      refine w_p tok rfl rfl rfl ?_
      refine w_p tok rfl rfl rfl ?_
      obtain ⟨a5, ha5, la5, ua5, H⟩ := H
      refine w_y (y_ixa' tok rfl rfl ha5 rfl rfl rfl la5 ua5) rfl rfl ?_
      obtain ⟨v6, hv6, H⟩ := H
      refine w_y (y_ld tok rfl rfl rfl rfl hv6) rfl rfl ?_
      refine w_p tok rfl rfl rfl ?_
      obtain ⟨x7, ex7, H⟩ := H
      refine w_pe tok rfl (congrArg (fun z => (.int .u64 z : Value)) ex7) rfl rfl ?_
      refine w_end ?_
      refine x_seq ?_
      refine c_seq ?_
      refine c_region ?_
      refine w_p tok rfl rfl rfl ?_
      refine w_p tok rfl rfl rfl ?_
      refine w_end ?_
      refine x_seq ?_
      refine c_seq ?_
      refine c_region ?_
      refine w_p tok rfl rfl rfl ?_
      refine w_p tok rfl rfl rfl ?_
      refine w_end ?_
      refine x_seq ?_
      refine c_weak [(2, Slc.v p2), (7, .pointer r1), (8, .pointer r3), (9, .int .i64 t9_1), (10, .int .u64 x7), (11, .int .u64 0), (12, .int .u64 0)] ⟨rfl, rfl, rfl, rfl, rfl, rfl, rfl, trivial⟩ ?_
      refine c_seqJ (α := Int × Int × Int × Int) (fun (s : Int × Int × Int × Int) => [(11, .int .u64 s.1), (12, .int .u64 s.2.1), (13, .int .i64 s.2.2.1), (14, .int .i64 s.2.2.2), (2, Slc.v p2), (7, .pointer r1), (8, .pointer r3), (9, .int .i64 t9_1)]) (fun (s : Int × Int × Int × Int) h => law12_LeasePlays_j2 p2 r1 r3 t9_1 s.1 s.2.1 s.2.2.1 s.2.2.2 k (fun s h' => I1 s h' ∧ μ1 s h' < μ1 t9_1 h_1) h) ?_ ?_
      ·
        rintro ⟨t11_2, t12_2, t13_2, t14_2⟩ h_2 H
        replace H : law12_LeasePlays_j2 p2 r1 r3 t9_1 t11_2 t12_2 t13_2 t14_2 k (fun s h' => I1 s h' ∧ μ1 s h' < μ1 t9_1 h_1) h_2 := H
        unfold law12_LeasePlays_j2 at H
        refine c_weak [(11, .int .u64 t11_2), (12, .int .u64 t12_2), (13, .int .i64 t13_2), (14, .int .i64 t14_2), (2, Slc.v p2), (7, .pointer r1), (8, .pointer r3), (9, .int .i64 t9_1)] ⟨rfl, rfl, rfl, rfl, rfl, rfl, rfl, rfl, trivial⟩ ?_
        refine c_seq ?_
        refine c_draw (by kernel_rfl) (by kernel_rfl) ?_
        refine q_p tok rfl rfl rfl ?_
        refine q_p tok rfl rfl rfl ?_
        refine q_p tok rfl rfl rfl ?_
        refine q_p tok rfl rfl rfl ?_
        refine q_cutU 4 [(101, .bool ((t11_2 != t12_2) || (t13_2 != t14_2))), (2, Slc.v p2), (7, .pointer r1), (8, .pointer r3), (9, .int .i64 t9_1)] ?_ ?_
        ·
          refine q_p tok rfl rfl rfl ?_
          refine q_cut 13 (α := Bool) (fun (s : Bool) => [(115, .bool s), (2, Slc.v p2), (7, .pointer r1), (8, .pointer r3), (9, .int .i64 t9_1)]) (fun (s : Bool) => law12_LeasePlays_g3 p2 r1 r3 t9_1 s k (fun s h' => I1 s h' ∧ μ1 s h' < μ1 t9_1 h_1) h_2) ?_ ?_
          ·
            rintro t115_3 H
            replace H : law12_LeasePlays_g3 p2 r1 r3 t9_1 t115_3 k (fun s h' => I1 s h' ∧ μ1 s h' < μ1 t9_1 h_1) h_2 := H
            unfold law12_LeasePlays_g3 at H
            refine q_weak [(115, .bool t115_3), (2, Slc.v p2), (7, .pointer r1), (8, .pointer r3), (9, .int .i64 t9_1)] ⟨rfl, rfl, rfl, rfl, rfl, trivial⟩ ?_
            refine q_end ?_
            refine x_seq ?_
            refine c_if H rfl (fun H => ?_) (fun H => ?_)
            ·
              refine c_seq ?_
              refine c_region ?_
              refine w_p tok rfl rfl rfl ?_
              refine w_end ?_
              refine x_seq ?_
              refine c_ret ?_
              refine x_br ?_
              refine x_tr ?_
              refine x_tr ?_
              refine x_br ?_
              refine x_tr ?_
              exact x_ret _ rfl _ rfl ⟨false, rfl, H⟩
            ·
              refine c_skip ?_
              refine x_blk ?_
              refine x_seq ?_
              refine c_region ?_
              refine w_p tok rfl rfl rfl ?_
              refine w_p tok rfl rfl rfl ?_
              obtain ⟨x8, ex8, H⟩ := H
              refine w_pe tok rfl (congrArg (fun z => (.int .i64 z : Value)) ex8) rfl rfl ?_
              refine w_end ?_
              exact x_join x8 H ⟨rfl, rfl, rfl, rfl, trivial⟩
          ·
            refine q_gif (d := 102) H rfl (fun H => ?_) (fun H => ?_)
            ·
              refine q_skip rfl rfl ?_
              refine q_skip rfl rfl ?_
              refine q_skip rfl rfl ?_
              refine q_skip rfl rfl ?_
              refine q_skip rfl rfl ?_
              refine q_skip rfl rfl ?_
              refine q_skip rfl rfl ?_
              refine q_skip rfl rfl ?_
              refine q_skip rfl rfl ?_
              refine q_skip rfl rfl ?_
              refine q_skip rfl rfl ?_
              refine q_skip rfl rfl ?_
              refine q_p tok rfl rfl rfl ?_
              exact q_jn true H ⟨rfl, rfl, rfl, rfl, rfl, trivial⟩
            ·
              refine q_p tok rfl rfl rfl ?_
              obtain ⟨r9, Hc, H⟩ := H
              refine q_call lease_Lease_Left_ok ((lease_Lease_Left_ref _ _ _ Hc).mono (by rintro v h' ⟨r, rfl, rfl, rfl⟩; exact ⟨rfl, rfl⟩)) rfl rfl rfl rfl ?_
              refine q_p tok rfl rfl rfl ?_
              obtain ⟨a11, ha11, H⟩ := H
              refine q_y (y_nil' rfl rfl ha11) rfl rfl ?_
              refine q_p tok rfl rfl rfl ?_
              obtain ⟨v12, hv12, H⟩ := H
              refine q_y (y_ld tok rfl rfl rfl rfl hv12) rfl rfl ?_
              refine q_p tok rfl rfl rfl ?_
              refine q_y (y_nil' rfl rfl ha11) rfl rfl ?_
              refine q_p tok rfl rfl rfl ?_
              obtain ⟨v13, hv13, H⟩ := H
              refine q_y (y_ld tok rfl rfl rfl rfl hv13) rfl rfl ?_
              refine q_p tok rfl rfl rfl ?_
              refine q_p tok rfl rfl rfl ?_
              refine q_p tok rfl rfl rfl ?_
              exact q_jn (r9 != (IntKind.u64.wrap (v12 - v13))) H ⟨rfl, rfl, rfl, rfl, rfl, trivial⟩
        ·
          refine q_gs (d := 97) rfl (fun hb => ?_) (fun hb => ?_)
          ·
            refine q_skip rfl rfl ?_
            refine q_skip rfl rfl ?_
            refine q_skip rfl rfl ?_
            refine q_p tok rfl rfl rfl ?_
            refine q_jn () trivial ⟨?_, rfl, rfl, rfl, rfl, trivial⟩
            exact congrArg (fun b => some (Value.bool b)) (or_t hb)
          ·
            refine q_p tok rfl rfl rfl ?_
            refine q_p tok rfl rfl rfl ?_
            refine q_p tok rfl rfl rfl ?_
            refine q_p tok rfl rfl rfl ?_
            refine q_jn () trivial ⟨?_, rfl, rfl, rfl, rfl, trivial⟩
            exact congrArg (fun b => some (Value.bool b)) (or_f hb)
      ·
        refine c_seq ?_
        refine c_region ?_
        refine w_p tok rfl rfl rfl ?_
        refine w_p tok rfl rfl rfl ?_
        obtain ⟨a14, ha14, la14, ua14, H⟩ := H
        refine w_y (y_ixa' tok rfl rfl ha14 rfl rfl rfl la14 ua14) rfl rfl ?_
        obtain ⟨v15, hv15, H⟩ := H
        refine w_y (y_ld tok rfl rfl rfl rfl hv15) rfl rfl ?_
        refine w_p tok rfl rfl rfl ?_
        refine w_end ?_
        refine x_seq ?_
        refine c_block ?_
        refine c_seq ?_
        refine c_region ?_
        refine w_p tok rfl rfl rfl ?_
        refine w_p tok rfl rfl rfl ?_
        refine w_end ?_
        refine x_seq ?_
        refine c_if H rfl (fun H => ?_) (fun H => ?_)
        ·
          refine c_seq ?_
          refine c_region ?_
          refine w_p tok rfl rfl rfl ?_
          refine w_call lease_Lease_Take_ok (lease_Lease_Take_ref _ _ _ H) rfl rfl rfl rfl ?_
          rintro _ h17 ⟨r16, rfl, H⟩
          refine w_p tok rfl rfl rfl ?_
          refine w_p tok rfl rfl rfl ?_
          refine w_p tok rfl rfl rfl ?_
          refine w_p tok rfl rfl rfl ?_
          refine w_p tok rfl rfl rfl ?_
          refine w_end ?_
          refine x_seq ?_
          refine c_weak [(2, Slc.v p2), (7, .pointer r1), (8, .pointer r3), (9, .int .i64 t9_1), (11, .int .u64 r16.1), (13, .int .i64 r16.2)] ⟨rfl, rfl, rfl, rfl, rfl, rfl, trivial⟩ ?_
          refine c_region ?_
          refine w_p tok rfl rfl rfl ?_
          refine w_call ref12_Lease_Take_ok (ref12_Lease_Take_ref _ _ _ H) rfl rfl rfl rfl ?_
          rintro _ h19 ⟨r18, rfl, H⟩
          refine w_p tok rfl rfl rfl ?_
          refine w_p tok rfl rfl rfl ?_
          refine w_p tok rfl rfl rfl ?_
          refine w_p tok rfl rfl rfl ?_
          refine w_p tok rfl rfl rfl ?_
          refine w_end ?_
          refine x_blk ?_
          exact x_join (r16.1, r18.1, r16.2, r18.2) H ⟨rfl, rfl, rfl, rfl, rfl, rfl, rfl, rfl, trivial⟩
        ·
          refine c_seq ?_
          refine c_region ?_
          refine w_p tok rfl rfl rfl ?_
          refine w_p tok rfl rfl rfl ?_
          refine w_end ?_
          refine x_seq ?_
          refine c_weak [(2, Slc.v p2), (7, .pointer r1), (8, .pointer r3), (9, .int .i64 t9_1), (10, .int .u64 x7), (11, .int .u64 0), (12, .int .u64 0), (44, .int .u64 (Int.tmod v15 4)), (69, .bool ((Int.tmod v15 4) == 1))] ⟨rfl, rfl, rfl, rfl, rfl, rfl, rfl, rfl, rfl, trivial⟩ ?_
          refine c_if H rfl (fun H => ?_) (fun H => ?_)
          ·
            refine c_seq ?_
            refine c_region ?_
            refine w_p tok rfl rfl rfl ?_
            refine w_call lease_Lease_Nonce_ok (lease_Lease_Nonce_ref _ _ _ H) rfl rfl rfl rfl ?_
            rintro _ h21 ⟨r20, rfl, H⟩
            refine w_p tok rfl rfl rfl ?_
            refine w_p tok rfl rfl rfl ?_
            refine w_p tok rfl rfl rfl ?_
            obtain ⟨b22, h23, eb22, eh23, H⟩ := H
            refine w_h (h_alloc tok rfl rfl eb22 eh23) rfl rfl ?_
            obtain ⟨h24, lh24, wh24, eh24, H⟩ := H
            refine w_h (h_sts tok rfl rfl rfl rfl (by rw [List.length_map]; exact lh24.symm) (by simp [Value.oneCell']) wh24 eh24) rfl rfl ?_
            refine w_p tok rfl rfl rfl ?_
            refine w_end ?_
            refine x_seq ?_
            refine c_weak [(2, Slc.v p2), (7, .pointer r1), (8, .pointer r3), (9, .int .i64 t9_1), (11, .int .u64 0), (12, .int .u64 0), (15, .pointer (some (⟨b22, 0, none⟩ : Addr))), (16, .int .i64 r20.2)] ⟨rfl, rfl, rfl, rfl, rfl, rfl, rfl, rfl, trivial⟩ ?_
            refine c_seq ?_
            refine c_region ?_
            refine w_p tok rfl rfl rfl ?_
            refine w_call ref12_Lease_Nonce_ok (ref12_Lease_Nonce_ref _ _ _ H) rfl rfl rfl rfl ?_
            rintro _ h26 ⟨r25, rfl, H⟩
            refine w_p tok rfl rfl rfl ?_
            refine w_p tok rfl rfl rfl ?_
            refine w_p tok rfl rfl rfl ?_
            obtain ⟨b27, h28, eb27, eh28, H⟩ := H
            refine w_h (h_alloc tok rfl rfl eb27 eh28) rfl rfl ?_
            obtain ⟨h29, lh29, wh29, eh29, H⟩ := H
            refine w_h (h_sts tok rfl rfl rfl rfl (by rw [List.length_map]; exact lh29.symm) (by simp [Value.oneCell']) wh29 eh29) rfl rfl ?_
            refine w_p tok rfl rfl rfl ?_
            refine w_end ?_
            refine x_seq ?_
            refine c_seq ?_
            refine c_seq ?_
            refine c_region ?_
            obtain ⟨v30, lv30, hv30, H⟩ := H
            refine w_y (y_lda tok rfl rfl rfl rfl (by rw [List.length_map]; exact lv30) hv30) rfl rfl ?_
            obtain ⟨v31, lv31, hv31, H⟩ := H
            refine w_y (y_lda tok rfl rfl rfl rfl (by rw [List.length_map]; exact lv31) hv31) rfl rfl ?_
            obtain ⟨lz32, uz32, H⟩ := H
            refine w_y (y_eqa (xs := v30) (ys := v31) tok (.inr rfl) rfl rfl rfl rfl rfl rfl lz32 uz32 (by kernel_rfl)) rfl rfl ?_
            refine w_end ?_
            refine x_seq ?_
            refine c_weak [(2, Slc.v p2), (7, .pointer r1), (8, .pointer r3), (9, .int .i64 t9_1), (11, .int .u64 0), (12, .int .u64 0), (16, .int .i64 r20.2), (18, .int .i64 r25.2), (83, .bool (if BinOp.neq = .eql then (v30 == v31) else !(v30 == v31)))] ⟨rfl, rfl, rfl, rfl, rfl, rfl, rfl, rfl, rfl, trivial⟩ ?_
            refine c_if H rfl (fun H => ?_) (fun H => ?_)
            ·
              refine c_seq ?_
              refine c_region ?_
              refine w_p tok rfl rfl rfl ?_
              refine w_end ?_
              refine x_seq ?_
              refine c_weak [(6, .bool false)] ⟨rfl, trivial⟩ ?_
              refine c_ret ?_
              refine x_tr ?_
              refine x_br ?_
              refine x_tr ?_
              refine x_br ?_
              refine x_tr ?_
              refine x_tr ?_
              refine x_br ?_
              refine x_tr ?_
              exact x_ret _ rfl _ rfl ⟨false, rfl, H⟩
            ·
              refine c_skip ?_
              refine x_seq ?_
              refine c_seq ?_
              refine c_region ?_
              refine w_p tok rfl rfl rfl ?_
              refine w_p tok rfl rfl rfl ?_
              refine w_end ?_
              refine x_seq ?_
              refine c_region ?_
              refine w_p tok rfl rfl rfl ?_
              refine w_p tok rfl rfl rfl ?_
              refine w_end ?_
              refine x_blk ?_
              exact x_join (0, 0, r20.2, r25.2) H ⟨rfl, rfl, rfl, rfl, rfl, rfl, rfl, rfl, trivial⟩
          ·
            refine c_seq ?_
            refine c_region ?_
            refine w_p tok rfl rfl rfl ?_
            refine w_p tok rfl rfl rfl ?_
            refine w_end ?_
            refine x_seq ?_
            refine c_if H rfl (fun H => ?_) (fun H => ?_)
            ·
              refine c_seq ?_
              refine c_region ?_
              refine w_p tok rfl rfl rfl ?_
              refine w_p tok rfl rfl rfl ?_
              refine w_call lease_Lease_Grant_ok (lease_Lease_Grant_ref _ _ _ _ H) rfl rfl rfl rfl ?_
              rintro _ h34 ⟨r33, rfl, H⟩
              refine w_p tok rfl rfl rfl ?_
              refine w_end ?_
              refine x_seq ?_
              refine c_weak [(2, Slc.v p2), (7, .pointer r1), (8, .pointer r3), (9, .int .i64 t9_1), (10, .int .u64 x7), (11, .int .u64 0), (12, .int .u64 0), (13, .int .i64 r33)] ⟨rfl, rfl, rfl, rfl, rfl, rfl, rfl, rfl, trivial⟩ ?_
              refine c_region ?_
              refine w_p tok rfl rfl rfl ?_
              refine w_p tok rfl rfl rfl ?_
              refine w_call ref12_Lease_Grant_ok (ref12_Lease_Grant_ref _ _ _ _ H) rfl rfl rfl rfl ?_
              rintro _ h36 ⟨r35, rfl, H⟩
              refine w_p tok rfl rfl rfl ?_
              refine w_end ?_
              refine x_blk ?_
              exact x_join (0, 0, r33, r35) H ⟨rfl, rfl, rfl, rfl, rfl, rfl, rfl, rfl, trivial⟩
            ·
              refine c_seq ?_
              refine c_region ?_
              refine w_p tok rfl rfl rfl ?_
              refine w_p tok rfl rfl rfl ?_
              refine w_call lease_Lease_Wants_ok (lease_Lease_Wants_ref _ _ _ _ H) rfl rfl rfl rfl ?_
              rintro _ h38 ⟨r37, rfl, H⟩
              refine w_p tok rfl rfl rfl ?_
              refine w_p tok rfl rfl rfl ?_
              refine w_p tok rfl rfl rfl ?_
              refine w_p tok rfl rfl rfl ?_
              refine w_p tok rfl rfl rfl ?_
              refine w_end ?_
              refine x_seq ?_
              refine c_weak [(2, Slc.v p2), (7, .pointer r1), (8, .pointer r3), (9, .int .i64 t9_1), (10, .int .u64 x7), (11, .int .u64 r37.1), (13, .int .i64 r37.2)] ⟨rfl, rfl, rfl, rfl, rfl, rfl, rfl, trivial⟩ ?_
              refine c_region ?_
              refine w_p tok rfl rfl rfl ?_
              refine w_p tok rfl rfl rfl ?_
              refine w_call ref12_Lease_Wants_ok (ref12_Lease_Wants_ref _ _ _ _ H) rfl rfl rfl rfl ?_
              rintro _ h40 ⟨r39, rfl, H⟩
              refine w_p tok rfl rfl rfl ?_
              refine w_p tok rfl rfl rfl ?_
              refine w_p tok rfl rfl rfl ?_
              refine w_p tok rfl rfl rfl ?_
              refine w_p tok rfl rfl rfl ?_
              refine w_end ?_
              refine x_blk ?_
              exact x_join (r37.1, r39.1, r37.2, r39.2) H ⟨rfl, rfl, rfl, rfl, rfl, rfl, rfl, rfl, trivial⟩
    ·
      refine c_exit ?_
      refine x_te ?_
      refine x_te ?_
      refine x_bh ?_
      refine x_seq ?_
      refine c_seq ?_
      refine c_region ?_
      refine w_call law12_awake_ok (law12_awake_ref  _ _ H) rfl rfl rfl rfl ?_
      rintro _ h42 ⟨r41, rfl, H⟩
      refine w_p tok rfl rfl rfl ?_
      refine w_end ?_
      refine x_seq ?_
      refine c_ret ?_
      exact x_ret _ rfl _ rfl ⟨r41, rfl, H⟩
  ·
    refine w_gs (d := 29) rfl (fun hb => ?_) (fun hb => ?_)
    ·
      refine w_p tok rfl rfl rfl ?_
      refine w_p tok rfl rfl rfl ?_
      refine w_p tok rfl rfl rfl ?_
      refine w_jn () rfl ⟨?_, rfl, rfl, rfl, rfl, trivial⟩
      exact congrArg (fun b => some (Value.bool b)) (and_t hb)
    ·
      refine w_skip rfl rfl ?_
      refine w_skip rfl rfl ?_
      refine w_p tok rfl rfl rfl ?_
      refine w_jn () rfl ⟨?_, rfl, rfl, rfl, rfl, trivial⟩
      exact congrArg (fun b => some (Value.bool b)) (and_f hb)

theorem law12_LeaseEnds_ok : CallOk Go.Proofs.Try.prog 5 := ⟨_, Go.Proofs.Try.func5, by kernel_rfl, by kernel_rfl⟩
theorem law12_LeaseEnds_ref (p0 : Int) (p1 : Int) (p2 : Int) (k : (Bool) → Heap → Prop) (h : Heap) (H : law12_LeaseEnds p0 p1 p2 k h) : CallsH Go.Proofs.Try.prog 5 #[.int .u16 p0, .int .u8 p1, .int .u64 p2] h (fun v h' => ∃ r : Bool, v = .bool r ∧ k r h') := by
  refine f_enter (N := 116) Go.Proofs.Try.func5 rfl rfl rfl (fun w0 => ?_)
  unfold law12_LeaseEnds at H
  refine c_weak [(0, .int .u16 p0), (1, .int .u8 p1), (2, .int .u64 p2)] ⟨rfl, rfl, rfl, trivial⟩ ?_
  refine c_seq ?_
  refine c_region ?_
  refine w_p tok rfl rfl rfl ?_
  refine w_end ?_
  refine x_seq ?_
  refine c_seq ?_
  refine c_region ?_
  refine w_p tok rfl rfl rfl ?_
  refine w_p tok rfl rfl rfl ?_
  refine w_p tok rfl rfl rfl ?_
  refine w_p tok rfl rfl rfl ?_
  refine w_p tok rfl rfl rfl ?_
  refine w_call lease_New_ok (lease_New_ref _ _ _ _ H) rfl rfl rfl rfl ?_
  rintro _ h2 ⟨r1, rfl, H⟩
  refine w_p tok rfl rfl rfl ?_
  refine w_end ?_
  refine x_seq ?_
  refine c_weak [(0, .int .u16 p0), (1, .int .u8 p1), (2, .int .u64 p2), (7, .pointer r1)] ⟨rfl, rfl, rfl, rfl, trivial⟩ ?_
  refine c_seq ?_
  refine c_region ?_
  refine w_p tok rfl rfl rfl ?_
  refine w_call lease_Lease_Grant_ok (lease_Lease_Grant_ref _ _ _ _ H) rfl rfl rfl rfl ?_
  rintro _ h4 ⟨r3, rfl, H⟩
  refine w_p tok rfl rfl rfl ?_
  refine w_end ?_
  refine x_seq ?_
  refine c_seq ?_
  refine c_seq ?_
  refine c_region ?_
  refine w_p tok rfl rfl rfl ?_
  refine w_end ?_
  refine x_seq ?_
  refine c_block ?_
  obtain ⟨I1, μ1, H0, HI⟩ := H
  refine c_loop (σ := Int) (fun (s : Int) => [(9, .int .i64 s), (0, .int .u16 p0), (1, .int .u8 p1), (2, .int .u64 p2), (7, .pointer r1), (8, .int .i64 r3)]) I1 μ1 0 H0 ⟨rfl, rfl, rfl, rfl, rfl, rfl, trivial⟩ ?_
  rintro t9_1 h_1 H
  replace H := HI t9_1 h_1 H
  unfold law12_LeaseEnds_l1b at H
  refine c_weak [(9, .int .i64 t9_1), (0, .int .u16 p0), (1, .int .u8 p1), (2, .int .u64 p2), (7, .pointer r1), (8, .int .i64 r3)] ⟨rfl, rfl, rfl, rfl, rfl, rfl, trivial⟩ ?_
  refine c_seq ?_
  refine c_seq ?_
  refine c_region ?_
  refine w_p tok rfl rfl rfl ?_
  refine w_p tok rfl rfl rfl ?_
  refine w_p tok rfl rfl rfl ?_
  refine w_p tok rfl rfl rfl ?_
  refine w_p tok rfl rfl rfl ?_
  refine w_end ?_
  refine x_seq ?_
  refine c_if H rfl (fun H => ?_) (fun H => ?_)
  ·
    refine c_skip ?_
    refine x_seq ?_
    refine c_seq ?_
    refine c_block ?_
    refine c_seq ?_
    refine c_region ?_
    refine w_p tok rfl rfl rfl ?_
    refine w_call lease_Lease_Nonce_ok (lease_Lease_Nonce_ref _ _ _ H) rfl rfl rfl rfl ?_
    rintro _ h6 ⟨r5, rfl, H⟩
    refine w_p tok rfl rfl rfl ?_
    refine w_p tok rfl rfl rfl ?_
    refine w_p tok rfl rfl rfl ?_
    obtain ⟨b7, h8, eb7, eh8, H⟩ := H
    refine w_h (h_alloc tok rfl rfl eb7 eh8) rfl rfl ?_
    obtain ⟨h9, lh9, wh9, eh9, H⟩ := H
    refine w_h (h_sts tok rfl rfl rfl rfl (by rw [List.length_map]; exact lh9.symm) (by simp [Value.oneCell']) wh9 eh9) rfl rfl ?_
    refine w_p tok rfl rfl rfl ?_
    refine w_end ?_
    refine x_seq ?_
    refine c_weak [(9, .int .i64 t9_1), (0, .int .u16 p0), (1, .int .u8 p1), (2, .int .u64 p2), (7, .pointer r1), (8, .int .i64 r3), (11, .int .i64 r5.2)] ⟨rfl, rfl, rfl, rfl, rfl, rfl, rfl, trivial⟩ ?_
    refine c_seq ?_
    refine c_region ?_
    refine w_p tok rfl rfl rfl ?_
    refine w_p tok rfl rfl rfl ?_
    refine w_end ?_
    refine x_seq ?_
    refine c_if H rfl (fun H => ?_) (fun H => ?_)
    ·
      refine c_seq ?_
      refine c_region ?_
      refine w_p tok rfl rfl rfl ?_
      refine w_end ?_
      refine x_seq ?_
      refine c_weak [(6, .bool false)] ⟨rfl, trivial⟩ ?_
      refine c_ret ?_
      refine x_br ?_
      refine x_tr ?_
      refine x_tr ?_
      refine x_br ?_
      refine x_tr ?_
      exact x_ret _ rfl _ rfl ⟨false, rfl, H⟩
    ·
      refine c_skip ?_
      refine x_blk ?_
      refine x_seq ?_
      refine c_region ?_
      refine w_p tok rfl rfl rfl ?_
      refine w_p tok rfl rfl rfl ?_
      obtain ⟨x10, ex10, H⟩ := H
      refine w_pe tok rfl (congrArg (fun z => (.int .i64 z : Value)) ex10) rfl rfl ?_
      refine w_end ?_
      exact x_join x10 H ⟨rfl, rfl, rfl, rfl, rfl, rfl, trivial⟩
  ·
    refine c_exit ?_
    refine x_te ?_
    refine x_te ?_
    refine x_bh ?_
    refine x_seq ?_
    refine c_weak [(0, .int .u16 p0), (2, .int .u64 p2), (7, .pointer r1), (8, .int .i64 r3)] ⟨rfl, rfl, rfl, rfl, trivial⟩ ?_
    refine c_seq ?_
    refine c_region ?_
    refine w_p tok rfl rfl rfl ?_
    refine w_call lease_Lease_Nonce_ok (lease_Lease_Nonce_ref _ _ _ H) rfl rfl rfl rfl ?_
    rintro _ h12 ⟨r11, rfl, H⟩
    refine w_p tok rfl rfl rfl ?_
    refine w_p tok rfl rfl rfl ?_
    refine w_p tok rfl rfl rfl ?_
    obtain ⟨b13, h14, eb13, eh14, H⟩ := H
    refine w_h (h_alloc tok rfl rfl eb13 eh14) rfl rfl ?_
    obtain ⟨h15, lh15, wh15, eh15, H⟩ := H
    refine w_h (h_sts tok rfl rfl rfl rfl (by rw [List.length_map]; exact lh15.symm) (by simp [Value.oneCell']) wh15 eh15) rfl rfl ?_
    refine w_p tok rfl rfl rfl ?_
    refine w_end ?_
    refine x_seq ?_
    refine c_seq ?_
    refine c_region ?_
    refine w_p tok rfl rfl rfl ?_
    refine w_call lease_Lease_Wants_ok (lease_Lease_Wants_ref _ _ _ _ H) rfl rfl rfl rfl ?_
    rintro _ h17 ⟨r16, rfl, H⟩
    refine w_p tok rfl rfl rfl ?_
    refine w_p tok rfl rfl rfl ?_
    refine w_p tok rfl rfl rfl ?_
    refine w_p tok rfl rfl rfl ?_
    refine w_p tok rfl rfl rfl ?_
    refine w_end ?_
    refine x_seq ?_
    refine c_weak [(0, .int .u16 p0), (2, .int .u64 p2), (8, .int .i64 r3), (13, .int .i64 r11.2), (15, .int .i64 r16.2)] ⟨rfl, rfl, rfl, rfl, rfl, trivial⟩ ?_
    refine c_seq ?_
    refine c_region ?_
    refine w_p tok rfl rfl rfl ?_
    refine w_p tok rfl rfl rfl ?_
    refine w_call lease_New_ok (lease_New_ref _ _ _ _ H) rfl rfl rfl rfl ?_
    rintro _ h19 ⟨r18, rfl, H⟩
    refine w_p tok rfl rfl rfl ?_
    refine w_end ?_
    refine x_seq ?_
    refine c_seq ?_
    refine c_region ?_
    refine w_p tok rfl rfl rfl ?_
    refine w_end ?_
    refine x_seq ?_
    refine c_seq ?_
    refine c_region ?_
    refine w_p tok rfl rfl rfl ?_
    refine w_call lease_Lease_Take_ok (lease_Lease_Take_ref _ _ _ H) rfl rfl rfl rfl ?_
    rintro _ h21 ⟨r20, rfl, H⟩
    refine w_p tok rfl rfl rfl ?_
    refine w_p tok rfl rfl rfl ?_
    refine w_p tok rfl rfl rfl ?_
    refine w_p tok rfl rfl rfl ?_
    refine w_p tok rfl rfl rfl ?_
    refine w_end ?_
    refine x_seq ?_
    refine c_weak [(2, .int .u64 p2), (8, .int .i64 r3), (13, .int .i64 r11.2), (15, .int .i64 r16.2), (16, .pointer r18), (17, .pointer none), (19, .int .i64 r20.2)] ⟨rfl, rfl, rfl, rfl, rfl, rfl, rfl, trivial⟩ ?_
    refine c_seq ?_
    refine c_region ?_
    refine w_p tok rfl rfl rfl ?_
    refine w_call lease_Lease_Nonce_ok (lease_Lease_Nonce_ref _ _ _ H) rfl rfl rfl rfl ?_
    rintro _ h23 ⟨r22, rfl, H⟩
    refine w_p tok rfl rfl rfl ?_
    refine w_p tok rfl rfl rfl ?_
    refine w_p tok rfl rfl rfl ?_
    obtain ⟨b24, h25, eb24, eh25, H⟩ := H
    refine w_h (h_alloc tok rfl rfl eb24 eh25) rfl rfl ?_
    obtain ⟨h26, lh26, wh26, eh26, H⟩ := H
    refine w_h (h_sts tok rfl rfl rfl rfl (by rw [List.length_map]; exact lh26.symm) (by simp [Value.oneCell']) wh26 eh26) rfl rfl ?_
    refine w_p tok rfl rfl rfl ?_
    refine w_end ?_
    refine x_seq ?_
    refine c_seq ?_
    refine c_region ?_
    refine w_p tok rfl rfl rfl ?_
    refine w_p tok rfl rfl rfl ?_
    refine w_call lease_Lease_Wants_ok (lease_Lease_Wants_ref _ _ _ _ H) rfl rfl rfl rfl ?_
    rintro _ h28 ⟨r27, rfl, H⟩
    refine w_p tok rfl rfl rfl ?_
    refine w_p tok rfl rfl rfl ?_
    refine w_p tok rfl rfl rfl ?_
    refine w_p tok rfl rfl rfl ?_
    refine w_p tok rfl rfl rfl ?_
    refine w_end ?_
    refine x_seq ?_
    refine c_weak [(2, .int .u64 p2), (8, .int .i64 r3), (13, .int .i64 r11.2), (15, .int .i64 r16.2), (16, .pointer r18), (17, .pointer none), (19, .int .i64 r20.2), (21, .int .i64 r22.2), (23, .int .i64 r27.2)] ⟨rfl, rfl, rfl, rfl, rfl, rfl, rfl, rfl, rfl, trivial⟩ ?_
    refine c_seq ?_
    refine c_region ?_
    refine w_p tok rfl rfl rfl ?_
    refine w_p tok rfl rfl rfl ?_
    refine w_p tok rfl rfl rfl ?_
    refine w_cutU 3 [(80, .bool ((r3 == 0) && (r11.2 == 12))), (2, .int .u64 p2), (15, .int .i64 r16.2), (16, .pointer r18), (17, .pointer none), (19, .int .i64 r20.2), (21, .int .i64 r22.2), (23, .int .i64 r27.2)] ?_ ?_
    ·
      refine w_p tok rfl rfl rfl ?_
      refine w_cutU 3 [(84, .bool (((r3 == 0) && (r11.2 == 12)) && (r16.2 == 12))), (2, .int .u64 p2), (16, .pointer r18), (17, .pointer none), (19, .int .i64 r20.2), (21, .int .i64 r22.2), (23, .int .i64 r27.2)] ?_ ?_
      ·
        refine w_p tok rfl rfl rfl ?_
        refine w_cut 4 (α := Bool) (fun (s : Bool) => [(89, .bool s), (2, .int .u64 p2), (17, .pointer none), (19, .int .i64 r20.2), (21, .int .i64 r22.2), (23, .int .i64 r27.2)]) (fun (s : Bool) h => law12_LeaseEnds_g2 p2 none r20.2 r22.2 r27.2 s k (fun s h' => I1 s h' ∧ μ1 s h' < μ1 t9_1 h_1) h) ?_ ?_
        ·
          rintro t89_2 h_2 H
          replace H : law12_LeaseEnds_g2 p2 none r20.2 r22.2 r27.2 t89_2 k (fun s h' => I1 s h' ∧ μ1 s h' < μ1 t9_1 h_1) h_2 := H
          unfold law12_LeaseEnds_g2 at H
          refine w_weak [(89, .bool t89_2), (2, .int .u64 p2), (17, .pointer none), (19, .int .i64 r20.2), (21, .int .i64 r22.2), (23, .int .i64 r27.2)] ⟨rfl, rfl, rfl, rfl, rfl, rfl, trivial⟩ ?_
          refine w_p tok rfl rfl rfl ?_
          refine w_cut 4 (α := Bool) (fun (s : Bool) => [(94, .bool s), (2, .int .u64 p2), (17, .pointer none), (19, .int .i64 r20.2), (21, .int .i64 r22.2), (23, .int .i64 r27.2)]) (fun (s : Bool) h => law12_LeaseEnds_g3 p2 none r20.2 r22.2 r27.2 s k (fun s h' => I1 s h' ∧ μ1 s h' < μ1 t9_1 h_1) h) ?_ ?_
          ·
            rintro t94_3 h_3 H
            replace H : law12_LeaseEnds_g3 p2 none r20.2 r22.2 r27.2 t94_3 k (fun s h' => I1 s h' ∧ μ1 s h' < μ1 t9_1 h_1) h_3 := H
            unfold law12_LeaseEnds_g3 at H
            refine w_weak [(94, .bool t94_3), (2, .int .u64 p2), (17, .pointer none), (19, .int .i64 r20.2), (21, .int .i64 r22.2), (23, .int .i64 r27.2)] ⟨rfl, rfl, rfl, rfl, rfl, rfl, trivial⟩ ?_
            refine w_p tok rfl rfl rfl ?_
            refine w_cutU 3 [(98, .bool (t94_3 && (r20.2 == 14))), (2, .int .u64 p2), (17, .pointer none), (21, .int .i64 r22.2), (23, .int .i64 r27.2)] ?_ ?_
            ·
              refine w_p tok rfl rfl rfl ?_
              refine w_cutU 3 [(102, .bool ((t94_3 && (r20.2 == 14)) && (r22.2 == 14))), (2, .int .u64 p2), (17, .pointer none), (23, .int .i64 r27.2)] ?_ ?_
              ·
                refine w_p tok rfl rfl rfl ?_
                refine w_cutU 3 [(106, .bool (((t94_3 && (r20.2 == 14)) && (r22.2 == 14)) && (r27.2 == 14))), (2, .int .u64 p2), (17, .pointer none)] ?_ ?_
                ·
                  refine w_p tok rfl rfl rfl ?_
                  refine w_cut 5 (α := Bool) (fun (s : Bool) => [(112, .bool s)]) (fun (s : Bool) h => law12_LeaseEnds_g4 s k (fun s h' => I1 s h' ∧ μ1 s h' < μ1 t9_1 h_1) h) ?_ ?_
                  ·
                    rintro t112_4 h_4 H
                    replace H : law12_LeaseEnds_g4 t112_4 k (fun s h' => I1 s h' ∧ μ1 s h' < μ1 t9_1 h_1) h_4 := H
                    unfold law12_LeaseEnds_g4 at H
                    refine w_weak [(112, .bool t112_4)] ⟨rfl, trivial⟩ ?_
                    refine w_p tok rfl rfl rfl ?_
                    refine w_cut 2 (α := Bool) (fun (s : Bool) => [(115, .bool s)]) (fun (s : Bool) h => law12_LeaseEnds_g5 s k (fun s h' => I1 s h' ∧ μ1 s h' < μ1 t9_1 h_1) h) ?_ ?_
                    ·
                      rintro t115_5 h_5 H
                      replace H : law12_LeaseEnds_g5 t115_5 k (fun s h' => I1 s h' ∧ μ1 s h' < μ1 t9_1 h_1) h_5 := H
                      unfold law12_LeaseEnds_g5 at H
                      refine w_weak [(115, .bool t115_5)] ⟨rfl, trivial⟩ ?_
                      refine w_p tok rfl rfl rfl ?_
                      refine w_end ?_
                      refine x_seq ?_
                      refine c_ret ?_
                      exact x_ret _ rfl _ rfl ⟨t115_5, rfl, H⟩
                    ·
                      refine w_gif (d := 113) H rfl (fun H => ?_) (fun H => ?_)
                      ·
                        refine w_call law12_awake_ok (law12_awake_ref  _ _ H) rfl rfl rfl rfl ?_
                        rintro _ h30 ⟨r29, rfl, H⟩
                        refine w_p tok rfl rfl rfl ?_
                        exact w_jn r29 H ⟨rfl, trivial⟩
                      ·
                        refine w_skip rfl rfl ?_
                        refine w_p tok rfl rfl rfl ?_
                        exact w_jn false H ⟨rfl, trivial⟩
                  ·
                    refine w_gif (d := 107) H rfl (fun H => ?_) (fun H => ?_)
                    ·
                      refine w_p tok rfl rfl rfl ?_
                      refine w_p tok rfl rfl rfl ?_
                      refine w_call lease_Lease_Grant_ok (lease_Lease_Grant_ref _ _ _ _ H) rfl rfl rfl rfl ?_
                      rintro _ h32 ⟨r31, rfl, H⟩
                      refine w_p tok rfl rfl rfl ?_
                      refine w_p tok rfl rfl rfl ?_
                      exact w_jn (r31 == 1) H ⟨rfl, trivial⟩
                    ·
                      refine w_skip rfl rfl ?_
                      refine w_skip rfl rfl ?_
                      refine w_skip rfl rfl ?_
                      refine w_skip rfl rfl ?_
                      refine w_p tok rfl rfl rfl ?_
                      exact w_jn false H ⟨rfl, trivial⟩
                ·
                  refine w_gs (d := 103) rfl (fun hb => ?_) (fun hb => ?_)
                  ·
                    refine w_p tok rfl rfl rfl ?_
                    refine w_p tok rfl rfl rfl ?_
                    refine w_p tok rfl rfl rfl ?_
                    refine w_jn () rfl ⟨?_, rfl, rfl, trivial⟩
                    exact congrArg (fun b => some (Value.bool b)) (and_t hb)
                  ·
                    refine w_skip rfl rfl ?_
                    refine w_skip rfl rfl ?_
                    refine w_p tok rfl rfl rfl ?_
                    refine w_jn () rfl ⟨?_, rfl, rfl, trivial⟩
                    exact congrArg (fun b => some (Value.bool b)) (and_f hb)
              ·
                refine w_gs (d := 99) rfl (fun hb => ?_) (fun hb => ?_)
                ·
                  refine w_p tok rfl rfl rfl ?_
                  refine w_p tok rfl rfl rfl ?_
                  refine w_p tok rfl rfl rfl ?_
                  refine w_jn () rfl ⟨?_, rfl, rfl, rfl, trivial⟩
                  exact congrArg (fun b => some (Value.bool b)) (and_t hb)
                ·
                  refine w_skip rfl rfl ?_
                  refine w_skip rfl rfl ?_
                  refine w_p tok rfl rfl rfl ?_
                  refine w_jn () rfl ⟨?_, rfl, rfl, rfl, trivial⟩
                  exact congrArg (fun b => some (Value.bool b)) (and_f hb)
            ·
              refine w_gs (d := 95) rfl (fun hb => ?_) (fun hb => ?_)
              ·
                refine w_p tok rfl rfl rfl ?_
                refine w_p tok rfl rfl rfl ?_
                refine w_p tok rfl rfl rfl ?_
                refine w_jn () rfl ⟨?_, rfl, rfl, rfl, rfl, trivial⟩
                exact congrArg (fun b => some (Value.bool b)) (and_t hb)
              ·
                refine w_skip rfl rfl ?_
                refine w_skip rfl rfl ?_
                refine w_p tok rfl rfl rfl ?_
                refine w_jn () rfl ⟨?_, rfl, rfl, rfl, rfl, trivial⟩
                exact congrArg (fun b => some (Value.bool b)) (and_f hb)
          ·
            refine w_gif (d := 90) H rfl (fun H => ?_) (fun H => ?_)
            ·
              refine w_p tok rfl rfl rfl ?_
              refine w_call lease_Lease_Left_ok (lease_Lease_Left_ref _ _ _ H) rfl rfl rfl rfl ?_
              rintro _ h34 ⟨r33, rfl, H⟩
              refine w_p tok rfl rfl rfl ?_
              refine w_p tok rfl rfl rfl ?_
              exact w_jn (r33 == 0) H ⟨rfl, rfl, rfl, rfl, rfl, rfl, trivial⟩
            ·
              refine w_skip rfl rfl ?_
              refine w_skip rfl rfl ?_
              refine w_skip rfl rfl ?_
              refine w_p tok rfl rfl rfl ?_
              exact w_jn false H ⟨rfl, rfl, rfl, rfl, rfl, rfl, trivial⟩
        ·
          refine w_gif (d := 85) H rfl (fun H => ?_) (fun H => ?_)
          ·
            refine w_p tok rfl rfl rfl ?_
            refine w_call lease_Lease_Left_ok (lease_Lease_Left_ref _ _ _ H) rfl rfl rfl rfl ?_
            rintro _ h36 ⟨r35, rfl, H⟩
            refine w_p tok rfl rfl rfl ?_
            refine w_p tok rfl rfl rfl ?_
            exact w_jn (r35 == 0) H ⟨rfl, rfl, rfl, rfl, rfl, rfl, trivial⟩
          ·
            refine w_skip rfl rfl ?_
            refine w_skip rfl rfl ?_
            refine w_skip rfl rfl ?_
            refine w_p tok rfl rfl rfl ?_
            exact w_jn false H ⟨rfl, rfl, rfl, rfl, rfl, rfl, trivial⟩
      ·
        refine w_gs (d := 81) rfl (fun hb => ?_) (fun hb => ?_)
        ·
          refine w_p tok rfl rfl rfl ?_
          refine w_p tok rfl rfl rfl ?_
          refine w_p tok rfl rfl rfl ?_
          refine w_jn () rfl ⟨?_, rfl, rfl, rfl, rfl, rfl, rfl, trivial⟩
          exact congrArg (fun b => some (Value.bool b)) (and_t hb)
        ·
          refine w_skip rfl rfl ?_
          refine w_skip rfl rfl ?_
          refine w_p tok rfl rfl rfl ?_
          refine w_jn () rfl ⟨?_, rfl, rfl, rfl, rfl, rfl, rfl, trivial⟩
          exact congrArg (fun b => some (Value.bool b)) (and_f hb)
    ·
      refine w_gs (d := 77) rfl (fun hb => ?_) (fun hb => ?_)
      ·
        refine w_p tok rfl rfl rfl ?_
        refine w_p tok rfl rfl rfl ?_
        refine w_p tok rfl rfl rfl ?_
        refine w_jn () rfl ⟨?_, rfl, rfl, rfl, rfl, rfl, rfl, rfl, trivial⟩
        exact congrArg (fun b => some (Value.bool b)) (and_t hb)
      ·
        refine w_skip rfl rfl ?_
        refine w_skip rfl rfl ?_
        refine w_p tok rfl rfl rfl ?_
        refine w_jn () rfl ⟨?_, rfl, rfl, rfl, rfl, rfl, rfl, rfl, trivial⟩
        exact congrArg (fun b => some (Value.bool b)) (and_f hb)
end Go.Q.Ya

/- A part of the proof of statements of this seat: lemmas, no statement of their own. -/
import Derived.Test.YtmhadeadjjkkcaaDoorYeTab
import Derived.Test.YtmhadeadjjkkcaaDoorYeSlot
import Derived.Test.YtmhadeadjjkkcaaDoorYeW0
set_option linter.unusedVariables false
set_option maxRecDepth 100000
set_option maxHeartbeats 1000000
namespace Go.Q.Ye
/-- quaestor quaestorref01.Form -/
def ref01_Form_l1b (t1_1 : Int) (t0_1 : Int) (t5_1 : Slc) (t6_1 : Int) (k : (Slc) → Heap → Prop) (nx1 : (Int × Slc × Int) → Heap → Prop) (h_1 : Heap) : Prop :=
  if (decide (t6_1 < t1_1)) then (∃ (b1 : Nat) (h2 : Heap), b1 = h_1.size ∧ h2 = h_1.push (.cells ([.int .u8 (IntKind.u8.wrap (Int.tmod t0_1 256))]).toArray 5) ∧ (App 5 1 1 [.int .u8 0] h2 t5_1 1 ([.int .u8 (IntKind.u8.wrap (Int.tmod t0_1 256))]) (fun s3 h4 => ∃ x5 : Int, x5 = (IntKind.u64.wrap (Int.tdiv t0_1 256)) ∧ (∃ x6 : Int, x6 = (IntKind.i64.wrap (t6_1 + 1)) ∧ (nx1 (x5, s3, x6) h4))))) else (k t5_1 h_1)
def ref01_Form_l1 (t1_1 : Int) (i0 : Int) (i5 : Slc) (i6 : Int) (k : (Slc) → Heap → Prop) (h : Heap) : Prop :=
  ∃ (I : (Int × Slc × Int) → Heap → Prop) (μ : (Int × Slc × Int) → Heap → Nat), I (i0, i5, i6) h ∧ ∀ (t0_1 : Int) (t5_1 : Slc) (t6_1 : Int) (h : Heap), I (t0_1, t5_1, t6_1) h → ref01_Form_l1b t1_1 t0_1 t5_1 t6_1 k (fun s h' => I s h' ∧ μ s h' < μ (t0_1, t5_1, t6_1) h) h
def ref01_Form (p0 : Int) (p1 : Int) (k : (Slc) → Heap → Prop) (h : Heap) : Prop :=
  ref01_Form_l1 p1 p0 (⟨none, 0, 0⟩ : Slc) 0 k h

/-- quaestor quaestorref02.high -/
def ref02_high_l1b (t5_1 : Slc) (t0_1 : Int) (t6_1 : Int) (k : (Slc) → Heap → Prop) (nx1 : (Int × Int) → Heap → Prop) (h_1 : Heap) : Prop :=
  if (decide (t6_1 ≥ 0)) then (∃ a4 : Addr, t5_1.a = some a4 ∧ (0 : Int) ≤ t6_1 ∧ t6_1 < (t5_1.len : Int) ∧ (∃ h5 : Heap, WrH h_1 (a4.add (t6_1.toNat * 1)) ∧ h5 = setH h_1 (a4.add (t6_1.toNat * 1)) (.int .u8 (IntKind.u8.wrap (Int.tmod t0_1 256))) ∧ (∃ x6 : Int, x6 = (IntKind.u64.wrap (Int.tdiv t0_1 256)) ∧ (∃ x7 : Int, x7 = (IntKind.i64.wrap (t6_1 - 1)) ∧ (nx1 (x6, x7) h5))))) else (k t5_1 h_1)
def ref02_high_l1 (t5_1 : Slc) (i0 : Int) (i6 : Int) (k : (Slc) → Heap → Prop) (h : Heap) : Prop :=
  ∃ (I : (Int × Int) → Heap → Prop) (μ : (Int × Int) → Heap → Nat), I (i0, i6) h ∧ ∀ (t0_1 : Int) (t6_1 : Int) (h : Heap), I (t0_1, t6_1) h → ref02_high_l1b t5_1 t0_1 t6_1 k (fun s h' => I s h' ∧ μ s h' < μ (t0_1, t6_1) h) h
def ref02_high (p0 : Int) (p1 : Int) (k : (Slc) → Heap → Prop) (h : Heap) : Prop :=
  ∃ (b1 : Nat) (h2 : Heap), (0 : Int) ≤ p1 ∧ (p1 : Int) ≤ p1 ∧ (p1 : Int) * 1 ≤ 281474976710656 ∧ (p1 : Int) ≤ 9223372036854775807 ∧ b1 = h.size ∧ h2 = h.push (.cells (zrow [.int .u8 0] p1.toNat).toArray 5) ∧ (∃ x3 : Int, x3 = (IntKind.i64.wrap (p1 - 1)) ∧ (ref02_high_l1 (⟨some ⟨b1, 0, none⟩, p1.toNat, p1.toNat⟩ : Slc) p0 x3 k h2))

/-- quaestor quaestorref02.constants -/
def ref02_constants (k : (Slc) → Heap → Prop) (h : Heap) : Prop :=
  ∃ (b1 : Nat) (h2 : Heap), b1 = h.size ∧ h2 = h.push (.cells ([.int .u32 1116352408, .int .u32 1899447441, .int .u32 3049323471, .int .u32 3921009573, .int .u32 961987163, .int .u32 1508970993, .int .u32 2453635748, .int .u32 2870763221, .int .u32 3624381080, .int .u32 310598401, .int .u32 607225278, .int .u32 1426881987, .int .u32 1925078388, .int .u32 2162078206, .int .u32 2614888103, .int .u32 3248222580, .int .u32 3835390401, .int .u32 4022224774, .int .u32 264347078, .int .u32 604807628, .int .u32 770255983, .int .u32 1249150122, .int .u32 1555081692, .int .u32 1996064986, .int .u32 2554220882, .int .u32 2821834349, .int .u32 2952996808, .int .u32 3210313671, .int .u32 3336571891, .int .u32 3584528711, .int .u32 113926993, .int .u32 338241895, .int .u32 666307205, .int .u32 773529912, .int .u32 1294757372, .int .u32 1396182291, .int .u32 1695183700, .int .u32 1986661051, .int .u32 2177026350, .int .u32 2456956037, .int .u32 2730485921, .int .u32 2820302411, .int .u32 3259730800, .int .u32 3345764771, .int .u32 3516065817, .int .u32 3600352804, .int .u32 4094571909, .int .u32 275423344, .int .u32 430227734, .int .u32 506948616, .int .u32 659060556, .int .u32 883997877, .int .u32 958139571, .int .u32 1322822218, .int .u32 1537002063, .int .u32 1747873779, .int .u32 1955562222, .int .u32 2024104815, .int .u32 2227730452, .int .u32 2361852424, .int .u32 2428436474, .int .u32 2756734187, .int .u32 3204031479, .int .u32 3329325298]).toArray 83) ∧ (k (⟨some ⟨b1, 0, none⟩, 64, 64⟩ : Slc) h2)

/-- quaestor quaestorref02.number -/
def ref02_number_l1b (t0_1 : Slc) (t3_1 : Int) (t4_1 : Int) (k : (Int) → Heap → Prop) (nx1 : (Int × Int) → Heap → Prop) (h_1 : Heap) : Prop :=
  if (decide (t4_1 < (t0_1.len : Int))) then (∃ a1 : Addr, t0_1.a = some a1 ∧ (0 : Int) ≤ t4_1 ∧ t4_1 < (t0_1.len : Int) ∧ (∃ v2 : Int, cellH h_1 (a1.add (t4_1.toNat * 1)) = some (.int .u8 v2) ∧ (∃ x3 : Int, x3 = (IntKind.u64.wrap ((IntKind.u64.wrap (t3_1 * 256)) + (IntKind.u64.wrap v2))) ∧ (∃ x4 : Int, x4 = (IntKind.i64.wrap (t4_1 + 1)) ∧ (nx1 (x3, x4) h_1))))) else (k t3_1 h_1)
def ref02_number_l1 (t0_1 : Slc) (i3 : Int) (i4 : Int) (k : (Int) → Heap → Prop) (h : Heap) : Prop :=
  ∃ (I : (Int × Int) → Heap → Prop) (μ : (Int × Int) → Heap → Nat), I (i3, i4) h ∧ ∀ (t3_1 : Int) (t4_1 : Int) (h : Heap), I (t3_1, t4_1) h → ref02_number_l1b t0_1 t3_1 t4_1 k (fun s h' => I s h' ∧ μ s h' < μ (t3_1, t4_1) h) h
def ref02_number (p0 : Slc) (k : (Int) → Heap → Prop) (h : Heap) : Prop :=
  ref02_number_l1 p0 0 0 k h

/-- quaestor quaestorref02.turn -/
def ref02_turn_l1b (t1_1 : Int) (t0_1 : Int) (t5_1 : Int) (k : (Int) → Heap → Prop) (nx1 : (Int × Int) → Heap → Prop) (h_1 : Heap) : Prop :=
  if (decide (t5_1 < t1_1)) then (∃ x1 : Int, x1 = (Int.tmod t0_1 2) ∧ (∃ x2 : Int, x2 = (IntKind.u32.wrap ((IntKind.u32.wrap (Int.tdiv t0_1 2)) + (IntKind.u32.wrap (x1 * 2147483648)))) ∧ (∃ x3 : Int, x3 = (IntKind.i64.wrap (t5_1 + 1)) ∧ (nx1 (x2, x3) h_1)))) else (k t0_1 h_1)
def ref02_turn_l1 (t1_1 : Int) (i0 : Int) (i5 : Int) (k : (Int) → Heap → Prop) (h : Heap) : Prop :=
  ∃ (I : (Int × Int) → Heap → Prop) (μ : (Int × Int) → Heap → Nat), I (i0, i5) h ∧ ∀ (t0_1 : Int) (t5_1 : Int) (h : Heap), I (t0_1, t5_1) h → ref02_turn_l1b t1_1 t0_1 t5_1 k (fun s h' => I s h' ∧ μ s h' < μ (t0_1, t5_1) h) h
def ref02_turn (p0 : Int) (p1 : Int) (k : (Int) → Heap → Prop) (h : Heap) : Prop :=
  ref02_turn_l1 p1 p0 0 k h

/-- quaestor quaestorref02.cut -/
def ref02_cut_l1b (t1_1 : Int) (t0_1 : Int) (t5_1 : Int) (k : (Int) → Heap → Prop) (nx1 : (Int × Int) → Heap → Prop) (h_1 : Heap) : Prop :=
  if (decide (t5_1 < t1_1)) then (∃ x1 : Int, x1 = (IntKind.u32.wrap (Int.tdiv t0_1 2)) ∧ (∃ x2 : Int, x2 = (IntKind.i64.wrap (t5_1 + 1)) ∧ (nx1 (x1, x2) h_1))) else (k t0_1 h_1)
def ref02_cut_l1 (t1_1 : Int) (i0 : Int) (i5 : Int) (k : (Int) → Heap → Prop) (h : Heap) : Prop :=
  ∃ (I : (Int × Int) → Heap → Prop) (μ : (Int × Int) → Heap → Nat), I (i0, i5) h ∧ ∀ (t0_1 : Int) (t5_1 : Int) (h : Heap), I (t0_1, t5_1) h → ref02_cut_l1b t1_1 t0_1 t5_1 k (fun s h' => I s h' ∧ μ s h' < μ (t0_1, t5_1) h) h
def ref02_cut (p0 : Int) (p1 : Int) (k : (Int) → Heap → Prop) (h : Heap) : Prop :=
  ref02_cut_l1 p1 p0 0 k h

/-- quaestor quaestorref02.Sum -/
def ref02_Sum_l5b (t2_5 : Addr) (t3_5 : Slc) (t4_5 : Slc) (t5_5 : Slc) (t6_5 : Int) (t7_5 : Slc) (t12_5 : Int) (t13_5 : Int) (t14_5 : Int) (t15_5 : Int) (t16_5 : Int) (t17_5 : Int) (t18_5 : Int) (t19_5 : Int) (t20_5 : Int) (k : (List Int) → Heap → Prop) (nx1 : (Slc) → Heap → Prop) (nx2 : (Slc × Int) → Heap → Prop) (nx3 : (Slc × Int) → Heap → Prop) (nx4 : (Slc × Int) → Heap → Prop) (nx5 : (Int × Int × Int × Int × Int × Int × Int × Int × Int) → Heap → Prop) (h_5 : Heap) : Prop :=
  if (decide (t20_5 < 64)) then (ref02_turn t16_5 6 (fun (r88 : Int) h89 => ref02_turn t16_5 11 (fun (r90 : Int) h91 => ref02_turn t16_5 25 (fun (r92 : Int) h93 => ∃ x94 : Int, x94 = (bwXor .u32 (bwXor .u32 r88 r90) r92) ∧ (∃ a95 : Addr, t5_5.a = some a95 ∧ (0 : Int) ≤ t20_5 ∧ t20_5 < (t5_5.len : Int) ∧ (∃ v96 : Int, cellH h93 (a95.add (t20_5.toNat * 1)) = some (.int .u32 v96) ∧ (∃ a97 : Addr, t7_5.a = some a97 ∧ (0 : Int) ≤ t20_5 ∧ t20_5 < (t7_5.len : Int) ∧ (∃ v98 : Int, cellH h93 (a97.add (t20_5.toNat * 1)) = some (.int .u32 v98) ∧ (ref02_turn t12_5 2 (fun (r99 : Int) h100 => ref02_turn t12_5 13 (fun (r101 : Int) h102 => ref02_turn t12_5 22 (fun (r103 : Int) h104 => ∃ x105 : Int, x105 = (IntKind.u32.wrap ((bwXor .u32 (bwXor .u32 r99 r101) r103) + (bwXor .u32 (bwXor .u32 (bwAnd .u32 t12_5 t13_5) (bwAnd .u32 t12_5 t14_5)) (bwAnd .u32 t13_5 t14_5)))) ∧ (∃ x106 : Int, x106 = (IntKind.u32.wrap (t15_5 + (IntKind.u32.wrap ((IntKind.u32.wrap ((IntKind.u32.wrap ((IntKind.u32.wrap (t19_5 + x94)) + (bwXor .u32 (bwAnd .u32 t16_5 t17_5) (bwAnd .u32 (IntKind.u32.wrap (4294967295 - t16_5)) t18_5)))) + v96)) + v98)))) ∧ (∃ x107 : Int, x107 = (IntKind.u32.wrap ((IntKind.u32.wrap ((IntKind.u32.wrap ((IntKind.u32.wrap ((IntKind.u32.wrap (t19_5 + x94)) + (bwXor .u32 (bwAnd .u32 t16_5 t17_5) (bwAnd .u32 (IntKind.u32.wrap (4294967295 - t16_5)) t18_5)))) + v96)) + v98)) + x105)) ∧ (∃ x108 : Int, x108 = (IntKind.i64.wrap (t20_5 + 1)) ∧ (nx5 (x107, t12_5, t13_5, t14_5, x106, t16_5, t17_5, t18_5, x108) h104))))) h102) h100) h93)))))) h91) h89) h_5) else (∃ a109 : Addr, t4_5.a = some a109 ∧ (0 : Int) ≤ 0 ∧ 0 < (t4_5.len : Int) ∧ (∃ v110 : Int, cellH h_5 (a109.add ((0 : Int).toNat * 1)) = some (.int .u32 v110) ∧ (∃ a111 : Addr, t4_5.a = some a111 ∧ (0 : Int) ≤ 1 ∧ 1 < (t4_5.len : Int) ∧ (∃ v112 : Int, cellH h_5 (a111.add ((1 : Int).toNat * 1)) = some (.int .u32 v112) ∧ (∃ a113 : Addr, t4_5.a = some a113 ∧ (0 : Int) ≤ 2 ∧ 2 < (t4_5.len : Int) ∧ (∃ v114 : Int, cellH h_5 (a113.add ((2 : Int).toNat * 1)) = some (.int .u32 v114) ∧ (∃ a115 : Addr, t4_5.a = some a115 ∧ (0 : Int) ≤ 3 ∧ 3 < (t4_5.len : Int) ∧ (∃ v116 : Int, cellH h_5 (a115.add ((3 : Int).toNat * 1)) = some (.int .u32 v116) ∧ (∃ a117 : Addr, t4_5.a = some a117 ∧ (0 : Int) ≤ 4 ∧ 4 < (t4_5.len : Int) ∧ (∃ v118 : Int, cellH h_5 (a117.add ((4 : Int).toNat * 1)) = some (.int .u32 v118) ∧ (∃ a119 : Addr, t4_5.a = some a119 ∧ (0 : Int) ≤ 5 ∧ 5 < (t4_5.len : Int) ∧ (∃ v120 : Int, cellH h_5 (a119.add ((5 : Int).toNat * 1)) = some (.int .u32 v120) ∧ (∃ a121 : Addr, t4_5.a = some a121 ∧ (0 : Int) ≤ 6 ∧ 6 < (t4_5.len : Int) ∧ (∃ v122 : Int, cellH h_5 (a121.add ((6 : Int).toNat * 1)) = some (.int .u32 v122) ∧ (∃ a123 : Addr, t4_5.a = some a123 ∧ (0 : Int) ≤ 7 ∧ 7 < (t4_5.len : Int) ∧ (∃ v124 : Int, cellH h_5 (a123.add ((7 : Int).toNat * 1)) = some (.int .u32 v124) ∧ (∃ (b125 : Nat) (h126 : Heap), b125 = h_5.size ∧ h126 = h_5.push (.cells ([.int .u32 (IntKind.u32.wrap (v110 + t12_5)), .int .u32 (IntKind.u32.wrap (v112 + t13_5)), .int .u32 (IntKind.u32.wrap (v114 + t14_5)), .int .u32 (IntKind.u32.wrap (v116 + t15_5)), .int .u32 (IntKind.u32.wrap (v118 + t16_5)), .int .u32 (IntKind.u32.wrap (v120 + t17_5)), .int .u32 (IntKind.u32.wrap (v122 + t18_5)), .int .u32 (IntKind.u32.wrap (v124 + t19_5))]).toArray 83) ∧ (∃ x127 : Int, x127 = (IntKind.i64.wrap (t6_5 + 64)) ∧ (nx2 ((⟨some ⟨b125, 0, none⟩, 8, 8⟩ : Slc), x127) h126)))))))))))))))))))
def ref02_Sum_l5 (t2_5 : Addr) (t3_5 : Slc) (t4_5 : Slc) (t5_5 : Slc) (t6_5 : Int) (t7_5 : Slc) (i12 : Int) (i13 : Int) (i14 : Int) (i15 : Int) (i16 : Int) (i17 : Int) (i18 : Int) (i19 : Int) (i20 : Int) (k : (List Int) → Heap → Prop) (nx1 : (Slc) → Heap → Prop) (nx2 : (Slc × Int) → Heap → Prop) (nx3 : (Slc × Int) → Heap → Prop) (nx4 : (Slc × Int) → Heap → Prop) (h : Heap) : Prop :=
  ∃ (I : (Int × Int × Int × Int × Int × Int × Int × Int × Int) → Heap → Prop) (μ : (Int × Int × Int × Int × Int × Int × Int × Int × Int) → Heap → Nat), I (i12, i13, i14, i15, i16, i17, i18, i19, i20) h ∧ ∀ (t12_5 : Int) (t13_5 : Int) (t14_5 : Int) (t15_5 : Int) (t16_5 : Int) (t17_5 : Int) (t18_5 : Int) (t19_5 : Int) (t20_5 : Int) (h : Heap), I (t12_5, t13_5, t14_5, t15_5, t16_5, t17_5, t18_5, t19_5, t20_5) h → ref02_Sum_l5b t2_5 t3_5 t4_5 t5_5 t6_5 t7_5 t12_5 t13_5 t14_5 t15_5 t16_5 t17_5 t18_5 t19_5 t20_5 k nx1 nx2 nx3 nx4 (fun s h' => I s h' ∧ μ s h' < μ (t12_5, t13_5, t14_5, t15_5, t16_5, t17_5, t18_5, t19_5, t20_5) h) h
def ref02_Sum_l4b (t2_4 : Addr) (t3_4 : Slc) (t4_4 : Slc) (t5_4 : Slc) (t6_4 : Int) (t7_4 : Slc) (t9_4 : Int) (k : (List Int) → Heap → Prop) (nx1 : (Slc) → Heap → Prop) (nx2 : (Slc × Int) → Heap → Prop) (nx3 : (Slc × Int) → Heap → Prop) (nx4 : (Slc × Int) → Heap → Prop) (h_4 : Heap) : Prop :=
  if (decide (t9_4 < 64)) then (∃ a33 : Addr, t7_4.a = some a33 ∧ (0 : Int) ≤ (IntKind.i64.wrap (t9_4 - 15)) ∧ (IntKind.i64.wrap (t9_4 - 15)) < (t7_4.len : Int) ∧ (∃ v34 : Int, cellH h_4 (a33.add ((IntKind.i64.wrap (t9_4 - 15)).toNat * 1)) = some (.int .u32 v34) ∧ (∃ a35 : Addr, t7_4.a = some a35 ∧ (0 : Int) ≤ (IntKind.i64.wrap (t9_4 - 15)) ∧ (IntKind.i64.wrap (t9_4 - 15)) < (t7_4.len : Int) ∧ (∃ v36 : Int, cellH h_4 (a35.add ((IntKind.i64.wrap (t9_4 - 15)).toNat * 1)) = some (.int .u32 v36) ∧ (∃ a37 : Addr, t7_4.a = some a37 ∧ (0 : Int) ≤ (IntKind.i64.wrap (t9_4 - 15)) ∧ (IntKind.i64.wrap (t9_4 - 15)) < (t7_4.len : Int) ∧ (∃ v38 : Int, cellH h_4 (a37.add ((IntKind.i64.wrap (t9_4 - 15)).toNat * 1)) = some (.int .u32 v38) ∧ (ref02_turn v34 7 (fun (r39 : Int) h40 => cellH h40 (a37.add ((IntKind.i64.wrap (t9_4 - 15)).toNat * 1)) = some (.int .u32 v38) ∧ cellH h40 (a35.add ((IntKind.i64.wrap (t9_4 - 15)).toNat * 1)) = some (.int .u32 v36) ∧ (ref02_turn v36 18 (fun (r43 : Int) h44 => cellH h44 (a37.add ((IntKind.i64.wrap (t9_4 - 15)).toNat * 1)) = some (.int .u32 v38) ∧ (ref02_cut v38 3 (fun (r46 : Int) h47 => ∃ a48 : Addr, t7_4.a = some a48 ∧ (0 : Int) ≤ (IntKind.i64.wrap (t9_4 - 2)) ∧ (IntKind.i64.wrap (t9_4 - 2)) < (t7_4.len : Int) ∧ (∃ v49 : Int, cellH h47 (a48.add ((IntKind.i64.wrap (t9_4 - 2)).toNat * 1)) = some (.int .u32 v49) ∧ (∃ a50 : Addr, t7_4.a = some a50 ∧ (0 : Int) ≤ (IntKind.i64.wrap (t9_4 - 2)) ∧ (IntKind.i64.wrap (t9_4 - 2)) < (t7_4.len : Int) ∧ (∃ v51 : Int, cellH h47 (a50.add ((IntKind.i64.wrap (t9_4 - 2)).toNat * 1)) = some (.int .u32 v51) ∧ (∃ a52 : Addr, t7_4.a = some a52 ∧ (0 : Int) ≤ (IntKind.i64.wrap (t9_4 - 2)) ∧ (IntKind.i64.wrap (t9_4 - 2)) < (t7_4.len : Int) ∧ (∃ v53 : Int, cellH h47 (a52.add ((IntKind.i64.wrap (t9_4 - 2)).toNat * 1)) = some (.int .u32 v53) ∧ (ref02_turn v49 17 (fun (r54 : Int) h55 => cellH h55 (a52.add ((IntKind.i64.wrap (t9_4 - 2)).toNat * 1)) = some (.int .u32 v53) ∧ cellH h55 (a50.add ((IntKind.i64.wrap (t9_4 - 2)).toNat * 1)) = some (.int .u32 v51) ∧ (ref02_turn v51 19 (fun (r58 : Int) h59 => cellH h59 (a52.add ((IntKind.i64.wrap (t9_4 - 2)).toNat * 1)) = some (.int .u32 v53) ∧ (ref02_cut v53 10 (fun (r61 : Int) h62 => ∃ a63 : Addr, t7_4.a = some a63 ∧ (0 : Int) ≤ (IntKind.i64.wrap (t9_4 - 16)) ∧ (IntKind.i64.wrap (t9_4 - 16)) < (t7_4.len : Int) ∧ (∃ v64 : Int, cellH h62 (a63.add ((IntKind.i64.wrap (t9_4 - 16)).toNat * 1)) = some (.int .u32 v64) ∧ (∃ a65 : Addr, t7_4.a = some a65 ∧ (0 : Int) ≤ (IntKind.i64.wrap (t9_4 - 7)) ∧ (IntKind.i64.wrap (t9_4 - 7)) < (t7_4.len : Int) ∧ (∃ v66 : Int, cellH h62 (a65.add ((IntKind.i64.wrap (t9_4 - 7)).toNat * 1)) = some (.int .u32 v66) ∧ (∃ (b67 : Nat) (h68 : Heap), b67 = h62.size ∧ h68 = h62.push (.cells ([.int .u32 (IntKind.u32.wrap ((IntKind.u32.wrap ((IntKind.u32.wrap (v64 + (bwXor .u32 (bwXor .u32 r39 r43) r46))) + v66)) + (bwXor .u32 (bwXor .u32 r54 r58) r61)))]).toArray 83) ∧ (App 83 1 4 [.int .u32 0] h68 t7_4 1 ([.int .u32 (IntKind.u32.wrap ((IntKind.u32.wrap ((IntKind.u32.wrap (v64 + (bwXor .u32 (bwXor .u32 r39 r43) r46))) + v66)) + (bwXor .u32 (bwXor .u32 r54 r58) r61)))]) (fun s69 h70 => ∃ x71 : Int, x71 = (IntKind.i64.wrap (t9_4 + 1)) ∧ (nx4 (s69, x71) h70)))))))) h59)) h55)) h47))))))) h44)) h40)) h_4))))))) else (∃ a72 : Addr, t4_4.a = some a72 ∧ (0 : Int) ≤ 0 ∧ 0 < (t4_4.len : Int) ∧ (∃ v73 : Int, cellH h_4 (a72.add ((0 : Int).toNat * 1)) = some (.int .u32 v73) ∧ (∃ a74 : Addr, t4_4.a = some a74 ∧ (0 : Int) ≤ 1 ∧ 1 < (t4_4.len : Int) ∧ (∃ v75 : Int, cellH h_4 (a74.add ((1 : Int).toNat * 1)) = some (.int .u32 v75) ∧ (∃ a76 : Addr, t4_4.a = some a76 ∧ (0 : Int) ≤ 2 ∧ 2 < (t4_4.len : Int) ∧ (∃ v77 : Int, cellH h_4 (a76.add ((2 : Int).toNat * 1)) = some (.int .u32 v77) ∧ (∃ a78 : Addr, t4_4.a = some a78 ∧ (0 : Int) ≤ 3 ∧ 3 < (t4_4.len : Int) ∧ (∃ v79 : Int, cellH h_4 (a78.add ((3 : Int).toNat * 1)) = some (.int .u32 v79) ∧ (∃ a80 : Addr, t4_4.a = some a80 ∧ (0 : Int) ≤ 4 ∧ 4 < (t4_4.len : Int) ∧ (∃ v81 : Int, cellH h_4 (a80.add ((4 : Int).toNat * 1)) = some (.int .u32 v81) ∧ (∃ a82 : Addr, t4_4.a = some a82 ∧ (0 : Int) ≤ 5 ∧ 5 < (t4_4.len : Int) ∧ (∃ v83 : Int, cellH h_4 (a82.add ((5 : Int).toNat * 1)) = some (.int .u32 v83) ∧ (∃ a84 : Addr, t4_4.a = some a84 ∧ (0 : Int) ≤ 6 ∧ 6 < (t4_4.len : Int) ∧ (∃ v85 : Int, cellH h_4 (a84.add ((6 : Int).toNat * 1)) = some (.int .u32 v85) ∧ (∃ a86 : Addr, t4_4.a = some a86 ∧ (0 : Int) ≤ 7 ∧ 7 < (t4_4.len : Int) ∧ (∃ v87 : Int, cellH h_4 (a86.add ((7 : Int).toNat * 1)) = some (.int .u32 v87) ∧ (ref02_Sum_l5 t2_4 t3_4 t4_4 t5_4 t6_4 t7_4 v73 v75 v77 v79 v81 v83 v85 v87 0 k nx1 nx2 nx3 nx4 h_4)))))))))))))))))
def ref02_Sum_l4 (t2_4 : Addr) (t3_4 : Slc) (t4_4 : Slc) (t5_4 : Slc) (t6_4 : Int) (i7 : Slc) (i9 : Int) (k : (List Int) → Heap → Prop) (nx1 : (Slc) → Heap → Prop) (nx2 : (Slc × Int) → Heap → Prop) (nx3 : (Slc × Int) → Heap → Prop) (h : Heap) : Prop :=
  ∃ (I : (Slc × Int) → Heap → Prop) (μ : (Slc × Int) → Heap → Nat), I (i7, i9) h ∧ ∀ (t7_4 : Slc) (t9_4 : Int) (h : Heap), I (t7_4, t9_4) h → ref02_Sum_l4b t2_4 t3_4 t4_4 t5_4 t6_4 t7_4 t9_4 k nx1 nx2 nx3 (fun s h' => I s h' ∧ μ s h' < μ (t7_4, t9_4) h) h
def ref02_Sum_l3b (t2_3 : Addr) (t3_3 : Slc) (t4_3 : Slc) (t5_3 : Slc) (t6_3 : Int) (t7_3 : Slc) (t8_3 : Int) (k : (List Int) → Heap → Prop) (nx1 : (Slc) → Heap → Prop) (nx2 : (Slc × Int) → Heap → Prop) (nx3 : (Slc × Int) → Heap → Prop) (h_3 : Heap) : Prop :=
  if (decide (t8_3 < 16)) then (∃ s25 : Slc, (0 : Int) ≤ (IntKind.i64.wrap (t6_3 + (IntKind.i64.wrap (4 * t8_3)))) ∧ ((IntKind.i64.wrap (t6_3 + (IntKind.i64.wrap (4 * t8_3)))) : Int) ≤ (IntKind.i64.wrap ((IntKind.i64.wrap (t6_3 + (IntKind.i64.wrap (4 * t8_3)))) + 4)) ∧ ((IntKind.i64.wrap ((IntKind.i64.wrap (t6_3 + (IntKind.i64.wrap (4 * t8_3)))) + 4)) : Int) ≤ (t3_3.cap : Int) ∧ (t3_3.cap : Int) ≤ (t3_3.cap : Int) ∧ s25 = subS t3_3 1 (IntKind.i64.wrap (t6_3 + (IntKind.i64.wrap (4 * t8_3)))).toNat (IntKind.i64.wrap ((IntKind.i64.wrap (t6_3 + (IntKind.i64.wrap (4 * t8_3)))) + 4)).toNat (t3_3.cap : Int).toNat ∧ (ref02_number s25 (fun (r26 : Int) h27 => ∃ (b28 : Nat) (h29 : Heap), b28 = h27.size ∧ h29 = h27.push (.cells ([.int .u32 (IntKind.u32.wrap r26)]).toArray 83) ∧ (App 83 1 4 [.int .u32 0] h29 t7_3 1 ([.int .u32 (IntKind.u32.wrap r26)]) (fun s30 h31 => ∃ x32 : Int, x32 = (IntKind.i64.wrap (t8_3 + 1)) ∧ (nx3 (s30, x32) h31)))) h_3)) else (ref02_Sum_l4 t2_3 t3_3 t4_3 t5_3 t6_3 t7_3 16 k nx1 nx2 nx3 h_3)
def ref02_Sum_l3 (t2_3 : Addr) (t3_3 : Slc) (t4_3 : Slc) (t5_3 : Slc) (t6_3 : Int) (i7 : Slc) (i8 : Int) (k : (List Int) → Heap → Prop) (nx1 : (Slc) → Heap → Prop) (nx2 : (Slc × Int) → Heap → Prop) (h : Heap) : Prop :=
  ∃ (I : (Slc × Int) → Heap → Prop) (μ : (Slc × Int) → Heap → Nat), I (i7, i8) h ∧ ∀ (t7_3 : Slc) (t8_3 : Int) (h : Heap), I (t7_3, t8_3) h → ref02_Sum_l3b t2_3 t3_3 t4_3 t5_3 t6_3 t7_3 t8_3 k nx1 nx2 (fun s h' => I s h' ∧ μ s h' < μ (t7_3, t8_3) h) h
def ref02_Sum_l6b (t2_6 : Addr) (t4_6 : Slc) (t24_6 : Addr) (t25_6 : Int) (k : (List Int) → Heap → Prop) (nx1 : (Slc) → Heap → Prop) (nx2 : (Slc × Int) → Heap → Prop) (nx6 : (Int) → Heap → Prop) (h_6 : Heap) : Prop :=
  if (decide (t25_6 < 32)) then (∃ a130 : Addr, t4_6.a = some a130 ∧ (0 : Int) ≤ (IntKind.i64.wrap (Int.tdiv t25_6 4)) ∧ (IntKind.i64.wrap (Int.tdiv t25_6 4)) < (t4_6.len : Int) ∧ (∃ v131 : Int, cellH h_6 (a130.add ((IntKind.i64.wrap (Int.tdiv t25_6 4)).toNat * 1)) = some (.int .u32 v131) ∧ (ref02_high (IntKind.u64.wrap v131) 4 (fun (r132 : Slc) h133 => ∃ a134 : Addr, r132.a = some a134 ∧ (0 : Int) ≤ (Int.tmod t25_6 4) ∧ (Int.tmod t25_6 4) < (r132.len : Int) ∧ (∃ v135 : Int, cellH h133 (a134.add ((Int.tmod t25_6 4).toNat * 1)) = some (.int .u8 v135) ∧ ((0 : Int) ≤ t25_6 ∧ t25_6 < (32 : Int) ∧ (∃ h137 : Heap, WrH h133 (t24_6.add (t25_6.toNat * 1)) ∧ h137 = setH h133 (t24_6.add (t25_6.toNat * 1)) (.int .u8 v135) ∧ (∃ x138 : Int, x138 = (IntKind.i64.wrap (t25_6 + 1)) ∧ (nx6 x138 h137)))))) h_6))) else (∃ v139 : List Int, CellsAt h_6 t24_6 (arr 32 .u8 v139) ∧ (∃ h140 : Heap, WrsAt h_6 t2_6 32 ∧ h140 = setsH h_6 t2_6 0 (arr 32 .u8 v139) ∧ (∃ v141 : List Int, CellsAt h140 t2_6 (arr 32 .u8 v141) ∧ k v141 h140)))
def ref02_Sum_l6 (t2_6 : Addr) (t4_6 : Slc) (t24_6 : Addr) (i25 : Int) (k : (List Int) → Heap → Prop) (nx1 : (Slc) → Heap → Prop) (nx2 : (Slc × Int) → Heap → Prop) (h : Heap) : Prop :=
  ∃ (I : Int → Heap → Prop) (μ : Int → Heap → Nat), I i25 h ∧ ∀ (t25_6 : Int) (h : Heap), I t25_6 h → ref02_Sum_l6b t2_6 t4_6 t24_6 t25_6 k nx1 nx2 (fun s h' => I s h' ∧ μ s h' < μ t25_6 h) h
def ref02_Sum_l2b (t2_2 : Addr) (t3_2 : Slc) (t5_2 : Slc) (t4_2 : Slc) (t6_2 : Int) (k : (List Int) → Heap → Prop) (nx1 : (Slc) → Heap → Prop) (nx2 : (Slc × Int) → Heap → Prop) (h_2 : Heap) : Prop :=
  if (decide (t6_2 < (t3_2.len : Int))) then (ref02_Sum_l3 t2_2 t3_2 t4_2 t5_2 t6_2 (⟨none, 0, 0⟩ : Slc) 0 k nx1 nx2 h_2) else (∃ (b128 : Nat) (h129 : Heap), b128 = h_2.size ∧ h129 = h_2.push (.cells (arr 32 .u8 ([] : List Int)).toArray 63) ∧ (ref02_Sum_l6 t2_2 t4_2 (⟨b128, 0, none⟩ : Addr) 0 k nx1 nx2 h129))
def ref02_Sum_l2 (t2_2 : Addr) (t3_2 : Slc) (t5_2 : Slc) (i4 : Slc) (i6 : Int) (k : (List Int) → Heap → Prop) (nx1 : (Slc) → Heap → Prop) (h : Heap) : Prop :=
  ∃ (I : (Slc × Int) → Heap → Prop) (μ : (Slc × Int) → Heap → Nat), I (i4, i6) h ∧ ∀ (t4_2 : Slc) (t6_2 : Int) (h : Heap), I (t4_2, t6_2) h → ref02_Sum_l2b t2_2 t3_2 t5_2 t4_2 t6_2 k nx1 (fun s h' => I s h' ∧ μ s h' < μ (t4_2, t6_2) h) h
def ref02_Sum_l1b (t0_1 : Slc) (t2_1 : Addr) (t3_1 : Slc) (k : (List Int) → Heap → Prop) (nx1 : (Slc) → Heap → Prop) (h_1 : Heap) : Prop :=
  if ((Int.tmod (t3_1.len : Int) 64) != 56) then (∃ (b12 : Nat) (h13 : Heap), b12 = h_1.size ∧ h13 = h_1.push (.cells ([.int .u8 0]).toArray 5) ∧ (App 5 1 1 [.int .u8 0] h13 t3_1 1 ([.int .u8 0]) (fun s14 h15 => nx1 s14 h15))) else (ref02_high (IntKind.u64.wrap ((IntKind.u64.wrap (t0_1.len : Int)) * 8)) 8 (fun (r16 : Slc) h17 => ∃ l20 : List Value, SlcAt h17 r16 l20 ∧ App 5 1 1 [.int .u8 0] h17 t3_1 r16.len l20 (fun s18 h19 => ∃ (b21 : Nat) (h22 : Heap), b21 = h19.size ∧ h22 = h19.push (.cells ([.int .u32 1779033703, .int .u32 3144134277, .int .u32 1013904242, .int .u32 2773480762, .int .u32 1359893119, .int .u32 2600822924, .int .u32 528734635, .int .u32 1541459225]).toArray 83) ∧ (ref02_constants  (fun (r23 : Slc) h24 => ref02_Sum_l2 t2_1 s18 r23 (⟨some ⟨b21, 0, none⟩, 8, 8⟩ : Slc) 0 k nx1 h24) h22))) h_1)
def ref02_Sum_l1 (t0_1 : Slc) (t2_1 : Addr) (i3 : Slc) (k : (List Int) → Heap → Prop) (h : Heap) : Prop :=
  ∃ (I : Slc → Heap → Prop) (μ : Slc → Heap → Nat), I i3 h ∧ ∀ (t3_1 : Slc) (h : Heap), I t3_1 h → ref02_Sum_l1b t0_1 t2_1 t3_1 k (fun s h' => I s h' ∧ μ s h' < μ t3_1 h) h
def ref02_Sum (p0 : Slc) (k : (List Int) → Heap → Prop) (h : Heap) : Prop :=
  ∃ (b1 : Nat) (h2 : Heap), b1 = h.size ∧ h2 = h.push (.cells (arr 32 .u8 ([] : List Int)).toArray 63) ∧ (∃ (b3 : Nat) (h4 : Heap), b3 = h2.size ∧ h4 = h2.push (.cells ([]).toArray 5) ∧ (∃ l7 : List Value, SlcAt h4 p0 l7 ∧ App 5 1 1 [.int .u8 0] h4 (⟨some ⟨b3, 0, none⟩, 0, 0⟩ : Slc) p0.len l7 (fun s5 h6 => ∃ (b8 : Nat) (h9 : Heap), b8 = h6.size ∧ h9 = h6.push (.cells ([.int .u8 128]).toArray 5) ∧ (App 5 1 1 [.int .u8 0] h9 s5 1 ([.int .u8 128]) (fun s10 h11 => ref02_Sum_l1 p0 (⟨b1, 0, none⟩ : Addr) s10 k h11)))))

/-- quaestor quaestorref10.Lay -/
def ref10_Lay_l3b (t0_3 : Slc) (t1_3 : Int) (t5_3 : Int) (t6_3 : Addr) (t7_3 : Slc) (t8_3 : Int) (t9_3 : Slc) (k : (Slc) → Heap → Prop) (nx2 : (Slc × Int) → Heap → Prop) (nx3 : (Slc) → Heap → Prop) (h_3 : Heap) : Prop :=
  if (decide ((t9_3.len : Int) < 128)) then (∃ (b32 : Nat) (h33 : Heap), b32 = h_3.size ∧ h33 = h_3.push (.cells ([.int .u8 0]).toArray 5) ∧ (App 5 1 1 [.int .u8 0] h33 t9_3 1 ([.int .u8 0]) (fun s34 h35 => nx3 s34 h35))) else (∃ (b36 : Nat) (h37 : Heap), b36 = h_3.size ∧ h37 = h_3.push (.cells ([Slc.v t9_3]).toArray 23) ∧ (App 23 1 24 [.slice none 0 0] h37 t7_3 1 ([Slc.v t9_3]) (fun s38 h39 => ∃ x40 : Int, x40 = (IntKind.i64.wrap (t8_3 + 1)) ∧ (nx2 (s38, x40) h39))))
def ref10_Lay_l3 (t0_3 : Slc) (t1_3 : Int) (t5_3 : Int) (t6_3 : Addr) (t7_3 : Slc) (t8_3 : Int) (i9 : Slc) (k : (Slc) → Heap → Prop) (nx2 : (Slc × Int) → Heap → Prop) (h : Heap) : Prop :=
  ∃ (I : Slc → Heap → Prop) (μ : Slc → Heap → Nat), I i9 h ∧ ∀ (t9_3 : Slc) (h : Heap), I t9_3 h → ref10_Lay_l3b t0_3 t1_3 t5_3 t6_3 t7_3 t8_3 t9_3 k nx2 (fun s h' => I s h' ∧ μ s h' < μ t9_3 h) h
def ref10_Lay_l2b (t0_2 : Slc) (t1_2 : Int) (t5_2 : Int) (t6_2 : Addr) (t7_2 : Slc) (t8_2 : Int) (k : (Slc) → Heap → Prop) (nx2 : (Slc × Int) → Heap → Prop) (h_2 : Heap) : Prop :=
  if (decide (t8_2 < t5_2)) then (ref01_Form t1_2 8 (fun (r7 : Slc) h8 => ref01_Form (IntKind.u64.wrap t8_2) 2 (fun (r9 : Slc) h10 => ∃ l13 : List Value, SlcAt h10 r9 l13 ∧ App 5 1 1 [.int .u8 0] h10 r7 r9.len l13 (fun s11 h12 => ref01_Form (IntKind.u64.wrap t5_2) 2 (fun (r14 : Slc) h15 => ∃ l18 : List Value, SlcAt h15 r14 l18 ∧ App 5 1 1 [.int .u8 0] h15 s11 r14.len l18 (fun s16 h17 => ref01_Form (IntKind.u64.wrap (t0_2.len : Int)) 4 (fun (r19 : Slc) h20 => ∃ l23 : List Value, SlcAt h20 r19 l23 ∧ App 5 1 1 [.int .u8 0] h20 s16 r19.len l23 (fun s21 h22 => ∃ s24 : Slc, (0 : Int) ≤ 0 ∧ 0 ≤ (8 : Int) ∧ 8 ≤ (32 : Int) ∧ s24 = subS ⟨some t6_2, 32, 32⟩ 1 (0 : Int).toNat (8 : Int).toNat 32 ∧ (∃ l27 : List Value, SlcAt h22 s24 l27 ∧ App 5 1 1 [.int .u8 0] h22 s21 s24.len l27 (fun s25 h26 => ∃ s28 : Slc, (0 : Int) ≤ (IntKind.i64.wrap (t8_2 * 104)) ∧ ((IntKind.i64.wrap (t8_2 * 104)) : Int) ≤ (if (IntKind.i64.wrap ((IntKind.i64.wrap (t8_2 * 104)) + 104)) < (t0_2.len : Int) then (IntKind.i64.wrap ((IntKind.i64.wrap (t8_2 * 104)) + 104)) else (t0_2.len : Int)) ∧ ((if (IntKind.i64.wrap ((IntKind.i64.wrap (t8_2 * 104)) + 104)) < (t0_2.len : Int) then (IntKind.i64.wrap ((IntKind.i64.wrap (t8_2 * 104)) + 104)) else (t0_2.len : Int)) : Int) ≤ (t0_2.cap : Int) ∧ (t0_2.cap : Int) ≤ (t0_2.cap : Int) ∧ s28 = subS t0_2 1 (IntKind.i64.wrap (t8_2 * 104)).toNat (if (IntKind.i64.wrap ((IntKind.i64.wrap (t8_2 * 104)) + 104)) < (t0_2.len : Int) then (IntKind.i64.wrap ((IntKind.i64.wrap (t8_2 * 104)) + 104)) else (t0_2.len : Int)).toNat (t0_2.cap : Int).toNat ∧ (∃ l31 : List Value, SlcAt h26 s28 l31 ∧ App 5 1 1 [.int .u8 0] h26 s25 s28.len l31 (fun s29 h30 => ref10_Lay_l3 t0_2 t1_2 t5_2 t6_2 t7_2 t8_2 s29 k nx2 h30)))))) h17)) h12)) h8) h_2) else (k t7_2 h_2)
def ref10_Lay_l2 (t0_2 : Slc) (t1_2 : Int) (t5_2 : Int) (t6_2 : Addr) (i7 : Slc) (i8 : Int) (k : (Slc) → Heap → Prop) (h : Heap) : Prop :=
  ∃ (I : (Slc × Int) → Heap → Prop) (μ : (Slc × Int) → Heap → Nat), I (i7, i8) h ∧ ∀ (t7_2 : Slc) (t8_2 : Int) (h : Heap), I (t7_2, t8_2) h → ref10_Lay_l2b t0_2 t1_2 t5_2 t6_2 t7_2 t8_2 k (fun s h' => I s h' ∧ μ s h' < μ (t7_2, t8_2) h) h
def ref10_Lay_j1 (t0_1 : Slc) (t1_1 : Int) (t5_1 : Int) (k : (Slc) → Heap → Prop) (h_1 : Heap) : Prop :=
  ref02_Sum t0_1 (fun (r2 : List Int) h3 => ∃ (b4 : Nat) (h5 : Heap), b4 = h3.size ∧ h5 = h3.push (.cells (arr 32 .u8 ([] : List Int)).toArray 63) ∧ (∃ h6 : Heap, WrsAt h5 (⟨b4, 0, none⟩ : Addr) 32 ∧ h6 = setsH h5 (⟨b4, 0, none⟩ : Addr) 0 (arr 32 .u8 r2) ∧ (ref10_Lay_l2 t0_1 t1_1 t5_1 (⟨b4, 0, none⟩ : Addr) (⟨none, 0, 0⟩ : Slc) 0 k h6))) h_1
def ref10_Lay (p0 : Slc) (p1 : Int) (k : (Slc) → Heap → Prop) (h : Heap) : Prop :=
  ∃ x1 : Int, x1 = (IntKind.i64.wrap (Int.tdiv (IntKind.i64.wrap ((p0.len : Int) + 103)) 104)) ∧ (if (x1 == 0) then (ref10_Lay_j1 p0 p1 1 k h) else (ref10_Lay_j1 p0 p1 x1 k h))

/-- quaestor quaestorlaw10.SlotWipes -/
def law10_SlotWipes_j3 (t5_3 : Option Addr) (t11_3 : Slc) (t12_3 : Slc) (t14_3 : Int) (t13_3 : Int) (k : (Bool) → Heap → Prop) (nx1 : (Int) → Heap → Prop) (nx2 : (Int × Int) → Heap → Prop) (h_3 : Heap) : Prop :=
  ∃ x22 : Int, x22 = (IntKind.i64.wrap (t14_3 + 1)) ∧ (nx2 (t13_3, x22) h_3)
def law10_SlotWipes_g8 (t5_8 : Option Addr) (t11_8 : Slc) (t12_8 : Slc) (t13_8 : Int) (t14_8 : Int) (t15_8 : Bool) (t17_8 : Int) (t117_8 : Bool) (k : (Bool) → Heap → Prop) (nx1 : (Int) → Heap → Prop) (nx2 : (Int × Int) → Heap → Prop) (nx4 : (Bool × Bool × Int) → Heap → Prop) (h_8 : Heap) : Prop :=
  ∃ x25 : Int, x25 = (IntKind.i64.wrap (t17_8 + 1)) ∧ (nx4 (t15_8, t117_8, x25) h_8)
def law10_SlotWipes_g7 (t5_7 : Option Addr) (t11_7 : Slc) (t12_7 : Slc) (t13_7 : Int) (t14_7 : Int) (t16_7 : Bool) (t17_7 : Int) (t18_7 : Slc) (t21_7 : Slc) (t111_7 : Bool) (k : (Bool) → Heap → Prop) (nx1 : (Int) → Heap → Prop) (nx2 : (Int × Int) → Heap → Prop) (nx4 : (Bool × Bool × Int) → Heap → Prop) (h_7 : Heap) : Prop :=
  if t16_7 then (ref01_Same t18_7 t21_7 (fun (r26 : Bool) h27 => law10_SlotWipes_g8 t5_7 t11_7 t12_7 t13_7 t14_7 t111_7 t17_7 r26 k nx1 nx2 nx4 h27) h_7) else (law10_SlotWipes_g8 t5_7 t11_7 t12_7 t13_7 t14_7 t111_7 t17_7 false k nx1 nx2 nx4 h_7)
def law10_SlotWipes_j6 (t5_6 : Option Addr) (t11_6 : Slc) (t12_6 : Slc) (t13_6 : Int) (t14_6 : Int) (t15_6 : Bool) (t16_6 : Bool) (t17_6 : Int) (t18_6 : Slc) (t20_6 : Slc) (t21_6 : Slc) (k : (Bool) → Heap → Prop) (nx1 : (Int) → Heap → Prop) (nx2 : (Int × Int) → Heap → Prop) (nx4 : (Bool × Bool × Int) → Heap → Prop) (h_6 : Heap) : Prop :=
  if t15_6 then (ref01_Same t18_6 t20_6 (fun (r28 : Bool) h29 => law10_SlotWipes_g7 t5_6 t11_6 t12_6 t13_6 t14_6 t16_6 t17_6 t18_6 t21_6 r28 k nx1 nx2 nx4 h29) h_6) else (law10_SlotWipes_g7 t5_6 t11_6 t12_6 t13_6 t14_6 t16_6 t17_6 t18_6 t21_6 false k nx1 nx2 nx4 h_6)
def law10_SlotWipes_j5 (t5_5 : Option Addr) (t11_5 : Slc) (t12_5 : Slc) (t13_5 : Int) (t14_5 : Int) (t15_5 : Bool) (t16_5 : Bool) (t17_5 : Int) (t18_5 : Slc) (t20_5 : Slc) (t21_5 : Slc) (k : (Bool) → Heap → Prop) (nx1 : (Int) → Heap → Prop) (nx2 : (Int × Int) → Heap → Prop) (nx4 : (Bool × Bool × Int) → Heap → Prop) (h_5 : Heap) : Prop :=
  if (decide (t17_5 < (t11_5.len : Int))) then (∃ a30 : Addr, t11_5.a = some a30 ∧ (0 : Int) ≤ t17_5 ∧ t17_5 < (t11_5.len : Int) ∧ (∃ v31 : Slc, cellH h_5 (a30.add (t17_5.toNat * 1)) = some (Slc.v v31) ∧ (∃ a32 : Addr, t12_5.a = some a32 ∧ (0 : Int) ≤ t17_5 ∧ t17_5 < (t12_5.len : Int) ∧ (∃ v33 : Slc, cellH h_5 (a32.add (t17_5.toNat * 1)) = some (Slc.v v33) ∧ (law10_SlotWipes_j6 t5_5 t11_5 t12_5 t13_5 t14_5 t15_5 t16_5 t17_5 t18_5 v31 v33 k nx1 nx2 nx4 h_5))))) else (law10_SlotWipes_j6 t5_5 t11_5 t12_5 t13_5 t14_5 t15_5 t16_5 t17_5 t18_5 t20_5 t21_5 k nx1 nx2 nx4 h_5)
def law10_SlotWipes_l4b (t5_4 : Option Addr) (t11_4 : Slc) (t12_4 : Slc) (t13_4 : Int) (t14_4 : Int) (t15_4 : Bool) (t16_4 : Bool) (t17_4 : Int) (k : (Bool) → Heap → Prop) (nx1 : (Int) → Heap → Prop) (nx2 : (Int × Int) → Heap → Prop) (nx4 : (Bool × Bool × Int) → Heap → Prop) (h_4 : Heap) : Prop :=
  if (decide (t17_4 < 6)) then (disk_Disk_Read t5_4 (IntKind.i64.wrap ((IntKind.i64.wrap (6 * t14_4)) + t17_4)) (fun (r23 : Slc × Int) h24 => (∃ (b34 : Nat) (h35 : Heap), (0 : Int) ≤ 128 ∧ (128 : Int) ≤ 128 ∧ (128 : Int) * 1 ≤ 281474976710656 ∧ (128 : Int) ≤ 9223372036854775807 ∧ b34 = h24.size ∧ h35 = h24.push (.cells (zrow [.int .u8 0] (128 : Int).toNat).toArray 5) ∧ (∃ (b36 : Nat) (h37 : Heap), (0 : Int) ≤ 128 ∧ (128 : Int) ≤ 128 ∧ (128 : Int) * 1 ≤ 281474976710656 ∧ (128 : Int) ≤ 9223372036854775807 ∧ b36 = h35.size ∧ h37 = h35.push (.cells (zrow [.int .u8 0] (128 : Int).toNat).toArray 5) ∧ (law10_SlotWipes_j5 t5_4 t11_4 t12_4 t13_4 t14_4 t15_4 t16_4 t17_4 r23.1 (⟨some ⟨b34, 0, none⟩, (128 : Int).toNat, (128 : Int).toNat⟩ : Slc) (⟨some ⟨b36, 0, none⟩, (128 : Int).toNat, (128 : Int).toNat⟩ : Slc) k nx1 nx2 nx4 h37))) ∧ (∃ (b38 : Nat) (h39 : Heap), (0 : Int) ≤ 128 ∧ (128 : Int) ≤ 128 ∧ (128 : Int) * 1 ≤ 281474976710656 ∧ (128 : Int) ≤ 9223372036854775807 ∧ b38 = h24.size ∧ h39 = h24.push (.cells (zrow [.int .u8 0] (128 : Int).toNat).toArray 5) ∧ (∃ (b40 : Nat) (h41 : Heap), (0 : Int) ≤ 128 ∧ (128 : Int) ≤ 128 ∧ (128 : Int) * 1 ≤ 281474976710656 ∧ (128 : Int) ≤ 9223372036854775807 ∧ b40 = h39.size ∧ h41 = h39.push (.cells (zrow [.int .u8 0] (128 : Int).toNat).toArray 5) ∧ (law10_SlotWipes_j5 t5_4 t11_4 t12_4 t13_4 t14_4 t15_4 t16_4 t17_4 r23.1 (⟨some ⟨b40, 0, none⟩, (128 : Int).toNat, (128 : Int).toNat⟩ : Slc) (⟨some ⟨b38, 0, none⟩, (128 : Int).toNat, (128 : Int).toNat⟩ : Slc) k nx1 nx2 nx4 h41)))) h_4) else (if (t15_4 || t16_4) then (∃ x42 : Int, x42 = (IntKind.i64.wrap (t13_4 + 1)) ∧ (law10_SlotWipes_j3 t5_4 t11_4 t12_4 t14_4 x42 k nx1 nx2 h_4)) else (law10_SlotWipes_j3 t5_4 t11_4 t12_4 t14_4 t13_4 k nx1 nx2 h_4))
def law10_SlotWipes_l4 (t5_4 : Option Addr) (t11_4 : Slc) (t12_4 : Slc) (t13_4 : Int) (t14_4 : Int) (i15 : Bool) (i16 : Bool) (i17 : Int) (k : (Bool) → Heap → Prop) (nx1 : (Int) → Heap → Prop) (nx2 : (Int × Int) → Heap → Prop) (h : Heap) : Prop :=
  ∃ (I : (Bool × Bool × Int) → Heap → Prop) (μ : (Bool × Bool × Int) → Heap → Nat), I (i15, i16, i17) h ∧ ∀ (t15_4 : Bool) (t16_4 : Bool) (t17_4 : Int) (h : Heap), I (t15_4, t16_4, t17_4) h → law10_SlotWipes_l4b t5_4 t11_4 t12_4 t13_4 t14_4 t15_4 t16_4 t17_4 k nx1 nx2 (fun s h' => I s h' ∧ μ s h' < μ (t15_4, t16_4, t17_4) h) h
def law10_SlotWipes_g9 (t128_9 : Bool) (k : (Bool) → Heap → Prop) (nx1 : (Int) → Heap → Prop) (nx2 : (Int × Int) → Heap → Prop) (h_9 : Heap) : Prop :=
  k t128_9 h_9
def law10_SlotWipes_l2b (t5_2 : Option Addr) (t11_2 : Slc) (t12_2 : Slc) (t13_2 : Int) (t14_2 : Int) (k : (Bool) → Heap → Prop) (nx1 : (Int) → Heap → Prop) (nx2 : (Int × Int) → Heap → Prop) (h_2 : Heap) : Prop :=
  if (decide (t14_2 < 2)) then (law10_SlotWipes_l4 t5_2 t11_2 t12_2 t13_2 t14_2 true true 0 k nx1 nx2 h_2) else (if (t13_2 == 2) then (law10_awake  (fun (r43 : Bool) h44 => law10_SlotWipes_g9 r43 k nx1 nx2 h44) h_2) else (law10_SlotWipes_g9 false k nx1 nx2 h_2))
def law10_SlotWipes_l2 (t5_2 : Option Addr) (t11_2 : Slc) (t12_2 : Slc) (i13 : Int) (i14 : Int) (k : (Bool) → Heap → Prop) (nx1 : (Int) → Heap → Prop) (h : Heap) : Prop :=
  ∃ (I : (Int × Int) → Heap → Prop) (μ : (Int × Int) → Heap → Nat), I (i13, i14) h ∧ ∀ (t13_2 : Int) (t14_2 : Int) (h : Heap), I (t13_2, t14_2) h → law10_SlotWipes_l2b t5_2 t11_2 t12_2 t13_2 t14_2 k nx1 (fun s h' => I s h' ∧ μ s h' < μ (t13_2, t14_2) h) h
def law10_SlotWipes_l1b (t0_1 : Slc) (t1_1 : Slc) (t5_1 : Option Addr) (t6_1 : Option Addr) (t8_1 : Int) (k : (Bool) → Heap → Prop) (nx1 : (Int) → Heap → Prop) (h_1 : Heap) : Prop :=
  if (decide (t8_1 < (t0_1.len : Int))) then (∃ a7 : Addr, t0_1.a = some a7 ∧ (0 : Int) ≤ t8_1 ∧ t8_1 < (t0_1.len : Int) ∧ (∃ v8 : Slc, cellH h_1 (a7.add (t8_1.toNat * 1)) = some (Slc.v v8) ∧ (if (decide ((v8.len : Int) > 600)) then (law10_awake  (fun (r9 : Bool) h10 => k r9 h10) h_1) else (∃ a11 : Addr, t0_1.a = some a11 ∧ (0 : Int) ≤ t8_1 ∧ t8_1 < (t0_1.len : Int) ∧ (∃ v12 : Slc, cellH h_1 (a11.add (t8_1.toNat * 1)) = some (Slc.v v12) ∧ (slot_Pair_Save t6_1 v12 (fun (r13 : Int × Int) h14 => ∃ x15 : Int, x15 = (IntKind.i64.wrap (t8_1 + 1)) ∧ (nx1 x15 h14)) h_1)))))) else (slot_Pair_Wipe t6_1 t1_1 (fun (r16 : Int × Int) h17 => if ((r16.2 != 0) || (decide (r16.1 < 2))) then (k false h17) else (ref10_Lay t1_1 r16.1 (fun (r18 : Slc) h19 => ref10_Lay t1_1 (IntKind.u64.wrap (r16.1 - 1)) (fun (r20 : Slc) h21 => law10_SlotWipes_l2 t5_1 r18 r20 0 0 k nx1 h21) h19) h17)) h_1)
def law10_SlotWipes_l1 (t0_1 : Slc) (t1_1 : Slc) (t5_1 : Option Addr) (t6_1 : Option Addr) (i8 : Int) (k : (Bool) → Heap → Prop) (h : Heap) : Prop :=
  ∃ (I : Int → Heap → Prop) (μ : Int → Heap → Nat), I i8 h ∧ ∀ (t8_1 : Int) (h : Heap), I t8_1 h → law10_SlotWipes_l1b t0_1 t1_1 t5_1 t6_1 t8_1 k (fun s h' => I s h' ∧ μ s h' < μ t8_1 h) h
def law10_SlotWipes (p0 : Slc) (p1 : Slc) (k : (Bool) → Heap → Prop) (h : Heap) : Prop :=
  if ((decide ((p0.len : Int) > 8)) || (decide ((p1.len : Int) > 600))) then (law10_awake  (fun (r1 : Bool) h2 => k r1 h2) h) else (disk_New  (fun (r3 : Option Addr) h4 => slot_Open r3 0 6 (fun (r5 : Option Addr × Int) h6 => law10_SlotWipes_l1 p0 p1 r3 r5.1 0 k h6) h4) h)

theorem ref01_Form_ok : CallOk Go.Proofs.Tryd.prog 25 := ⟨_, Go.Proofs.Tryd.func25, by kernel_rfl, by kernel_rfl⟩
theorem ref01_Form_ref (p0 : Int) (p1 : Int) (k : (Slc) → Heap → Prop) (h : Heap) (H : ref01_Form p0 p1 k h) : CallsH Go.Proofs.Tryd.prog 25 #[.int .u64 p0, .int .i64 p1] h (fun v h' => ∃ r : Slc, v = Slc.v r ∧ k r h') := by
  refine f_enter (N := 21) Go.Proofs.Tryd.func25 rfl rfl rfl (fun w0 => ?_)
  unfold ref01_Form at H
  refine c_weak [(0, .int .u64 p0), (1, .int .i64 p1)] ⟨rfl, rfl, trivial⟩ ?_
  refine c_seq ?_
  refine c_region ?_
  refine w_p tok rfl rfl rfl ?_
  refine w_end ?_
  refine x_seq ?_
  refine c_seq ?_
  refine c_region ?_
  refine w_p tok rfl rfl rfl ?_
  refine w_end ?_
  refine x_seq ?_
  refine c_seq ?_
  refine c_seq ?_
  refine c_region ?_
  refine w_p tok rfl rfl rfl ?_
  refine w_end ?_
  refine x_seq ?_
  refine c_block ?_
  obtain ⟨I1, μ1, H0, HI⟩ := H
  refine c_loop (σ := Int × Slc × Int) (fun (s : Int × Slc × Int) => [(0, .int .u64 s.1), (5, Slc.v s.2.1), (6, .int .i64 s.2.2), (1, .int .i64 p1)]) I1 μ1 (p0, (⟨none, 0, 0⟩ : Slc), 0) H0 ⟨rfl, rfl, rfl, rfl, trivial⟩ ?_
  rintro ⟨t0_1, t5_1, t6_1⟩ h_1 H
  replace H := HI t0_1 t5_1 t6_1 h_1 H
  unfold ref01_Form_l1b at H
  refine c_weak [(0, .int .u64 t0_1), (5, Slc.v t5_1), (6, .int .i64 t6_1), (1, .int .i64 p1)] ⟨rfl, rfl, rfl, rfl, trivial⟩ ?_
  refine c_seq ?_
  refine c_seq ?_
  refine c_region ?_
  refine w_p tok rfl rfl rfl ?_
  refine w_p tok rfl rfl rfl ?_
  refine w_p tok rfl rfl rfl ?_
  refine w_end ?_
  refine x_seq ?_
  refine c_if H rfl (fun H => ?_) (fun H => ?_)
  ·
    refine c_skip ?_
    refine x_seq ?_
    refine c_seq ?_
    refine c_block ?_
    refine c_seq ?_
    refine c_region ?_
    refine w_p tok rfl rfl rfl ?_
    refine w_p tok rfl rfl rfl ?_
    refine w_p tok rfl rfl rfl ?_
    refine w_p tok rfl rfl rfl ?_
    obtain ⟨b1, h2, eb1, eh2, H⟩ := H
    refine w_h (h_bs tok rfl rfl rfl rfl rfl rfl rfl eb1 eh2) rfl rfl ?_
    refine w_a (a_app (s := t5_1) (r := (⟨some ⟨b1, 0, none⟩, 1, 1⟩ : Slc)) tok rfl rfl rfl rfl rfl (slcAt_push eb1 eh2) H) rfl rfl ?_
    rintro _ h4 ⟨s3, rfl, H⟩
    refine w_p tok rfl rfl rfl ?_
    refine w_end ?_
    refine x_seq ?_
    refine c_weak [(0, .int .u64 t0_1), (5, Slc.v s3), (6, .int .i64 t6_1), (1, .int .i64 p1)] ⟨rfl, rfl, rfl, rfl, trivial⟩ ?_
    refine c_region ?_
    refine w_p tok rfl rfl rfl ?_
    refine w_p tok rfl rfl rfl ?_
    obtain ⟨x5, ex5, H⟩ := H
    refine w_pe tok rfl (congrArg (fun z => (.int .u64 z : Value)) ex5) rfl rfl ?_
    refine w_end ?_
    refine x_blk ?_
    refine x_seq ?_
    refine c_region ?_
    refine w_p tok rfl rfl rfl ?_
    refine w_p tok rfl rfl rfl ?_
    obtain ⟨x6, ex6, H⟩ := H
    refine w_pe tok rfl (congrArg (fun z => (.int .i64 z : Value)) ex6) rfl rfl ?_
    refine w_end ?_
    exact x_join (x5, s3, x6) H ⟨rfl, rfl, rfl, rfl, trivial⟩
  ·
    refine c_exit ?_
    refine x_te ?_
    refine x_te ?_
    refine x_bh ?_
    refine x_seq ?_
    refine c_seq ?_
    refine c_region ?_
    refine w_p tok rfl rfl rfl ?_
    refine w_p tok rfl rfl rfl ?_
    refine w_end ?_
    refine x_seq ?_
    refine c_weak [(4, Slc.v t5_1)] ⟨rfl, trivial⟩ ?_
    refine c_ret ?_
    exact x_ret _ rfl _ rfl ⟨t5_1, rfl, H⟩

theorem ref02_high_ok : CallOk Go.Proofs.Tryd.prog 41 := ⟨_, Go.Proofs.Tryd.func41, by kernel_rfl, by kernel_rfl⟩
theorem ref02_high_ref (p0 : Int) (p1 : Int) (k : (Slc) → Heap → Prop) (h : Heap) (H : ref02_high p0 p1 k h) : CallsH Go.Proofs.Tryd.prog 41 #[.int .u64 p0, .int .i64 p1] h (fun v h' => ∃ r : Slc, v = Slc.v r ∧ k r h') := by
  refine f_enter (N := 24) Go.Proofs.Tryd.func41 rfl rfl rfl (fun w0 => ?_)
  unfold ref02_high at H
  refine c_weak [(0, .int .u64 p0), (1, .int .i64 p1)] ⟨rfl, rfl, trivial⟩ ?_
  refine c_seq ?_
  refine c_region ?_
  refine w_p tok rfl rfl rfl ?_
  refine w_end ?_
  refine x_seq ?_
  refine c_seq ?_
  refine c_region ?_
  refine w_p tok rfl rfl rfl ?_
  obtain ⟨b1, h2, ph2, qh2, rh2, th2, eb1, eh2, H⟩ := H
  refine w_h (h_mk tok rfl rfl rfl rfl rfl rfl ph2 qh2 rh2 th2 eb1 eh2) rfl rfl ?_
  refine w_p tok rfl rfl rfl ?_
  refine w_end ?_
  refine x_seq ?_
  refine c_seq ?_
  refine c_seq ?_
  refine c_region ?_
  refine w_p tok rfl rfl rfl ?_
  refine w_p tok rfl rfl rfl ?_
  obtain ⟨x3, ex3, H⟩ := H
  refine w_pe tok rfl (congrArg (fun z => (.int .i64 z : Value)) ex3) rfl rfl ?_
  refine w_end ?_
  refine x_seq ?_
  refine c_block ?_
  obtain ⟨I1, μ1, H0, HI⟩ := H
  refine c_loop (σ := Int × Int) (fun (s : Int × Int) => [(0, .int .u64 s.1), (6, .int .i64 s.2), (5, Slc.v (⟨some ⟨b1, 0, none⟩, p1.toNat, p1.toNat⟩ : Slc))]) I1 μ1 (p0, x3) H0 ⟨rfl, rfl, rfl, trivial⟩ ?_
  rintro ⟨t0_1, t6_1⟩ h_1 H
  replace H := HI t0_1 t6_1 h_1 H
  unfold ref02_high_l1b at H
  refine c_weak [(0, .int .u64 t0_1), (6, .int .i64 t6_1), (5, Slc.v (⟨some ⟨b1, 0, none⟩, p1.toNat, p1.toNat⟩ : Slc))] ⟨rfl, rfl, rfl, trivial⟩ ?_
  refine c_seq ?_
  refine c_seq ?_
  refine c_region ?_
  refine w_p tok rfl rfl rfl ?_
  refine w_p tok rfl rfl rfl ?_
  refine w_end ?_
  refine x_seq ?_
  refine c_if H rfl (fun H => ?_) (fun H => ?_)
  ·
    refine c_skip ?_
    refine x_seq ?_
    refine c_seq ?_
    refine c_block ?_
    refine c_seq ?_
    refine c_region ?_
    refine w_p tok rfl rfl rfl ?_
    refine w_p tok rfl rfl rfl ?_
    refine w_p tok rfl rfl rfl ?_
    refine w_p tok rfl rfl rfl ?_
    refine w_p tok rfl rfl rfl ?_
    obtain ⟨a4, ha4, la4, ua4, H⟩ := H
    refine w_y (y_ixa' tok rfl rfl ha4 rfl rfl rfl la4 ua4) rfl rfl ?_
    obtain ⟨h5, wh5, eh5, H⟩ := H
    refine w_h (h_st tok rfl rfl rfl rfl rfl rfl wh5 eh5) rfl rfl ?_
    refine w_end ?_
    refine x_seq ?_
    refine c_weak [(0, .int .u64 t0_1), (6, .int .i64 t6_1), (5, Slc.v (⟨some ⟨b1, 0, none⟩, p1.toNat, p1.toNat⟩ : Slc))] ⟨rfl, rfl, rfl, trivial⟩ ?_
    refine c_region ?_
    refine w_p tok rfl rfl rfl ?_
    refine w_p tok rfl rfl rfl ?_
    obtain ⟨x6, ex6, H⟩ := H
    refine w_pe tok rfl (congrArg (fun z => (.int .u64 z : Value)) ex6) rfl rfl ?_
    refine w_end ?_
    refine x_blk ?_
    refine x_seq ?_
    refine c_region ?_
    refine w_p tok rfl rfl rfl ?_
    refine w_p tok rfl rfl rfl ?_
    obtain ⟨x7, ex7, H⟩ := H
    refine w_pe tok rfl (congrArg (fun z => (.int .i64 z : Value)) ex7) rfl rfl ?_
    refine w_end ?_
    exact x_join (x6, x7) H ⟨rfl, rfl, rfl, trivial⟩
  ·
    refine c_exit ?_
    refine x_te ?_
    refine x_te ?_
    refine x_bh ?_
    refine x_seq ?_
    refine c_seq ?_
    refine c_region ?_
    refine w_p tok rfl rfl rfl ?_
    refine w_p tok rfl rfl rfl ?_
    refine w_end ?_
    refine x_seq ?_
    refine c_ret ?_
    exact x_ret _ rfl _ rfl ⟨(⟨some ⟨b1, 0, none⟩, p1.toNat, p1.toNat⟩ : Slc), rfl, H⟩

theorem ref02_constants_ok : CallOk Go.Proofs.Tryd.prog 42 := ⟨_, Go.Proofs.Tryd.func42, by kernel_rfl, by kernel_rfl⟩
theorem ref02_constants_ref (k : (Slc) → Heap → Prop) (h : Heap) (H : ref02_constants k h) : CallsH Go.Proofs.Tryd.prog 42 #[] h (fun v h' => ∃ r : Slc, v = Slc.v r ∧ k r h') := by
  refine f_enter (N := 2) Go.Proofs.Tryd.func42 rfl rfl rfl (fun w0 => ?_)
  unfold ref02_constants at H
  refine c_seq ?_
  refine c_region ?_
  refine w_p tok rfl rfl rfl ?_
  refine w_end ?_
  refine x_seq ?_
  refine c_seq ?_
  refine c_region ?_
  obtain ⟨b1, h2, eb1, eh2, H⟩ := H
  refine w_h (h_bs tok rfl rfl rfl rfl rfl rfl rfl eb1 eh2) rfl rfl ?_
  refine w_p tok rfl rfl rfl ?_
  refine w_end ?_
  refine x_seq ?_
  refine c_ret ?_
  exact x_ret _ rfl _ rfl ⟨(⟨some ⟨b1, 0, none⟩, 64, 64⟩ : Slc), rfl, H⟩

theorem ref02_number_ok : CallOk Go.Proofs.Tryd.prog 43 := ⟨_, Go.Proofs.Tryd.func43, by kernel_rfl, by kernel_rfl⟩
theorem ref02_number_ref (p0 : Slc) (k : (Int) → Heap → Prop) (h : Heap) (H : ref02_number p0 k h) : CallsH Go.Proofs.Tryd.prog 43 #[Slc.v p0] h (fun v h' => ∃ r : Int, v = .int .u64 r ∧ k r h') := by
  refine f_enter (N := 20) Go.Proofs.Tryd.func43 rfl rfl rfl (fun w0 => ?_)
  unfold ref02_number at H
  refine c_weak [(0, Slc.v p0)] ⟨rfl, trivial⟩ ?_
  refine c_seq ?_
  refine c_region ?_
  refine w_p tok rfl rfl rfl ?_
  refine w_end ?_
  refine x_seq ?_
  refine c_seq ?_
  refine c_region ?_
  refine w_p tok rfl rfl rfl ?_
  refine w_end ?_
  refine x_seq ?_
  refine c_seq ?_
  refine c_seq ?_
  refine c_region ?_
  refine w_p tok rfl rfl rfl ?_
  refine w_end ?_
  refine x_seq ?_
  refine c_block ?_
  obtain ⟨I1, μ1, H0, HI⟩ := H
  refine c_loop (σ := Int × Int) (fun (s : Int × Int) => [(3, .int .u64 s.1), (4, .int .i64 s.2), (0, Slc.v p0)]) I1 μ1 (0, 0) H0 ⟨rfl, rfl, rfl, trivial⟩ ?_
  rintro ⟨t3_1, t4_1⟩ h_1 H
  replace H := HI t3_1 t4_1 h_1 H
  unfold ref02_number_l1b at H
  refine c_weak [(3, .int .u64 t3_1), (4, .int .i64 t4_1), (0, Slc.v p0)] ⟨rfl, rfl, rfl, trivial⟩ ?_
  refine c_seq ?_
  refine c_seq ?_
  refine c_region ?_
  refine w_p tok rfl rfl rfl ?_
  refine w_p tok rfl rfl rfl ?_
  refine w_p tok rfl rfl rfl ?_
  refine w_p tok rfl rfl rfl ?_
  refine w_end ?_
  refine x_seq ?_
  refine c_if H rfl (fun H => ?_) (fun H => ?_)
  ·
    refine c_skip ?_
    refine x_seq ?_
    refine c_seq ?_
    refine c_block ?_
    refine c_region ?_
    refine w_p tok rfl rfl rfl ?_
    refine w_p tok rfl rfl rfl ?_
    refine w_p tok rfl rfl rfl ?_
    refine w_p tok rfl rfl rfl ?_
    obtain ⟨a1, ha1, la1, ua1, H⟩ := H
    refine w_y (y_ixa' tok rfl rfl ha1 rfl rfl rfl la1 ua1) rfl rfl ?_
    obtain ⟨v2, hv2, H⟩ := H
    refine w_y (y_ld tok rfl rfl rfl rfl hv2) rfl rfl ?_
    refine w_p tok rfl rfl rfl ?_
    refine w_p tok rfl rfl rfl ?_
    obtain ⟨x3, ex3, H⟩ := H
    refine w_pe tok rfl (congrArg (fun z => (.int .u64 z : Value)) ex3) rfl rfl ?_
    refine w_end ?_
    refine x_blk ?_
    refine x_seq ?_
    refine c_weak [(3, .int .u64 x3), (4, .int .i64 t4_1), (0, Slc.v p0)] ⟨rfl, rfl, rfl, trivial⟩ ?_
    refine c_region ?_
    refine w_p tok rfl rfl rfl ?_
    refine w_p tok rfl rfl rfl ?_
    obtain ⟨x4, ex4, H⟩ := H
    refine w_pe tok rfl (congrArg (fun z => (.int .i64 z : Value)) ex4) rfl rfl ?_
    refine w_end ?_
    exact x_join (x3, x4) H ⟨rfl, rfl, rfl, trivial⟩
  ·
    refine c_exit ?_
    refine x_te ?_
    refine x_te ?_
    refine x_bh ?_
    refine x_seq ?_
    refine c_seq ?_
    refine c_region ?_
    refine w_p tok rfl rfl rfl ?_
    refine w_p tok rfl rfl rfl ?_
    refine w_end ?_
    refine x_seq ?_
    refine c_weak [(2, .int .u64 t3_1)] ⟨rfl, trivial⟩ ?_
    refine c_ret ?_
    exact x_ret _ rfl _ rfl ⟨t3_1, rfl, H⟩

theorem ref02_turn_ok : CallOk Go.Proofs.Tryd.prog 44 := ⟨_, Go.Proofs.Tryd.func44, by kernel_rfl, by kernel_rfl⟩
theorem ref02_turn_ref (p0 : Int) (p1 : Int) (k : (Int) → Heap → Prop) (h : Heap) (H : ref02_turn p0 p1 k h) : CallsH Go.Proofs.Tryd.prog 44 #[.int .u32 p0, .int .i64 p1] h (fun v h' => ∃ r : Int, v = .int .u32 r ∧ k r h') := by
  refine f_enter (N := 20) Go.Proofs.Tryd.func44 rfl rfl rfl (fun w0 => ?_)
  unfold ref02_turn at H
  refine c_weak [(0, .int .u32 p0), (1, .int .i64 p1)] ⟨rfl, rfl, trivial⟩ ?_
  refine c_seq ?_
  refine c_region ?_
  refine w_p tok rfl rfl rfl ?_
  refine w_end ?_
  refine x_seq ?_
  refine c_seq ?_
  refine c_seq ?_
  refine c_region ?_
  refine w_p tok rfl rfl rfl ?_
  refine w_end ?_
  refine x_seq ?_
  refine c_block ?_
  obtain ⟨I1, μ1, H0, HI⟩ := H
  refine c_loop (σ := Int × Int) (fun (s : Int × Int) => [(0, .int .u32 s.1), (5, .int .i64 s.2), (1, .int .i64 p1)]) I1 μ1 (p0, 0) H0 ⟨rfl, rfl, rfl, trivial⟩ ?_
  rintro ⟨t0_1, t5_1⟩ h_1 H
  replace H := HI t0_1 t5_1 h_1 H
  unfold ref02_turn_l1b at H
  refine c_weak [(0, .int .u32 t0_1), (5, .int .i64 t5_1), (1, .int .i64 p1)] ⟨rfl, rfl, rfl, trivial⟩ ?_
  refine c_seq ?_
  refine c_seq ?_
  refine c_region ?_
  refine w_p tok rfl rfl rfl ?_
  refine w_p tok rfl rfl rfl ?_
  refine w_p tok rfl rfl rfl ?_
  refine w_end ?_
  refine x_seq ?_
  refine c_if H rfl (fun H => ?_) (fun H => ?_)
  ·
    refine c_skip ?_
    refine x_seq ?_
    refine c_seq ?_
    refine c_block ?_
    refine c_seq ?_
    refine c_region ?_
    refine w_p tok rfl rfl rfl ?_
    refine w_p tok rfl rfl rfl ?_
    obtain ⟨x1, ex1, H⟩ := H
    refine w_pe tok rfl (congrArg (fun z => (.int .u32 z : Value)) ex1) rfl rfl ?_
    refine w_end ?_
    refine x_seq ?_
    refine c_region ?_
    refine w_p tok rfl rfl rfl ?_
    refine w_p tok rfl rfl rfl ?_
    refine w_p tok rfl rfl rfl ?_
    refine w_p tok rfl rfl rfl ?_
    refine w_p tok rfl rfl rfl ?_
    obtain ⟨x2, ex2, H⟩ := H
    refine w_pe tok rfl (congrArg (fun z => (.int .u32 z : Value)) ex2) rfl rfl ?_
    refine w_end ?_
    refine x_blk ?_
    refine x_seq ?_
    refine c_weak [(0, .int .u32 x2), (5, .int .i64 t5_1), (1, .int .i64 p1)] ⟨rfl, rfl, rfl, trivial⟩ ?_
    refine c_region ?_
    refine w_p tok rfl rfl rfl ?_
    refine w_p tok rfl rfl rfl ?_
    obtain ⟨x3, ex3, H⟩ := H
    refine w_pe tok rfl (congrArg (fun z => (.int .i64 z : Value)) ex3) rfl rfl ?_
    refine w_end ?_
    exact x_join (x2, x3) H ⟨rfl, rfl, rfl, trivial⟩
  ·
    refine c_exit ?_
    refine x_te ?_
    refine x_te ?_
    refine x_bh ?_
    refine x_seq ?_
    refine c_seq ?_
    refine c_region ?_
    refine w_p tok rfl rfl rfl ?_
    refine w_p tok rfl rfl rfl ?_
    refine w_end ?_
    refine x_seq ?_
    refine c_weak [(4, .int .u32 t0_1)] ⟨rfl, trivial⟩ ?_
    refine c_ret ?_
    exact x_ret _ rfl _ rfl ⟨t0_1, rfl, H⟩

theorem ref02_cut_ok : CallOk Go.Proofs.Tryd.prog 45 := ⟨_, Go.Proofs.Tryd.func45, by kernel_rfl, by kernel_rfl⟩
theorem ref02_cut_ref (p0 : Int) (p1 : Int) (k : (Int) → Heap → Prop) (h : Heap) (H : ref02_cut p0 p1 k h) : CallsH Go.Proofs.Tryd.prog 45 #[.int .u32 p0, .int .i64 p1] h (fun v h' => ∃ r : Int, v = .int .u32 r ∧ k r h') := by
  refine f_enter (N := 14) Go.Proofs.Tryd.func45 rfl rfl rfl (fun w0 => ?_)
  unfold ref02_cut at H
  refine c_weak [(0, .int .u32 p0), (1, .int .i64 p1)] ⟨rfl, rfl, trivial⟩ ?_
  refine c_seq ?_
  refine c_region ?_
  refine w_p tok rfl rfl rfl ?_
  refine w_end ?_
  refine x_seq ?_
  refine c_seq ?_
  refine c_seq ?_
  refine c_region ?_
  refine w_p tok rfl rfl rfl ?_
  refine w_end ?_
  refine x_seq ?_
  refine c_block ?_
  obtain ⟨I1, μ1, H0, HI⟩ := H
  refine c_loop (σ := Int × Int) (fun (s : Int × Int) => [(0, .int .u32 s.1), (5, .int .i64 s.2), (1, .int .i64 p1)]) I1 μ1 (p0, 0) H0 ⟨rfl, rfl, rfl, trivial⟩ ?_
  rintro ⟨t0_1, t5_1⟩ h_1 H
  replace H := HI t0_1 t5_1 h_1 H
  unfold ref02_cut_l1b at H
  refine c_weak [(0, .int .u32 t0_1), (5, .int .i64 t5_1), (1, .int .i64 p1)] ⟨rfl, rfl, rfl, trivial⟩ ?_
  refine c_seq ?_
  refine c_seq ?_
  refine c_region ?_
  refine w_p tok rfl rfl rfl ?_
  refine w_p tok rfl rfl rfl ?_
  refine w_p tok rfl rfl rfl ?_
  refine w_end ?_
  refine x_seq ?_
  refine c_if H rfl (fun H => ?_) (fun H => ?_)
  ·
    refine c_skip ?_
    refine x_seq ?_
    refine c_seq ?_
    refine c_block ?_
    refine c_region ?_
    refine w_p tok rfl rfl rfl ?_
    refine w_p tok rfl rfl rfl ?_
    obtain ⟨x1, ex1, H⟩ := H
    refine w_pe tok rfl (congrArg (fun z => (.int .u32 z : Value)) ex1) rfl rfl ?_
    refine w_end ?_
    refine x_blk ?_
    refine x_seq ?_
    refine c_region ?_
    refine w_p tok rfl rfl rfl ?_
    refine w_p tok rfl rfl rfl ?_
    obtain ⟨x2, ex2, H⟩ := H
    refine w_pe tok rfl (congrArg (fun z => (.int .i64 z : Value)) ex2) rfl rfl ?_
    refine w_end ?_
    exact x_join (x1, x2) H ⟨rfl, rfl, rfl, trivial⟩
  ·
    refine c_exit ?_
    refine x_te ?_
    refine x_te ?_
    refine x_bh ?_
    refine x_seq ?_
    refine c_seq ?_
    refine c_region ?_
    refine w_p tok rfl rfl rfl ?_
    refine w_p tok rfl rfl rfl ?_
    refine w_end ?_
    refine x_seq ?_
    refine c_weak [(4, .int .u32 t0_1)] ⟨rfl, trivial⟩ ?_
    refine c_ret ?_
    exact x_ret _ rfl _ rfl ⟨t0_1, rfl, H⟩

theorem ref02_Sum_ok : CallOk Go.Proofs.Tryd.prog 24 := ⟨_, Go.Proofs.Tryd.func24, by kernel_rfl, by kernel_rfl⟩
theorem ref02_Sum_ref (p0 : Slc) (k : (List Int) → Heap → Prop) (h : Heap) (H : ref02_Sum p0 k h) : CallsH Go.Proofs.Tryd.prog 24 #[Slc.v p0] h (fun v h' => ∃ r : List Int, v = .agg (arr 32 .u8 r).toArray ∧ k r h') := by
  refine f_enter (N := 285) Go.Proofs.Tryd.func24 rfl rfl rfl (fun w0 => ?_)
  unfold ref02_Sum at H
  refine c_weak [(0, Slc.v p0)] ⟨rfl, trivial⟩ ?_
  refine c_seq ?_
  refine c_region ?_
  obtain ⟨b1, h2, eb1, eh2, H⟩ := H
  refine w_h (h_alloc tok rfl rfl eb1 eh2) rfl rfl ?_
  refine w_end ?_
  refine x_seq ?_
  refine c_seq ?_
  refine c_region ?_
  obtain ⟨b3, h4, eb3, eh4, H⟩ := H
  refine w_h (h_bs tok rfl rfl rfl rfl rfl rfl rfl eb3 eh4) rfl rfl ?_
  refine w_p tok rfl rfl rfl ?_
  obtain ⟨l7, hl7, H⟩ := H
  refine w_a (a_app (s := (⟨some ⟨b3, 0, none⟩, 0, 0⟩ : Slc)) (r := p0) tok rfl rfl rfl rfl rfl hl7 H) rfl rfl ?_
  rintro _ h6 ⟨s5, rfl, H⟩
  refine w_p tok rfl rfl rfl ?_
  refine w_end ?_
  refine x_seq ?_
  refine c_seq ?_
  refine c_region ?_
  refine w_p tok rfl rfl rfl ?_
  obtain ⟨b8, h9, eb8, eh9, H⟩ := H
  refine w_h (h_bs tok rfl rfl rfl rfl rfl rfl rfl eb8 eh9) rfl rfl ?_
  refine w_a (a_app (s := s5) (r := (⟨some ⟨b8, 0, none⟩, 1, 1⟩ : Slc)) tok rfl rfl rfl rfl rfl (slcAt_push eb8 eh9) H) rfl rfl ?_
  rintro _ h11 ⟨s10, rfl, H⟩
  refine w_p tok rfl rfl rfl ?_
  refine w_end ?_
  refine x_seq ?_
  refine c_seq ?_
  refine c_block ?_
  obtain ⟨I1, μ1, H0, HI⟩ := H
  refine c_loop (σ := Slc) (fun (s : Slc) => [(3, Slc.v s), (0, Slc.v p0), (2, .pointer (some (⟨b1, 0, none⟩ : Addr)))]) I1 μ1 s10 H0 ⟨rfl, rfl, rfl, trivial⟩ ?_
  rintro t3_1 h_1 H
  replace H := HI t3_1 h_1 H
  unfold ref02_Sum_l1b at H
  refine c_weak [(3, Slc.v t3_1), (0, Slc.v p0), (2, .pointer (some (⟨b1, 0, none⟩ : Addr)))] ⟨rfl, rfl, rfl, trivial⟩ ?_
  refine c_seq ?_
  refine c_seq ?_
  refine c_region ?_
  refine w_p tok rfl rfl rfl ?_
  refine w_p tok rfl rfl rfl ?_
  refine w_p tok rfl rfl rfl ?_
  refine w_p tok rfl rfl rfl ?_
  refine w_end ?_
  refine x_seq ?_
  refine c_if H rfl (fun H => ?_) (fun H => ?_)
  ·
    refine c_skip ?_
    refine x_seq ?_
    refine c_block ?_
    refine c_region ?_
    refine w_p tok rfl rfl rfl ?_
    obtain ⟨b12, h13, eb12, eh13, H⟩ := H
    refine w_h (h_bs tok rfl rfl rfl rfl rfl rfl rfl eb12 eh13) rfl rfl ?_
    refine w_a (a_app (s := t3_1) (r := (⟨some ⟨b12, 0, none⟩, 1, 1⟩ : Slc)) tok rfl rfl rfl rfl rfl (slcAt_push eb12 eh13) H) rfl rfl ?_
    rintro _ h15 ⟨s14, rfl, H⟩
    refine w_p tok rfl rfl rfl ?_
    refine w_end ?_
    refine x_blk ?_
    exact x_join s14 H ⟨rfl, rfl, rfl, trivial⟩
  ·
    refine c_exit ?_
    refine x_te ?_
    refine x_te ?_
    refine x_bh ?_
    refine x_seq ?_
    refine c_seq ?_
    refine c_region ?_
    refine w_p tok rfl rfl rfl ?_
    refine w_p tok rfl rfl rfl ?_
    refine w_p tok rfl rfl rfl ?_
    refine w_p tok rfl rfl rfl ?_
    refine w_p tok rfl rfl rfl ?_
    refine w_call ref02_high_ok (ref02_high_ref _ _ _ _ H) rfl rfl rfl rfl ?_
    rintro _ h17 ⟨r16, rfl, H⟩
    obtain ⟨l20, hl20, H⟩ := H
    refine w_a (a_app (s := t3_1) (r := r16) tok rfl rfl rfl rfl rfl hl20 H) rfl rfl ?_
    rintro _ h19 ⟨s18, rfl, H⟩
    refine w_p tok rfl rfl rfl ?_
    refine w_end ?_
    refine x_seq ?_
    refine c_weak [(3, Slc.v s18), (2, .pointer (some (⟨b1, 0, none⟩ : Addr)))] ⟨rfl, rfl, trivial⟩ ?_
    refine c_seq ?_
    refine c_region ?_
    obtain ⟨b21, h22, eb21, eh22, H⟩ := H
    refine w_h (h_bs tok rfl rfl rfl rfl rfl rfl rfl eb21 eh22) rfl rfl ?_
    refine w_p tok rfl rfl rfl ?_
    refine w_end ?_
    refine x_seq ?_
    refine c_seq ?_
    refine c_region ?_
    refine w_call ref02_constants_ok (ref02_constants_ref  _ _ H) rfl rfl rfl rfl ?_
    rintro _ h24 ⟨r23, rfl, H⟩
    refine w_p tok rfl rfl rfl ?_
    refine w_end ?_
    refine x_seq ?_
    refine c_seq ?_
    refine c_seq ?_
    refine c_region ?_
    refine w_p tok rfl rfl rfl ?_
    refine w_end ?_
    refine x_seq ?_
    refine c_block ?_
    obtain ⟨I2, μ2, H0, HI⟩ := H
    refine c_loop (σ := Slc × Int) (fun (s : Slc × Int) => [(4, Slc.v s.1), (6, .int .i64 s.2), (2, .pointer (some (⟨b1, 0, none⟩ : Addr))), (3, Slc.v s18), (5, Slc.v r23)]) I2 μ2 ((⟨some ⟨b21, 0, none⟩, 8, 8⟩ : Slc), 0) H0 ⟨rfl, rfl, rfl, rfl, rfl, trivial⟩ ?_
    rintro ⟨t4_2, t6_2⟩ h_2 H
    replace H := HI t4_2 t6_2 h_2 H
    unfold ref02_Sum_l2b at H
    refine c_weak [(4, Slc.v t4_2), (6, .int .i64 t6_2), (2, .pointer (some (⟨b1, 0, none⟩ : Addr))), (3, Slc.v s18), (5, Slc.v r23)] ⟨rfl, rfl, rfl, rfl, rfl, trivial⟩ ?_
    refine c_seq ?_
    refine c_seq ?_
    refine c_region ?_
    refine w_p tok rfl rfl rfl ?_
    refine w_p tok rfl rfl rfl ?_
    refine w_p tok rfl rfl rfl ?_
    refine w_p tok rfl rfl rfl ?_
    refine w_end ?_
    refine x_seq ?_
    refine c_if H rfl (fun H => ?_) (fun H => ?_)
    ·
      refine c_skip ?_
      refine x_seq ?_
      refine c_seq ?_
      refine c_block ?_
      refine c_seq ?_
      refine c_region ?_
      refine w_p tok rfl rfl rfl ?_
      refine w_end ?_
      refine x_seq ?_
      refine c_seq ?_
      refine c_seq ?_
      refine c_region ?_
      refine w_p tok rfl rfl rfl ?_
      refine w_end ?_
      refine x_seq ?_
      refine c_block ?_
      obtain ⟨I3, μ3, H0, HI⟩ := H
      refine c_loop (σ := Slc × Int) (fun (s : Slc × Int) => [(7, Slc.v s.1), (8, .int .i64 s.2), (2, .pointer (some (⟨b1, 0, none⟩ : Addr))), (3, Slc.v s18), (4, Slc.v t4_2), (5, Slc.v r23), (6, .int .i64 t6_2)]) I3 μ3 ((⟨none, 0, 0⟩ : Slc), 0) H0 ⟨rfl, rfl, rfl, rfl, rfl, rfl, rfl, trivial⟩ ?_
      rintro ⟨t7_3, t8_3⟩ h_3 H
      replace H := HI t7_3 t8_3 h_3 H
      unfold ref02_Sum_l3b at H
      refine c_weak [(7, Slc.v t7_3), (8, .int .i64 t8_3), (2, .pointer (some (⟨b1, 0, none⟩ : Addr))), (3, Slc.v s18), (4, Slc.v t4_2), (5, Slc.v r23), (6, .int .i64 t6_2)] ⟨rfl, rfl, rfl, rfl, rfl, rfl, rfl, trivial⟩ ?_
      refine c_seq ?_
      refine c_seq ?_
      refine c_region ?_
      refine w_p tok rfl rfl rfl ?_
      refine w_p tok rfl rfl rfl ?_
      refine w_end ?_
      refine x_seq ?_
      refine c_if H rfl (fun H => ?_) (fun H => ?_)
      ·
        refine c_skip ?_
        refine x_seq ?_
        refine c_seq ?_
        refine c_block ?_
        refine c_region ?_
        refine w_p tok rfl rfl rfl ?_
        refine w_p tok rfl rfl rfl ?_
        refine w_p tok rfl rfl rfl ?_
        refine w_p tok rfl rfl rfl ?_
        refine w_p tok rfl rfl rfl ?_
        refine w_p tok rfl rfl rfl ?_
        refine w_p tok rfl rfl rfl ?_
        refine w_p tok rfl rfl rfl ?_
        refine w_p tok rfl rfl rfl ?_
        refine w_p tok rfl rfl rfl ?_
        refine w_p tok rfl rfl rfl ?_
        obtain ⟨s25, ps25, qs25, rs25, ts25, es25, H⟩ := H
        refine w_ye (y_sl (s := s18) (L := (IntKind.i64.wrap (t6_2 + (IntKind.i64.wrap (4 * t8_3))))) (H := (IntKind.i64.wrap ((IntKind.i64.wrap (t6_2 + (IntKind.i64.wrap (4 * t8_3)))) + 4))) (M := (s18.cap : Int)) tok rfl rfl rfl rfl rfl rfl rfl (by simp) ps25 qs25 rs25 ts25) (congrArg Slc.v es25) rfl rfl ?_
        refine w_call ref02_number_ok (ref02_number_ref _ _ _ H) rfl rfl rfl rfl ?_
        rintro _ h27 ⟨r26, rfl, H⟩
        refine w_p tok rfl rfl rfl ?_
        obtain ⟨b28, h29, eb28, eh29, H⟩ := H
        refine w_h (h_bs tok rfl rfl rfl rfl rfl rfl rfl eb28 eh29) rfl rfl ?_
        refine w_a (a_app (s := t7_3) (r := (⟨some ⟨b28, 0, none⟩, 1, 1⟩ : Slc)) tok rfl rfl rfl rfl rfl (slcAt_push eb28 eh29) H) rfl rfl ?_
        rintro _ h31 ⟨s30, rfl, H⟩
        refine w_p tok rfl rfl rfl ?_
        refine w_end ?_
        refine x_blk ?_
        refine x_seq ?_
        refine c_weak [(7, Slc.v s30), (8, .int .i64 t8_3), (2, .pointer (some (⟨b1, 0, none⟩ : Addr))), (3, Slc.v s18), (4, Slc.v t4_2), (5, Slc.v r23), (6, .int .i64 t6_2)] ⟨rfl, rfl, rfl, rfl, rfl, rfl, rfl, trivial⟩ ?_
        refine c_region ?_
        refine w_p tok rfl rfl rfl ?_
        refine w_p tok rfl rfl rfl ?_
        obtain ⟨x32, ex32, H⟩ := H
        refine w_pe tok rfl (congrArg (fun z => (.int .i64 z : Value)) ex32) rfl rfl ?_
        refine w_end ?_
        exact x_join (s30, x32) H ⟨rfl, rfl, rfl, rfl, rfl, rfl, rfl, trivial⟩
      ·
        refine c_exit ?_
        refine x_te ?_
        refine x_te ?_
        refine x_bh ?_
        refine x_seq ?_
        refine c_seq ?_
        refine c_seq ?_
        refine c_region ?_
        refine w_p tok rfl rfl rfl ?_
        refine w_end ?_
        refine x_seq ?_
        refine c_block ?_
        obtain ⟨I4, μ4, H0, HI⟩ := H
        refine c_loop (σ := Slc × Int) (fun (s : Slc × Int) => [(7, Slc.v s.1), (9, .int .i64 s.2), (2, .pointer (some (⟨b1, 0, none⟩ : Addr))), (3, Slc.v s18), (4, Slc.v t4_2), (5, Slc.v r23), (6, .int .i64 t6_2)]) I4 μ4 (t7_3, 16) H0 ⟨rfl, rfl, rfl, rfl, rfl, rfl, rfl, trivial⟩ ?_
        rintro ⟨t7_4, t9_4⟩ h_4 H
        replace H := HI t7_4 t9_4 h_4 H
        unfold ref02_Sum_l4b at H
        refine c_weak [(7, Slc.v t7_4), (9, .int .i64 t9_4), (2, .pointer (some (⟨b1, 0, none⟩ : Addr))), (3, Slc.v s18), (4, Slc.v t4_2), (5, Slc.v r23), (6, .int .i64 t6_2)] ⟨rfl, rfl, rfl, rfl, rfl, rfl, rfl, trivial⟩ ?_
        refine c_seq ?_
        refine c_seq ?_
        refine c_region ?_
        refine w_p tok rfl rfl rfl ?_
        refine w_p tok rfl rfl rfl ?_
        refine w_end ?_
        refine x_seq ?_
        refine c_if H rfl (fun H => ?_) (fun H => ?_)
        ·
          refine c_skip ?_
          refine x_seq ?_
          refine c_seq ?_
          refine c_block ?_
          refine c_seq ?_
          refine c_sim [(2, .pointer (some (⟨b1, 0, none⟩ : Addr))), (3, Slc.v s18), (4, Slc.v t4_2), (5, Slc.v r23), (6, .int .i64 t6_2), (7, Slc.v t7_4), (9, .int .i64 t9_4)] (by kernel_rfl) (by kernel_rfl) ⟨rfl, rfl, rfl, rfl, rfl, rfl, rfl, trivial⟩ (fun wf => ?_)
          refine sim_p 0 (ei := [(7, Slc.v t7_4)]) (d := (some 78)) wf (by kernel_rfl) ⟨rfl, trivial⟩ (by kernel_rfl) (by kernel_rfl) (fun _ => pf_p tok rfl rfl rfl rfl) (fun P_0 => ?_)
          refine sim_p 1 (ei := [(9, .int .i64 t9_4)]) (d := (some 79)) wf (by kernel_rfl) ⟨rfl, trivial⟩ (by kernel_rfl) (by kernel_rfl) (fun _ => pf_p tok rfl rfl rfl rfl) (fun P_1 => ?_)
          refine sim_p 2 (ei := [(79, .int .i64 t9_4)]) (d := (some 80)) wf (by kernel_rfl) ⟨rfl, trivial⟩ (by kernel_rfl) (by kernel_rfl) (fun _ => pf_p tok rfl rfl rfl rfl) (fun P_2 => ?_)
          obtain ⟨a33, ha33, la33, ua33, H⟩ := H
          refine sim_p 3 (ei := [(78, Slc.v t7_4), (80, .int .i64 (IntKind.i64.wrap (t9_4 - 15)))]) (d := (some 81)) wf (by kernel_rfl) ⟨rfl, rfl, trivial⟩ (by kernel_rfl) (by kernel_rfl) (fun _ => pf_y rfl rfl rfl (y_ixa' tok rfl rfl ha33 rfl rfl rfl la33 ua33)) (fun P_3 => ?_)
          obtain ⟨v34, hv34, H⟩ := H
          refine sim_l 4 (ei := [(81, .pointer (some (a33.add ((IntKind.i64.wrap (t9_4 - 15)).toNat * 1))))]) (d := (some 82)) wf (by kernel_rfl) ⟨rfl, trivial⟩ (by kernel_rfl) (by kernel_rfl) (pf_y rfl rfl rfl (y_ld tok rfl rfl rfl rfl hv34)) (fun P_4 => ?_)
          refine sim_p 6 (ei := [(7, Slc.v t7_4)]) (d := (some 84)) wf (by kernel_rfl) ⟨rfl, trivial⟩ (by kernel_rfl) (by kernel_rfl) (fun _ => pf_p tok rfl rfl rfl rfl) (fun P_6 => ?_)
          refine sim_p 7 (ei := [(9, .int .i64 t9_4)]) (d := (some 85)) wf (by kernel_rfl) ⟨rfl, trivial⟩ (by kernel_rfl) (by kernel_rfl) (fun _ => pf_p tok rfl rfl rfl rfl) (fun P_7 => ?_)
          refine sim_p 8 (ei := [(85, .int .i64 t9_4)]) (d := (some 86)) wf (by kernel_rfl) ⟨rfl, trivial⟩ (by kernel_rfl) (by kernel_rfl) (fun _ => pf_p tok rfl rfl rfl rfl) (fun P_8 => ?_)
          obtain ⟨a35, ha35, la35, ua35, H⟩ := H
          refine sim_p 9 (ei := [(84, Slc.v t7_4), (86, .int .i64 (IntKind.i64.wrap (t9_4 - 15)))]) (d := (some 87)) wf (by kernel_rfl) ⟨rfl, rfl, trivial⟩ (by kernel_rfl) (by kernel_rfl) (fun _ => pf_y rfl rfl rfl (y_ixa' tok rfl rfl ha35 rfl rfl rfl la35 ua35)) (fun P_9 => ?_)
          obtain ⟨v36, hv36, H⟩ := H
          refine sim_l 10 (ei := [(87, .pointer (some (a35.add ((IntKind.i64.wrap (t9_4 - 15)).toNat * 1))))]) (d := (some 88)) wf (by kernel_rfl) ⟨rfl, trivial⟩ (by kernel_rfl) (by kernel_rfl) (pf_y rfl rfl rfl (y_ld tok rfl rfl rfl rfl hv36)) (fun P_10 => ?_)
          refine sim_p 13 (ei := [(7, Slc.v t7_4)]) (d := (some 91)) wf (by kernel_rfl) ⟨rfl, trivial⟩ (by kernel_rfl) (by kernel_rfl) (fun _ => pf_p tok rfl rfl rfl rfl) (fun P_13 => ?_)
          refine sim_p 14 (ei := [(9, .int .i64 t9_4)]) (d := (some 92)) wf (by kernel_rfl) ⟨rfl, trivial⟩ (by kernel_rfl) (by kernel_rfl) (fun _ => pf_p tok rfl rfl rfl rfl) (fun P_14 => ?_)
          refine sim_p 15 (ei := [(92, .int .i64 t9_4)]) (d := (some 93)) wf (by kernel_rfl) ⟨rfl, trivial⟩ (by kernel_rfl) (by kernel_rfl) (fun _ => pf_p tok rfl rfl rfl rfl) (fun P_15 => ?_)
          obtain ⟨a37, ha37, la37, ua37, H⟩ := H
          refine sim_p 16 (ei := [(91, Slc.v t7_4), (93, .int .i64 (IntKind.i64.wrap (t9_4 - 15)))]) (d := (some 94)) wf (by kernel_rfl) ⟨rfl, rfl, trivial⟩ (by kernel_rfl) (by kernel_rfl) (fun _ => pf_y rfl rfl rfl (y_ixa' tok rfl rfl ha37 rfl rfl rfl la37 ua37)) (fun P_16 => ?_)
          obtain ⟨v38, hv38, H⟩ := H
          refine sim_l 17 (ei := [(94, .pointer (some (a37.add ((IntKind.i64.wrap (t9_4 - 15)).toNat * 1))))]) (d := (some 95)) wf (by kernel_rfl) ⟨rfl, trivial⟩ (by kernel_rfl) (by kernel_rfl) (pf_y rfl rfl rfl (y_ld tok rfl rfl rfl rfl hv38)) (fun P_17 => ?_)
          refine sim_c 5 [0, 1, 2, 3, 4] [0, 1, 2, 3, 4] (ei := [(82, .int .u32 v34)]) ref02_turn_ok (ref02_turn_ref _ _ _ _ H) wf ⟨P_17, P_16 _, P_15 _, P_14 _, P_13 _, P_10, P_9 _, P_8 _, P_7 _, P_6 _, P_4, P_3 _, P_2 _, P_1 _, P_0 _, trivial⟩ (by kernel_rfl) ⟨rfl, trivial⟩ (by kernel_rfl) rfl rfl rfl rfl rfl ?_
          rintro _ h40 ⟨r39, rfl, H⟩
          obtain ⟨hy41, hy42, H⟩ := H
          refine sim_re (x := ⟨17, .int .u32 v38, [(94, .pointer (some (a37.add ((IntKind.i64.wrap (t9_4 - 15)).toNat * 1))))]⟩) (pf_y rfl rfl rfl (y_ld tok rfl rfl rfl rfl hy41)) (fun P_17 => ?_)
          refine sim_re (x := ⟨10, .int .u32 v36, [(87, .pointer (some (a35.add ((IntKind.i64.wrap (t9_4 - 15)).toNat * 1))))]⟩) (pf_y rfl rfl rfl (y_ld tok rfl rfl rfl rfl hy42)) (fun P_10 => ?_)
          refine sim_c 11 [0, 1, 2, 3, 4, 5, 6, 7, 8, 9, 10] [0, 1, 2, 3, 4, 6, 7, 8, 9, 10] (ei := [(88, .int .u32 v36)]) ref02_turn_ok (ref02_turn_ref _ _ _ _ H) wf ⟨P_17, P_16 _, P_15 _, P_14 _, P_13 _, P_10, P_9 _, P_8 _, P_7 _, P_6 _, trivial, trivial, trivial, trivial, trivial, trivial⟩ (by kernel_rfl) ⟨rfl, trivial⟩ (by kernel_rfl) rfl rfl rfl rfl rfl ?_
          rintro _ h44 ⟨r43, rfl, H⟩
          obtain ⟨hy45, H⟩ := H
          refine sim_re (x := ⟨17, .int .u32 v38, [(94, .pointer (some (a37.add ((IntKind.i64.wrap (t9_4 - 15)).toNat * 1))))]⟩) (pf_y rfl rfl rfl (y_ld tok rfl rfl rfl rfl hy45)) (fun P_17 => ?_)
          refine sim_p 12 (ei := [(83, .int .u32 r39), (89, .int .u32 r43)]) (d := (some 90)) wf (by kernel_rfl) ⟨rfl, rfl, trivial⟩ (by kernel_rfl) (by kernel_rfl) (fun _ => pf_p tok rfl rfl rfl rfl) (fun P_12 => ?_)
          refine sim_c 18 [0, 1, 2, 3, 4, 5, 6, 7, 8, 9, 10, 11, 13, 14, 15, 16, 17] [0, 1, 2, 3, 4, 6, 7, 8, 9, 10, 13, 14, 15, 16, 17] (ei := [(95, .int .u32 v38)]) ref02_cut_ok (ref02_cut_ref _ _ _ _ H) wf ⟨P_12 _, P_17, P_16 _, P_15 _, P_14 _, P_13 _, trivial, trivial, trivial, trivial, trivial, trivial, trivial, trivial, trivial, trivial, trivial⟩ (by kernel_rfl) ⟨rfl, trivial⟩ (by kernel_rfl) rfl rfl rfl rfl rfl ?_
          rintro _ h47 ⟨r46, rfl, H⟩
          refine sim_p 19 (ei := [(90, .int .u32 (bwXor .u32 r39 r43)), (96, .int .u32 r46)]) (d := (some 97)) wf (by kernel_rfl) ⟨rfl, rfl, trivial⟩ (by kernel_rfl) (by kernel_rfl) (fun _ => pf_p tok rfl rfl rfl rfl) (fun P_19 => ?_)
          refine sim_p 20 (ei := [(97, .int .u32 (bwXor .u32 (bwXor .u32 r39 r43) r46))]) (d := (some 10)) wf (by kernel_rfl) ⟨rfl, trivial⟩ (by kernel_rfl) (by kernel_rfl) (fun _ => pf_p tok rfl rfl rfl rfl) (fun P_20 => ?_)
          refine sim_end wf ⟨P_20 _, P_19 _, P_12 _, trivial, trivial, trivial, trivial, trivial, trivial, trivial, trivial, trivial, trivial, trivial, trivial, trivial, trivial, trivial, trivial⟩ (by kernel_rfl) ?_
          clear wf P_0 P_1 P_10 P_12 P_13 P_14 P_15 P_16 P_17 P_19 P_2 P_20 P_3 P_4 P_6 P_7 P_8 P_9
          refine x_seq ?_
          refine c_weak [(2, .pointer (some (⟨b1, 0, none⟩ : Addr))), (3, Slc.v s18), (4, Slc.v t4_2), (5, Slc.v r23), (6, .int .i64 t6_2), (7, Slc.v t7_4), (9, .int .i64 t9_4), (10, .int .u32 (bwXor .u32 (bwXor .u32 r39 r43) r46))] ⟨rfl, rfl, rfl, rfl, rfl, rfl, rfl, rfl, trivial⟩ ?_
          refine c_seq ?_
          refine c_sim [(2, .pointer (some (⟨b1, 0, none⟩ : Addr))), (3, Slc.v s18), (4, Slc.v t4_2), (5, Slc.v r23), (6, .int .i64 t6_2), (7, Slc.v t7_4), (9, .int .i64 t9_4), (10, .int .u32 (bwXor .u32 (bwXor .u32 r39 r43) r46))] (by kernel_rfl) (by kernel_rfl) ⟨rfl, rfl, rfl, rfl, rfl, rfl, rfl, rfl, trivial⟩ (fun wf => ?_)
          refine sim_p 0 (ei := [(7, Slc.v t7_4)]) (d := (some 98)) wf (by kernel_rfl) ⟨rfl, trivial⟩ (by kernel_rfl) (by kernel_rfl) (fun _ => pf_p tok rfl rfl rfl rfl) (fun P_0 => ?_)
          refine sim_p 1 (ei := [(9, .int .i64 t9_4)]) (d := (some 99)) wf (by kernel_rfl) ⟨rfl, trivial⟩ (by kernel_rfl) (by kernel_rfl) (fun _ => pf_p tok rfl rfl rfl rfl) (fun P_1 => ?_)
          refine sim_p 2 (ei := [(99, .int .i64 t9_4)]) (d := (some 100)) wf (by kernel_rfl) ⟨rfl, trivial⟩ (by kernel_rfl) (by kernel_rfl) (fun _ => pf_p tok rfl rfl rfl rfl) (fun P_2 => ?_)
          obtain ⟨a48, ha48, la48, ua48, H⟩ := H
          refine sim_p 3 (ei := [(98, Slc.v t7_4), (100, .int .i64 (IntKind.i64.wrap (t9_4 - 2)))]) (d := (some 101)) wf (by kernel_rfl) ⟨rfl, rfl, trivial⟩ (by kernel_rfl) (by kernel_rfl) (fun _ => pf_y rfl rfl rfl (y_ixa' tok rfl rfl ha48 rfl rfl rfl la48 ua48)) (fun P_3 => ?_)
          obtain ⟨v49, hv49, H⟩ := H
          refine sim_l 4 (ei := [(101, .pointer (some (a48.add ((IntKind.i64.wrap (t9_4 - 2)).toNat * 1))))]) (d := (some 102)) wf (by kernel_rfl) ⟨rfl, trivial⟩ (by kernel_rfl) (by kernel_rfl) (pf_y rfl rfl rfl (y_ld tok rfl rfl rfl rfl hv49)) (fun P_4 => ?_)
          refine sim_p 6 (ei := [(7, Slc.v t7_4)]) (d := (some 104)) wf (by kernel_rfl) ⟨rfl, trivial⟩ (by kernel_rfl) (by kernel_rfl) (fun _ => pf_p tok rfl rfl rfl rfl) (fun P_6 => ?_)
          refine sim_p 7 (ei := [(9, .int .i64 t9_4)]) (d := (some 105)) wf (by kernel_rfl) ⟨rfl, trivial⟩ (by kernel_rfl) (by kernel_rfl) (fun _ => pf_p tok rfl rfl rfl rfl) (fun P_7 => ?_)
          refine sim_p 8 (ei := [(105, .int .i64 t9_4)]) (d := (some 106)) wf (by kernel_rfl) ⟨rfl, trivial⟩ (by kernel_rfl) (by kernel_rfl) (fun _ => pf_p tok rfl rfl rfl rfl) (fun P_8 => ?_)
          obtain ⟨a50, ha50, la50, ua50, H⟩ := H
          refine sim_p 9 (ei := [(104, Slc.v t7_4), (106, .int .i64 (IntKind.i64.wrap (t9_4 - 2)))]) (d := (some 107)) wf (by kernel_rfl) ⟨rfl, rfl, trivial⟩ (by kernel_rfl) (by kernel_rfl) (fun _ => pf_y rfl rfl rfl (y_ixa' tok rfl rfl ha50 rfl rfl rfl la50 ua50)) (fun P_9 => ?_)
          obtain ⟨v51, hv51, H⟩ := H
          refine sim_l 10 (ei := [(107, .pointer (some (a50.add ((IntKind.i64.wrap (t9_4 - 2)).toNat * 1))))]) (d := (some 108)) wf (by kernel_rfl) ⟨rfl, trivial⟩ (by kernel_rfl) (by kernel_rfl) (pf_y rfl rfl rfl (y_ld tok rfl rfl rfl rfl hv51)) (fun P_10 => ?_)
          refine sim_p 13 (ei := [(7, Slc.v t7_4)]) (d := (some 111)) wf (by kernel_rfl) ⟨rfl, trivial⟩ (by kernel_rfl) (by kernel_rfl) (fun _ => pf_p tok rfl rfl rfl rfl) (fun P_13 => ?_)
          refine sim_p 14 (ei := [(9, .int .i64 t9_4)]) (d := (some 112)) wf (by kernel_rfl) ⟨rfl, trivial⟩ (by kernel_rfl) (by kernel_rfl) (fun _ => pf_p tok rfl rfl rfl rfl) (fun P_14 => ?_)
          refine sim_p 15 (ei := [(112, .int .i64 t9_4)]) (d := (some 113)) wf (by kernel_rfl) ⟨rfl, trivial⟩ (by kernel_rfl) (by kernel_rfl) (fun _ => pf_p tok rfl rfl rfl rfl) (fun P_15 => ?_)
          obtain ⟨a52, ha52, la52, ua52, H⟩ := H
          refine sim_p 16 (ei := [(111, Slc.v t7_4), (113, .int .i64 (IntKind.i64.wrap (t9_4 - 2)))]) (d := (some 114)) wf (by kernel_rfl) ⟨rfl, rfl, trivial⟩ (by kernel_rfl) (by kernel_rfl) (fun _ => pf_y rfl rfl rfl (y_ixa' tok rfl rfl ha52 rfl rfl rfl la52 ua52)) (fun P_16 => ?_)
          obtain ⟨v53, hv53, H⟩ := H
          refine sim_l 17 (ei := [(114, .pointer (some (a52.add ((IntKind.i64.wrap (t9_4 - 2)).toNat * 1))))]) (d := (some 115)) wf (by kernel_rfl) ⟨rfl, trivial⟩ (by kernel_rfl) (by kernel_rfl) (pf_y rfl rfl rfl (y_ld tok rfl rfl rfl rfl hv53)) (fun P_17 => ?_)
          refine sim_c 5 [0, 1, 2, 3, 4] [0, 1, 2, 3, 4] (ei := [(102, .int .u32 v49)]) ref02_turn_ok (ref02_turn_ref _ _ _ _ H) wf ⟨P_17, P_16 _, P_15 _, P_14 _, P_13 _, P_10, P_9 _, P_8 _, P_7 _, P_6 _, P_4, P_3 _, P_2 _, P_1 _, P_0 _, trivial⟩ (by kernel_rfl) ⟨rfl, trivial⟩ (by kernel_rfl) rfl rfl rfl rfl rfl ?_
          rintro _ h55 ⟨r54, rfl, H⟩
          obtain ⟨hy56, hy57, H⟩ := H
          refine sim_re (x := ⟨17, .int .u32 v53, [(114, .pointer (some (a52.add ((IntKind.i64.wrap (t9_4 - 2)).toNat * 1))))]⟩) (pf_y rfl rfl rfl (y_ld tok rfl rfl rfl rfl hy56)) (fun P_17 => ?_)
          refine sim_re (x := ⟨10, .int .u32 v51, [(107, .pointer (some (a50.add ((IntKind.i64.wrap (t9_4 - 2)).toNat * 1))))]⟩) (pf_y rfl rfl rfl (y_ld tok rfl rfl rfl rfl hy57)) (fun P_10 => ?_)
          refine sim_c 11 [0, 1, 2, 3, 4, 5, 6, 7, 8, 9, 10] [0, 1, 2, 3, 4, 6, 7, 8, 9, 10] (ei := [(108, .int .u32 v51)]) ref02_turn_ok (ref02_turn_ref _ _ _ _ H) wf ⟨P_17, P_16 _, P_15 _, P_14 _, P_13 _, P_10, P_9 _, P_8 _, P_7 _, P_6 _, trivial, trivial, trivial, trivial, trivial, trivial⟩ (by kernel_rfl) ⟨rfl, trivial⟩ (by kernel_rfl) rfl rfl rfl rfl rfl ?_
          rintro _ h59 ⟨r58, rfl, H⟩
          obtain ⟨hy60, H⟩ := H
          refine sim_re (x := ⟨17, .int .u32 v53, [(114, .pointer (some (a52.add ((IntKind.i64.wrap (t9_4 - 2)).toNat * 1))))]⟩) (pf_y rfl rfl rfl (y_ld tok rfl rfl rfl rfl hy60)) (fun P_17 => ?_)
          refine sim_p 12 (ei := [(103, .int .u32 r54), (109, .int .u32 r58)]) (d := (some 110)) wf (by kernel_rfl) ⟨rfl, rfl, trivial⟩ (by kernel_rfl) (by kernel_rfl) (fun _ => pf_p tok rfl rfl rfl rfl) (fun P_12 => ?_)
          refine sim_c 18 [0, 1, 2, 3, 4, 5, 6, 7, 8, 9, 10, 11, 13, 14, 15, 16, 17] [0, 1, 2, 3, 4, 6, 7, 8, 9, 10, 13, 14, 15, 16, 17] (ei := [(115, .int .u32 v53)]) ref02_cut_ok (ref02_cut_ref _ _ _ _ H) wf ⟨P_12 _, P_17, P_16 _, P_15 _, P_14 _, P_13 _, trivial, trivial, trivial, trivial, trivial, trivial, trivial, trivial, trivial, trivial, trivial⟩ (by kernel_rfl) ⟨rfl, trivial⟩ (by kernel_rfl) rfl rfl rfl rfl rfl ?_
          rintro _ h62 ⟨r61, rfl, H⟩
          refine sim_p 19 (ei := [(110, .int .u32 (bwXor .u32 r54 r58)), (116, .int .u32 r61)]) (d := (some 117)) wf (by kernel_rfl) ⟨rfl, rfl, trivial⟩ (by kernel_rfl) (by kernel_rfl) (fun _ => pf_p tok rfl rfl rfl rfl) (fun P_19 => ?_)
          refine sim_p 20 (ei := [(117, .int .u32 (bwXor .u32 (bwXor .u32 r54 r58) r61))]) (d := (some 11)) wf (by kernel_rfl) ⟨rfl, trivial⟩ (by kernel_rfl) (by kernel_rfl) (fun _ => pf_p tok rfl rfl rfl rfl) (fun P_20 => ?_)
          refine sim_end wf ⟨P_20 _, P_19 _, P_12 _, trivial, trivial, trivial, trivial, trivial, trivial, trivial, trivial, trivial, trivial, trivial, trivial, trivial, trivial, trivial, trivial⟩ (by kernel_rfl) ?_
          clear wf P_0 P_1 P_10 P_12 P_13 P_14 P_15 P_16 P_17 P_19 P_2 P_20 P_3 P_4 P_6 P_7 P_8 P_9
          refine x_seq ?_
          refine c_weak [(2, .pointer (some (⟨b1, 0, none⟩ : Addr))), (3, Slc.v s18), (4, Slc.v t4_2), (5, Slc.v r23), (6, .int .i64 t6_2), (7, Slc.v t7_4), (9, .int .i64 t9_4), (10, .int .u32 (bwXor .u32 (bwXor .u32 r39 r43) r46)), (11, .int .u32 (bwXor .u32 (bwXor .u32 r54 r58) r61))] ⟨rfl, rfl, rfl, rfl, rfl, rfl, rfl, rfl, rfl, trivial⟩ ?_
          refine c_sim [(2, .pointer (some (⟨b1, 0, none⟩ : Addr))), (3, Slc.v s18), (4, Slc.v t4_2), (5, Slc.v r23), (6, .int .i64 t6_2), (7, Slc.v t7_4), (9, .int .i64 t9_4), (10, .int .u32 (bwXor .u32 (bwXor .u32 r39 r43) r46)), (11, .int .u32 (bwXor .u32 (bwXor .u32 r54 r58) r61))] (by kernel_rfl) (by kernel_rfl) ⟨rfl, rfl, rfl, rfl, rfl, rfl, rfl, rfl, rfl, trivial⟩ (fun wf => ?_)
          refine sim_p 0 (ei := [(7, Slc.v t7_4)]) (d := (some 118)) wf (by kernel_rfl) ⟨rfl, trivial⟩ (by kernel_rfl) (by kernel_rfl) (fun _ => pf_p tok rfl rfl rfl rfl) (fun P_0 => ?_)
          refine sim_p 1 (ei := [(7, Slc.v t7_4)]) (d := (some 119)) wf (by kernel_rfl) ⟨rfl, trivial⟩ (by kernel_rfl) (by kernel_rfl) (fun _ => pf_p tok rfl rfl rfl rfl) (fun P_1 => ?_)
          refine sim_p 2 (ei := [(9, .int .i64 t9_4)]) (d := (some 120)) wf (by kernel_rfl) ⟨rfl, trivial⟩ (by kernel_rfl) (by kernel_rfl) (fun _ => pf_p tok rfl rfl rfl rfl) (fun P_2 => ?_)
          refine sim_p 3 (ei := [(120, .int .i64 t9_4)]) (d := (some 121)) wf (by kernel_rfl) ⟨rfl, trivial⟩ (by kernel_rfl) (by kernel_rfl) (fun _ => pf_p tok rfl rfl rfl rfl) (fun P_3 => ?_)
          obtain ⟨a63, ha63, la63, ua63, H⟩ := H
          refine sim_p 4 (ei := [(119, Slc.v t7_4), (121, .int .i64 (IntKind.i64.wrap (t9_4 - 16)))]) (d := (some 122)) wf (by kernel_rfl) ⟨rfl, rfl, trivial⟩ (by kernel_rfl) (by kernel_rfl) (fun _ => pf_y rfl rfl rfl (y_ixa' tok rfl rfl ha63 rfl rfl rfl la63 ua63)) (fun P_4 => ?_)
          obtain ⟨v64, hv64, H⟩ := H
          refine sim_l 5 (ei := [(122, .pointer (some (a63.add ((IntKind.i64.wrap (t9_4 - 16)).toNat * 1))))]) (d := (some 123)) wf (by kernel_rfl) ⟨rfl, trivial⟩ (by kernel_rfl) (by kernel_rfl) (pf_y rfl rfl rfl (y_ld tok rfl rfl rfl rfl hv64)) (fun P_5 => ?_)
          refine sim_p 6 (ei := [(10, .int .u32 (bwXor .u32 (bwXor .u32 r39 r43) r46))]) (d := (some 124)) wf (by kernel_rfl) ⟨rfl, trivial⟩ (by kernel_rfl) (by kernel_rfl) (fun _ => pf_p tok rfl rfl rfl rfl) (fun P_6 => ?_)
          refine sim_p 7 (ei := [(123, .int .u32 v64), (124, .int .u32 (bwXor .u32 (bwXor .u32 r39 r43) r46))]) (d := (some 125)) wf (by kernel_rfl) ⟨rfl, rfl, trivial⟩ (by kernel_rfl) (by kernel_rfl) (fun _ => pf_p tok rfl rfl rfl rfl) (fun P_7 => ?_)
          refine sim_p 8 (ei := [(7, Slc.v t7_4)]) (d := (some 126)) wf (by kernel_rfl) ⟨rfl, trivial⟩ (by kernel_rfl) (by kernel_rfl) (fun _ => pf_p tok rfl rfl rfl rfl) (fun P_8 => ?_)
          refine sim_p 9 (ei := [(9, .int .i64 t9_4)]) (d := (some 127)) wf (by kernel_rfl) ⟨rfl, trivial⟩ (by kernel_rfl) (by kernel_rfl) (fun _ => pf_p tok rfl rfl rfl rfl) (fun P_9 => ?_)
          refine sim_p 10 (ei := [(127, .int .i64 t9_4)]) (d := (some 128)) wf (by kernel_rfl) ⟨rfl, trivial⟩ (by kernel_rfl) (by kernel_rfl) (fun _ => pf_p tok rfl rfl rfl rfl) (fun P_10 => ?_)
          obtain ⟨a65, ha65, la65, ua65, H⟩ := H
          refine sim_p 11 (ei := [(126, Slc.v t7_4), (128, .int .i64 (IntKind.i64.wrap (t9_4 - 7)))]) (d := (some 129)) wf (by kernel_rfl) ⟨rfl, rfl, trivial⟩ (by kernel_rfl) (by kernel_rfl) (fun _ => pf_y rfl rfl rfl (y_ixa' tok rfl rfl ha65 rfl rfl rfl la65 ua65)) (fun P_11 => ?_)
          obtain ⟨v66, hv66, H⟩ := H
          refine sim_l 12 (ei := [(129, .pointer (some (a65.add ((IntKind.i64.wrap (t9_4 - 7)).toNat * 1))))]) (d := (some 130)) wf (by kernel_rfl) ⟨rfl, trivial⟩ (by kernel_rfl) (by kernel_rfl) (pf_y rfl rfl rfl (y_ld tok rfl rfl rfl rfl hv66)) (fun P_12 => ?_)
          refine sim_p 13 (ei := [(125, .int .u32 (IntKind.u32.wrap (v64 + (bwXor .u32 (bwXor .u32 r39 r43) r46)))), (130, .int .u32 v66)]) (d := (some 131)) wf (by kernel_rfl) ⟨rfl, rfl, trivial⟩ (by kernel_rfl) (by kernel_rfl) (fun _ => pf_p tok rfl rfl rfl rfl) (fun P_13 => ?_)
          refine sim_p 14 (ei := [(11, .int .u32 (bwXor .u32 (bwXor .u32 r54 r58) r61))]) (d := (some 132)) wf (by kernel_rfl) ⟨rfl, trivial⟩ (by kernel_rfl) (by kernel_rfl) (fun _ => pf_p tok rfl rfl rfl rfl) (fun P_14 => ?_)
          refine sim_p 15 (ei := [(131, .int .u32 (IntKind.u32.wrap ((IntKind.u32.wrap (v64 + (bwXor .u32 (bwXor .u32 r39 r43) r46))) + v66))), (132, .int .u32 (bwXor .u32 (bwXor .u32 r54 r58) r61))]) (d := (some 133)) wf (by kernel_rfl) ⟨rfl, rfl, trivial⟩ (by kernel_rfl) (by kernel_rfl) (fun _ => pf_p tok rfl rfl rfl rfl) (fun P_15 => ?_)
          obtain ⟨b67, h68, eb67, eh68, H⟩ := H
          refine sim_h 16 [1, 2, 3, 4, 5, 6, 7, 8, 9, 10, 11, 12, 13, 14, 15] [1, 2, 3, 4, 5, 6, 7, 8, 9, 10, 11, 12, 13, 14, 15] (ei := [(133, .int .u32 (IntKind.u32.wrap ((IntKind.u32.wrap ((IntKind.u32.wrap (v64 + (bwXor .u32 (bwXor .u32 r39 r43) r46))) + v66)) + (bwXor .u32 (bwXor .u32 r54 r58) r61))))]) wf ⟨P_15 _, P_14 _, P_13 _, P_12, P_11 _, P_10 _, P_9 _, P_8 _, P_7 _, P_6 _, P_5, P_4 _, P_3 _, P_2 _, P_1 _, P_0 _, trivial⟩ (by kernel_rfl) ⟨rfl, trivial⟩ (by kernel_rfl) rfl rfl rfl (h_bs tok rfl rfl rfl rfl rfl rfl rfl eb67 eh68) ?_
          refine sim_a 17 [0, 1, 2, 3, 4, 5, 6, 7, 8, 9, 10, 11, 12, 13, 14, 15, 16] [0, 1, 2, 3, 4, 5, 6, 7, 8, 9, 10, 11, 12, 13, 14, 15] (ei := [(118, Slc.v t7_4), (134, Slc.v (⟨some ⟨b67, 0, none⟩, 1, 1⟩ : Slc))]) wf ⟨trivial, trivial, trivial, trivial, trivial, trivial, trivial, trivial, trivial, trivial, trivial, trivial, trivial, trivial, trivial, P_0 _, trivial⟩ (by kernel_rfl) ⟨rfl, rfl, trivial⟩ (by kernel_rfl) rfl rfl rfl (a_app (s := t7_4) (r := (⟨some ⟨b67, 0, none⟩, 1, 1⟩ : Slc)) tok rfl rfl rfl rfl rfl (slcAt_push eb67 eh68) H) ?_
          rintro _ h70 ⟨s69, rfl, H⟩
          refine sim_p 18 (ei := [(135, Slc.v s69)]) (d := (some 7)) wf (by kernel_rfl) ⟨rfl, trivial⟩ (by kernel_rfl) (by kernel_rfl) (fun _ => pf_p tok rfl rfl rfl rfl) (fun P_18 => ?_)
          refine sim_end wf ⟨P_18 _, trivial, trivial, trivial, trivial, trivial, trivial, trivial, trivial, trivial, trivial, trivial, trivial, trivial, trivial, trivial, trivial, trivial⟩ (by kernel_rfl) ?_
          clear wf P_0 P_1 P_10 P_11 P_12 P_13 P_14 P_15 P_18 P_2 P_3 P_4 P_5 P_6 P_7 P_8 P_9
          refine x_blk ?_
          refine x_seq ?_
          refine c_weak [(2, .pointer (some (⟨b1, 0, none⟩ : Addr))), (3, Slc.v s18), (4, Slc.v t4_2), (5, Slc.v r23), (6, .int .i64 t6_2), (7, Slc.v s69), (9, .int .i64 t9_4)] ⟨rfl, rfl, rfl, rfl, rfl, rfl, rfl, trivial⟩ ?_
          refine c_region ?_
          refine w_p tok rfl rfl rfl ?_
          refine w_p tok rfl rfl rfl ?_
          obtain ⟨x71, ex71, H⟩ := H
          refine w_pe tok rfl (congrArg (fun z => (.int .i64 z : Value)) ex71) rfl rfl ?_
          refine w_end ?_
          exact x_join (s69, x71) H ⟨rfl, rfl, rfl, rfl, rfl, rfl, rfl, trivial⟩
        ·
          refine c_exit ?_
          refine x_te ?_
          refine x_te ?_
          refine x_bh ?_
          refine x_seq ?_
          refine c_seq ?_
          refine c_draw (by kernel_rfl) (by kernel_rfl) ?_
          refine q_p tok rfl rfl rfl ?_
          obtain ⟨a72, ha72, la72, ua72, H⟩ := H
          refine q_y (y_ixa' tok rfl rfl ha72 rfl rfl rfl la72 ua72) rfl rfl ?_
          obtain ⟨v73, hv73, H⟩ := H
          refine q_y (y_ld tok rfl rfl rfl rfl hv73) rfl rfl ?_
          refine q_p tok rfl rfl rfl ?_
          obtain ⟨a74, ha74, la74, ua74, H⟩ := H
          refine q_y (y_ixa' tok rfl rfl ha74 rfl rfl rfl la74 ua74) rfl rfl ?_
          obtain ⟨v75, hv75, H⟩ := H
          refine q_y (y_ld tok rfl rfl rfl rfl hv75) rfl rfl ?_
          refine q_p tok rfl rfl rfl ?_
          obtain ⟨a76, ha76, la76, ua76, H⟩ := H
          refine q_y (y_ixa' tok rfl rfl ha76 rfl rfl rfl la76 ua76) rfl rfl ?_
          obtain ⟨v77, hv77, H⟩ := H
          refine q_y (y_ld tok rfl rfl rfl rfl hv77) rfl rfl ?_
          refine q_p tok rfl rfl rfl ?_
          obtain ⟨a78, ha78, la78, ua78, H⟩ := H
          refine q_y (y_ixa' tok rfl rfl ha78 rfl rfl rfl la78 ua78) rfl rfl ?_
          obtain ⟨v79, hv79, H⟩ := H
          refine q_y (y_ld tok rfl rfl rfl rfl hv79) rfl rfl ?_
          refine q_p tok rfl rfl rfl ?_
          obtain ⟨a80, ha80, la80, ua80, H⟩ := H
          refine q_y (y_ixa' tok rfl rfl ha80 rfl rfl rfl la80 ua80) rfl rfl ?_
          obtain ⟨v81, hv81, H⟩ := H
          refine q_y (y_ld tok rfl rfl rfl rfl hv81) rfl rfl ?_
          refine q_p tok rfl rfl rfl ?_
          obtain ⟨a82, ha82, la82, ua82, H⟩ := H
          refine q_y (y_ixa' tok rfl rfl ha82 rfl rfl rfl la82 ua82) rfl rfl ?_
          obtain ⟨v83, hv83, H⟩ := H
          refine q_y (y_ld tok rfl rfl rfl rfl hv83) rfl rfl ?_
          refine q_p tok rfl rfl rfl ?_
          obtain ⟨a84, ha84, la84, ua84, H⟩ := H
          refine q_y (y_ixa' tok rfl rfl ha84 rfl rfl rfl la84 ua84) rfl rfl ?_
          obtain ⟨v85, hv85, H⟩ := H
          refine q_y (y_ld tok rfl rfl rfl rfl hv85) rfl rfl ?_
          refine q_p tok rfl rfl rfl ?_
          obtain ⟨a86, ha86, la86, ua86, H⟩ := H
          refine q_y (y_ixa' tok rfl rfl ha86 rfl rfl rfl la86 ua86) rfl rfl ?_
          obtain ⟨v87, hv87, H⟩ := H
          refine q_y (y_ld tok rfl rfl rfl rfl hv87) rfl rfl ?_
          refine q_p tok rfl rfl rfl ?_
          refine q_p tok rfl rfl rfl ?_
          refine q_p tok rfl rfl rfl ?_
          refine q_p tok rfl rfl rfl ?_
          refine q_p tok rfl rfl rfl ?_
          refine q_p tok rfl rfl rfl ?_
          refine q_p tok rfl rfl rfl ?_
          refine q_p tok rfl rfl rfl ?_
          refine q_end ?_
          refine x_seq ?_
          refine c_weak [(7, Slc.v t7_4), (2, .pointer (some (⟨b1, 0, none⟩ : Addr))), (3, Slc.v s18), (4, Slc.v t4_2), (5, Slc.v r23), (6, .int .i64 t6_2), (12, .int .u32 v73), (13, .int .u32 v75), (14, .int .u32 v77), (15, .int .u32 v79), (16, .int .u32 v81), (17, .int .u32 v83), (18, .int .u32 v85), (19, .int .u32 v87)] ⟨rfl, rfl, rfl, rfl, rfl, rfl, rfl, rfl, rfl, rfl, rfl, rfl, rfl, rfl, trivial⟩ ?_
          refine c_seq ?_
          refine c_seq ?_
          refine c_region ?_
          refine w_p tok rfl rfl rfl ?_
          refine w_end ?_
          refine x_seq ?_
          refine c_block ?_
          obtain ⟨I5, μ5, H0, HI⟩ := H
          refine c_loop (σ := Int × Int × Int × Int × Int × Int × Int × Int × Int) (fun (s : Int × Int × Int × Int × Int × Int × Int × Int × Int) => [(12, .int .u32 s.1), (13, .int .u32 s.2.1), (14, .int .u32 s.2.2.1), (15, .int .u32 s.2.2.2.1), (16, .int .u32 s.2.2.2.2.1), (17, .int .u32 s.2.2.2.2.2.1), (18, .int .u32 s.2.2.2.2.2.2.1), (19, .int .u32 s.2.2.2.2.2.2.2.1), (20, .int .i64 s.2.2.2.2.2.2.2.2), (2, .pointer (some (⟨b1, 0, none⟩ : Addr))), (3, Slc.v s18), (4, Slc.v t4_2), (5, Slc.v r23), (6, .int .i64 t6_2), (7, Slc.v t7_4)]) I5 μ5 (v73, v75, v77, v79, v81, v83, v85, v87, 0) H0 ⟨rfl, rfl, rfl, rfl, rfl, rfl, rfl, rfl, rfl, rfl, rfl, rfl, rfl, rfl, rfl, trivial⟩ ?_
          rintro ⟨t12_5, t13_5, t14_5, t15_5, t16_5, t17_5, t18_5, t19_5, t20_5⟩ h_5 H
          replace H := HI t12_5 t13_5 t14_5 t15_5 t16_5 t17_5 t18_5 t19_5 t20_5 h_5 H
          unfold ref02_Sum_l5b at H
          refine c_weak [(12, .int .u32 t12_5), (13, .int .u32 t13_5), (14, .int .u32 t14_5), (15, .int .u32 t15_5), (16, .int .u32 t16_5), (17, .int .u32 t17_5), (18, .int .u32 t18_5), (19, .int .u32 t19_5), (20, .int .i64 t20_5), (2, .pointer (some (⟨b1, 0, none⟩ : Addr))), (3, Slc.v s18), (4, Slc.v t4_2), (5, Slc.v r23), (6, .int .i64 t6_2), (7, Slc.v t7_4)] ⟨rfl, rfl, rfl, rfl, rfl, rfl, rfl, rfl, rfl, rfl, rfl, rfl, rfl, rfl, rfl, trivial⟩ ?_
          refine c_seq ?_
          refine c_seq ?_
          refine c_region ?_
          refine w_p tok rfl rfl rfl ?_
          refine w_p tok rfl rfl rfl ?_
          refine w_end ?_
          refine x_seq ?_
          refine c_if H rfl (fun H => ?_) (fun H => ?_)
          ·
            refine c_skip ?_
            refine x_seq ?_
            refine c_seq ?_
            refine c_block ?_
            refine c_seq ?_
            refine c_region ?_
            refine w_p tok rfl rfl rfl ?_
            refine w_call ref02_turn_ok (ref02_turn_ref _ _ _ _ H) rfl rfl rfl rfl ?_
            rintro _ h89 ⟨r88, rfl, H⟩
            refine w_p tok rfl rfl rfl ?_
            refine w_call ref02_turn_ok (ref02_turn_ref _ _ _ _ H) rfl rfl rfl rfl ?_
            rintro _ h91 ⟨r90, rfl, H⟩
            refine w_p tok rfl rfl rfl ?_
            refine w_p tok rfl rfl rfl ?_
            refine w_call ref02_turn_ok (ref02_turn_ref _ _ _ _ H) rfl rfl rfl rfl ?_
            rintro _ h93 ⟨r92, rfl, H⟩
            refine w_p tok rfl rfl rfl ?_
            obtain ⟨x94, ex94, H⟩ := H
            refine w_pe tok rfl (congrArg (fun z => (.int .u32 z : Value)) ex94) rfl rfl ?_
            refine w_end ?_
            refine x_seq ?_
            refine c_weak [(12, .int .u32 t12_5), (13, .int .u32 t13_5), (14, .int .u32 t14_5), (15, .int .u32 t15_5), (16, .int .u32 t16_5), (17, .int .u32 t17_5), (18, .int .u32 t18_5), (19, .int .u32 t19_5), (20, .int .i64 t20_5), (2, .pointer (some (⟨b1, 0, none⟩ : Addr))), (3, Slc.v s18), (4, Slc.v t4_2), (5, Slc.v r23), (6, .int .i64 t6_2), (7, Slc.v t7_4), (21, .int .u32 x94)] ⟨rfl, rfl, rfl, rfl, rfl, rfl, rfl, rfl, rfl, rfl, rfl, rfl, rfl, rfl, rfl, rfl, trivial⟩ ?_
            refine c_seq ?_
            refine c_draw (by kernel_rfl) (by kernel_rfl) ?_
            refine q_p tok rfl rfl rfl ?_
            refine q_p tok rfl rfl rfl ?_
            refine q_p tok rfl rfl rfl ?_
            refine q_p tok rfl rfl rfl ?_
            refine q_p tok rfl rfl rfl ?_
            refine q_p tok rfl rfl rfl ?_
            refine q_p tok rfl rfl rfl ?_
            refine q_p tok rfl rfl rfl ?_
            refine q_p tok rfl rfl rfl ?_
            refine q_p tok rfl rfl rfl ?_
            refine q_p tok rfl rfl rfl ?_
            refine q_p tok rfl rfl rfl ?_
            refine q_p tok rfl rfl rfl ?_
            refine q_p tok rfl rfl rfl ?_
            obtain ⟨a95, ha95, la95, ua95, H⟩ := H
            refine q_y (y_ixa' tok rfl rfl ha95 rfl rfl rfl la95 ua95) rfl rfl ?_
            obtain ⟨v96, hv96, H⟩ := H
            refine q_y (y_ld tok rfl rfl rfl rfl hv96) rfl rfl ?_
            refine q_p tok rfl rfl rfl ?_
            refine q_p tok rfl rfl rfl ?_
            refine q_p tok rfl rfl rfl ?_
            obtain ⟨a97, ha97, la97, ua97, H⟩ := H
            refine q_y (y_ixa' tok rfl rfl ha97 rfl rfl rfl la97 ua97) rfl rfl ?_
            obtain ⟨v98, hv98, H⟩ := H
            refine q_y (y_ld tok rfl rfl rfl rfl hv98) rfl rfl ?_
            refine q_p tok rfl rfl rfl ?_
            refine q_p tok rfl rfl rfl ?_
            refine q_end ?_
            refine x_seq ?_
            refine c_weak [(12, .int .u32 t12_5), (13, .int .u32 t13_5), (14, .int .u32 t14_5), (15, .int .u32 t15_5), (16, .int .u32 t16_5), (17, .int .u32 t17_5), (18, .int .u32 t18_5), (20, .int .i64 t20_5), (2, .pointer (some (⟨b1, 0, none⟩ : Addr))), (3, Slc.v s18), (4, Slc.v t4_2), (5, Slc.v r23), (6, .int .i64 t6_2), (7, Slc.v t7_4), (22, .int .u32 (IntKind.u32.wrap ((IntKind.u32.wrap ((IntKind.u32.wrap ((IntKind.u32.wrap (t19_5 + x94)) + (bwXor .u32 (bwAnd .u32 t16_5 t17_5) (bwAnd .u32 (IntKind.u32.wrap (4294967295 - t16_5)) t18_5)))) + v96)) + v98)))] ⟨rfl, rfl, rfl, rfl, rfl, rfl, rfl, rfl, rfl, rfl, rfl, rfl, rfl, rfl, rfl, trivial⟩ ?_
            refine c_seq ?_
            refine c_region ?_
            refine w_p tok rfl rfl rfl ?_
            refine w_call ref02_turn_ok (ref02_turn_ref _ _ _ _ H) rfl rfl rfl rfl ?_
            rintro _ h100 ⟨r99, rfl, H⟩
            refine w_p tok rfl rfl rfl ?_
            refine w_call ref02_turn_ok (ref02_turn_ref _ _ _ _ H) rfl rfl rfl rfl ?_
            rintro _ h102 ⟨r101, rfl, H⟩
            refine w_p tok rfl rfl rfl ?_
            refine w_p tok rfl rfl rfl ?_
            refine w_call ref02_turn_ok (ref02_turn_ref _ _ _ _ H) rfl rfl rfl rfl ?_
            rintro _ h104 ⟨r103, rfl, H⟩
            refine w_p tok rfl rfl rfl ?_
            refine w_p tok rfl rfl rfl ?_
            refine w_p tok rfl rfl rfl ?_
            refine w_p tok rfl rfl rfl ?_
            refine w_p tok rfl rfl rfl ?_
            refine w_p tok rfl rfl rfl ?_
            refine w_p tok rfl rfl rfl ?_
            refine w_p tok rfl rfl rfl ?_
            refine w_p tok rfl rfl rfl ?_
            refine w_p tok rfl rfl rfl ?_
            refine w_p tok rfl rfl rfl ?_
            refine w_p tok rfl rfl rfl ?_
            refine w_p tok rfl rfl rfl ?_
            obtain ⟨x105, ex105, H⟩ := H
            refine w_pe tok rfl (congrArg (fun z => (.int .u32 z : Value)) ex105) rfl rfl ?_
            refine w_end ?_
            refine x_seq ?_
            refine c_weak [(12, .int .u32 t12_5), (13, .int .u32 t13_5), (14, .int .u32 t14_5), (15, .int .u32 t15_5), (16, .int .u32 t16_5), (17, .int .u32 t17_5), (18, .int .u32 t18_5), (20, .int .i64 t20_5), (2, .pointer (some (⟨b1, 0, none⟩ : Addr))), (3, Slc.v s18), (4, Slc.v t4_2), (5, Slc.v r23), (6, .int .i64 t6_2), (7, Slc.v t7_4), (22, .int .u32 (IntKind.u32.wrap ((IntKind.u32.wrap ((IntKind.u32.wrap ((IntKind.u32.wrap (t19_5 + x94)) + (bwXor .u32 (bwAnd .u32 t16_5 t17_5) (bwAnd .u32 (IntKind.u32.wrap (4294967295 - t16_5)) t18_5)))) + v96)) + v98))), (23, .int .u32 x105)] ⟨rfl, rfl, rfl, rfl, rfl, rfl, rfl, rfl, rfl, rfl, rfl, rfl, rfl, rfl, rfl, rfl, trivial⟩ ?_
            refine c_seq ?_
            refine c_region ?_
            refine w_p tok rfl rfl rfl ?_
            refine w_p tok rfl rfl rfl ?_
            refine w_end ?_
            refine x_seq ?_
            refine c_seq ?_
            refine c_region ?_
            refine w_p tok rfl rfl rfl ?_
            refine w_p tok rfl rfl rfl ?_
            refine w_end ?_
            refine x_seq ?_
            refine c_seq ?_
            refine c_region ?_
            refine w_p tok rfl rfl rfl ?_
            refine w_p tok rfl rfl rfl ?_
            refine w_end ?_
            refine x_seq ?_
            refine c_seq ?_
            refine c_region ?_
            refine w_p tok rfl rfl rfl ?_
            refine w_p tok rfl rfl rfl ?_
            refine w_p tok rfl rfl rfl ?_
            obtain ⟨x106, ex106, H⟩ := H
            refine w_pe tok rfl (congrArg (fun z => (.int .u32 z : Value)) ex106) rfl rfl ?_
            refine w_end ?_
            refine x_seq ?_
            refine c_weak [(12, .int .u32 t12_5), (13, .int .u32 t13_5), (14, .int .u32 t14_5), (16, .int .u32 x106), (17, .int .u32 t16_5), (18, .int .u32 t17_5), (20, .int .i64 t20_5), (2, .pointer (some (⟨b1, 0, none⟩ : Addr))), (3, Slc.v s18), (4, Slc.v t4_2), (5, Slc.v r23), (6, .int .i64 t6_2), (7, Slc.v t7_4), (22, .int .u32 (IntKind.u32.wrap ((IntKind.u32.wrap ((IntKind.u32.wrap ((IntKind.u32.wrap (t19_5 + x94)) + (bwXor .u32 (bwAnd .u32 t16_5 t17_5) (bwAnd .u32 (IntKind.u32.wrap (4294967295 - t16_5)) t18_5)))) + v96)) + v98))), (23, .int .u32 x105), (19, .int .u32 t18_5)] ⟨rfl, rfl, rfl, rfl, rfl, rfl, rfl, rfl, rfl, rfl, rfl, rfl, rfl, rfl, rfl, rfl, trivial⟩ ?_
            refine c_seq ?_
            refine c_region ?_
            refine w_p tok rfl rfl rfl ?_
            refine w_p tok rfl rfl rfl ?_
            refine w_end ?_
            refine x_seq ?_
            refine c_seq ?_
            refine c_region ?_
            refine w_p tok rfl rfl rfl ?_
            refine w_p tok rfl rfl rfl ?_
            refine w_end ?_
            refine x_seq ?_
            refine c_seq ?_
            refine c_region ?_
            refine w_p tok rfl rfl rfl ?_
            refine w_p tok rfl rfl rfl ?_
            refine w_end ?_
            refine x_seq ?_
            refine c_region ?_
            refine w_p tok rfl rfl rfl ?_
            refine w_p tok rfl rfl rfl ?_
            refine w_p tok rfl rfl rfl ?_
            obtain ⟨x107, ex107, H⟩ := H
            refine w_pe tok rfl (congrArg (fun z => (.int .u32 z : Value)) ex107) rfl rfl ?_
            refine w_end ?_
            refine x_blk ?_
            refine x_seq ?_
            refine c_weak [(12, .int .u32 x107), (13, .int .u32 t12_5), (14, .int .u32 t13_5), (16, .int .u32 x106), (17, .int .u32 t16_5), (18, .int .u32 t17_5), (20, .int .i64 t20_5), (2, .pointer (some (⟨b1, 0, none⟩ : Addr))), (3, Slc.v s18), (4, Slc.v t4_2), (5, Slc.v r23), (6, .int .i64 t6_2), (7, Slc.v t7_4), (19, .int .u32 t18_5), (15, .int .u32 t14_5)] ⟨rfl, rfl, rfl, rfl, rfl, rfl, rfl, rfl, rfl, rfl, rfl, rfl, rfl, rfl, rfl, trivial⟩ ?_
            refine c_region ?_
            refine w_p tok rfl rfl rfl ?_
            refine w_p tok rfl rfl rfl ?_
            obtain ⟨x108, ex108, H⟩ := H
            refine w_pe tok rfl (congrArg (fun z => (.int .i64 z : Value)) ex108) rfl rfl ?_
            refine w_end ?_
            exact x_join (x107, t12_5, t13_5, t14_5, x106, t16_5, t17_5, t18_5, x108) H ⟨rfl, rfl, rfl, rfl, rfl, rfl, rfl, rfl, rfl, rfl, rfl, rfl, rfl, rfl, rfl, trivial⟩
          ·
            refine c_exit ?_
            refine x_te ?_
            refine x_te ?_
            refine x_bh ?_
            refine x_seq ?_
            refine c_sim [(2, .pointer (some (⟨b1, 0, none⟩ : Addr))), (3, Slc.v s18), (4, Slc.v t4_2), (5, Slc.v r23), (6, .int .i64 t6_2), (12, .int .u32 t12_5), (13, .int .u32 t13_5), (14, .int .u32 t14_5), (15, .int .u32 t15_5), (16, .int .u32 t16_5), (17, .int .u32 t17_5), (18, .int .u32 t18_5), (19, .int .u32 t19_5)] (by kernel_rfl) (by kernel_rfl) ⟨rfl, rfl, rfl, rfl, rfl, rfl, rfl, rfl, rfl, rfl, rfl, rfl, rfl, trivial⟩ (fun wf => ?_)
            refine sim_p 0 (ei := [(4, Slc.v t4_2)]) (d := (some 226)) wf (by kernel_rfl) ⟨rfl, trivial⟩ (by kernel_rfl) (by kernel_rfl) (fun _ => pf_p tok rfl rfl rfl rfl) (fun P_0 => ?_)
            obtain ⟨a109, ha109, la109, ua109, H⟩ := H
            refine sim_p 1 (ei := [(226, Slc.v t4_2)]) (d := (some 227)) wf (by kernel_rfl) ⟨rfl, trivial⟩ (by kernel_rfl) (by kernel_rfl) (fun _ => pf_y rfl rfl rfl (y_ixa' tok rfl rfl ha109 rfl rfl rfl la109 ua109)) (fun P_1 => ?_)
            obtain ⟨v110, hv110, H⟩ := H
            refine sim_l 2 (ei := [(227, .pointer (some (a109.add ((0 : Int).toNat * 1))))]) (d := (some 228)) wf (by kernel_rfl) ⟨rfl, trivial⟩ (by kernel_rfl) (by kernel_rfl) (pf_y rfl rfl rfl (y_ld tok rfl rfl rfl rfl hv110)) (fun P_2 => ?_)
            refine sim_p 3 (ei := [(12, .int .u32 t12_5)]) (d := (some 229)) wf (by kernel_rfl) ⟨rfl, trivial⟩ (by kernel_rfl) (by kernel_rfl) (fun _ => pf_p tok rfl rfl rfl rfl) (fun P_3 => ?_)
            refine sim_p 4 (ei := [(228, .int .u32 v110), (229, .int .u32 t12_5)]) (d := (some 230)) wf (by kernel_rfl) ⟨rfl, rfl, trivial⟩ (by kernel_rfl) (by kernel_rfl) (fun _ => pf_p tok rfl rfl rfl rfl) (fun P_4 => ?_)
            refine sim_p 5 (ei := [(4, Slc.v t4_2)]) (d := (some 231)) wf (by kernel_rfl) ⟨rfl, trivial⟩ (by kernel_rfl) (by kernel_rfl) (fun _ => pf_p tok rfl rfl rfl rfl) (fun P_5 => ?_)
            obtain ⟨a111, ha111, la111, ua111, H⟩ := H
            refine sim_p 6 (ei := [(231, Slc.v t4_2)]) (d := (some 232)) wf (by kernel_rfl) ⟨rfl, trivial⟩ (by kernel_rfl) (by kernel_rfl) (fun _ => pf_y rfl rfl rfl (y_ixa' tok rfl rfl ha111 rfl rfl rfl la111 ua111)) (fun P_6 => ?_)
            obtain ⟨v112, hv112, H⟩ := H
            refine sim_l 7 (ei := [(232, .pointer (some (a111.add ((1 : Int).toNat * 1))))]) (d := (some 233)) wf (by kernel_rfl) ⟨rfl, trivial⟩ (by kernel_rfl) (by kernel_rfl) (pf_y rfl rfl rfl (y_ld tok rfl rfl rfl rfl hv112)) (fun P_7 => ?_)
            refine sim_p 8 (ei := [(13, .int .u32 t13_5)]) (d := (some 234)) wf (by kernel_rfl) ⟨rfl, trivial⟩ (by kernel_rfl) (by kernel_rfl) (fun _ => pf_p tok rfl rfl rfl rfl) (fun P_8 => ?_)
            refine sim_p 9 (ei := [(233, .int .u32 v112), (234, .int .u32 t13_5)]) (d := (some 235)) wf (by kernel_rfl) ⟨rfl, rfl, trivial⟩ (by kernel_rfl) (by kernel_rfl) (fun _ => pf_p tok rfl rfl rfl rfl) (fun P_9 => ?_)
            refine sim_p 10 (ei := [(4, Slc.v t4_2)]) (d := (some 236)) wf (by kernel_rfl) ⟨rfl, trivial⟩ (by kernel_rfl) (by kernel_rfl) (fun _ => pf_p tok rfl rfl rfl rfl) (fun P_10 => ?_)
            obtain ⟨a113, ha113, la113, ua113, H⟩ := H
            refine sim_p 11 (ei := [(236, Slc.v t4_2)]) (d := (some 237)) wf (by kernel_rfl) ⟨rfl, trivial⟩ (by kernel_rfl) (by kernel_rfl) (fun _ => pf_y rfl rfl rfl (y_ixa' tok rfl rfl ha113 rfl rfl rfl la113 ua113)) (fun P_11 => ?_)
            obtain ⟨v114, hv114, H⟩ := H
            refine sim_l 12 (ei := [(237, .pointer (some (a113.add ((2 : Int).toNat * 1))))]) (d := (some 238)) wf (by kernel_rfl) ⟨rfl, trivial⟩ (by kernel_rfl) (by kernel_rfl) (pf_y rfl rfl rfl (y_ld tok rfl rfl rfl rfl hv114)) (fun P_12 => ?_)
            refine sim_p 13 (ei := [(14, .int .u32 t14_5)]) (d := (some 239)) wf (by kernel_rfl) ⟨rfl, trivial⟩ (by kernel_rfl) (by kernel_rfl) (fun _ => pf_p tok rfl rfl rfl rfl) (fun P_13 => ?_)
            refine sim_p 14 (ei := [(238, .int .u32 v114), (239, .int .u32 t14_5)]) (d := (some 240)) wf (by kernel_rfl) ⟨rfl, rfl, trivial⟩ (by kernel_rfl) (by kernel_rfl) (fun _ => pf_p tok rfl rfl rfl rfl) (fun P_14 => ?_)
            refine sim_p 15 (ei := [(4, Slc.v t4_2)]) (d := (some 241)) wf (by kernel_rfl) ⟨rfl, trivial⟩ (by kernel_rfl) (by kernel_rfl) (fun _ => pf_p tok rfl rfl rfl rfl) (fun P_15 => ?_)
            obtain ⟨a115, ha115, la115, ua115, H⟩ := H
            refine sim_p 16 (ei := [(241, Slc.v t4_2)]) (d := (some 242)) wf (by kernel_rfl) ⟨rfl, trivial⟩ (by kernel_rfl) (by kernel_rfl) (fun _ => pf_y rfl rfl rfl (y_ixa' tok rfl rfl ha115 rfl rfl rfl la115 ua115)) (fun P_16 => ?_)
            obtain ⟨v116, hv116, H⟩ := H
            refine sim_l 17 (ei := [(242, .pointer (some (a115.add ((3 : Int).toNat * 1))))]) (d := (some 243)) wf (by kernel_rfl) ⟨rfl, trivial⟩ (by kernel_rfl) (by kernel_rfl) (pf_y rfl rfl rfl (y_ld tok rfl rfl rfl rfl hv116)) (fun P_17 => ?_)
            refine sim_p 18 (ei := [(15, .int .u32 t15_5)]) (d := (some 244)) wf (by kernel_rfl) ⟨rfl, trivial⟩ (by kernel_rfl) (by kernel_rfl) (fun _ => pf_p tok rfl rfl rfl rfl) (fun P_18 => ?_)
            refine sim_p 19 (ei := [(243, .int .u32 v116), (244, .int .u32 t15_5)]) (d := (some 245)) wf (by kernel_rfl) ⟨rfl, rfl, trivial⟩ (by kernel_rfl) (by kernel_rfl) (fun _ => pf_p tok rfl rfl rfl rfl) (fun P_19 => ?_)
            refine sim_p 20 (ei := [(4, Slc.v t4_2)]) (d := (some 246)) wf (by kernel_rfl) ⟨rfl, trivial⟩ (by kernel_rfl) (by kernel_rfl) (fun _ => pf_p tok rfl rfl rfl rfl) (fun P_20 => ?_)
            obtain ⟨a117, ha117, la117, ua117, H⟩ := H
            refine sim_p 21 (ei := [(246, Slc.v t4_2)]) (d := (some 247)) wf (by kernel_rfl) ⟨rfl, trivial⟩ (by kernel_rfl) (by kernel_rfl) (fun _ => pf_y rfl rfl rfl (y_ixa' tok rfl rfl ha117 rfl rfl rfl la117 ua117)) (fun P_21 => ?_)
            obtain ⟨v118, hv118, H⟩ := H
            refine sim_l 22 (ei := [(247, .pointer (some (a117.add ((4 : Int).toNat * 1))))]) (d := (some 248)) wf (by kernel_rfl) ⟨rfl, trivial⟩ (by kernel_rfl) (by kernel_rfl) (pf_y rfl rfl rfl (y_ld tok rfl rfl rfl rfl hv118)) (fun P_22 => ?_)
            refine sim_p 23 (ei := [(16, .int .u32 t16_5)]) (d := (some 249)) wf (by kernel_rfl) ⟨rfl, trivial⟩ (by kernel_rfl) (by kernel_rfl) (fun _ => pf_p tok rfl rfl rfl rfl) (fun P_23 => ?_)
            refine sim_p 24 (ei := [(248, .int .u32 v118), (249, .int .u32 t16_5)]) (d := (some 250)) wf (by kernel_rfl) ⟨rfl, rfl, trivial⟩ (by kernel_rfl) (by kernel_rfl) (fun _ => pf_p tok rfl rfl rfl rfl) (fun P_24 => ?_)
            refine sim_p 25 (ei := [(4, Slc.v t4_2)]) (d := (some 251)) wf (by kernel_rfl) ⟨rfl, trivial⟩ (by kernel_rfl) (by kernel_rfl) (fun _ => pf_p tok rfl rfl rfl rfl) (fun P_25 => ?_)
            obtain ⟨a119, ha119, la119, ua119, H⟩ := H
            refine sim_p 26 (ei := [(251, Slc.v t4_2)]) (d := (some 252)) wf (by kernel_rfl) ⟨rfl, trivial⟩ (by kernel_rfl) (by kernel_rfl) (fun _ => pf_y rfl rfl rfl (y_ixa' tok rfl rfl ha119 rfl rfl rfl la119 ua119)) (fun P_26 => ?_)
            obtain ⟨v120, hv120, H⟩ := H
            refine sim_l 27 (ei := [(252, .pointer (some (a119.add ((5 : Int).toNat * 1))))]) (d := (some 253)) wf (by kernel_rfl) ⟨rfl, trivial⟩ (by kernel_rfl) (by kernel_rfl) (pf_y rfl rfl rfl (y_ld tok rfl rfl rfl rfl hv120)) (fun P_27 => ?_)
            refine sim_p 28 (ei := [(17, .int .u32 t17_5)]) (d := (some 254)) wf (by kernel_rfl) ⟨rfl, trivial⟩ (by kernel_rfl) (by kernel_rfl) (fun _ => pf_p tok rfl rfl rfl rfl) (fun P_28 => ?_)
            refine sim_p 29 (ei := [(253, .int .u32 v120), (254, .int .u32 t17_5)]) (d := (some 255)) wf (by kernel_rfl) ⟨rfl, rfl, trivial⟩ (by kernel_rfl) (by kernel_rfl) (fun _ => pf_p tok rfl rfl rfl rfl) (fun P_29 => ?_)
            refine sim_p 30 (ei := [(4, Slc.v t4_2)]) (d := (some 256)) wf (by kernel_rfl) ⟨rfl, trivial⟩ (by kernel_rfl) (by kernel_rfl) (fun _ => pf_p tok rfl rfl rfl rfl) (fun P_30 => ?_)
            obtain ⟨a121, ha121, la121, ua121, H⟩ := H
            refine sim_p 31 (ei := [(256, Slc.v t4_2)]) (d := (some 257)) wf (by kernel_rfl) ⟨rfl, trivial⟩ (by kernel_rfl) (by kernel_rfl) (fun _ => pf_y rfl rfl rfl (y_ixa' tok rfl rfl ha121 rfl rfl rfl la121 ua121)) (fun P_31 => ?_)
            obtain ⟨v122, hv122, H⟩ := H
            refine sim_l 32 (ei := [(257, .pointer (some (a121.add ((6 : Int).toNat * 1))))]) (d := (some 258)) wf (by kernel_rfl) ⟨rfl, trivial⟩ (by kernel_rfl) (by kernel_rfl) (pf_y rfl rfl rfl (y_ld tok rfl rfl rfl rfl hv122)) (fun P_32 => ?_)
            refine sim_p 33 (ei := [(18, .int .u32 t18_5)]) (d := (some 259)) wf (by kernel_rfl) ⟨rfl, trivial⟩ (by kernel_rfl) (by kernel_rfl) (fun _ => pf_p tok rfl rfl rfl rfl) (fun P_33 => ?_)
            refine sim_p 34 (ei := [(258, .int .u32 v122), (259, .int .u32 t18_5)]) (d := (some 260)) wf (by kernel_rfl) ⟨rfl, rfl, trivial⟩ (by kernel_rfl) (by kernel_rfl) (fun _ => pf_p tok rfl rfl rfl rfl) (fun P_34 => ?_)
            refine sim_p 35 (ei := [(4, Slc.v t4_2)]) (d := (some 261)) wf (by kernel_rfl) ⟨rfl, trivial⟩ (by kernel_rfl) (by kernel_rfl) (fun _ => pf_p tok rfl rfl rfl rfl) (fun P_35 => ?_)
            obtain ⟨a123, ha123, la123, ua123, H⟩ := H
            refine sim_p 36 (ei := [(261, Slc.v t4_2)]) (d := (some 262)) wf (by kernel_rfl) ⟨rfl, trivial⟩ (by kernel_rfl) (by kernel_rfl) (fun _ => pf_y rfl rfl rfl (y_ixa' tok rfl rfl ha123 rfl rfl rfl la123 ua123)) (fun P_36 => ?_)
            obtain ⟨v124, hv124, H⟩ := H
            refine sim_l 37 (ei := [(262, .pointer (some (a123.add ((7 : Int).toNat * 1))))]) (d := (some 263)) wf (by kernel_rfl) ⟨rfl, trivial⟩ (by kernel_rfl) (by kernel_rfl) (pf_y rfl rfl rfl (y_ld tok rfl rfl rfl rfl hv124)) (fun P_37 => ?_)
            refine sim_p 38 (ei := [(19, .int .u32 t19_5)]) (d := (some 264)) wf (by kernel_rfl) ⟨rfl, trivial⟩ (by kernel_rfl) (by kernel_rfl) (fun _ => pf_p tok rfl rfl rfl rfl) (fun P_38 => ?_)
            refine sim_p 39 (ei := [(263, .int .u32 v124), (264, .int .u32 t19_5)]) (d := (some 265)) wf (by kernel_rfl) ⟨rfl, rfl, trivial⟩ (by kernel_rfl) (by kernel_rfl) (fun _ => pf_p tok rfl rfl rfl rfl) (fun P_39 => ?_)
            obtain ⟨b125, h126, eb125, eh126, H⟩ := H
            refine sim_h 40 [0, 1, 2, 3, 4, 5, 6, 7, 8, 9, 10, 11, 12, 13, 14, 15, 16, 17, 18, 19, 20, 21, 22, 23, 24, 25, 26, 27, 28, 29, 30, 31, 32, 33, 34, 35, 36, 37, 38, 39] [0, 1, 2, 3, 4, 5, 6, 7, 8, 9, 10, 11, 12, 13, 14, 15, 16, 17, 18, 19, 20, 21, 22, 23, 24, 25, 26, 27, 28, 29, 30, 31, 32, 33, 34, 35, 36, 37, 38, 39] (ei := [(230, .int .u32 (IntKind.u32.wrap (v110 + t12_5))), (235, .int .u32 (IntKind.u32.wrap (v112 + t13_5))), (240, .int .u32 (IntKind.u32.wrap (v114 + t14_5))), (245, .int .u32 (IntKind.u32.wrap (v116 + t15_5))), (250, .int .u32 (IntKind.u32.wrap (v118 + t16_5))), (255, .int .u32 (IntKind.u32.wrap (v120 + t17_5))), (260, .int .u32 (IntKind.u32.wrap (v122 + t18_5))), (265, .int .u32 (IntKind.u32.wrap (v124 + t19_5)))]) wf ⟨P_39 _, P_38 _, P_37, P_36 _, P_35 _, P_34 _, P_33 _, P_32, P_31 _, P_30 _, P_29 _, P_28 _, P_27, P_26 _, P_25 _, P_24 _, P_23 _, P_22, P_21 _, P_20 _, P_19 _, P_18 _, P_17, P_16 _, P_15 _, P_14 _, P_13 _, P_12, P_11 _, P_10 _, P_9 _, P_8 _, P_7, P_6 _, P_5 _, P_4 _, P_3 _, P_2, P_1 _, P_0 _, trivial⟩ (by kernel_rfl) ⟨rfl, rfl, rfl, rfl, rfl, rfl, rfl, rfl, trivial⟩ (by kernel_rfl) rfl rfl rfl (h_bs tok rfl rfl rfl rfl rfl rfl rfl eb125 eh126) ?_
            refine sim_p 41 (ei := [(266, Slc.v (⟨some ⟨b125, 0, none⟩, 8, 8⟩ : Slc))]) (d := (some 4)) wf (by kernel_rfl) ⟨rfl, trivial⟩ (by kernel_rfl) (by kernel_rfl) (fun _ => pf_p tok rfl rfl rfl rfl) (fun P_41 => ?_)
            refine sim_end wf ⟨P_41 _, trivial, trivial, trivial, trivial, trivial, trivial, trivial, trivial, trivial, trivial, trivial, trivial, trivial, trivial, trivial, trivial, trivial, trivial, trivial, trivial, trivial, trivial, trivial, trivial, trivial, trivial, trivial, trivial, trivial, trivial, trivial, trivial, trivial, trivial, trivial, trivial, trivial, trivial, trivial, trivial, trivial⟩ (by kernel_rfl) ?_
            clear wf P_0 P_1 P_10 P_11 P_12 P_13 P_14 P_15 P_16 P_17 P_18 P_19 P_2 P_20 P_21 P_22 P_23 P_24 P_25 P_26 P_27 P_28 P_29 P_3 P_30 P_31 P_32 P_33 P_34 P_35 P_36 P_37 P_38 P_39 P_4 P_41 P_5 P_6 P_7 P_8 P_9
            refine x_blk ?_
            refine x_seq ?_
            refine c_weak [(2, .pointer (some (⟨b1, 0, none⟩ : Addr))), (3, Slc.v s18), (4, Slc.v (⟨some ⟨b125, 0, none⟩, 8, 8⟩ : Slc)), (5, Slc.v r23), (6, .int .i64 t6_2)] ⟨rfl, rfl, rfl, rfl, rfl, trivial⟩ ?_
            refine c_region ?_
            refine w_p tok rfl rfl rfl ?_
            refine w_p tok rfl rfl rfl ?_
            obtain ⟨x127, ex127, H⟩ := H
            refine w_pe tok rfl (congrArg (fun z => (.int .i64 z : Value)) ex127) rfl rfl ?_
            refine w_end ?_
            exact x_join ((⟨some ⟨b125, 0, none⟩, 8, 8⟩ : Slc), x127) H ⟨rfl, rfl, rfl, rfl, rfl, trivial⟩
    ·
      refine c_exit ?_
      refine x_te ?_
      refine x_te ?_
      refine x_bh ?_
      refine x_seq ?_
      refine c_weak [(4, Slc.v t4_2), (2, .pointer (some (⟨b1, 0, none⟩ : Addr)))] ⟨rfl, rfl, trivial⟩ ?_
      refine c_seq ?_
      refine c_region ?_
      obtain ⟨b128, h129, eb128, eh129, H⟩ := H
      refine w_h (h_alloc tok rfl rfl eb128 eh129) rfl rfl ?_
      refine w_end ?_
      refine x_seq ?_
      refine c_seq ?_
      refine c_seq ?_
      refine c_region ?_
      refine w_p tok rfl rfl rfl ?_
      refine w_end ?_
      refine x_seq ?_
      refine c_block ?_
      obtain ⟨I6, μ6, H0, HI⟩ := H
      refine c_loop (σ := Int) (fun (s : Int) => [(25, .int .i64 s), (2, .pointer (some (⟨b1, 0, none⟩ : Addr))), (4, Slc.v t4_2), (24, .pointer (some (⟨b128, 0, none⟩ : Addr)))]) I6 μ6 0 H0 ⟨rfl, rfl, rfl, rfl, trivial⟩ ?_
      rintro t25_6 h_6 H
      replace H := HI t25_6 h_6 H
      unfold ref02_Sum_l6b at H
      refine c_weak [(25, .int .i64 t25_6), (2, .pointer (some (⟨b1, 0, none⟩ : Addr))), (4, Slc.v t4_2), (24, .pointer (some (⟨b128, 0, none⟩ : Addr)))] ⟨rfl, rfl, rfl, rfl, trivial⟩ ?_
      refine c_seq ?_
      refine c_seq ?_
      refine c_region ?_
      refine w_p tok rfl rfl rfl ?_
      refine w_p tok rfl rfl rfl ?_
      refine w_end ?_
      refine x_seq ?_
      refine c_if H rfl (fun H => ?_) (fun H => ?_)
      ·
        refine c_skip ?_
        refine x_seq ?_
        refine c_seq ?_
        refine c_block ?_
        refine c_region ?_
        refine w_p tok rfl rfl rfl ?_
        refine w_p tok rfl rfl rfl ?_
        refine w_p tok rfl rfl rfl ?_
        refine w_p tok rfl rfl rfl ?_
        obtain ⟨a130, ha130, la130, ua130, H⟩ := H
        refine w_y (y_ixa' tok rfl rfl ha130 rfl rfl rfl la130 ua130) rfl rfl ?_
        obtain ⟨v131, hv131, H⟩ := H
        refine w_y (y_ld tok rfl rfl rfl rfl hv131) rfl rfl ?_
        refine w_p tok rfl rfl rfl ?_
        refine w_call ref02_high_ok (ref02_high_ref _ _ _ _ H) rfl rfl rfl rfl ?_
        rintro _ h133 ⟨r132, rfl, H⟩
        refine w_p tok rfl rfl rfl ?_
        refine w_p tok rfl rfl rfl ?_
        obtain ⟨a134, ha134, la134, ua134, H⟩ := H
        refine w_y (y_ixa' tok rfl rfl ha134 rfl rfl rfl la134 ua134) rfl rfl ?_
        obtain ⟨v135, hv135, H⟩ := H
        refine w_y (y_ld tok rfl rfl rfl rfl hv135) rfl rfl ?_
        obtain ⟨lb136, ub136, H⟩ := H
        refine w_y (y_ixp tok rfl rfl rfl rfl rfl lb136 ub136) rfl rfl ?_
        obtain ⟨h137, wh137, eh137, H⟩ := H
        refine w_h (h_st tok rfl rfl rfl rfl rfl rfl wh137 eh137) rfl rfl ?_
        refine w_end ?_
        refine x_blk ?_
        refine x_seq ?_
        refine c_weak [(25, .int .i64 t25_6), (2, .pointer (some (⟨b1, 0, none⟩ : Addr))), (4, Slc.v t4_2), (24, .pointer (some (⟨b128, 0, none⟩ : Addr)))] ⟨rfl, rfl, rfl, rfl, trivial⟩ ?_
        refine c_region ?_
        refine w_p tok rfl rfl rfl ?_
        refine w_p tok rfl rfl rfl ?_
        obtain ⟨x138, ex138, H⟩ := H
        refine w_pe tok rfl (congrArg (fun z => (.int .i64 z : Value)) ex138) rfl rfl ?_
        refine w_end ?_
        exact x_join x138 H ⟨rfl, rfl, rfl, rfl, trivial⟩
      ·
        refine c_exit ?_
        refine x_te ?_
        refine x_te ?_
        refine x_bh ?_
        refine x_seq ?_
        refine c_seq ?_
        refine c_region ?_
        obtain ⟨v139, hv139, H⟩ := H
        refine w_y (y_lda tok rfl rfl rfl rfl rfl hv139) rfl rfl ?_
        obtain ⟨h140, wh140, eh140, H⟩ := H
        refine w_h (h_sts tok rfl rfl rfl rfl rfl (oneC (by kernel_rfl)) wh140 eh140) rfl rfl ?_
        refine w_end ?_
        refine x_seq ?_
        refine c_ret ?_
        obtain ⟨v141, hv141, H⟩ := H
        exact x_retc tok _ rfl [.agg (arr 32 .u8 v141).toArray] ⟨⟨_, _, rfl, rfl, .inr ⟨rfl, _, rfl, rfl, hv141⟩⟩, trivial⟩ ⟨v141, rfl, H⟩

theorem ref10_Lay_ok : CallOk Go.Proofs.Tryd.prog 16 := ⟨_, Go.Proofs.Tryd.func16, by kernel_rfl, by kernel_rfl⟩
theorem ref10_Lay_ref (p0 : Slc) (p1 : Int) (k : (Slc) → Heap → Prop) (h : Heap) (H : ref10_Lay p0 p1 k h) : CallsH Go.Proofs.Tryd.prog 16 #[Slc.v p0, .int .u64 p1] h (fun v h' => ∃ r : Slc, v = Slc.v r ∧ k r h') := by
  refine f_enter (N := 67) Go.Proofs.Tryd.func16 rfl rfl rfl (fun w0 => ?_)
  unfold ref10_Lay at H
  refine c_weak [(0, Slc.v p0), (1, .int .u64 p1)] ⟨rfl, rfl, trivial⟩ ?_
  refine c_seq ?_
  refine c_region ?_
  refine w_p tok rfl rfl rfl ?_
  refine w_end ?_
  refine x_seq ?_
  refine c_seq ?_
  refine c_region ?_
  refine w_p tok rfl rfl rfl ?_
  refine w_p tok rfl rfl rfl ?_
  refine w_p tok rfl rfl rfl ?_
  refine w_p tok rfl rfl rfl ?_
  obtain ⟨x1, ex1, H⟩ := H
  refine w_pe tok rfl (congrArg (fun z => (.int .i64 z : Value)) ex1) rfl rfl ?_
  refine w_end ?_
  refine x_seq ?_
  refine c_seqJ (α := Int) (fun (s : Int) => [(5, .int .i64 s), (0, Slc.v p0), (1, .int .u64 p1)]) (fun (s : Int) h => ref10_Lay_j1 p0 p1 s k h) ?_ ?_
  ·
    rintro t5_1 h_1 H
    replace H : ref10_Lay_j1 p0 p1 t5_1 k h_1 := H
    unfold ref10_Lay_j1 at H
    refine c_weak [(5, .int .i64 t5_1), (0, Slc.v p0), (1, .int .u64 p1)] ⟨rfl, rfl, rfl, trivial⟩ ?_
    refine c_seq ?_
    refine c_region ?_
    refine w_p tok rfl rfl rfl ?_
    refine w_call ref02_Sum_ok (ref02_Sum_ref _ _ _ H) rfl rfl rfl rfl ?_
    rintro _ h3 ⟨r2, rfl, H⟩
    obtain ⟨b4, h5, eb4, eh5, H⟩ := H
    refine w_h (h_alloc tok rfl rfl eb4 eh5) rfl rfl ?_
    obtain ⟨h6, wh6, eh6, H⟩ := H
    refine w_h (h_sts tok rfl rfl rfl rfl rfl (oneC (by kernel_rfl)) wh6 eh6) rfl rfl ?_
    refine w_end ?_
    refine x_seq ?_
    refine c_seq ?_
    refine c_region ?_
    refine w_p tok rfl rfl rfl ?_
    refine w_end ?_
    refine x_seq ?_
    refine c_seq ?_
    refine c_seq ?_
    refine c_region ?_
    refine w_p tok rfl rfl rfl ?_
    refine w_end ?_
    refine x_seq ?_
    refine c_block ?_
    obtain ⟨I2, μ2, H0, HI⟩ := H
    refine c_loop (σ := Slc × Int) (fun (s : Slc × Int) => [(7, Slc.v s.1), (8, .int .i64 s.2), (0, Slc.v p0), (1, .int .u64 p1), (5, .int .i64 t5_1), (6, .pointer (some (⟨b4, 0, none⟩ : Addr)))]) I2 μ2 ((⟨none, 0, 0⟩ : Slc), 0) H0 ⟨rfl, rfl, rfl, rfl, rfl, rfl, trivial⟩ ?_
    rintro ⟨t7_2, t8_2⟩ h_2 H
    replace H := HI t7_2 t8_2 h_2 H
    unfold ref10_Lay_l2b at H
    refine c_weak [(7, Slc.v t7_2), (8, .int .i64 t8_2), (0, Slc.v p0), (1, .int .u64 p1), (5, .int .i64 t5_1), (6, .pointer (some (⟨b4, 0, none⟩ : Addr)))] ⟨rfl, rfl, rfl, rfl, rfl, rfl, trivial⟩ ?_
    refine c_seq ?_
    refine c_seq ?_
    refine c_region ?_
    refine w_p tok rfl rfl rfl ?_
    refine w_p tok rfl rfl rfl ?_
    refine w_p tok rfl rfl rfl ?_
    refine w_end ?_
    refine x_seq ?_
    refine c_if H rfl (fun H => ?_) (fun H => ?_)
    ·
      refine c_skip ?_
      refine x_seq ?_
      refine c_seq ?_
      refine c_block ?_
      refine c_seq ?_
      refine c_region ?_
      refine w_p tok rfl rfl rfl ?_
      refine w_call ref01_Form_ok (ref01_Form_ref _ _ _ _ H) rfl rfl rfl rfl ?_
      rintro _ h8 ⟨r7, rfl, H⟩
      refine w_p tok rfl rfl rfl ?_
      refine w_end ?_
      refine x_seq ?_
      refine c_seq ?_
      refine c_region ?_
      refine w_p tok rfl rfl rfl ?_
      refine w_p tok rfl rfl rfl ?_
      refine w_p tok rfl rfl rfl ?_
      refine w_call ref01_Form_ok (ref01_Form_ref _ _ _ _ H) rfl rfl rfl rfl ?_
      rintro _ h10 ⟨r9, rfl, H⟩
      obtain ⟨l13, hl13, H⟩ := H
      refine w_a (a_app (s := r7) (r := r9) tok rfl rfl rfl rfl rfl hl13 H) rfl rfl ?_
      rintro _ h12 ⟨s11, rfl, H⟩
      refine w_p tok rfl rfl rfl ?_
      refine w_end ?_
      refine x_seq ?_
      refine c_weak [(7, Slc.v t7_2), (8, .int .i64 t8_2), (0, Slc.v p0), (1, .int .u64 p1), (5, .int .i64 t5_1), (6, .pointer (some (⟨b4, 0, none⟩ : Addr))), (9, Slc.v s11)] ⟨rfl, rfl, rfl, rfl, rfl, rfl, rfl, trivial⟩ ?_
      refine c_seq ?_
      refine c_region ?_
      refine w_p tok rfl rfl rfl ?_
      refine w_p tok rfl rfl rfl ?_
      refine w_p tok rfl rfl rfl ?_
      refine w_call ref01_Form_ok (ref01_Form_ref _ _ _ _ H) rfl rfl rfl rfl ?_
      rintro _ h15 ⟨r14, rfl, H⟩
      obtain ⟨l18, hl18, H⟩ := H
      refine w_a (a_app (s := s11) (r := r14) tok rfl rfl rfl rfl rfl hl18 H) rfl rfl ?_
      rintro _ h17 ⟨s16, rfl, H⟩
      refine w_p tok rfl rfl rfl ?_
      refine w_end ?_
      refine x_seq ?_
      refine c_seq ?_
      refine c_region ?_
      refine w_p tok rfl rfl rfl ?_
      refine w_p tok rfl rfl rfl ?_
      refine w_p tok rfl rfl rfl ?_
      refine w_p tok rfl rfl rfl ?_
      refine w_call ref01_Form_ok (ref01_Form_ref _ _ _ _ H) rfl rfl rfl rfl ?_
      rintro _ h20 ⟨r19, rfl, H⟩
      obtain ⟨l23, hl23, H⟩ := H
      refine w_a (a_app (s := s16) (r := r19) tok rfl rfl rfl rfl rfl hl23 H) rfl rfl ?_
      rintro _ h22 ⟨s21, rfl, H⟩
      refine w_p tok rfl rfl rfl ?_
      refine w_end ?_
      refine x_seq ?_
      refine c_weak [(7, Slc.v t7_2), (8, .int .i64 t8_2), (0, Slc.v p0), (1, .int .u64 p1), (5, .int .i64 t5_1), (6, .pointer (some (⟨b4, 0, none⟩ : Addr))), (9, Slc.v s21)] ⟨rfl, rfl, rfl, rfl, rfl, rfl, rfl, trivial⟩ ?_
      refine c_seq ?_
      refine c_region ?_
      refine w_p tok rfl rfl rfl ?_
      obtain ⟨s24, ps24, qs24, rs24, es24, H⟩ := H
      refine w_ye (y_sla (L := 0) (H := 8) tok rfl rfl rfl rfl rfl rfl ps24 qs24 rs24) (congrArg Slc.v es24) rfl rfl ?_
      obtain ⟨l27, hl27, H⟩ := H
      refine w_a (a_app (s := s21) (r := s24) tok rfl rfl rfl rfl rfl hl27 H) rfl rfl ?_
      rintro _ h26 ⟨s25, rfl, H⟩
      refine w_p tok rfl rfl rfl ?_
      refine w_end ?_
      refine x_seq ?_
      refine c_seq ?_
      refine c_region ?_
      refine w_p tok rfl rfl rfl ?_
      refine w_p tok rfl rfl rfl ?_
      refine w_p tok rfl rfl rfl ?_
      refine w_p tok rfl rfl rfl ?_
      refine w_p tok rfl rfl rfl ?_
      refine w_p tok rfl rfl rfl ?_
      refine w_p tok rfl rfl rfl ?_
      refine w_p tok rfl rfl rfl ?_
      refine w_p tok rfl rfl rfl ?_
      refine w_p tok rfl rfl rfl ?_
      obtain ⟨s28, ps28, qs28, rs28, ts28, es28, H⟩ := H
      refine w_ye (y_sl (s := p0) (L := (IntKind.i64.wrap (t8_2 * 104))) (H := (if (IntKind.i64.wrap ((IntKind.i64.wrap (t8_2 * 104)) + 104)) < (p0.len : Int) then (IntKind.i64.wrap ((IntKind.i64.wrap (t8_2 * 104)) + 104)) else (p0.len : Int))) (M := (p0.cap : Int)) tok rfl rfl rfl rfl rfl rfl rfl (by simp) ps28 qs28 rs28 ts28) (congrArg Slc.v es28) rfl rfl ?_
      obtain ⟨l31, hl31, H⟩ := H
      refine w_a (a_app (s := s25) (r := s28) tok rfl rfl rfl rfl rfl hl31 H) rfl rfl ?_
      rintro _ h30 ⟨s29, rfl, H⟩
      refine w_p tok rfl rfl rfl ?_
      refine w_end ?_
      refine x_seq ?_
      refine c_weak [(7, Slc.v t7_2), (8, .int .i64 t8_2), (0, Slc.v p0), (1, .int .u64 p1), (5, .int .i64 t5_1), (6, .pointer (some (⟨b4, 0, none⟩ : Addr))), (9, Slc.v s29)] ⟨rfl, rfl, rfl, rfl, rfl, rfl, rfl, trivial⟩ ?_
      refine c_seq ?_
      refine c_block ?_
      obtain ⟨I3, μ3, H0, HI⟩ := H
      refine c_loop (σ := Slc) (fun (s : Slc) => [(9, Slc.v s), (0, Slc.v p0), (1, .int .u64 p1), (5, .int .i64 t5_1), (6, .pointer (some (⟨b4, 0, none⟩ : Addr))), (7, Slc.v t7_2), (8, .int .i64 t8_2)]) I3 μ3 s29 H0 ⟨rfl, rfl, rfl, rfl, rfl, rfl, rfl, trivial⟩ ?_
      rintro t9_3 h_3 H
      replace H := HI t9_3 h_3 H
      unfold ref10_Lay_l3b at H
      refine c_weak [(9, Slc.v t9_3), (0, Slc.v p0), (1, .int .u64 p1), (5, .int .i64 t5_1), (6, .pointer (some (⟨b4, 0, none⟩ : Addr))), (7, Slc.v t7_2), (8, .int .i64 t8_2)] ⟨rfl, rfl, rfl, rfl, rfl, rfl, rfl, trivial⟩ ?_
      refine c_seq ?_
      refine c_seq ?_
      refine c_region ?_
      refine w_p tok rfl rfl rfl ?_
      refine w_p tok rfl rfl rfl ?_
      refine w_p tok rfl rfl rfl ?_
      refine w_end ?_
      refine x_seq ?_
      refine c_if H rfl (fun H => ?_) (fun H => ?_)
      ·
        refine c_skip ?_
        refine x_seq ?_
        refine c_block ?_
        refine c_region ?_
        refine w_p tok rfl rfl rfl ?_
        obtain ⟨b32, h33, eb32, eh33, H⟩ := H
        refine w_h (h_bs tok rfl rfl rfl rfl rfl rfl rfl eb32 eh33) rfl rfl ?_
        refine w_a (a_app (s := t9_3) (r := (⟨some ⟨b32, 0, none⟩, 1, 1⟩ : Slc)) tok rfl rfl rfl rfl rfl (slcAt_push eb32 eh33) H) rfl rfl ?_
        rintro _ h35 ⟨s34, rfl, H⟩
        refine w_p tok rfl rfl rfl ?_
        refine w_end ?_
        refine x_blk ?_
        exact x_join s34 H ⟨rfl, rfl, rfl, rfl, rfl, rfl, rfl, trivial⟩
      ·
        refine c_exit ?_
        refine x_te ?_
        refine x_te ?_
        refine x_bh ?_
        refine x_seq ?_
        refine c_region ?_
        refine w_p tok rfl rfl rfl ?_
        refine w_p tok rfl rfl rfl ?_
        obtain ⟨b36, h37, eb36, eh37, H⟩ := H
        refine w_h (h_bs tok rfl rfl rfl rfl rfl rfl rfl eb36 eh37) rfl rfl ?_
        refine w_a (a_app (s := t7_2) (r := (⟨some ⟨b36, 0, none⟩, 1, 1⟩ : Slc)) tok rfl rfl rfl rfl rfl (slcAt_push eb36 eh37) H) rfl rfl ?_
        rintro _ h39 ⟨s38, rfl, H⟩
        refine w_p tok rfl rfl rfl ?_
        refine w_end ?_
        refine x_blk ?_
        refine x_seq ?_
        refine c_weak [(0, Slc.v p0), (1, .int .u64 p1), (5, .int .i64 t5_1), (6, .pointer (some (⟨b4, 0, none⟩ : Addr))), (7, Slc.v s38), (8, .int .i64 t8_2)] ⟨rfl, rfl, rfl, rfl, rfl, rfl, trivial⟩ ?_
        refine c_region ?_
        refine w_p tok rfl rfl rfl ?_
        refine w_p tok rfl rfl rfl ?_
        obtain ⟨x40, ex40, H⟩ := H
        refine w_pe tok rfl (congrArg (fun z => (.int .i64 z : Value)) ex40) rfl rfl ?_
        refine w_end ?_
        exact x_join (s38, x40) H ⟨rfl, rfl, rfl, rfl, rfl, rfl, trivial⟩
    ·
      refine c_exit ?_
      refine x_te ?_
      refine x_te ?_
      refine x_bh ?_
      refine x_seq ?_
      refine c_weak [(7, Slc.v t7_2)] ⟨rfl, trivial⟩ ?_
      refine c_seq ?_
      refine c_region ?_
      refine w_p tok rfl rfl rfl ?_
      refine w_p tok rfl rfl rfl ?_
      refine w_end ?_
      refine x_seq ?_
      refine c_ret ?_
      exact x_ret _ rfl _ rfl ⟨t7_2, rfl, H⟩
  ·
    refine c_seq ?_
    refine c_region ?_
    refine w_p tok rfl rfl rfl ?_
    refine w_p tok rfl rfl rfl ?_
    refine w_end ?_
    refine x_seq ?_
    refine c_if H rfl (fun H => ?_) (fun H => ?_)
    ·
      refine c_region ?_
      refine w_p tok rfl rfl rfl ?_
      refine w_end ?_
      exact x_join 1 H ⟨rfl, rfl, rfl, trivial⟩
    ·
      refine c_skip ?_
      exact x_join x1 H ⟨rfl, rfl, rfl, trivial⟩

theorem law10_SlotWipes_ok : CallOk Go.Proofs.Tryd.prog 4 := ⟨_, Go.Proofs.Tryd.func4, by kernel_rfl, by kernel_rfl⟩
theorem law10_SlotWipes_ref (p0 : Slc) (p1 : Slc) (k : (Bool) → Heap → Prop) (h : Heap) (H : law10_SlotWipes p0 p1 k h) : CallsH Go.Proofs.Tryd.prog 4 #[Slc.v p0, Slc.v p1] h (fun v h' => ∃ r : Bool, v = .bool r ∧ k r h') := by
  refine f_enter (N := 129) Go.Proofs.Tryd.func4 rfl rfl rfl (fun w0 => ?_)
  unfold law10_SlotWipes at H
  refine c_weak [(0, Slc.v p0), (1, Slc.v p1)] ⟨rfl, rfl, trivial⟩ ?_
  refine c_seq ?_
  refine c_region ?_
  refine w_p tok rfl rfl rfl ?_
  refine w_end ?_
  refine x_seq ?_
  refine c_seq ?_
  refine c_seq ?_
  refine c_region ?_
  refine w_p tok rfl rfl rfl ?_
  refine w_p tok rfl rfl rfl ?_
  refine w_p tok rfl rfl rfl ?_
  refine w_p tok rfl rfl rfl ?_
  refine w_cutU 4 [(29, .bool ((decide ((p0.len : Int) > 8)) || (decide ((p1.len : Int) > 600)))), (0, Slc.v p0), (1, Slc.v p1)] ?_ ?_
  ·
    refine w_end ?_
    refine x_seq ?_
    refine c_if H rfl (fun H => ?_) (fun H => ?_)
    ·
      refine c_seq ?_
      refine c_region ?_
      refine w_call law10_awake_ok (law10_awake_ref  _ _ H) rfl rfl rfl rfl ?_
      rintro _ h2 ⟨r1, rfl, H⟩
      refine w_p tok rfl rfl rfl ?_
      refine w_end ?_
      refine x_seq ?_
      refine c_ret ?_
      refine x_tr ?_
      exact x_ret _ rfl _ rfl ⟨r1, rfl, H⟩
    ·
      refine c_skip ?_
      refine x_seq ?_
      refine c_seq ?_
      refine c_region ?_
      refine w_call disk_New_ok (disk_New_ref  _ _ H) rfl rfl rfl rfl ?_
      rintro _ h4 ⟨r3, rfl, H⟩
      refine w_p tok rfl rfl rfl ?_
      refine w_end ?_
      refine x_seq ?_
      refine c_seq ?_
      refine c_region ?_
      refine w_p tok rfl rfl rfl ?_
      refine w_call slot_Open_ok (slot_Open_ref _ _ _ _ _ H) rfl rfl rfl rfl ?_
      rintro _ h6 ⟨r5, rfl, H⟩
      refine w_p tok rfl rfl rfl ?_
      refine w_p tok rfl rfl rfl ?_
      refine w_p tok rfl rfl rfl ?_
      refine w_p tok rfl rfl rfl ?_
      refine w_p tok rfl rfl rfl ?_
      refine w_end ?_
      refine x_seq ?_
      refine c_weak [(0, Slc.v p0), (1, Slc.v p1), (5, .pointer r3), (6, .pointer r5.1)] ⟨rfl, rfl, rfl, rfl, trivial⟩ ?_
      refine c_seq ?_
      refine c_seq ?_
      refine c_region ?_
      refine w_p tok rfl rfl rfl ?_
      refine w_end ?_
      refine x_seq ?_
      refine c_block ?_
      obtain ⟨I1, μ1, H0, HI⟩ := H
      refine c_loop (σ := Int) (fun (s : Int) => [(8, .int .i64 s), (0, Slc.v p0), (1, Slc.v p1), (5, .pointer r3), (6, .pointer r5.1)]) I1 μ1 0 H0 ⟨rfl, rfl, rfl, rfl, rfl, trivial⟩ ?_
      rintro t8_1 h_1 H
      replace H := HI t8_1 h_1 H
      unfold law10_SlotWipes_l1b at H
      refine c_weak [(8, .int .i64 t8_1), (0, Slc.v p0), (1, Slc.v p1), (5, .pointer r3), (6, .pointer r5.1)] ⟨rfl, rfl, rfl, rfl, rfl, trivial⟩ ?_
      refine c_seq ?_
      refine c_seq ?_
      refine c_region ?_
      refine w_p tok rfl rfl rfl ?_
      refine w_p tok rfl rfl rfl ?_
      refine w_p tok rfl rfl rfl ?_
      refine w_p tok rfl rfl rfl ?_
      refine w_end ?_
      refine x_seq ?_
      refine c_if H rfl (fun H => ?_) (fun H => ?_)
      ·
        refine c_skip ?_
        refine x_seq ?_
        refine c_seq ?_
        refine c_block ?_
        refine c_seq ?_
        refine c_seq ?_
        refine c_region ?_
        refine w_p tok rfl rfl rfl ?_
        refine w_p tok rfl rfl rfl ?_
        obtain ⟨a7, ha7, la7, ua7, H⟩ := H
        refine w_y (y_ixa' tok rfl rfl ha7 rfl rfl rfl la7 ua7) rfl rfl ?_
        obtain ⟨v8, hv8, H⟩ := H
        refine w_y (y_ld tok rfl rfl rfl rfl hv8) rfl rfl ?_
        refine w_p tok rfl rfl rfl ?_
        refine w_p tok rfl rfl rfl ?_
        refine w_end ?_
        refine x_seq ?_
        refine c_weak [(8, .int .i64 t8_1), (0, Slc.v p0), (1, Slc.v p1), (5, .pointer r3), (6, .pointer r5.1), (48, .bool (decide ((v8.len : Int) > 600)))] ⟨rfl, rfl, rfl, rfl, rfl, rfl, trivial⟩ ?_
        refine c_if H rfl (fun H => ?_) (fun H => ?_)
        ·
          refine c_seq ?_
          refine c_region ?_
          refine w_call law10_awake_ok (law10_awake_ref  _ _ H) rfl rfl rfl rfl ?_
          rintro _ h10 ⟨r9, rfl, H⟩
          refine w_p tok rfl rfl rfl ?_
          refine w_end ?_
          refine x_seq ?_
          refine c_weak [(4, .bool r9)] ⟨rfl, trivial⟩ ?_
          refine c_ret ?_
          refine x_tr ?_
          refine x_br ?_
          refine x_tr ?_
          refine x_tr ?_
          refine x_br ?_
          refine x_tr ?_
          exact x_ret _ rfl _ rfl ⟨r9, rfl, H⟩
        ·
          refine c_skip ?_
          refine x_seq ?_
          refine c_region ?_
          refine w_p tok rfl rfl rfl ?_
          refine w_p tok rfl rfl rfl ?_
          refine w_p tok rfl rfl rfl ?_
          obtain ⟨a11, ha11, la11, ua11, H⟩ := H
          refine w_y (y_ixa' tok rfl rfl ha11 rfl rfl rfl la11 ua11) rfl rfl ?_
          obtain ⟨v12, hv12, H⟩ := H
          refine w_y (y_ld tok rfl rfl rfl rfl hv12) rfl rfl ?_
          refine w_call slot_Pair_Save_ok (slot_Pair_Save_ref _ _ _ _ H) rfl rfl rfl rfl ?_
          rintro _ h14 ⟨r13, rfl, H⟩
          refine w_end ?_
          refine x_blk ?_
          refine x_seq ?_
          refine c_weak [(8, .int .i64 t8_1), (0, Slc.v p0), (1, Slc.v p1), (5, .pointer r3), (6, .pointer r5.1)] ⟨rfl, rfl, rfl, rfl, rfl, trivial⟩ ?_
          refine c_region ?_
          refine w_p tok rfl rfl rfl ?_
          refine w_p tok rfl rfl rfl ?_
          obtain ⟨x15, ex15, H⟩ := H
          refine w_pe tok rfl (congrArg (fun z => (.int .i64 z : Value)) ex15) rfl rfl ?_
          refine w_end ?_
          exact x_join x15 H ⟨rfl, rfl, rfl, rfl, rfl, trivial⟩
      ·
        refine c_exit ?_
        refine x_te ?_
        refine x_te ?_
        refine x_bh ?_
        refine x_seq ?_
        refine c_seq ?_
        refine c_region ?_
        refine w_p tok rfl rfl rfl ?_
        refine w_p tok rfl rfl rfl ?_
        refine w_call slot_Pair_Wipe_ok (slot_Pair_Wipe_ref _ _ _ _ H) rfl rfl rfl rfl ?_
        rintro _ h17 ⟨r16, rfl, H⟩
        refine w_p tok rfl rfl rfl ?_
        refine w_p tok rfl rfl rfl ?_
        refine w_p tok rfl rfl rfl ?_
        refine w_p tok rfl rfl rfl ?_
        refine w_p tok rfl rfl rfl ?_
        refine w_end ?_
        refine x_seq ?_
        refine c_weak [(1, Slc.v p1), (5, .pointer r3), (9, .int .u64 r16.1), (10, .int .i64 r16.2)] ⟨rfl, rfl, rfl, rfl, trivial⟩ ?_
        refine c_seq ?_
        refine c_seq ?_
        refine c_region ?_
        refine w_p tok rfl rfl rfl ?_
        refine w_p tok rfl rfl rfl ?_
        refine w_p tok rfl rfl rfl ?_
        refine w_cutU 3 [(67, .bool ((r16.2 != 0) || (decide (r16.1 < 2)))), (1, Slc.v p1), (5, .pointer r3), (9, .int .u64 r16.1)] ?_ ?_
        ·
          refine w_end ?_
          refine x_seq ?_
          refine c_if H rfl (fun H => ?_) (fun H => ?_)
          ·
            refine c_seq ?_
            refine c_region ?_
            refine w_p tok rfl rfl rfl ?_
            refine w_end ?_
            refine x_seq ?_
            refine c_ret ?_
            refine x_tr ?_
            exact x_ret _ rfl _ rfl ⟨false, rfl, H⟩
          ·
            refine c_skip ?_
            refine x_seq ?_
            refine c_seq ?_
            refine c_region ?_
            refine w_p tok rfl rfl rfl ?_
            refine w_p tok rfl rfl rfl ?_
            refine w_call ref10_Lay_ok (ref10_Lay_ref _ _ _ _ H) rfl rfl rfl rfl ?_
            rintro _ h19 ⟨r18, rfl, H⟩
            refine w_p tok rfl rfl rfl ?_
            refine w_p tok rfl rfl rfl ?_
            refine w_p tok rfl rfl rfl ?_
            refine w_call ref10_Lay_ok (ref10_Lay_ref _ _ _ _ H) rfl rfl rfl rfl ?_
            rintro _ h21 ⟨r20, rfl, H⟩
            refine w_p tok rfl rfl rfl ?_
            refine w_p tok rfl rfl rfl ?_
            refine w_end ?_
            refine x_seq ?_
            refine c_weak [(5, .pointer r3), (11, Slc.v r18), (12, Slc.v r20)] ⟨rfl, rfl, rfl, trivial⟩ ?_
            refine c_seq ?_
            refine c_region ?_
            refine w_p tok rfl rfl rfl ?_
            refine w_end ?_
            refine x_seq ?_
            refine c_seq ?_
            refine c_seq ?_
            refine c_region ?_
            refine w_p tok rfl rfl rfl ?_
            refine w_end ?_
            refine x_seq ?_
            refine c_block ?_
            obtain ⟨I2, μ2, H0, HI⟩ := H
            refine c_loop (σ := Int × Int) (fun (s : Int × Int) => [(13, .int .i64 s.1), (14, .int .i64 s.2), (5, .pointer r3), (11, Slc.v r18), (12, Slc.v r20)]) I2 μ2 (0, 0) H0 ⟨rfl, rfl, rfl, rfl, rfl, trivial⟩ ?_
            rintro ⟨t13_2, t14_2⟩ h_2 H
            replace H := HI t13_2 t14_2 h_2 H
            unfold law10_SlotWipes_l2b at H
            refine c_weak [(13, .int .i64 t13_2), (14, .int .i64 t14_2), (5, .pointer r3), (11, Slc.v r18), (12, Slc.v r20)] ⟨rfl, rfl, rfl, rfl, rfl, trivial⟩ ?_
            refine c_seq ?_
            refine c_seq ?_
            refine c_region ?_
            refine w_p tok rfl rfl rfl ?_
            refine w_p tok rfl rfl rfl ?_
            refine w_end ?_
            refine x_seq ?_
            refine c_if H rfl (fun H => ?_) (fun H => ?_)
            ·
              refine c_skip ?_
              refine x_seq ?_
              refine c_seqJ (α := Int) (fun (s : Int) => [(13, .int .i64 s), (5, .pointer r3), (11, Slc.v r18), (12, Slc.v r20), (14, .int .i64 t14_2)]) (fun (s : Int) h => law10_SlotWipes_j3 r3 r18 r20 t14_2 s k (fun s h' => I1 s h' ∧ μ1 s h' < μ1 t8_1 h_1) (fun s h' => I2 s h' ∧ μ2 s h' < μ2 (t13_2, t14_2) h_2) h) ?_ ?_
              ·
                rintro t13_3 h_3 H
                replace H : law10_SlotWipes_j3 r3 r18 r20 t14_2 t13_3 k (fun s h' => I1 s h' ∧ μ1 s h' < μ1 t8_1 h_1) (fun s h' => I2 s h' ∧ μ2 s h' < μ2 (t13_2, t14_2) h_2) h_3 := H
                unfold law10_SlotWipes_j3 at H
                refine c_weak [(13, .int .i64 t13_3), (5, .pointer r3), (11, Slc.v r18), (12, Slc.v r20), (14, .int .i64 t14_2)] ⟨rfl, rfl, rfl, rfl, rfl, trivial⟩ ?_
                refine c_region ?_
                refine w_p tok rfl rfl rfl ?_
                refine w_p tok rfl rfl rfl ?_
                obtain ⟨x22, ex22, H⟩ := H
                refine w_pe tok rfl (congrArg (fun z => (.int .i64 z : Value)) ex22) rfl rfl ?_
                refine w_end ?_
                exact x_join (t13_3, x22) H ⟨rfl, rfl, rfl, rfl, rfl, trivial⟩
              ·
                refine c_block ?_
                refine c_seq ?_
                refine c_region ?_
                refine w_p tok rfl rfl rfl ?_
                refine w_p tok rfl rfl rfl ?_
                refine w_end ?_
                refine x_seq ?_
                refine c_seq ?_
                refine c_seq ?_
                refine c_region ?_
                refine w_p tok rfl rfl rfl ?_
                refine w_end ?_
                refine x_seq ?_
                refine c_block ?_
                obtain ⟨I4, μ4, H0, HI⟩ := H
                refine c_loop (σ := Bool × Bool × Int) (fun (s : Bool × Bool × Int) => [(15, .bool s.1), (16, .bool s.2.1), (17, .int .i64 s.2.2), (5, .pointer r3), (11, Slc.v r18), (12, Slc.v r20), (13, .int .i64 t13_2), (14, .int .i64 t14_2)]) I4 μ4 (true, true, 0) H0 ⟨rfl, rfl, rfl, rfl, rfl, rfl, rfl, rfl, trivial⟩ ?_
                rintro ⟨t15_4, t16_4, t17_4⟩ h_4 H
                replace H := HI t15_4 t16_4 t17_4 h_4 H
                unfold law10_SlotWipes_l4b at H
                refine c_weak [(15, .bool t15_4), (16, .bool t16_4), (17, .int .i64 t17_4), (5, .pointer r3), (11, Slc.v r18), (12, Slc.v r20), (13, .int .i64 t13_2), (14, .int .i64 t14_2)] ⟨rfl, rfl, rfl, rfl, rfl, rfl, rfl, rfl, trivial⟩ ?_
                refine c_seq ?_
                refine c_seq ?_
                refine c_region ?_
                refine w_p tok rfl rfl rfl ?_
                refine w_p tok rfl rfl rfl ?_
                refine w_end ?_
                refine x_seq ?_
                refine c_if H rfl (fun H => ?_) (fun H => ?_)
                ·
                  refine c_skip ?_
                  refine x_seq ?_
                  refine c_seq ?_
                  refine c_block ?_
                  refine c_seq ?_
                  refine c_region ?_
                  refine w_p tok rfl rfl rfl ?_
                  refine w_p tok rfl rfl rfl ?_
                  refine w_p tok rfl rfl rfl ?_
                  refine w_p tok rfl rfl rfl ?_
                  refine w_p tok rfl rfl rfl ?_
                  refine w_call disk_Disk_Read_ok (disk_Disk_Read_ref _ _ _ _ H) rfl rfl rfl rfl ?_
                  rintro _ h24 ⟨r23, rfl, H⟩
                  refine w_p tok rfl rfl rfl ?_
                  refine w_p tok rfl rfl rfl ?_
                  refine w_p tok rfl rfl rfl ?_
                  refine w_p tok rfl rfl rfl ?_
                  refine w_p tok rfl rfl rfl ?_
                  refine w_end ?_
                  refine x_seq ?_
                  refine c_weak [(15, .bool t15_4), (16, .bool t16_4), (17, .int .i64 t17_4), (5, .pointer r3), (11, Slc.v r18), (12, Slc.v r20), (13, .int .i64 t13_2), (14, .int .i64 t14_2), (18, Slc.v r23.1)] ⟨rfl, rfl, rfl, rfl, rfl, rfl, rfl, rfl, rfl, trivial⟩ ?_
                  refine c_seqJ (α := Slc × Slc) (fun (s : Slc × Slc) => [(20, Slc.v s.1), (21, Slc.v s.2), (5, .pointer r3), (11, Slc.v r18), (12, Slc.v r20), (13, .int .i64 t13_2), (14, .int .i64 t14_2), (15, .bool t15_4), (16, .bool t16_4), (17, .int .i64 t17_4), (18, Slc.v r23.1)]) (fun (s : Slc × Slc) h => law10_SlotWipes_j5 r3 r18 r20 t13_2 t14_2 t15_4 t16_4 t17_4 r23.1 s.1 s.2 k (fun s h' => I1 s h' ∧ μ1 s h' < μ1 t8_1 h_1) (fun s h' => I2 s h' ∧ μ2 s h' < μ2 (t13_2, t14_2) h_2) (fun s h' => I4 s h' ∧ μ4 s h' < μ4 (t15_4, t16_4, t17_4) h_4) h) ?_ ?_
                  ·
                    rintro ⟨t20_5, t21_5⟩ h_5 H
                    replace H : law10_SlotWipes_j5 r3 r18 r20 t13_2 t14_2 t15_4 t16_4 t17_4 r23.1 t20_5 t21_5 k (fun s h' => I1 s h' ∧ μ1 s h' < μ1 t8_1 h_1) (fun s h' => I2 s h' ∧ μ2 s h' < μ2 (t13_2, t14_2) h_2) (fun s h' => I4 s h' ∧ μ4 s h' < μ4 (t15_4, t16_4, t17_4) h_4) h_5 := H
                    unfold law10_SlotWipes_j5 at H
                    refine c_weak [(20, Slc.v t20_5), (21, Slc.v t21_5), (5, .pointer r3), (11, Slc.v r18), (12, Slc.v r20), (13, .int .i64 t13_2), (14, .int .i64 t14_2), (15, .bool t15_4), (16, .bool t16_4), (17, .int .i64 t17_4), (18, Slc.v r23.1)] ⟨rfl, rfl, rfl, rfl, rfl, rfl, rfl, rfl, rfl, rfl, rfl, trivial⟩ ?_
                    refine c_seqJ (α := Slc × Slc) (fun (s : Slc × Slc) => [(20, Slc.v s.1), (21, Slc.v s.2), (5, .pointer r3), (11, Slc.v r18), (12, Slc.v r20), (13, .int .i64 t13_2), (14, .int .i64 t14_2), (15, .bool t15_4), (16, .bool t16_4), (17, .int .i64 t17_4), (18, Slc.v r23.1)]) (fun (s : Slc × Slc) h => law10_SlotWipes_j6 r3 r18 r20 t13_2 t14_2 t15_4 t16_4 t17_4 r23.1 s.1 s.2 k (fun s h' => I1 s h' ∧ μ1 s h' < μ1 t8_1 h_1) (fun s h' => I2 s h' ∧ μ2 s h' < μ2 (t13_2, t14_2) h_2) (fun s h' => I4 s h' ∧ μ4 s h' < μ4 (t15_4, t16_4, t17_4) h_4) h) ?_ ?_
                    ·
                      rintro ⟨t20_6, t21_6⟩ h_6 H
                      replace H : law10_SlotWipes_j6 r3 r18 r20 t13_2 t14_2 t15_4 t16_4 t17_4 r23.1 t20_6 t21_6 k (fun s h' => I1 s h' ∧ μ1 s h' < μ1 t8_1 h_1) (fun s h' => I2 s h' ∧ μ2 s h' < μ2 (t13_2, t14_2) h_2) (fun s h' => I4 s h' ∧ μ4 s h' < μ4 (t15_4, t16_4, t17_4) h_4) h_6 := H
                      unfold law10_SlotWipes_j6 at H
                      refine c_weak [(20, Slc.v t20_6), (21, Slc.v t21_6), (5, .pointer r3), (11, Slc.v r18), (12, Slc.v r20), (13, .int .i64 t13_2), (14, .int .i64 t14_2), (15, .bool t15_4), (16, .bool t16_4), (17, .int .i64 t17_4), (18, Slc.v r23.1)] ⟨rfl, rfl, rfl, rfl, rfl, rfl, rfl, rfl, rfl, rfl, rfl, trivial⟩ ?_
                      refine c_seq ?_
                      refine c_region ?_
                      refine w_p tok rfl rfl rfl ?_
                      refine w_p tok rfl rfl rfl ?_
                      refine w_cut 4 (α := Bool) (fun (s : Bool) => [(111, .bool s), (5, .pointer r3), (11, Slc.v r18), (12, Slc.v r20), (13, .int .i64 t13_2), (14, .int .i64 t14_2), (16, .bool t16_4), (17, .int .i64 t17_4), (18, Slc.v r23.1), (21, Slc.v t21_6)]) (fun (s : Bool) h => law10_SlotWipes_g7 r3 r18 r20 t13_2 t14_2 t16_4 t17_4 r23.1 t21_6 s k (fun s h' => I1 s h' ∧ μ1 s h' < μ1 t8_1 h_1) (fun s h' => I2 s h' ∧ μ2 s h' < μ2 (t13_2, t14_2) h_2) (fun s h' => I4 s h' ∧ μ4 s h' < μ4 (t15_4, t16_4, t17_4) h_4) h) ?_ ?_
                      ·
                        rintro t111_7 h_7 H
                        replace H : law10_SlotWipes_g7 r3 r18 r20 t13_2 t14_2 t16_4 t17_4 r23.1 t21_6 t111_7 k (fun s h' => I1 s h' ∧ μ1 s h' < μ1 t8_1 h_1) (fun s h' => I2 s h' ∧ μ2 s h' < μ2 (t13_2, t14_2) h_2) (fun s h' => I4 s h' ∧ μ4 s h' < μ4 (t15_4, t16_4, t17_4) h_4) h_7 := H
                        unfold law10_SlotWipes_g7 at H
                        refine w_weak [(111, .bool t111_7), (5, .pointer r3), (11, Slc.v r18), (12, Slc.v r20), (13, .int .i64 t13_2), (14, .int .i64 t14_2), (16, .bool t16_4), (17, .int .i64 t17_4), (18, Slc.v r23.1), (21, Slc.v t21_6)] ⟨rfl, rfl, rfl, rfl, rfl, rfl, rfl, rfl, rfl, rfl, trivial⟩ ?_
                        refine w_p tok rfl rfl rfl ?_
                        refine w_end ?_
                        refine x_seq ?_
                        refine c_region ?_
                        refine w_p tok rfl rfl rfl ?_
                        refine w_p tok rfl rfl rfl ?_
                        refine w_cut 4 (α := Bool) (fun (s : Bool) => [(117, .bool s), (5, .pointer r3), (11, Slc.v r18), (12, Slc.v r20), (13, .int .i64 t13_2), (14, .int .i64 t14_2), (15, .bool t111_7), (17, .int .i64 t17_4)]) (fun (s : Bool) h => law10_SlotWipes_g8 r3 r18 r20 t13_2 t14_2 t111_7 t17_4 s k (fun s h' => I1 s h' ∧ μ1 s h' < μ1 t8_1 h_1) (fun s h' => I2 s h' ∧ μ2 s h' < μ2 (t13_2, t14_2) h_2) (fun s h' => I4 s h' ∧ μ4 s h' < μ4 (t15_4, t16_4, t17_4) h_4) h) ?_ ?_
                        ·
                          rintro t117_8 h_8 H
                          replace H : law10_SlotWipes_g8 r3 r18 r20 t13_2 t14_2 t111_7 t17_4 t117_8 k (fun s h' => I1 s h' ∧ μ1 s h' < μ1 t8_1 h_1) (fun s h' => I2 s h' ∧ μ2 s h' < μ2 (t13_2, t14_2) h_2) (fun s h' => I4 s h' ∧ μ4 s h' < μ4 (t15_4, t16_4, t17_4) h_4) h_8 := H
                          unfold law10_SlotWipes_g8 at H
                          refine w_weak [(117, .bool t117_8), (5, .pointer r3), (11, Slc.v r18), (12, Slc.v r20), (13, .int .i64 t13_2), (14, .int .i64 t14_2), (15, .bool t111_7), (17, .int .i64 t17_4)] ⟨rfl, rfl, rfl, rfl, rfl, rfl, rfl, rfl, trivial⟩ ?_
                          refine w_p tok rfl rfl rfl ?_
                          refine w_end ?_
                          refine x_blk ?_
                          refine x_seq ?_
                          refine c_region ?_
                          refine w_p tok rfl rfl rfl ?_
                          refine w_p tok rfl rfl rfl ?_
                          obtain ⟨x25, ex25, H⟩ := H
                          refine w_pe tok rfl (congrArg (fun z => (.int .i64 z : Value)) ex25) rfl rfl ?_
                          refine w_end ?_
                          exact x_join (t111_7, t117_8, x25) H ⟨rfl, rfl, rfl, rfl, rfl, rfl, rfl, rfl, trivial⟩
                        ·
                          refine w_gif (d := 113) H rfl (fun H => ?_) (fun H => ?_)
                          ·
                            refine w_p tok rfl rfl rfl ?_
                            refine w_p tok rfl rfl rfl ?_
                            refine w_call ref01_Same_ok (ref01_Same_ref _ _ _ _ H) rfl rfl rfl rfl ?_
                            rintro _ h27 ⟨r26, rfl, H⟩
                            refine w_p tok rfl rfl rfl ?_
                            exact w_jn r26 H ⟨rfl, rfl, rfl, rfl, rfl, rfl, rfl, rfl, trivial⟩
                          ·
                            refine w_skip rfl rfl ?_
                            refine w_skip rfl rfl ?_
                            refine w_skip rfl rfl ?_
                            refine w_p tok rfl rfl rfl ?_
                            exact w_jn false H ⟨rfl, rfl, rfl, rfl, rfl, rfl, rfl, rfl, trivial⟩
                      ·
                        refine w_gif (d := 107) H rfl (fun H => ?_) (fun H => ?_)
                        ·
                          refine w_p tok rfl rfl rfl ?_
                          refine w_p tok rfl rfl rfl ?_
                          refine w_call ref01_Same_ok (ref01_Same_ref _ _ _ _ H) rfl rfl rfl rfl ?_
                          rintro _ h29 ⟨r28, rfl, H⟩
                          refine w_p tok rfl rfl rfl ?_
                          exact w_jn r28 H ⟨rfl, rfl, rfl, rfl, rfl, rfl, rfl, rfl, rfl, rfl, trivial⟩
                        ·
                          refine w_skip rfl rfl ?_
                          refine w_skip rfl rfl ?_
                          refine w_skip rfl rfl ?_
                          refine w_p tok rfl rfl rfl ?_
                          exact w_jn false H ⟨rfl, rfl, rfl, rfl, rfl, rfl, rfl, rfl, rfl, rfl, trivial⟩
                    ·
                      refine c_seq ?_
                      refine c_region ?_
                      refine w_p tok rfl rfl rfl ?_
                      refine w_p tok rfl rfl rfl ?_
                      refine w_p tok rfl rfl rfl ?_
                      refine w_p tok rfl rfl rfl ?_
                      refine w_end ?_
                      refine x_seq ?_
                      refine c_if H rfl (fun H => ?_) (fun H => ?_)
                      ·
                        refine c_draw (by kernel_rfl) (by kernel_rfl) ?_
                        refine q_p tok rfl rfl rfl ?_
                        refine q_p tok rfl rfl rfl ?_
                        obtain ⟨a30, ha30, la30, ua30, H⟩ := H
                        refine q_y (y_ixa' tok rfl rfl ha30 rfl rfl rfl la30 ua30) rfl rfl ?_
                        obtain ⟨v31, hv31, H⟩ := H
                        refine q_y (y_ld tok rfl rfl rfl rfl hv31) rfl rfl ?_
                        refine q_p tok rfl rfl rfl ?_
                        refine q_p tok rfl rfl rfl ?_
                        obtain ⟨a32, ha32, la32, ua32, H⟩ := H
                        refine q_y (y_ixa' tok rfl rfl ha32 rfl rfl rfl la32 ua32) rfl rfl ?_
                        obtain ⟨v33, hv33, H⟩ := H
                        refine q_y (y_ld tok rfl rfl rfl rfl hv33) rfl rfl ?_
                        refine q_p tok rfl rfl rfl ?_
                        refine q_p tok rfl rfl rfl ?_
                        refine q_end ?_
                        exact x_join (v31, v33) H ⟨rfl, rfl, rfl, rfl, rfl, rfl, rfl, rfl, rfl, rfl, rfl, trivial⟩
                      ·
                        refine c_skip ?_
                        exact x_join (t20_5, t21_5) H ⟨rfl, rfl, rfl, rfl, rfl, rfl, rfl, rfl, rfl, rfl, rfl, trivial⟩
                  ·
                    refine c_sim [(5, .pointer r3), (11, Slc.v r18), (12, Slc.v r20), (13, .int .i64 t13_2), (14, .int .i64 t14_2), (15, .bool t15_4), (16, .bool t16_4), (17, .int .i64 t17_4), (18, Slc.v r23.1)] (by kernel_rfl) (by kernel_rfl) ⟨rfl, rfl, rfl, rfl, rfl, rfl, rfl, rfl, rfl, trivial⟩ (fun wf => ?_)
                    refine sim_or 0 1 wf trivial (by kernel_rfl) (by kernel_rfl) H (fun H => ?_) (fun H => ?_)
                    ·
                      obtain ⟨b34, h35, ph35, qh35, rh35, th35, eb34, eh35, H⟩ := H
                      refine sim_hi 0 [] [] (ei := []) wf trivial (by kernel_rfl) trivial (by kernel_rfl) rfl rfl rfl (h_mk tok rfl rfl rfl rfl rfl rfl ph35 qh35 rh35 th35 eb34 eh35) ?_
                      refine sim_p 2 (ei := [(92, Slc.v (⟨some ⟨b34, 0, none⟩, (128 : Int).toNat, (128 : Int).toNat⟩ : Slc))]) (d := (some 20)) wf (by kernel_rfl) ⟨rfl, trivial⟩ (by kernel_rfl) (by kernel_rfl) (fun _ => pf_p tok rfl rfl rfl rfl) (fun P_2 => ?_)
                      obtain ⟨b36, h37, ph37, qh37, rh37, th37, eb36, eh37, H⟩ := H
                      refine sim_h 1 [] [] (ei := []) wf ⟨P_2 _, trivial⟩ (by kernel_rfl) trivial (by kernel_rfl) rfl rfl rfl (h_mk tok rfl rfl rfl rfl rfl rfl ph37 qh37 rh37 th37 eb36 eh37) ?_
                      refine sim_p 3 (ei := [(93, Slc.v (⟨some ⟨b36, 0, none⟩, (128 : Int).toNat, (128 : Int).toNat⟩ : Slc))]) (d := (some 21)) wf (by kernel_rfl) ⟨rfl, trivial⟩ (by kernel_rfl) (by kernel_rfl) (fun _ => pf_p tok rfl rfl rfl rfl) (fun P_3 => ?_)
                      refine sim_end wf ⟨P_3 _, P_2 _, trivial⟩ (by kernel_rfl) ?_
                      clear wf P_2 P_3
                      exact x_join ((⟨some ⟨b34, 0, none⟩, (128 : Int).toNat, (128 : Int).toNat⟩ : Slc), (⟨some ⟨b36, 0, none⟩, (128 : Int).toNat, (128 : Int).toNat⟩ : Slc)) H ⟨rfl, rfl, rfl, rfl, rfl, rfl, rfl, rfl, rfl, rfl, rfl, trivial⟩
                    ·
                      obtain ⟨b38, h39, ph39, qh39, rh39, th39, eb38, eh39, H⟩ := H
                      refine sim_hi 1 [] [] (ei := []) wf trivial (by kernel_rfl) trivial (by kernel_rfl) rfl rfl rfl (h_mk tok rfl rfl rfl rfl rfl rfl ph39 qh39 rh39 th39 eb38 eh39) ?_
                      obtain ⟨b40, h41, ph41, qh41, rh41, th41, eb40, eh41, H⟩ := H
                      refine sim_h 0 [] [] (ei := []) wf trivial (by kernel_rfl) trivial (by kernel_rfl) rfl rfl rfl (h_mk tok rfl rfl rfl rfl rfl rfl ph41 qh41 rh41 th41 eb40 eh41) ?_
                      refine sim_p 2 (ei := [(92, Slc.v (⟨some ⟨b40, 0, none⟩, (128 : Int).toNat, (128 : Int).toNat⟩ : Slc))]) (d := (some 20)) wf (by kernel_rfl) ⟨rfl, trivial⟩ (by kernel_rfl) (by kernel_rfl) (fun _ => pf_p tok rfl rfl rfl rfl) (fun P_2 => ?_)
                      refine sim_p 3 (ei := [(93, Slc.v (⟨some ⟨b38, 0, none⟩, (128 : Int).toNat, (128 : Int).toNat⟩ : Slc))]) (d := (some 21)) wf (by kernel_rfl) ⟨rfl, trivial⟩ (by kernel_rfl) (by kernel_rfl) (fun _ => pf_p tok rfl rfl rfl rfl) (fun P_3 => ?_)
                      refine sim_end wf ⟨P_3 _, P_2 _, trivial⟩ (by kernel_rfl) ?_
                      clear wf P_2 P_3
                      exact x_join ((⟨some ⟨b40, 0, none⟩, (128 : Int).toNat, (128 : Int).toNat⟩ : Slc), (⟨some ⟨b38, 0, none⟩, (128 : Int).toNat, (128 : Int).toNat⟩ : Slc)) H ⟨rfl, rfl, rfl, rfl, rfl, rfl, rfl, rfl, rfl, rfl, rfl, trivial⟩
                ·
                  refine c_exit ?_
                  refine x_te ?_
                  refine x_te ?_
                  refine x_bh ?_
                  refine x_seq ?_
                  refine c_seq ?_
                  refine c_region ?_
                  refine w_p tok rfl rfl rfl ?_
                  refine w_p tok rfl rfl rfl ?_
                  refine w_cutU 2 [(121, .bool (t15_4 || t16_4)), (5, .pointer r3), (11, Slc.v r18), (12, Slc.v r20), (13, .int .i64 t13_2), (14, .int .i64 t14_2)] ?_ ?_
                  ·
                    refine w_end ?_
                    refine x_seq ?_
                    refine c_if H rfl (fun H => ?_) (fun H => ?_)
                    ·
                      refine c_region ?_
                      refine w_p tok rfl rfl rfl ?_
                      refine w_p tok rfl rfl rfl ?_
                      obtain ⟨x42, ex42, H⟩ := H
                      refine w_pe tok rfl (congrArg (fun z => (.int .i64 z : Value)) ex42) rfl rfl ?_
                      refine w_end ?_
                      refine x_blk ?_
                      exact x_join x42 H ⟨rfl, rfl, rfl, rfl, rfl, trivial⟩
                    ·
                      refine c_skip ?_
                      refine x_blk ?_
                      exact x_join t13_2 H ⟨rfl, rfl, rfl, rfl, rfl, trivial⟩
                  ·
                    refine w_gs (d := 119) rfl (fun hb => ?_) (fun hb => ?_)
                    ·
                      refine w_skip rfl rfl ?_
                      refine w_p tok rfl rfl rfl ?_
                      refine w_jn () rfl ⟨?_, rfl, rfl, rfl, rfl, rfl, trivial⟩
                      exact congrArg (fun b => some (Value.bool b)) (or_t hb)
                    ·
                      refine w_p tok rfl rfl rfl ?_
                      refine w_p tok rfl rfl rfl ?_
                      refine w_jn () rfl ⟨?_, rfl, rfl, rfl, rfl, rfl, trivial⟩
                      exact congrArg (fun b => some (Value.bool b)) (or_f hb)
            ·
              refine c_exit ?_
              refine x_te ?_
              refine x_te ?_
              refine x_bh ?_
              refine x_seq ?_
              refine c_seq ?_
              refine c_region ?_
              refine w_p tok rfl rfl rfl ?_
              refine w_p tok rfl rfl rfl ?_
              refine w_p tok rfl rfl rfl ?_
              refine w_cut 2 (α := Bool) (fun (s : Bool) => [(128, .bool s)]) (fun (s : Bool) h => law10_SlotWipes_g9 s k (fun s h' => I1 s h' ∧ μ1 s h' < μ1 t8_1 h_1) (fun s h' => I2 s h' ∧ μ2 s h' < μ2 (t13_2, t14_2) h_2) h) ?_ ?_
              ·
                rintro t128_9 h_9 H
                replace H : law10_SlotWipes_g9 t128_9 k (fun s h' => I1 s h' ∧ μ1 s h' < μ1 t8_1 h_1) (fun s h' => I2 s h' ∧ μ2 s h' < μ2 (t13_2, t14_2) h_2) h_9 := H
                unfold law10_SlotWipes_g9 at H
                refine w_weak [(128, .bool t128_9)] ⟨rfl, trivial⟩ ?_
                refine w_p tok rfl rfl rfl ?_
                refine w_end ?_
                refine x_seq ?_
                refine c_ret ?_
                exact x_ret _ rfl _ rfl ⟨t128_9, rfl, H⟩
              ·
                refine w_gif (d := 126) H rfl (fun H => ?_) (fun H => ?_)
                ·
                  refine w_call law10_awake_ok (law10_awake_ref  _ _ H) rfl rfl rfl rfl ?_
                  rintro _ h44 ⟨r43, rfl, H⟩
                  refine w_p tok rfl rfl rfl ?_
                  exact w_jn r43 H ⟨rfl, trivial⟩
                ·
                  refine w_skip rfl rfl ?_
                  refine w_p tok rfl rfl rfl ?_
                  exact w_jn false H ⟨rfl, trivial⟩
        ·
          refine w_gs (d := 64) rfl (fun hb => ?_) (fun hb => ?_)
          ·
            refine w_skip rfl rfl ?_
            refine w_skip rfl rfl ?_
            refine w_p tok rfl rfl rfl ?_
            refine w_jn () rfl ⟨?_, rfl, rfl, rfl, trivial⟩
            exact congrArg (fun b => some (Value.bool b)) (or_t hb)
          ·
            refine w_p tok rfl rfl rfl ?_
            refine w_p tok rfl rfl rfl ?_
            refine w_p tok rfl rfl rfl ?_
            refine w_jn () rfl ⟨?_, rfl, rfl, rfl, trivial⟩
            exact congrArg (fun b => some (Value.bool b)) (or_f hb)
  ·
    refine w_gs (d := 25) rfl (fun hb => ?_) (fun hb => ?_)
    ·
      refine w_skip rfl rfl ?_
      refine w_skip rfl rfl ?_
      refine w_skip rfl rfl ?_
      refine w_p tok rfl rfl rfl ?_
      refine w_jn () rfl ⟨?_, rfl, rfl, trivial⟩
      exact congrArg (fun b => some (Value.bool b)) (or_t hb)
    ·
      refine w_p tok rfl rfl rfl ?_
      refine w_p tok rfl rfl rfl ?_
      refine w_p tok rfl rfl rfl ?_
      refine w_p tok rfl rfl rfl ?_
      refine w_jn () rfl ⟨?_, rfl, rfl, trivial⟩
      exact congrArg (fun b => some (Value.bool b)) (or_f hb)
end Go.Q.Ye

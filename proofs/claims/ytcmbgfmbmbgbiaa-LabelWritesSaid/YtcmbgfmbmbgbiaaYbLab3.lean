/- A part of the proof of statements of this seat: lemmas, no statement of their own. -/
import Derived.Test.YtcmbgfmbmbgbiaaYbTab
import Derived.Test.YtcmbgfmbmbgbiaaYbJoin
import Derived.Test.YtcmbgfmbmbgbiaaYbLab2
import Derived.Test.YtcmbgfmbmbgbiaaQEq
set_option linter.unusedVariables false
set_option maxRecDepth 100000
set_option maxHeartbeats 1000000
namespace Go.Q.Yb
/-- quaestor label.braced -/
def label_braced (p0 : Slc) (k : (ByteArray) → Heap → Prop) (h : Heap) : Prop :=
  if ((p0.len : Int) == 0) then (k (⟨#[]⟩ : ByteArray) h) else (strings_Join p0 (⟨#[44]⟩ : ByteArray) (fun (r1 : ByteArray) h2 => (⟨#[123]⟩ : ByteArray).size + r1.size ≤ 9223372036854775807 ∧ (((⟨#[123]⟩ : ByteArray) ++ r1).size + (⟨#[125]⟩ : ByteArray).size ≤ 9223372036854775807 ∧ (k (((⟨#[123]⟩ : ByteArray) ++ r1) ++ (⟨#[125]⟩ : ByteArray)) h2))) h)

/-- quaestor label.Text -/
def label_Text_l1b (t1_1 : Addr) (t7_1 : Slc) (t8_1 : Int) (t3_1 : Slc) (t9_1 : Int) (k : (ByteArray) → Heap → Prop) (nx1 : (Slc × Int) → Heap → Prop) (h_1 : Heap) : Prop :=
  if (decide (t9_1 < t8_1)) then (∃ a4 : Addr, t7_1.a = some a4 ∧ (0 : Int) ≤ t9_1 ∧ t9_1 < (t7_1.len : Int) ∧ (∃ v5 : S_api_Label, CellsAt h_1 (a4.add (t9_1.toNat * 2)) (S_api_Label.cs v5) ∧ (∃ (b6 : Nat) (h7 : Heap), b6 = h_1.size ∧ h7 = h_1.push (.cells (S_api_Label.cs (⟨ByteArray.empty, ByteArray.empty⟩ : S_api_Label)).toArray 163) ∧ (∃ h8 : Heap, WrsAt h7 (⟨b6, 0, none⟩ : Addr) 2 ∧ h8 = setsH h7 (⟨b6, 0, none⟩ : Addr) 0 (S_api_Label.cs v5) ∧ (∃ v9 : ByteArray, cellH h8 (⟨b6, 0, none⟩ : Addr) = some (.string v9) ∧ (v9.size + (⟨#[61]⟩ : ByteArray).size ≤ 9223372036854775807 ∧ (∃ v11 : ByteArray, cellH h8 ((⟨b6, 0, none⟩ : Addr).add 1) = some (.string v11) ∧ ((v9 ++ (⟨#[61]⟩ : ByteArray)).size + v11.size ≤ 9223372036854775807 ∧ (∃ (b13 : Nat) (h14 : Heap), b13 = h8.size ∧ h14 = h8.push (.cells ([.string ((v9 ++ (⟨#[61]⟩ : ByteArray)) ++ v11)]).toArray 9) ∧ (App 9 1 16 [.string ByteArray.empty] h14 t3_1 1 ([.string ((v9 ++ (⟨#[61]⟩ : ByteArray)) ++ v11)]) (fun s15 h16 => nx1 (s15, (IntKind.i64.wrap (t9_1 + 1))) h16))))))))))) else (∃ v17 : ByteArray, cellH h_1 t1_1 = some (.string v17) ∧ (label_braced t3_1 (fun (r18 : ByteArray) h19 => cellH h19 t1_1 = some (.string v17) ∧ (v17.size + r18.size ≤ 9223372036854775807 ∧ (k (v17 ++ r18) h19))) h_1))
def label_Text_l1 (t1_1 : Addr) (t7_1 : Slc) (t8_1 : Int) (i3 : Slc) (i9 : Int) (k : (ByteArray) → Heap → Prop) (h : Heap) : Prop :=
  ∃ (I : (Slc × Int) → Heap → Prop) (μ : (Slc × Int) → Heap → Nat), I (i3, i9) h ∧ ∀ (t3_1 : Slc) (t9_1 : Int) (h : Heap), I (t3_1, t9_1) h → label_Text_l1b t1_1 t7_1 t8_1 t3_1 t9_1 k (fun s h' => I s h' ∧ μ s h' < μ (t3_1, t9_1) h) h
def label_Text (p0 : S_api_Series) (k : (ByteArray) → Heap → Prop) (h : Heap) : Prop :=
  ∃ (b1 : Nat) (h2 : Heap), b1 = h.size ∧ h2 = h.push (.cells (S_api_Series.cs p0).toArray 66) ∧ (∃ v3 : Slc, cellH h2 ((⟨b1, 0, none⟩ : Addr).add 1) = some (Slc.v v3) ∧ (label_Text_l1 (⟨b1, 0, none⟩ : Addr) v3 (v3.len : Int) (⟨none, 0, 0⟩ : Slc) 0 k h2))

/-- quaestor quaestorref15.letter -/
def ref15_letter (p0 : Int) (k : (Bool) → Heap → Prop) (h : Heap) : Prop :=
  k ((((((((decide (p0 ≥ 97)) && (decide (p0 ≤ 122))) || ((decide (p0 ≥ 65)) && (decide (p0 ≤ 90)))) || ((decide (p0 ≥ 48)) && (decide (p0 ≤ 57)))) || (p0 == 95)) || (p0 == 45)) || (p0 == 46)) || (p0 == 47)) h

/-- quaestor quaestorref15.Word -/
def ref15_Word_l1b (t0_1 : ByteArray) (t3_1 : Int) (k : (Bool) → Heap → Prop) (nx1 : (Int) → Heap → Prop) (h_1 : Heap) : Prop :=
  if (decide (t3_1 < (t0_1.size : Int))) then (∃ v1 : Int, (0 : Int) ≤ t3_1 ∧ StrAt t0_1 t3_1 v1 ∧ (ref15_letter v1 (fun (r2 : Bool) h3 => if (!r2) then (k false h3) else (∃ x4 : Int, x4 = (IntKind.i64.wrap (t3_1 + 1)) ∧ (nx1 x4 h3))) h_1)) else (k true h_1)
def ref15_Word_l1 (t0_1 : ByteArray) (i3 : Int) (k : (Bool) → Heap → Prop) (h : Heap) : Prop :=
  ∃ (I : Int → Heap → Prop) (μ : Int → Heap → Nat), I i3 h ∧ ∀ (t3_1 : Int) (h : Heap), I t3_1 h → ref15_Word_l1b t0_1 t3_1 k (fun s h' => I s h' ∧ μ s h' < μ t3_1 h) h
def ref15_Word (p0 : ByteArray) (k : (Bool) → Heap → Prop) (h : Heap) : Prop :=
  if ((decide ((p0.size : Int) < 1)) || (decide ((p0.size : Int) > 24))) then (k false h) else (ref15_Word_l1 p0 0 k h)

/-- quaestor quaestorref15.Check -/
def ref15_Check_j3 (t1_3 : Addr) (t3_3 : Int) (t58_3 : Bool) (k : (Bool) → Heap → Prop) (nx2 : (Int) → Heap → Prop) (h_3 : Heap) : Prop :=
  if t58_3 then (k false h_3) else (∃ x7 : Int, x7 = (IntKind.i64.wrap (t3_3 + 1)) ∧ (nx2 x7 h_3))
def ref15_Check_l2b (t1_2 : Addr) (t3_2 : Int) (k : (Bool) → Heap → Prop) (nx2 : (Int) → Heap → Prop) (h_2 : Heap) : Prop :=
  ∃ v6 : Slc, cellH h_2 (t1_2.add 1) = some (Slc.v v6) ∧ (if (decide (t3_2 < (v6.len : Int))) then (∃ v8 : Slc, cellH h_2 (t1_2.add 1) = some (Slc.v v8) ∧ (∃ a9 : Addr, v8.a = some a9 ∧ (0 : Int) ≤ t3_2 ∧ t3_2 < (v8.len : Int) ∧ (∃ v10 : ByteArray, cellH h_2 (a9.add (t3_2.toNat * 2)) = some (.string v10) ∧ (ref15_Word v10 (fun (r11 : Bool) h12 => if (!r11) then (if true then (ref15_Check_j3 t1_2 t3_2 true k nx2 h12) else (if (decide (t3_2 > 0)) then (∃ v13 : Slc, cellH h12 (t1_2.add 1) = some (Slc.v v13) ∧ (∃ a14 : Addr, v13.a = some a14 ∧ (0 : Int) ≤ t3_2 ∧ t3_2 < (v13.len : Int) ∧ (∃ v15 : ByteArray, cellH h12 (a14.add (t3_2.toNat * 2)) = some (.string v15) ∧ (∃ v16 : Slc, cellH h12 (t1_2.add 1) = some (Slc.v v16) ∧ (∃ a17 : Addr, v16.a = some a17 ∧ (0 : Int) ≤ (IntKind.i64.wrap (t3_2 - 1)) ∧ (IntKind.i64.wrap (t3_2 - 1)) < (v16.len : Int) ∧ (∃ v18 : ByteArray, cellH h12 (a17.add ((IntKind.i64.wrap (t3_2 - 1)).toNat * 2)) = some (.string v18) ∧ (ref15_Check_j3 t1_2 t3_2 (Op.bytesLess v15.toList v18.toList || v15.toList == v18.toList) k nx2 h12))))))) else (ref15_Check_j3 t1_2 t3_2 false k nx2 h12))) else (∃ v19 : Slc, cellH h12 (t1_2.add 1) = some (Slc.v v19) ∧ (∃ a20 : Addr, v19.a = some a20 ∧ (0 : Int) ≤ t3_2 ∧ t3_2 < (v19.len : Int) ∧ (∃ v21 : ByteArray, cellH h12 ((a20.add (t3_2.toNat * 2)).add 1) = some (.string v21) ∧ (ref15_Word v21 (fun (r22 : Bool) h23 => if (!r22) then (ref15_Check_j3 t1_2 t3_2 true k nx2 h23) else (if (decide (t3_2 > 0)) then (∃ v24 : Slc, cellH h23 (t1_2.add 1) = some (Slc.v v24) ∧ (∃ a25 : Addr, v24.a = some a25 ∧ (0 : Int) ≤ t3_2 ∧ t3_2 < (v24.len : Int) ∧ (∃ v26 : ByteArray, cellH h23 (a25.add (t3_2.toNat * 2)) = some (.string v26) ∧ (∃ v27 : Slc, cellH h23 (t1_2.add 1) = some (Slc.v v27) ∧ (∃ a28 : Addr, v27.a = some a28 ∧ (0 : Int) ≤ (IntKind.i64.wrap (t3_2 - 1)) ∧ (IntKind.i64.wrap (t3_2 - 1)) < (v27.len : Int) ∧ (∃ v29 : ByteArray, cellH h23 (a28.add ((IntKind.i64.wrap (t3_2 - 1)).toNat * 2)) = some (.string v29) ∧ (ref15_Check_j3 t1_2 t3_2 (Op.bytesLess v26.toList v29.toList || v26.toList == v29.toList) k nx2 h23))))))) else (ref15_Check_j3 t1_2 t3_2 false k nx2 h23))) h12))))) h_2)))) else (k true h_2))
def ref15_Check_l2 (t1_2 : Addr) (i3 : Int) (k : (Bool) → Heap → Prop) (h : Heap) : Prop :=
  ∃ (I : Int → Heap → Prop) (μ : Int → Heap → Nat), I i3 h ∧ ∀ (t3_2 : Int) (h : Heap), I t3_2 h → ref15_Check_l2b t1_2 t3_2 k (fun s h' => I s h' ∧ μ s h' < μ t3_2 h) h
def ref15_Check_g1 (t1_1 : Addr) (t13_1 : Bool) (k : (Bool) → Heap → Prop) (h_1 : Heap) : Prop :=
  if t13_1 then (k false h_1) else (ref15_Check_l2 t1_1 0 k h_1)
def ref15_Check (p0 : S_api_Series) (k : (Bool) → Heap → Prop) (h : Heap) : Prop :=
  ∃ (b1 : Nat) (h2 : Heap), b1 = h.size ∧ h2 = h.push (.cells (S_api_Series.cs p0).toArray 66) ∧ (∃ v3 : ByteArray, cellH h2 (⟨b1, 0, none⟩ : Addr) = some (.string v3) ∧ (ref15_Word v3 (fun (r4 : Bool) h5 => if (!r4) then (ref15_Check_g1 (⟨b1, 0, none⟩ : Addr) true k h5) else (∃ v30 : Slc, cellH h5 ((⟨b1, 0, none⟩ : Addr).add 1) = some (Slc.v v30) ∧ (ref15_Check_g1 (⟨b1, 0, none⟩ : Addr) (decide ((v30.len : Int) > 8)) k h5))) h2))

/-- quaestor quaestorref15.Print -/
def ref15_Print_j2 (t1_2 : Addr) (t4_2 : Int) (t3_2 : ByteArray) (k : (ByteArray) → Heap → Prop) (nx1 : (ByteArray × Int) → Heap → Prop) (h_2 : Heap) : Prop :=
  ∃ v5 : Slc, cellH h_2 (t1_2.add 1) = some (Slc.v v5) ∧ (∃ a6 : Addr, v5.a = some a6 ∧ (0 : Int) ≤ t4_2 ∧ t4_2 < (v5.len : Int) ∧ (∃ v7 : ByteArray, cellH h_2 (a6.add (t4_2.toNat * 3)) = some (.string v7) ∧ (t3_2.size + v7.size ≤ 9223372036854775807 ∧ (∃ v9 : Slc, cellH h_2 (t1_2.add 1) = some (Slc.v v9) ∧ (∃ a10 : Addr, v9.a = some a10 ∧ (0 : Int) ≤ t4_2 ∧ t4_2 < (v9.len : Int) ∧ (∃ v11 : Int, cellH h_2 ((a10.add (t4_2.toNat * 3)).add 1) = some (.int .i64 v11) ∧ (∃ v12 : Slc, cellH h_2 (t1_2.add 1) = some (Slc.v v12) ∧ (∃ a13 : Addr, v12.a = some a13 ∧ (0 : Int) ≤ t4_2 ∧ t4_2 < (v12.len : Int) ∧ (∃ v14 : ByteArray, cellH h_2 ((a13.add (t4_2.toNat * 3)).add 2) = some (.string v14) ∧ (∃ (b15 : Nat) (h16 : Heap), b15 = h_2.size ∧ h16 = h_2.push (.cells ([.string (⟨#[61]⟩ : ByteArray), .string (⟨#[33, 61]⟩ : ByteArray), .string (⟨#[94, 61]⟩ : ByteArray)]).toArray 9) ∧ (cellH h16 ((a13.add (t4_2.toNat * 3)).add 2) = some (.string v14) ∧ cellH h16 (t1_2.add 1) = some (Slc.v v12) ∧ cellH h16 ((a10.add (t4_2.toNat * 3)).add 1) = some (.int .i64 v11) ∧ cellH h16 (t1_2.add 1) = some (Slc.v v9) ∧ cellH h16 (a6.add (t4_2.toNat * 3)) = some (.string v7) ∧ cellH h16 (t1_2.add 1) = some (Slc.v v5) ∧ (∃ a23 : Addr, (⟨some ⟨b15, 0, none⟩, 3, 3⟩ : Slc).a = some a23 ∧ (0 : Int) ≤ v11 ∧ v11 < ((⟨some ⟨b15, 0, none⟩, 3, 3⟩ : Slc).len : Int) ∧ (∃ v24 : ByteArray, cellH h16 (a23.add (v11.toNat * 1)) = some (.string v24) ∧ ((t3_2 ++ v7).size + v24.size ≤ 9223372036854775807 ∧ (((t3_2 ++ v7) ++ v24).size + v14.size ≤ 9223372036854775807 ∧ (∃ x27 : Int, x27 = (IntKind.i64.wrap (t4_2 + 1)) ∧ (nx1 ((((t3_2 ++ v7) ++ v24) ++ v14), x27) h16)))))))))))))))))
def ref15_Print_j3 (t3_3 : ByteArray) (k : (ByteArray) → Heap → Prop) (nx1 : (ByteArray × Int) → Heap → Prop) (h_3 : Heap) : Prop :=
  k t3_3 h_3
def ref15_Print_l1b (t1_1 : Addr) (t3_1 : ByteArray) (t4_1 : Int) (k : (ByteArray) → Heap → Prop) (nx1 : (ByteArray × Int) → Heap → Prop) (h_1 : Heap) : Prop :=
  ∃ v4 : Slc, cellH h_1 (t1_1.add 1) = some (Slc.v v4) ∧ (if (decide (t4_1 < (v4.len : Int))) then (if (t4_1 == 0) then (t3_1.size + (⟨#[123]⟩ : ByteArray).size ≤ 9223372036854775807 ∧ (ref15_Print_j2 t1_1 t4_1 (t3_1 ++ (⟨#[123]⟩ : ByteArray)) k nx1 h_1)) else (t3_1.size + (⟨#[44]⟩ : ByteArray).size ≤ 9223372036854775807 ∧ (ref15_Print_j2 t1_1 t4_1 (t3_1 ++ (⟨#[44]⟩ : ByteArray)) k nx1 h_1))) else (∃ v30 : Slc, cellH h_1 (t1_1.add 1) = some (Slc.v v30) ∧ (if (decide ((v30.len : Int) > 0)) then (t3_1.size + (⟨#[125]⟩ : ByteArray).size ≤ 9223372036854775807 ∧ (ref15_Print_j3 (t3_1 ++ (⟨#[125]⟩ : ByteArray)) k nx1 h_1)) else (ref15_Print_j3 t3_1 k nx1 h_1))))
def ref15_Print_l1 (t1_1 : Addr) (i3 : ByteArray) (i4 : Int) (k : (ByteArray) → Heap → Prop) (h : Heap) : Prop :=
  ∃ (I : (ByteArray × Int) → Heap → Prop) (μ : (ByteArray × Int) → Heap → Nat), I (i3, i4) h ∧ ∀ (t3_1 : ByteArray) (t4_1 : Int) (h : Heap), I (t3_1, t4_1) h → ref15_Print_l1b t1_1 t3_1 t4_1 k (fun s h' => I s h' ∧ μ s h' < μ (t3_1, t4_1) h) h
def ref15_Print (p0 : S_api_Selector) (k : (ByteArray) → Heap → Prop) (h : Heap) : Prop :=
  ∃ (b1 : Nat) (h2 : Heap), b1 = h.size ∧ h2 = h.push (.cells (S_api_Selector.cs p0).toArray 63) ∧ (∃ v3 : ByteArray, cellH h2 (⟨b1, 0, none⟩ : Addr) = some (.string v3) ∧ (ref15_Print_l1 (⟨b1, 0, none⟩ : Addr) v3 0 k h2))

/-- quaestor quaestorref15.Text -/
def ref15_Text_l1b (t1_1 : Addr) (t3_1 : Addr) (t4_1 : Int) (k : (ByteArray) → Heap → Prop) (nx1 : (Int) → Heap → Prop) (h_1 : Heap) : Prop :=
  ∃ v7 : Slc, cellH h_1 (t1_1.add 1) = some (Slc.v v7) ∧ (if (decide (t4_1 < (v7.len : Int))) then (∃ v8 : Slc, cellH h_1 (t3_1.add 1) = some (Slc.v v8) ∧ (∃ v9 : Slc, cellH h_1 (t1_1.add 1) = some (Slc.v v9) ∧ (∃ a10 : Addr, v9.a = some a10 ∧ (0 : Int) ≤ t4_1 ∧ t4_1 < (v9.len : Int) ∧ (∃ v11 : ByteArray, cellH h_1 (a10.add (t4_1.toNat * 2)) = some (.string v11) ∧ (∃ v12 : Slc, cellH h_1 (t1_1.add 1) = some (Slc.v v12) ∧ (∃ a13 : Addr, v12.a = some a13 ∧ (0 : Int) ≤ t4_1 ∧ t4_1 < (v12.len : Int) ∧ (∃ v14 : ByteArray, cellH h_1 ((a13.add (t4_1.toNat * 2)).add 1) = some (.string v14) ∧ (∃ (b15 : Nat) (h16 : Heap), b15 = h_1.size ∧ h16 = h_1.push (.cells ((S_api_Question.cs (⟨v11, 0, v14⟩ : S_api_Question))).toArray 165) ∧ (cellH h16 (t3_1.add 1) = some (Slc.v v8) ∧ (App 165 3 40 [.string ByteArray.empty, .int .i64 0, .string ByteArray.empty] h16 v8 1 ((S_api_Question.cs (⟨v11, 0, v14⟩ : S_api_Question))) (fun s18 h19 => ∃ h20 : Heap, WrH h19 (t3_1.add 1) ∧ h20 = setH h19 (t3_1.add 1) (Slc.v s18) ∧ (∃ x21 : Int, x21 = (IntKind.i64.wrap (t4_1 + 1)) ∧ (nx1 x21 h20))))))))))))) else (∃ v22 : S_api_Selector, CellsAt h_1 t3_1 (S_api_Selector.cs v22) ∧ (ref15_Print v22 (fun (r23 : ByteArray) h24 => k r23 h24) h_1)))
def ref15_Text_l1 (t1_1 : Addr) (t3_1 : Addr) (i4 : Int) (k : (ByteArray) → Heap → Prop) (h : Heap) : Prop :=
  ∃ (I : Int → Heap → Prop) (μ : Int → Heap → Nat), I i4 h ∧ ∀ (t4_1 : Int) (h : Heap), I t4_1 h → ref15_Text_l1b t1_1 t3_1 t4_1 k (fun s h' => I s h' ∧ μ s h' < μ t4_1 h) h
def ref15_Text (p0 : S_api_Series) (k : (ByteArray) → Heap → Prop) (h : Heap) : Prop :=
  ∃ (b1 : Nat) (h2 : Heap), b1 = h.size ∧ h2 = h.push (.cells (S_api_Series.cs p0).toArray 66) ∧ (∃ v3 : ByteArray, cellH h2 (⟨b1, 0, none⟩ : Addr) = some (.string v3) ∧ (∃ (b4 : Nat) (h5 : Heap), b4 = h2.size ∧ h5 = h2.push (.cells (S_api_Selector.cs (⟨ByteArray.empty, (⟨none, 0, 0⟩ : Slc)⟩ : S_api_Selector)).toArray 63) ∧ (∃ h6 : Heap, WrsAt h5 (⟨b4, 0, none⟩ : Addr) 2 ∧ h6 = setsH h5 (⟨b4, 0, none⟩ : Addr) 0 (S_api_Selector.cs (⟨v3, (⟨none, 0, 0⟩ : Slc)⟩ : S_api_Selector)) ∧ (ref15_Text_l1 (⟨b1, 0, none⟩ : Addr) (⟨b4, 0, none⟩ : Addr) 0 k h6))))

/-- quaestor quaestorref15.SameSeries -/
def ref15_SameSeries_l2b (t2_2 : Addr) (t3_2 : Addr) (t5_2 : Int) (k : (Bool) → Heap → Prop) (nx2 : (Int) → Heap → Prop) (h_2 : Heap) : Prop :=
  ∃ v7 : Slc, cellH h_2 (t2_2.add 1) = some (Slc.v v7) ∧ (if (decide (t5_2 < (v7.len : Int))) then (∃ v8 : Slc, cellH h_2 (t2_2.add 1) = some (Slc.v v8) ∧ (∃ a9 : Addr, v8.a = some a9 ∧ (0 : Int) ≤ t5_2 ∧ t5_2 < (v8.len : Int) ∧ (∃ v10 : S_api_Label, CellsAt h_2 (a9.add (t5_2.toNat * 2)) (S_api_Label.cs v10) ∧ (∃ v11 : Slc, cellH h_2 (t3_2.add 1) = some (Slc.v v11) ∧ (∃ a12 : Addr, v11.a = some a12 ∧ (0 : Int) ≤ t5_2 ∧ t5_2 < (v11.len : Int) ∧ (∃ v13 : S_api_Label, CellsAt h_2 (a12.add (t5_2.toNat * 2)) (S_api_Label.cs v13) ∧ (if (if BinOp.neq = .eql then ((v10.f_Name.toList == v13.f_Name.toList) && (v10.f_Value.toList == v13.f_Value.toList)) else !((v10.f_Name.toList == v13.f_Name.toList) && (v10.f_Value.toList == v13.f_Value.toList))) then (k false h_2) else (∃ x14 : Int, x14 = (IntKind.i64.wrap (t5_2 + 1)) ∧ (nx2 x14 h_2))))))))) else (k true h_2))
def ref15_SameSeries_l2 (t2_2 : Addr) (t3_2 : Addr) (i5 : Int) (k : (Bool) → Heap → Prop) (h : Heap) : Prop :=
  ∃ (I : Int → Heap → Prop) (μ : Int → Heap → Nat), I i5 h ∧ ∀ (t5_2 : Int) (h : Heap), I t5_2 h → ref15_SameSeries_l2b t2_2 t3_2 t5_2 k (fun s h' => I s h' ∧ μ s h' < μ t5_2 h) h
def ref15_SameSeries_g1 (t2_1 : Addr) (t3_1 : Addr) (t19_1 : Bool) (k : (Bool) → Heap → Prop) (h_1 : Heap) : Prop :=
  if t19_1 then (k false h_1) else (ref15_SameSeries_l2 t2_1 t3_1 0 k h_1)
def ref15_SameSeries (p0 : S_api_Series) (p1 : S_api_Series) (k : (Bool) → Heap → Prop) (h : Heap) : Prop :=
  ∃ (b1 : Nat) (h2 : Heap), b1 = h.size ∧ h2 = h.push (.cells (S_api_Series.cs p0).toArray 66) ∧ (∃ (b3 : Nat) (h4 : Heap), b3 = h2.size ∧ h4 = h2.push (.cells (S_api_Series.cs p1).toArray 66) ∧ (∃ v5 : ByteArray, cellH h4 (⟨b1, 0, none⟩ : Addr) = some (.string v5) ∧ (∃ v6 : ByteArray, cellH h4 (⟨b3, 0, none⟩ : Addr) = some (.string v6) ∧ (if (!(v5.toList == v6.toList)) then (ref15_SameSeries_g1 (⟨b1, 0, none⟩ : Addr) (⟨b3, 0, none⟩ : Addr) true k h4) else (∃ v15 : Slc, cellH h4 ((⟨b1, 0, none⟩ : Addr).add 1) = some (Slc.v v15) ∧ (∃ v16 : Slc, cellH h4 ((⟨b3, 0, none⟩ : Addr).add 1) = some (Slc.v v16) ∧ (ref15_SameSeries_g1 (⟨b1, 0, none⟩ : Addr) (⟨b3, 0, none⟩ : Addr) ((v15.len : Int) != (v16.len : Int)) k h4)))))))

/-- quaestor quaestorlaw15.LabelWrites -/
def law15_LabelWrites_j3 (t4_3 : Bool) (k : (Bool) → Heap → Prop) (h_3 : Heap) : Prop :=
  k t4_3 h_3
def law15_LabelWrites_g2 (t2_2 : Addr) (t3_2 : Addr) (t40_2 : Bool) (k : (Bool) → Heap → Prop) (h_2 : Heap) : Prop :=
  if t40_2 then (law15_awake  (fun (r19 : Bool) h20 => k r19 h20) h_2) else (∃ v21 : S_api_Series, CellsAt h_2 t2_2 (S_api_Series.cs v21) ∧ (label_Text v21 (fun (r22 : ByteArray) h23 => label_Parse r22 (fun (r24 : S_api_Series × Int) h25 => ∃ (b26 : Nat) (h27 : Heap), b26 = h25.size ∧ h27 = h25.push (.cells (S_api_Series.cs (⟨ByteArray.empty, (⟨none, 0, 0⟩ : Slc)⟩ : S_api_Series)).toArray 66) ∧ (∃ h28 : Heap, WrsAt h27 (⟨b26, 0, none⟩ : Addr) 2 ∧ h28 = setsH h27 (⟨b26, 0, none⟩ : Addr) 0 (S_api_Series.cs r24.1) ∧ (∃ v29 : S_api_Series, CellsAt h28 t2_2 (S_api_Series.cs v29) ∧ (ref15_Text v29 (fun (r30 : ByteArray) h31 => if (r22.toList == r30.toList) then (if (r24.2 == 0) then (∃ v32 : S_api_Series, CellsAt h31 (⟨b26, 0, none⟩ : Addr) (S_api_Series.cs v32) ∧ (∃ v33 : S_api_Series, CellsAt h31 t2_2 (S_api_Series.cs v33) ∧ (ref15_SameSeries v32 v33 (fun (r34 : Bool) h35 => if r34 then (∃ v36 : S_api_Series, CellsAt h35 t3_2 (S_api_Series.cs v36) ∧ (∃ v37 : S_api_Series, CellsAt h35 t2_2 (S_api_Series.cs v37) ∧ (∃ v38 : S_api_Series, CellsAt h35 t3_2 (S_api_Series.cs v38) ∧ (label_Text v36 (fun (r39 : ByteArray) h40 => CellsAt h40 t3_2 (S_api_Series.cs v38) ∧ CellsAt h40 t2_2 (S_api_Series.cs v37) ∧ (ref15_SameSeries v37 v38 (fun (r43 : Bool) h44 => if (((r22.toList == r39.toList) == r43)) then (law15_awake  (fun (r45 : Bool) h46 => law15_LabelWrites_j3 r45 k h46) h44) else (law15_LabelWrites_j3 false k h44)) h40)) h35)))) else (if false then (law15_awake  (fun (r47 : Bool) h48 => law15_LabelWrites_j3 r47 k h48) h35) else (law15_LabelWrites_j3 false k h35))) h31))) else (if false then (∃ v49 : S_api_Series, CellsAt h31 t3_2 (S_api_Series.cs v49) ∧ (∃ v50 : S_api_Series, CellsAt h31 t2_2 (S_api_Series.cs v50) ∧ (∃ v51 : S_api_Series, CellsAt h31 t3_2 (S_api_Series.cs v51) ∧ (label_Text v49 (fun (r52 : ByteArray) h53 => CellsAt h53 t3_2 (S_api_Series.cs v51) ∧ CellsAt h53 t2_2 (S_api_Series.cs v50) ∧ (ref15_SameSeries v50 v51 (fun (r56 : Bool) h57 => if (((r22.toList == r52.toList) == r56)) then (law15_awake  (fun (r58 : Bool) h59 => law15_LabelWrites_j3 r58 k h59) h57) else (law15_LabelWrites_j3 false k h57)) h53)) h31)))) else (if false then (law15_awake  (fun (r60 : Bool) h61 => law15_LabelWrites_j3 r60 k h61) h31) else (law15_LabelWrites_j3 false k h31)))) else (if false then (∃ v62 : S_api_Series, CellsAt h31 (⟨b26, 0, none⟩ : Addr) (S_api_Series.cs v62) ∧ (∃ v63 : S_api_Series, CellsAt h31 t2_2 (S_api_Series.cs v63) ∧ (ref15_SameSeries v62 v63 (fun (r64 : Bool) h65 => if r64 then (∃ v66 : S_api_Series, CellsAt h65 t3_2 (S_api_Series.cs v66) ∧ (∃ v67 : S_api_Series, CellsAt h65 t2_2 (S_api_Series.cs v67) ∧ (∃ v68 : S_api_Series, CellsAt h65 t3_2 (S_api_Series.cs v68) ∧ (label_Text v66 (fun (r69 : ByteArray) h70 => CellsAt h70 t3_2 (S_api_Series.cs v68) ∧ CellsAt h70 t2_2 (S_api_Series.cs v67) ∧ (ref15_SameSeries v67 v68 (fun (r73 : Bool) h74 => if (((r22.toList == r69.toList) == r73)) then (law15_awake  (fun (r75 : Bool) h76 => law15_LabelWrites_j3 r75 k h76) h74) else (law15_LabelWrites_j3 false k h74)) h70)) h65)))) else (if false then (law15_awake  (fun (r77 : Bool) h78 => law15_LabelWrites_j3 r77 k h78) h65) else (law15_LabelWrites_j3 false k h65))) h31))) else (if false then (∃ v79 : S_api_Series, CellsAt h31 t3_2 (S_api_Series.cs v79) ∧ (∃ v80 : S_api_Series, CellsAt h31 t2_2 (S_api_Series.cs v80) ∧ (∃ v81 : S_api_Series, CellsAt h31 t3_2 (S_api_Series.cs v81) ∧ (label_Text v79 (fun (r82 : ByteArray) h83 => CellsAt h83 t3_2 (S_api_Series.cs v81) ∧ CellsAt h83 t2_2 (S_api_Series.cs v80) ∧ (ref15_SameSeries v80 v81 (fun (r86 : Bool) h87 => if (((r22.toList == r82.toList) == r86)) then (law15_awake  (fun (r88 : Bool) h89 => law15_LabelWrites_j3 r88 k h89) h87) else (law15_LabelWrites_j3 false k h87)) h83)) h31)))) else (if false then (law15_awake  (fun (r90 : Bool) h91 => law15_LabelWrites_j3 r90 k h91) h31) else (law15_LabelWrites_j3 false k h31))))) h28)))) h23) h_2))
def law15_LabelWrites_g1 (t2_1 : Addr) (t3_1 : Addr) (t16_1 : Bool) (k : (Bool) → Heap → Prop) (h_1 : Heap) : Prop :=
  if t16_1 then (law15_awake  (fun (r8 : Bool) h9 => k r8 h9) h_1) else (∃ v10 : S_api_Series, CellsAt h_1 t2_1 (S_api_Series.cs v10) ∧ (label_Check v10 (fun (r11 : Int) h12 => ∃ v13 : S_api_Series, CellsAt h12 t2_1 (S_api_Series.cs v13) ∧ (ref15_Check v13 (fun (r14 : Bool) h15 => if ((!((r11 == 0) == r14)) || ((r11 != 0) && (r11 != 1))) then (k false h15) else (∃ v16 : S_api_Series, CellsAt h15 t2_1 (S_api_Series.cs v16) ∧ (ref15_Check v16 (fun (r17 : Bool) h18 => if (!r17) then (law15_LabelWrites_g2 t2_1 t3_1 true k h18) else (∃ v92 : S_api_Series, CellsAt h18 t3_1 (S_api_Series.cs v92) ∧ (ref15_Check v92 (fun (r93 : Bool) h94 => law15_LabelWrites_g2 t2_1 t3_1 (!r93) k h94) h18))) h15))) h12)) h_1))
def law15_LabelWrites (p0 : S_api_Series) (p1 : S_api_Series) (k : (Bool) → Heap → Prop) (h : Heap) : Prop :=
  ∃ (b1 : Nat) (h2 : Heap), b1 = h.size ∧ h2 = h.push (.cells (S_api_Series.cs p0).toArray 66) ∧ (∃ (b3 : Nat) (h4 : Heap), b3 = h2.size ∧ h4 = h2.push (.cells (S_api_Series.cs p1).toArray 66) ∧ (∃ v5 : S_api_Series, CellsAt h4 (⟨b1, 0, none⟩ : Addr) (S_api_Series.cs v5) ∧ (ref15_Great v5 (⟨ByteArray.empty, (⟨none, 0, 0⟩ : Slc)⟩ : S_api_Selector) (fun (r6 : Bool) h7 => if r6 then (law15_LabelWrites_g1 (⟨b1, 0, none⟩ : Addr) (⟨b3, 0, none⟩ : Addr) true k h7) else (∃ v95 : S_api_Series, CellsAt h7 (⟨b3, 0, none⟩ : Addr) (S_api_Series.cs v95) ∧ (ref15_Great v95 (⟨ByteArray.empty, (⟨none, 0, 0⟩ : Slc)⟩ : S_api_Selector) (fun (r96 : Bool) h97 => law15_LabelWrites_g1 (⟨b1, 0, none⟩ : Addr) (⟨b3, 0, none⟩ : Addr) r96 k h97) h7))) h4)))

theorem label_braced_ok : CallOk Go.Proofs.Try.prog 120 := ⟨_, Go.Proofs.Try.func120, by kernel_rfl, by kernel_rfl⟩
theorem label_braced_ref (p0 : Slc) (k : (ByteArray) → Heap → Prop) (h : Heap) (H : label_braced p0 k h) : CallsH Go.Proofs.Try.prog 120 #[Slc.v p0] h (fun v h' => ∃ r : ByteArray, v = .string r ∧ k r h') := by
  refine f_enter (N := 10) Go.Proofs.Try.func120 rfl rfl rfl (fun w0 => ?_)
  unfold label_braced at H
  refine c_weak [(0, Slc.v p0)] ⟨rfl, trivial⟩ ?_
  refine c_seq ?_
  refine c_region ?_
  refine w_p tok rfl rfl rfl ?_
  refine w_end ?_
  refine x_seq ?_
  refine c_seq ?_
  refine c_seq ?_
  refine c_region ?_
  refine w_p tok rfl rfl rfl ?_
  refine w_p tok rfl rfl rfl ?_
  refine w_p tok rfl rfl rfl ?_
  refine w_end ?_
  refine x_seq ?_
  refine c_if H rfl (fun H => ?_) (fun H => ?_)
  ·
    refine c_seq ?_
    refine c_region ?_
    refine w_p tok rfl rfl rfl ?_
    refine w_end ?_
    refine x_seq ?_
    refine c_ret ?_
    refine x_tr ?_
    exact x_ret _ rfl _ rfl ⟨(⟨#[]⟩ : ByteArray), rfl, H⟩
  ·
    refine c_skip ?_
    refine x_seq ?_
    refine c_seq ?_
    refine c_region ?_
    refine w_p tok rfl rfl rfl ?_
    refine w_call strings_Join_ok (strings_Join_ref _ _ _ _ H) rfl rfl rfl rfl ?_
    rintro _ h2 ⟨r1, rfl, H⟩
    obtain ⟨z3, H⟩ := H
    refine w_y (y_cat rfl rfl rfl z3) rfl rfl ?_
    obtain ⟨z4, H⟩ := H
    refine w_y (y_cat rfl rfl rfl z4) rfl rfl ?_
    refine w_p tok rfl rfl rfl ?_
    refine w_end ?_
    refine x_seq ?_
    refine c_weak [(2, .string (((⟨#[123]⟩ : ByteArray) ++ r1) ++ (⟨#[125]⟩ : ByteArray)))] ⟨rfl, trivial⟩ ?_
    refine c_ret ?_
    exact x_ret _ rfl _ rfl ⟨(((⟨#[123]⟩ : ByteArray) ++ r1) ++ (⟨#[125]⟩ : ByteArray)), rfl, H⟩

theorem label_Text_ok : CallOk Go.Proofs.Try.prog 42 := ⟨_, Go.Proofs.Try.func42, by kernel_rfl, by kernel_rfl⟩
theorem label_Text_ref (p0 : S_api_Series) (k : (ByteArray) → Heap → Prop) (h : Heap) (H : label_Text p0 k h) : CallsH Go.Proofs.Try.prog 42 #[.agg (S_api_Series.cs p0).toArray] h (fun v h' => ∃ r : ByteArray, v = .string r ∧ k r h') := by
  refine f_enter (N := 28) Go.Proofs.Try.func42 rfl rfl rfl (fun w0 => ?_)
  unfold label_Text at H
  refine c_weak [(0, .agg (S_api_Series.cs p0).toArray)] ⟨rfl, trivial⟩ ?_
  refine c_seq ?_
  refine c_region ?_
  obtain ⟨b1, h2, eb1, eh2, H⟩ := H
  refine w_h (h_box rfl rfl eb1 eh2) rfl rfl ?_
  refine w_p tok rfl rfl rfl ?_
  refine w_end ?_
  refine x_seq ?_
  refine c_seq ?_
  refine c_region ?_
  refine w_p tok rfl rfl rfl ?_
  refine w_end ?_
  refine x_seq ?_
  refine c_seq ?_
  refine c_seq ?_
  refine c_region ?_
  refine w_p tok rfl rfl rfl ?_
  obtain ⟨v3, hv3, H⟩ := H
  refine w_y (y_ld tok rfl rfl rfl rfl hv3) rfl rfl ?_
  refine w_p tok rfl rfl rfl ?_
  refine w_p tok rfl rfl rfl ?_
  refine w_end ?_
  refine x_seq ?_
  refine c_block ?_
  obtain ⟨I1, μ1, H0, HI⟩ := H
  refine c_loop (σ := Slc × Int) (fun (s : Slc × Int) => [(3, Slc.v s.1), (9, .int .i64 s.2), (1, .pointer (some (⟨b1, 0, none⟩ : Addr))), (7, Slc.v v3), (8, .int .i64 (v3.len : Int))]) I1 μ1 ((⟨none, 0, 0⟩ : Slc), 0) H0 ⟨rfl, rfl, rfl, rfl, rfl, trivial⟩ ?_
  rintro ⟨t3_1, t9_1⟩ h_1 H
  replace H := HI t3_1 t9_1 h_1 H
  unfold label_Text_l1b at H
  refine c_weak [(3, Slc.v t3_1), (9, .int .i64 t9_1), (1, .pointer (some (⟨b1, 0, none⟩ : Addr))), (7, Slc.v v3), (8, .int .i64 (v3.len : Int))] ⟨rfl, rfl, rfl, rfl, rfl, trivial⟩ ?_
  refine c_seq ?_
  refine c_region ?_
  refine w_p tok rfl rfl rfl ?_
  refine w_end ?_
  refine x_seq ?_
  refine c_seq ?_
  refine c_if H rfl (fun H => ?_) (fun H => ?_)
  ·
    refine c_skip ?_
    refine x_seq ?_
    refine c_seq ?_
    refine c_block ?_
    refine c_seq ?_
    refine c_region ?_
    obtain ⟨a4, ha4, la4, ua4, H⟩ := H
    refine w_y (y_ixa' tok rfl rfl ha4 rfl rfl rfl la4 ua4) rfl rfl ?_
    obtain ⟨v5, hv5, H⟩ := H
    refine w_y (y_lda tok rfl rfl rfl rfl rfl hv5) rfl rfl ?_
    obtain ⟨b6, h7, eb6, eh7, H⟩ := H
    refine w_h (h_alloc tok rfl rfl eb6 eh7) rfl rfl ?_
    obtain ⟨h8, wh8, eh8, H⟩ := H
    refine w_h (h_sts tok rfl rfl rfl rfl rfl (oneC (by kernel_rfl)) wh8 eh8) rfl rfl ?_
    refine w_end ?_
    refine x_seq ?_
    refine c_region ?_
    refine w_p tok rfl rfl rfl ?_
    refine w_p tok rfl rfl rfl ?_
    obtain ⟨v9, hv9, H⟩ := H
    refine w_y (y_ld tok rfl rfl rfl rfl hv9) rfl rfl ?_
    obtain ⟨z10, H⟩ := H
    refine w_y (y_cat rfl rfl rfl z10) rfl rfl ?_
    refine w_p tok rfl rfl rfl ?_
    obtain ⟨v11, hv11, H⟩ := H
    refine w_y (y_ld tok rfl rfl rfl rfl hv11) rfl rfl ?_
    obtain ⟨z12, H⟩ := H
    refine w_y (y_cat rfl rfl rfl z12) rfl rfl ?_
    obtain ⟨b13, h14, eb13, eh14, H⟩ := H
    refine w_h (h_bs tok rfl rfl rfl rfl rfl rfl rfl eb13 eh14) rfl rfl ?_
    refine w_a (a_app (s := t3_1) (r := (⟨some ⟨b13, 0, none⟩, 1, 1⟩ : Slc)) tok rfl rfl rfl rfl rfl (slcAt_push eb13 eh14) H) rfl rfl ?_
    rintro _ h16 ⟨s15, rfl, H⟩
    refine w_p tok rfl rfl rfl ?_
    refine w_end ?_
    refine x_blk ?_
    refine x_seq ?_
    refine c_weak [(3, Slc.v s15), (9, .int .i64 t9_1), (1, .pointer (some (⟨b1, 0, none⟩ : Addr))), (7, Slc.v v3), (8, .int .i64 (v3.len : Int))] ⟨rfl, rfl, rfl, rfl, rfl, trivial⟩ ?_
    refine c_region ?_
    refine w_p tok rfl rfl rfl ?_
    refine w_p tok rfl rfl rfl ?_
    refine w_end ?_
    exact x_join (s15, (IntKind.i64.wrap (t9_1 + 1))) H ⟨rfl, rfl, rfl, rfl, rfl, trivial⟩
  ·
    refine c_exit ?_
    refine x_te ?_
    refine x_te ?_
    refine x_bh ?_
    refine x_seq ?_
    refine c_seq ?_
    refine c_sim [(1, .pointer (some (⟨b1, 0, none⟩ : Addr))), (3, Slc.v t3_1)] (by kernel_rfl) (by kernel_rfl) ⟨rfl, rfl, trivial⟩ (fun wf => ?_)
    refine sim_p 0 (ei := [(1, .pointer (some (⟨b1, 0, none⟩ : Addr)))]) (d := (some 23)) wf (by kernel_rfl) ⟨rfl, trivial⟩ (by kernel_rfl) (by kernel_rfl) (fun _ => pf_p tok rfl rfl rfl rfl) (fun P_0 => ?_)
    obtain ⟨v17, hv17, H⟩ := H
    refine sim_l 1 (ei := [(23, .pointer (some (⟨b1, 0, none⟩ : Addr)))]) (d := (some 24)) wf (by kernel_rfl) ⟨rfl, trivial⟩ (by kernel_rfl) (by kernel_rfl) (pf_y rfl rfl rfl (y_ld tok rfl rfl rfl rfl hv17)) (fun P_1 => ?_)
    refine sim_p 2 (ei := [(3, Slc.v t3_1)]) (d := (some 25)) wf (by kernel_rfl) ⟨rfl, trivial⟩ (by kernel_rfl) (by kernel_rfl) (fun _ => pf_p tok rfl rfl rfl rfl) (fun P_2 => ?_)
    refine sim_c 3 [2] [2] (ei := [(25, Slc.v t3_1)]) label_braced_ok (label_braced_ref _ _ _ H) wf ⟨P_2 _, P_1, P_0 _, trivial⟩ (by kernel_rfl) ⟨rfl, trivial⟩ (by kernel_rfl) rfl rfl rfl rfl rfl ?_
    rintro _ h19 ⟨r18, rfl, H⟩
    obtain ⟨hy20, H⟩ := H
    refine sim_re (x := ⟨1, .string v17, [(23, .pointer (some (⟨b1, 0, none⟩ : Addr)))]⟩) (pf_y rfl rfl rfl (y_ld tok rfl rfl rfl rfl hy20)) (fun P_1 => ?_)
    obtain ⟨z21, H⟩ := H
    refine sim_p 4 (ei := [(24, .string v17), (26, .string r18)]) (d := (some 27)) wf (by kernel_rfl) ⟨rfl, rfl, trivial⟩ (by kernel_rfl) (by kernel_rfl) (fun _ => pf_y rfl rfl rfl (y_cat rfl rfl rfl z21)) (fun P_4 => ?_)
    refine sim_p 5 (ei := [(27, .string (v17 ++ r18))]) (d := (some 2)) wf (by kernel_rfl) ⟨rfl, trivial⟩ (by kernel_rfl) (by kernel_rfl) (fun _ => pf_p tok rfl rfl rfl rfl) (fun P_5 => ?_)
    refine sim_end wf ⟨P_5 _, P_4 _, trivial, P_1, P_0 _, trivial⟩ (by kernel_rfl) ?_
    clear wf P_0 P_1 P_2 P_4 P_5
    refine x_seq ?_
    refine c_weak [(2, .string (v17 ++ r18))] ⟨rfl, trivial⟩ ?_
    refine c_ret ?_
    exact x_ret _ rfl _ rfl ⟨(v17 ++ r18), rfl, H⟩

theorem ref15_letter_ok : CallOk Go.Proofs.Try.prog 178 := ⟨_, Go.Proofs.Try.func178, by kernel_rfl, by kernel_rfl⟩
theorem ref15_letter_ref (p0 : Int) (k : (Bool) → Heap → Prop) (h : Heap) (H : ref15_letter p0 k h) : CallsH Go.Proofs.Try.prog 178 #[.int .u8 p0] h (fun v h' => ∃ r : Bool, v = .bool r ∧ k r h') := by
  refine f_enter (N := 41) Go.Proofs.Try.func178 rfl rfl rfl (fun w0 => ?_)
  unfold ref15_letter at H
  refine c_weak [(0, .int .u8 p0)] ⟨rfl, trivial⟩ ?_
  refine c_seq ?_
  refine c_region ?_
  refine w_p tok rfl rfl rfl ?_
  refine w_end ?_
  refine x_seq ?_
  refine c_seq ?_
  refine c_region ?_
  refine w_p tok rfl rfl rfl ?_
  refine w_p tok rfl rfl rfl ?_
  refine w_p tok rfl rfl rfl ?_
  refine w_cutU 3 [(8, .bool ((decide (p0 ≥ 97)) && (decide (p0 ≤ 122)))), (0, .int .u8 p0)] ?_ ?_
  ·
    refine w_p tok rfl rfl rfl ?_
    refine w_cutU 7 [(16, .bool (((decide (p0 ≥ 97)) && (decide (p0 ≤ 122))) || ((decide (p0 ≥ 65)) && (decide (p0 ≤ 90))))), (0, .int .u8 p0)] ?_ ?_
    ·
      refine w_p tok rfl rfl rfl ?_
      refine w_cutU 7 [(24, .bool ((((decide (p0 ≥ 97)) && (decide (p0 ≤ 122))) || ((decide (p0 ≥ 65)) && (decide (p0 ≤ 90)))) || ((decide (p0 ≥ 48)) && (decide (p0 ≤ 57))))), (0, .int .u8 p0)] ?_ ?_
      ·
        refine w_p tok rfl rfl rfl ?_
        refine w_cutU 3 [(28, .bool (((((decide (p0 ≥ 97)) && (decide (p0 ≤ 122))) || ((decide (p0 ≥ 65)) && (decide (p0 ≤ 90)))) || ((decide (p0 ≥ 48)) && (decide (p0 ≤ 57)))) || (p0 == 95))), (0, .int .u8 p0)] ?_ ?_
        ·
          refine w_p tok rfl rfl rfl ?_
          refine w_cutU 3 [(32, .bool ((((((decide (p0 ≥ 97)) && (decide (p0 ≤ 122))) || ((decide (p0 ≥ 65)) && (decide (p0 ≤ 90)))) || ((decide (p0 ≥ 48)) && (decide (p0 ≤ 57)))) || (p0 == 95)) || (p0 == 45))), (0, .int .u8 p0)] ?_ ?_
          ·
            refine w_p tok rfl rfl rfl ?_
            refine w_cutU 3 [(36, .bool (((((((decide (p0 ≥ 97)) && (decide (p0 ≤ 122))) || ((decide (p0 ≥ 65)) && (decide (p0 ≤ 90)))) || ((decide (p0 ≥ 48)) && (decide (p0 ≤ 57)))) || (p0 == 95)) || (p0 == 45)) || (p0 == 46))), (0, .int .u8 p0)] ?_ ?_
            ·
              refine w_p tok rfl rfl rfl ?_
              refine w_cutU 3 [(40, .bool ((((((((decide (p0 ≥ 97)) && (decide (p0 ≤ 122))) || ((decide (p0 ≥ 65)) && (decide (p0 ≤ 90)))) || ((decide (p0 ≥ 48)) && (decide (p0 ≤ 57)))) || (p0 == 95)) || (p0 == 45)) || (p0 == 46)) || (p0 == 47)))] ?_ ?_
              ·
                refine w_p tok rfl rfl rfl ?_
                refine w_end ?_
                refine x_seq ?_
                refine c_ret ?_
                exact x_ret _ rfl _ rfl ⟨((((((((decide (p0 ≥ 97)) && (decide (p0 ≤ 122))) || ((decide (p0 ≥ 65)) && (decide (p0 ≤ 90)))) || ((decide (p0 ≥ 48)) && (decide (p0 ≤ 57)))) || (p0 == 95)) || (p0 == 45)) || (p0 == 46)) || (p0 == 47)), rfl, H⟩
              ·
                refine w_gs (d := 37) rfl (fun hb => ?_) (fun hb => ?_)
                ·
                  refine w_skip rfl rfl ?_
                  refine w_skip rfl rfl ?_
                  refine w_p tok rfl rfl rfl ?_
                  refine w_jn () rfl ⟨?_, trivial⟩
                  exact congrArg (fun b => some (Value.bool b)) (or_t hb)
                ·
                  refine w_p tok rfl rfl rfl ?_
                  refine w_p tok rfl rfl rfl ?_
                  refine w_p tok rfl rfl rfl ?_
                  refine w_jn () rfl ⟨?_, trivial⟩
                  exact congrArg (fun b => some (Value.bool b)) (or_f hb)
            ·
              refine w_gs (d := 33) rfl (fun hb => ?_) (fun hb => ?_)
              ·
                refine w_skip rfl rfl ?_
                refine w_skip rfl rfl ?_
                refine w_p tok rfl rfl rfl ?_
                refine w_jn () rfl ⟨?_, rfl, trivial⟩
                exact congrArg (fun b => some (Value.bool b)) (or_t hb)
              ·
                refine w_p tok rfl rfl rfl ?_
                refine w_p tok rfl rfl rfl ?_
                refine w_p tok rfl rfl rfl ?_
                refine w_jn () rfl ⟨?_, rfl, trivial⟩
                exact congrArg (fun b => some (Value.bool b)) (or_f hb)
          ·
            refine w_gs (d := 29) rfl (fun hb => ?_) (fun hb => ?_)
            ·
              refine w_skip rfl rfl ?_
              refine w_skip rfl rfl ?_
              refine w_p tok rfl rfl rfl ?_
              refine w_jn () rfl ⟨?_, rfl, trivial⟩
              exact congrArg (fun b => some (Value.bool b)) (or_t hb)
            ·
              refine w_p tok rfl rfl rfl ?_
              refine w_p tok rfl rfl rfl ?_
              refine w_p tok rfl rfl rfl ?_
              refine w_jn () rfl ⟨?_, rfl, trivial⟩
              exact congrArg (fun b => some (Value.bool b)) (or_f hb)
        ·
          refine w_gs (d := 25) rfl (fun hb => ?_) (fun hb => ?_)
          ·
            refine w_skip rfl rfl ?_
            refine w_skip rfl rfl ?_
            refine w_p tok rfl rfl rfl ?_
            refine w_jn () rfl ⟨?_, rfl, trivial⟩
            exact congrArg (fun b => some (Value.bool b)) (or_t hb)
          ·
            refine w_p tok rfl rfl rfl ?_
            refine w_p tok rfl rfl rfl ?_
            refine w_p tok rfl rfl rfl ?_
            refine w_jn () rfl ⟨?_, rfl, trivial⟩
            exact congrArg (fun b => some (Value.bool b)) (or_f hb)
      ·
        refine w_gs (d := 17) rfl (fun hb => ?_) (fun hb => ?_)
        ·
          refine w_skip rfl rfl ?_
          refine w_skip rfl rfl ?_
          refine w_skip rfl rfl ?_
          refine w_skip rfl rfl ?_
          refine w_skip rfl rfl ?_
          refine w_skip rfl rfl ?_
          refine w_p tok rfl rfl rfl ?_
          refine w_jn () rfl ⟨?_, rfl, trivial⟩
          exact congrArg (fun b => some (Value.bool b)) (or_t hb)
        ·
          refine w_p tok rfl rfl rfl ?_
          refine w_p tok rfl rfl rfl ?_
          refine w_p tok rfl rfl rfl ?_
          refine w_cutU 3 [(23, .bool ((decide (p0 ≥ 48)) && (decide (p0 ≤ 57)))), (0, .int .u8 p0), (17, .bool false)] ?_ ?_
          ·
            refine w_p tok rfl rfl rfl ?_
            refine w_jn () rfl ⟨?_, rfl, trivial⟩
            exact congrArg (fun b => some (Value.bool b)) (or_f hb)
          ·
            refine w_gs (d := 20) rfl (fun hb => ?_) (fun hb => ?_)
            ·
              refine w_p tok rfl rfl rfl ?_
              refine w_p tok rfl rfl rfl ?_
              refine w_p tok rfl rfl rfl ?_
              refine w_jn () rfl ⟨?_, rfl, rfl, trivial⟩
              exact congrArg (fun b => some (Value.bool b)) (and_t hb)
            ·
              refine w_skip rfl rfl ?_
              refine w_skip rfl rfl ?_
              refine w_p tok rfl rfl rfl ?_
              refine w_jn () rfl ⟨?_, rfl, rfl, trivial⟩
              exact congrArg (fun b => some (Value.bool b)) (and_f hb)
    ·
      refine w_gs (d := 9) rfl (fun hb => ?_) (fun hb => ?_)
      ·
        refine w_skip rfl rfl ?_
        refine w_skip rfl rfl ?_
        refine w_skip rfl rfl ?_
        refine w_skip rfl rfl ?_
        refine w_skip rfl rfl ?_
        refine w_skip rfl rfl ?_
        refine w_p tok rfl rfl rfl ?_
        refine w_jn () rfl ⟨?_, rfl, trivial⟩
        exact congrArg (fun b => some (Value.bool b)) (or_t hb)
      ·
        refine w_p tok rfl rfl rfl ?_
        refine w_p tok rfl rfl rfl ?_
        refine w_p tok rfl rfl rfl ?_
        refine w_cutU 3 [(15, .bool ((decide (p0 ≥ 65)) && (decide (p0 ≤ 90)))), (0, .int .u8 p0), (9, .bool false)] ?_ ?_
        ·
          refine w_p tok rfl rfl rfl ?_
          refine w_jn () rfl ⟨?_, rfl, trivial⟩
          exact congrArg (fun b => some (Value.bool b)) (or_f hb)
        ·
          refine w_gs (d := 12) rfl (fun hb => ?_) (fun hb => ?_)
          ·
            refine w_p tok rfl rfl rfl ?_
            refine w_p tok rfl rfl rfl ?_
            refine w_p tok rfl rfl rfl ?_
            refine w_jn () rfl ⟨?_, rfl, rfl, trivial⟩
            exact congrArg (fun b => some (Value.bool b)) (and_t hb)
          ·
            refine w_skip rfl rfl ?_
            refine w_skip rfl rfl ?_
            refine w_p tok rfl rfl rfl ?_
            refine w_jn () rfl ⟨?_, rfl, rfl, trivial⟩
            exact congrArg (fun b => some (Value.bool b)) (and_f hb)
  ·
    refine w_gs (d := 5) rfl (fun hb => ?_) (fun hb => ?_)
    ·
      refine w_p tok rfl rfl rfl ?_
      refine w_p tok rfl rfl rfl ?_
      refine w_p tok rfl rfl rfl ?_
      refine w_jn () rfl ⟨?_, rfl, trivial⟩
      exact congrArg (fun b => some (Value.bool b)) (and_t hb)
    ·
      refine w_skip rfl rfl ?_
      refine w_skip rfl rfl ?_
      refine w_p tok rfl rfl rfl ?_
      refine w_jn () rfl ⟨?_, rfl, trivial⟩
      exact congrArg (fun b => some (Value.bool b)) (and_f hb)

theorem ref15_Word_ok : CallOk Go.Proofs.Try.prog 119 := ⟨_, Go.Proofs.Try.func119, by kernel_rfl, by kernel_rfl⟩
theorem ref15_Word_ref (p0 : ByteArray) (k : (Bool) → Heap → Prop) (h : Heap) (H : ref15_Word p0 k h) : CallsH Go.Proofs.Try.prog 119 #[.string p0] h (fun v h' => ∃ r : Bool, v = .bool r ∧ k r h') := by
  refine f_enter (N := 23) Go.Proofs.Try.func119 rfl rfl rfl (fun w0 => ?_)
  unfold ref15_Word at H
  refine c_weak [(0, .string p0)] ⟨rfl, trivial⟩ ?_
  refine c_seq ?_
  refine c_region ?_
  refine w_p tok rfl rfl rfl ?_
  refine w_end ?_
  refine x_seq ?_
  refine c_seq ?_
  refine c_seq ?_
  refine c_region ?_
  refine w_p tok rfl rfl rfl ?_
  refine w_p tok rfl rfl rfl ?_
  refine w_p tok rfl rfl rfl ?_
  refine w_p tok rfl rfl rfl ?_
  refine w_cutU 4 [(11, .bool ((decide ((p0.size : Int) < 1)) || (decide ((p0.size : Int) > 24)))), (0, .string p0)] ?_ ?_
  ·
    refine w_end ?_
    refine x_seq ?_
    refine c_if H rfl (fun H => ?_) (fun H => ?_)
    ·
      refine c_seq ?_
      refine c_region ?_
      refine w_p tok rfl rfl rfl ?_
      refine w_end ?_
      refine x_seq ?_
      refine c_ret ?_
      refine x_tr ?_
      exact x_ret _ rfl _ rfl ⟨false, rfl, H⟩
    ·
      refine c_skip ?_
      refine x_seq ?_
      refine c_seq ?_
      refine c_seq ?_
      refine c_region ?_
      refine w_p tok rfl rfl rfl ?_
      refine w_end ?_
      refine x_seq ?_
      refine c_block ?_
      obtain ⟨I1, μ1, H0, HI⟩ := H
      refine c_loop (σ := Int) (fun (s : Int) => [(3, .int .i64 s), (0, .string p0)]) I1 μ1 0 H0 ⟨rfl, rfl, trivial⟩ ?_
      rintro t3_1 h_1 H
      replace H := HI t3_1 h_1 H
      unfold ref15_Word_l1b at H
      refine c_weak [(3, .int .i64 t3_1), (0, .string p0)] ⟨rfl, rfl, trivial⟩ ?_
      refine c_seq ?_
      refine c_seq ?_
      refine c_region ?_
      refine w_p tok rfl rfl rfl ?_
      refine w_p tok rfl rfl rfl ?_
      refine w_p tok rfl rfl rfl ?_
      refine w_p tok rfl rfl rfl ?_
      refine w_end ?_
      refine x_seq ?_
      refine c_if H rfl (fun H => ?_) (fun H => ?_)
      ·
        refine c_skip ?_
        refine x_seq ?_
        refine c_seq ?_
        refine c_block ?_
        refine c_seq ?_
        refine c_region ?_
        refine w_p tok rfl rfl rfl ?_
        refine w_p tok rfl rfl rfl ?_
        obtain ⟨v1, lv1, hv1, H⟩ := H
        refine w_y (y_ixs' tok rfl rfl rfl rfl lv1 hv1) rfl rfl ?_
        refine w_call ref15_letter_ok (ref15_letter_ref _ _ _ H) rfl rfl rfl rfl ?_
        rintro _ h3 ⟨r2, rfl, H⟩
        refine w_p tok rfl rfl rfl ?_
        refine w_end ?_
        refine x_seq ?_
        refine c_weak [(3, .int .i64 t3_1), (0, .string p0), (22, .bool (!r2))] ⟨rfl, rfl, rfl, trivial⟩ ?_
        refine c_if H rfl (fun H => ?_) (fun H => ?_)
        ·
          refine c_seq ?_
          refine c_region ?_
          refine w_p tok rfl rfl rfl ?_
          refine w_end ?_
          refine x_seq ?_
          refine c_ret ?_
          refine x_br ?_
          refine x_tr ?_
          refine x_tr ?_
          refine x_br ?_
          refine x_tr ?_
          exact x_ret _ rfl _ rfl ⟨false, rfl, H⟩
        ·
          refine c_skip ?_
          refine x_blk ?_
          refine x_seq ?_
          refine c_region ?_
          refine w_p tok rfl rfl rfl ?_
          refine w_p tok rfl rfl rfl ?_
          obtain ⟨x4, ex4, H⟩ := H
          refine w_pe tok rfl (congrArg (fun z => (.int .i64 z : Value)) ex4) rfl rfl ?_
          refine w_end ?_
          exact x_join x4 H ⟨rfl, rfl, trivial⟩
      ·
        refine c_exit ?_
        refine x_te ?_
        refine x_te ?_
        refine x_bh ?_
        refine x_seq ?_
        refine c_seq ?_
        refine c_region ?_
        refine w_p tok rfl rfl rfl ?_
        refine w_end ?_
        refine x_seq ?_
        refine c_ret ?_
        exact x_ret _ rfl _ rfl ⟨true, rfl, H⟩
  ·
    refine w_gs (d := 7) rfl (fun hb => ?_) (fun hb => ?_)
    ·
      refine w_skip rfl rfl ?_
      refine w_skip rfl rfl ?_
      refine w_skip rfl rfl ?_
      refine w_p tok rfl rfl rfl ?_
      refine w_jn () rfl ⟨?_, rfl, trivial⟩
      exact congrArg (fun b => some (Value.bool b)) (or_t hb)
    ·
      refine w_p tok rfl rfl rfl ?_
      refine w_p tok rfl rfl rfl ?_
      refine w_p tok rfl rfl rfl ?_
      refine w_p tok rfl rfl rfl ?_
      refine w_jn () rfl ⟨?_, rfl, trivial⟩
      exact congrArg (fun b => some (Value.bool b)) (or_f hb)

theorem ref15_Check_ok : CallOk Go.Proofs.Try.prog 41 := ⟨_, Go.Proofs.Try.func41, by kernel_rfl, by kernel_rfl⟩
theorem ref15_Check_ref (p0 : S_api_Series) (k : (Bool) → Heap → Prop) (h : Heap) (H : ref15_Check p0 k h) : CallsH Go.Proofs.Try.prog 41 #[.agg (S_api_Series.cs p0).toArray] h (fun v h' => ∃ r : Bool, v = .bool r ∧ k r h') := by
  refine f_enter (N := 59) Go.Proofs.Try.func41 rfl rfl rfl (fun w0 => ?_)
  unfold ref15_Check at H
  refine c_weak [(0, .agg (S_api_Series.cs p0).toArray)] ⟨rfl, trivial⟩ ?_
  refine c_seq ?_
  refine c_region ?_
  obtain ⟨b1, h2, eb1, eh2, H⟩ := H
  refine w_h (h_box rfl rfl eb1 eh2) rfl rfl ?_
  refine w_p tok rfl rfl rfl ?_
  refine w_end ?_
  refine x_seq ?_
  refine c_seq ?_
  refine c_seq ?_
  refine c_region ?_
  refine w_p tok rfl rfl rfl ?_
  obtain ⟨v3, hv3, H⟩ := H
  refine w_y (y_ld tok rfl rfl rfl rfl hv3) rfl rfl ?_
  refine w_call ref15_Word_ok (ref15_Word_ref _ _ _ H) rfl rfl rfl rfl ?_
  rintro _ h5 ⟨r4, rfl, H⟩
  refine w_p tok rfl rfl rfl ?_
  refine w_p tok rfl rfl rfl ?_
  refine w_cut 5 (α := Bool) (fun (s : Bool) => [(13, .bool s), (1, .pointer (some (⟨b1, 0, none⟩ : Addr)))]) (fun (s : Bool) h => ref15_Check_g1 (⟨b1, 0, none⟩ : Addr) s k h) ?_ ?_
  ·
    rintro t13_1 h_1 H
    replace H : ref15_Check_g1 (⟨b1, 0, none⟩ : Addr) t13_1 k h_1 := H
    unfold ref15_Check_g1 at H
    refine w_weak [(13, .bool t13_1), (1, .pointer (some (⟨b1, 0, none⟩ : Addr)))] ⟨rfl, rfl, trivial⟩ ?_
    refine w_end ?_
    refine x_seq ?_
    refine c_if H rfl (fun H => ?_) (fun H => ?_)
    ·
      refine c_seq ?_
      refine c_region ?_
      refine w_p tok rfl rfl rfl ?_
      refine w_end ?_
      refine x_seq ?_
      refine c_ret ?_
      refine x_tr ?_
      exact x_ret _ rfl _ rfl ⟨false, rfl, H⟩
    ·
      refine c_skip ?_
      refine x_seq ?_
      refine c_seq ?_
      refine c_seq ?_
      refine c_region ?_
      refine w_p tok rfl rfl rfl ?_
      refine w_end ?_
      refine x_seq ?_
      refine c_block ?_
      obtain ⟨I2, μ2, H0, HI⟩ := H
      refine c_loop (σ := Int) (fun (s : Int) => [(3, .int .i64 s), (1, .pointer (some (⟨b1, 0, none⟩ : Addr)))]) I2 μ2 0 H0 ⟨rfl, rfl, trivial⟩ ?_
      rintro t3_2 h_2 H
      replace H := HI t3_2 h_2 H
      unfold ref15_Check_l2b at H
      refine c_weak [(3, .int .i64 t3_2), (1, .pointer (some (⟨b1, 0, none⟩ : Addr)))] ⟨rfl, rfl, trivial⟩ ?_
      refine c_seq ?_
      refine c_seq ?_
      refine c_region ?_
      refine w_p tok rfl rfl rfl ?_
      refine w_p tok rfl rfl rfl ?_
      obtain ⟨v6, hv6, H⟩ := H
      refine w_y (y_ld tok rfl rfl rfl rfl hv6) rfl rfl ?_
      refine w_p tok rfl rfl rfl ?_
      refine w_p tok rfl rfl rfl ?_
      refine w_end ?_
      refine x_seq ?_
      refine c_if H rfl (fun H => ?_) (fun H => ?_)
      ·
        refine c_skip ?_
        refine x_seq ?_
        refine c_seq ?_
        refine c_block ?_
        refine c_seqJ (α := Bool) (fun (s : Bool) => [(58, .bool s), (1, .pointer (some (⟨b1, 0, none⟩ : Addr))), (3, .int .i64 t3_2)]) (fun (s : Bool) h => ref15_Check_j3 (⟨b1, 0, none⟩ : Addr) t3_2 s k (fun s h' => I2 s h' ∧ μ2 s h' < μ2 t3_2 h_2) h) ?_ ?_
        ·
          rintro t58_3 h_3 H
          replace H : ref15_Check_j3 (⟨b1, 0, none⟩ : Addr) t3_2 t58_3 k (fun s h' => I2 s h' ∧ μ2 s h' < μ2 t3_2 h_2) h_3 := H
          unfold ref15_Check_j3 at H
          refine c_weak [(58, .bool t58_3), (1, .pointer (some (⟨b1, 0, none⟩ : Addr))), (3, .int .i64 t3_2)] ⟨rfl, rfl, rfl, trivial⟩ ?_
          refine c_if H rfl (fun H => ?_) (fun H => ?_)
          ·
            refine c_seq ?_
            refine c_region ?_
            refine w_p tok rfl rfl rfl ?_
            refine w_end ?_
            refine x_seq ?_
            refine c_ret ?_
            refine x_br ?_
            refine x_tr ?_
            refine x_tr ?_
            refine x_br ?_
            refine x_tr ?_
            exact x_ret _ rfl _ rfl ⟨false, rfl, H⟩
          ·
            refine c_skip ?_
            refine x_blk ?_
            refine x_seq ?_
            refine c_region ?_
            refine w_p tok rfl rfl rfl ?_
            refine w_p tok rfl rfl rfl ?_
            obtain ⟨x7, ex7, H⟩ := H
            refine w_pe tok rfl (congrArg (fun z => (.int .i64 z : Value)) ex7) rfl rfl ?_
            refine w_end ?_
            exact x_join x7 H ⟨rfl, rfl, trivial⟩
        ·
          refine c_sim [(1, .pointer (some (⟨b1, 0, none⟩ : Addr))), (3, .int .i64 t3_2)] (by kernel_rfl) (by kernel_rfl) ⟨rfl, rfl, trivial⟩ (fun wf => ?_)
          refine sim_p 0 (ei := [(1, .pointer (some (⟨b1, 0, none⟩ : Addr)))]) (d := (some 21)) wf (by kernel_rfl) ⟨rfl, trivial⟩ (by kernel_rfl) (by kernel_rfl) (fun _ => pf_p tok rfl rfl rfl rfl) (fun P_0 => ?_)
          obtain ⟨v8, hv8, H⟩ := H
          refine sim_l 1 (ei := [(21, .pointer (some ((⟨b1, 0, none⟩ : Addr).add 1)))]) (d := (some 22)) wf (by kernel_rfl) ⟨rfl, trivial⟩ (by kernel_rfl) (by kernel_rfl) (pf_y rfl rfl rfl (y_ld tok rfl rfl rfl rfl hv8)) (fun P_1 => ?_)
          refine sim_p 2 (ei := [(3, .int .i64 t3_2)]) (d := (some 23)) wf (by kernel_rfl) ⟨rfl, trivial⟩ (by kernel_rfl) (by kernel_rfl) (fun _ => pf_p tok rfl rfl rfl rfl) (fun P_2 => ?_)
          obtain ⟨a9, ha9, la9, ua9, H⟩ := H
          refine sim_p 3 (ei := [(22, Slc.v v8), (23, .int .i64 t3_2)]) (d := (some 24)) wf (by kernel_rfl) ⟨rfl, rfl, trivial⟩ (by kernel_rfl) (by kernel_rfl) (fun _ => pf_y rfl rfl rfl (y_ixa' tok rfl rfl ha9 rfl rfl rfl la9 ua9)) (fun P_3 => ?_)
          refine sim_p 4 (ei := [(24, .pointer (some (a9.add (t3_2.toNat * 2))))]) (d := (some 25)) wf (by kernel_rfl) ⟨rfl, trivial⟩ (by kernel_rfl) (by kernel_rfl) (fun _ => pf_p tok rfl rfl rfl rfl) (fun P_4 => ?_)
          obtain ⟨v10, hv10, H⟩ := H
          refine sim_l 5 (ei := [(25, .pointer (some (a9.add (t3_2.toNat * 2))))]) (d := (some 26)) wf (by kernel_rfl) ⟨rfl, trivial⟩ (by kernel_rfl) (by kernel_rfl) (pf_y rfl rfl rfl (y_ld tok rfl rfl rfl rfl hv10)) (fun P_5 => ?_)
          refine sim_c 6 [0, 1, 2, 3, 4, 5] [0, 1, 2, 3, 4, 5] (ei := [(26, .string v10)]) ref15_Word_ok (ref15_Word_ref _ _ _ H) wf ⟨P_5, P_4 _, P_3 _, P_2 _, P_1, P_0 _, trivial⟩ (by kernel_rfl) ⟨rfl, trivial⟩ (by kernel_rfl) rfl rfl rfl rfl rfl ?_
          rintro _ h12 ⟨r11, rfl, H⟩
          refine sim_p 7 (ei := [(27, .bool r11)]) (d := (some 28)) wf (by kernel_rfl) ⟨rfl, trivial⟩ (by kernel_rfl) (by kernel_rfl) (fun _ => pf_p tok rfl rfl rfl rfl) (fun P_7 => ?_)
          refine sim_p 8 (ei := [(28, .bool (!r11))]) (d := (some 29)) wf (by kernel_rfl) ⟨rfl, trivial⟩ (by kernel_rfl) (by kernel_rfl) (fun _ => pf_p tok rfl rfl rfl rfl) (fun P_8 => ?_)
          refine sim_gif 29 H rfl (fun hb H => ?_) (fun hb H => ?_)
          ·
            refine sim_p 9 (v := undef) (ei := [(1, .pointer (some (⟨b1, 0, none⟩ : Addr))), (29, .bool true)]) (d := (some 30)) wf (by kernel_rfl) ⟨rfl, rfl, trivial⟩ (by kernel_rfl) (by kernel_rfl) (fun _ => pf_s rfl rfl rfl) (fun P_9 => ?_)
            refine sim_p 10 (v := undef) (ei := [(29, .bool true), (30, undef)]) (d := (some 31)) wf (by kernel_rfl) ⟨rfl, rfl, trivial⟩ (by kernel_rfl) (by kernel_rfl) (fun _ => pf_s rfl rfl rfl) (fun P_10 => ?_)
            refine sim_p 11 (v := undef) (ei := [(3, .int .i64 t3_2), (29, .bool true)]) (d := (some 32)) wf (by kernel_rfl) ⟨rfl, rfl, trivial⟩ (by kernel_rfl) (by kernel_rfl) (fun _ => pf_s rfl rfl rfl) (fun P_11 => ?_)
            refine sim_p 12 (v := undef) (ei := [(29, .bool true), (31, undef), (32, undef)]) (d := (some 33)) wf (by kernel_rfl) ⟨rfl, rfl, rfl, trivial⟩ (by kernel_rfl) (by kernel_rfl) (fun _ => pf_s rfl rfl rfl) (fun P_12 => ?_)
            refine sim_p 13 (v := undef) (ei := [(29, .bool true), (33, undef)]) (d := (some 34)) wf (by kernel_rfl) ⟨rfl, rfl, trivial⟩ (by kernel_rfl) (by kernel_rfl) (fun _ => pf_s rfl rfl rfl) (fun P_13 => ?_)
            refine sim_p 14 (v := undef) (ei := [(29, .bool true), (34, undef)]) (d := (some 35)) wf (by kernel_rfl) ⟨rfl, rfl, trivial⟩ (by kernel_rfl) (by kernel_rfl) (fun _ => pf_s rfl rfl rfl) (fun P_14 => ?_)
            refine sim_p 15 (v := undef) (ei := [(29, .bool true), (35, undef)]) (d := (some 36)) wf (by kernel_rfl) ⟨rfl, rfl, trivial⟩ (by kernel_rfl) (by kernel_rfl) (fun _ => pf_s rfl rfl rfl) (fun P_15 => ?_)
            refine sim_p 16 (v := undef) (ei := [(29, .bool true), (36, undef)]) (d := (some 37)) wf (by kernel_rfl) ⟨rfl, rfl, trivial⟩ (by kernel_rfl) (by kernel_rfl) (fun _ => pf_s rfl rfl rfl) (fun P_16 => ?_)
            refine sim_p 17 (ei := [(29, .bool true), (37, undef)]) (d := (some 38)) wf (by kernel_rfl) ⟨rfl, rfl, trivial⟩ (by kernel_rfl) (by kernel_rfl) (fun _ => pf_p tok rfl rfl rfl rfl) (fun P_17 => ?_)
            refine sim_p 18 (ei := [(38, .bool true)]) (d := (some 39)) wf (by kernel_rfl) ⟨rfl, trivial⟩ (by kernel_rfl) (by kernel_rfl) (fun _ => pf_p tok rfl rfl rfl rfl) (fun P_18 => ?_)
            refine sim_gif 39 H rfl (fun hb H => ?_) (fun hb H => ?_)
            ·
              refine sim_p 19 (v := undef) (ei := [(3, .int .i64 t3_2), (39, .bool true)]) (d := (some 40)) wf (by kernel_rfl) ⟨rfl, rfl, trivial⟩ (by kernel_rfl) (by kernel_rfl) (fun _ => pf_s rfl rfl rfl) (fun P_19 => ?_)
              refine sim_p 20 (v := undef) (ei := [(39, .bool true), (40, undef)]) (d := (some 41)) wf (by kernel_rfl) ⟨rfl, rfl, trivial⟩ (by kernel_rfl) (by kernel_rfl) (fun _ => pf_s rfl rfl rfl) (fun P_20 => ?_)
              refine sim_p 21 (v := undef) (ei := [(39, .bool true), (41, undef)]) (d := (some 42)) wf (by kernel_rfl) ⟨rfl, rfl, trivial⟩ (by kernel_rfl) (by kernel_rfl) (fun _ => pf_s rfl rfl rfl) (fun P_21 => ?_)
              refine sim_p 22 (v := undef) (ei := [(1, .pointer (some (⟨b1, 0, none⟩ : Addr))), (42, undef)]) (d := (some 43)) wf (by kernel_rfl) ⟨rfl, rfl, trivial⟩ (by kernel_rfl) (by kernel_rfl) (fun _ => pf_s rfl rfl rfl) (fun P_22 => ?_)
              refine sim_p 23 (v := undef) (ei := [(42, undef), (43, undef)]) (d := (some 44)) wf (by kernel_rfl) ⟨rfl, rfl, trivial⟩ (by kernel_rfl) (by kernel_rfl) (fun _ => pf_s rfl rfl rfl) (fun P_23 => ?_)
              refine sim_p 24 (v := undef) (ei := [(3, .int .i64 t3_2), (42, undef)]) (d := (some 45)) wf (by kernel_rfl) ⟨rfl, rfl, trivial⟩ (by kernel_rfl) (by kernel_rfl) (fun _ => pf_s rfl rfl rfl) (fun P_24 => ?_)
              refine sim_p 25 (v := undef) (ei := [(42, undef), (44, undef), (45, undef)]) (d := (some 46)) wf (by kernel_rfl) ⟨rfl, rfl, rfl, trivial⟩ (by kernel_rfl) (by kernel_rfl) (fun _ => pf_s rfl rfl rfl) (fun P_25 => ?_)
              refine sim_p 26 (v := undef) (ei := [(42, undef), (46, undef)]) (d := (some 47)) wf (by kernel_rfl) ⟨rfl, rfl, trivial⟩ (by kernel_rfl) (by kernel_rfl) (fun _ => pf_s rfl rfl rfl) (fun P_26 => ?_)
              refine sim_p 27 (v := undef) (ei := [(42, undef), (47, undef)]) (d := (some 48)) wf (by kernel_rfl) ⟨rfl, rfl, trivial⟩ (by kernel_rfl) (by kernel_rfl) (fun _ => pf_s rfl rfl rfl) (fun P_27 => ?_)
              refine sim_p 28 (v := undef) (ei := [(1, .pointer (some (⟨b1, 0, none⟩ : Addr))), (42, undef)]) (d := (some 49)) wf (by kernel_rfl) ⟨rfl, rfl, trivial⟩ (by kernel_rfl) (by kernel_rfl) (fun _ => pf_s rfl rfl rfl) (fun P_28 => ?_)
              refine sim_p 29 (v := undef) (ei := [(42, undef), (49, undef)]) (d := (some 50)) wf (by kernel_rfl) ⟨rfl, rfl, trivial⟩ (by kernel_rfl) (by kernel_rfl) (fun _ => pf_s rfl rfl rfl) (fun P_29 => ?_)
              refine sim_p 30 (v := undef) (ei := [(3, .int .i64 t3_2), (42, undef)]) (d := (some 51)) wf (by kernel_rfl) ⟨rfl, rfl, trivial⟩ (by kernel_rfl) (by kernel_rfl) (fun _ => pf_s rfl rfl rfl) (fun P_30 => ?_)
              refine sim_p 31 (v := undef) (ei := [(42, undef), (51, undef)]) (d := (some 52)) wf (by kernel_rfl) ⟨rfl, rfl, trivial⟩ (by kernel_rfl) (by kernel_rfl) (fun _ => pf_s rfl rfl rfl) (fun P_31 => ?_)
              refine sim_p 32 (v := undef) (ei := [(42, undef), (50, undef), (52, undef)]) (d := (some 53)) wf (by kernel_rfl) ⟨rfl, rfl, rfl, trivial⟩ (by kernel_rfl) (by kernel_rfl) (fun _ => pf_s rfl rfl rfl) (fun P_32 => ?_)
              refine sim_p 33 (v := undef) (ei := [(42, undef), (53, undef)]) (d := (some 54)) wf (by kernel_rfl) ⟨rfl, rfl, trivial⟩ (by kernel_rfl) (by kernel_rfl) (fun _ => pf_s rfl rfl rfl) (fun P_33 => ?_)
              refine sim_p 34 (v := undef) (ei := [(42, undef), (54, undef)]) (d := (some 55)) wf (by kernel_rfl) ⟨rfl, rfl, trivial⟩ (by kernel_rfl) (by kernel_rfl) (fun _ => pf_s rfl rfl rfl) (fun P_34 => ?_)
              refine sim_p 35 (v := undef) (ei := [(42, undef), (48, undef), (55, undef)]) (d := (some 56)) wf (by kernel_rfl) ⟨rfl, rfl, rfl, trivial⟩ (by kernel_rfl) (by kernel_rfl) (fun _ => pf_s rfl rfl rfl) (fun P_35 => ?_)
              refine sim_p 36 (v := undef) (ei := [(39, .bool true), (42, undef), (56, undef)]) (d := (some 57)) wf (by kernel_rfl) ⟨rfl, rfl, rfl, trivial⟩ (by kernel_rfl) (by kernel_rfl) (fun _ => pf_s rfl rfl rfl) (fun P_36 => ?_)
              refine sim_p 37 (ei := [(39, .bool true), (57, undef)]) (d := (some 58)) wf (by kernel_rfl) ⟨rfl, rfl, trivial⟩ (by kernel_rfl) (by kernel_rfl) (fun _ => pf_p tok rfl rfl rfl rfl) (fun P_37 => ?_)
              refine sim_end wf ⟨P_37 _, P_36 _, P_35 _, P_34 _, P_33 _, P_32 _, P_31 _, P_30 _, P_29 _, P_28 _, P_27 _, P_26 _, P_25 _, P_24 _, P_23 _, P_22 _, P_21 _, P_20 _, P_19 _, P_18 _, P_17 _, P_16 _, P_15 _, P_14 _, P_13 _, P_12 _, P_11 _, P_10 _, P_9 _, P_8 _, P_7 _, trivial, trivial, trivial, trivial, trivial, trivial, trivial⟩ (by kernel_rfl) ?_
              clear wf P_0 P_1 P_10 P_11 P_12 P_13 P_14 P_15 P_16 P_17 P_18 P_19 P_2 P_20 P_21 P_22 P_23 P_24 P_25 P_26 P_27 P_28 P_29 P_3 P_30 P_31 P_32 P_33 P_34 P_35 P_36 P_37 P_4 P_5 P_7 P_8 P_9
              exact x_join true H ⟨rfl, rfl, rfl, trivial⟩
            ·
              refine sim_p 19 (ei := [(3, .int .i64 t3_2), (39, .bool false)]) (d := (some 40)) wf (by kernel_rfl) ⟨rfl, rfl, trivial⟩ (by kernel_rfl) (by kernel_rfl) (fun _ => pf_p tok rfl rfl rfl rfl) (fun P_19 => ?_)
              refine sim_p 20 (ei := [(39, .bool false), (40, .int .i64 t3_2)]) (d := (some 41)) wf (by kernel_rfl) ⟨rfl, rfl, trivial⟩ (by kernel_rfl) (by kernel_rfl) (fun _ => pf_p tok rfl rfl rfl rfl) (fun P_20 => ?_)
              refine sim_p 21 (ei := [(39, .bool false), (41, .bool (decide (t3_2 > 0)))]) (d := (some 42)) wf (by kernel_rfl) ⟨rfl, rfl, trivial⟩ (by kernel_rfl) (by kernel_rfl) (fun _ => pf_p tok rfl rfl rfl rfl) (fun P_21 => ?_)
              refine sim_gif 42 H rfl (fun hb H => ?_) (fun hb H => ?_)
              ·
                refine sim_p 22 (ei := [(1, .pointer (some (⟨b1, 0, none⟩ : Addr))), (42, .bool true)]) (d := (some 43)) wf (by kernel_rfl) ⟨rfl, rfl, trivial⟩ (by kernel_rfl) (by kernel_rfl) (fun _ => pf_p tok rfl rfl rfl rfl) (fun P_22 => ?_)
                obtain ⟨v13, hv13, H⟩ := H
                refine sim_l 23 (ei := [(42, .bool true), (43, .pointer (some ((⟨b1, 0, none⟩ : Addr).add 1)))]) (d := (some 44)) wf (by kernel_rfl) ⟨rfl, rfl, trivial⟩ (by kernel_rfl) (by kernel_rfl) (pf_y rfl rfl rfl (y_ld tok rfl rfl rfl rfl hv13)) (fun P_23 => ?_)
                refine sim_p 24 (ei := [(3, .int .i64 t3_2), (42, .bool true)]) (d := (some 45)) wf (by kernel_rfl) ⟨rfl, rfl, trivial⟩ (by kernel_rfl) (by kernel_rfl) (fun _ => pf_p tok rfl rfl rfl rfl) (fun P_24 => ?_)
                obtain ⟨a14, ha14, la14, ua14, H⟩ := H
                refine sim_p 25 (ei := [(42, .bool true), (44, Slc.v v13), (45, .int .i64 t3_2)]) (d := (some 46)) wf (by kernel_rfl) ⟨rfl, rfl, rfl, trivial⟩ (by kernel_rfl) (by kernel_rfl) (fun _ => pf_y rfl rfl rfl (y_ixa' tok rfl rfl ha14 rfl rfl rfl la14 ua14)) (fun P_25 => ?_)
                refine sim_p 26 (ei := [(42, .bool true), (46, .pointer (some (a14.add (t3_2.toNat * 2))))]) (d := (some 47)) wf (by kernel_rfl) ⟨rfl, rfl, trivial⟩ (by kernel_rfl) (by kernel_rfl) (fun _ => pf_p tok rfl rfl rfl rfl) (fun P_26 => ?_)
                obtain ⟨v15, hv15, H⟩ := H
                refine sim_l 27 (ei := [(42, .bool true), (47, .pointer (some (a14.add (t3_2.toNat * 2))))]) (d := (some 48)) wf (by kernel_rfl) ⟨rfl, rfl, trivial⟩ (by kernel_rfl) (by kernel_rfl) (pf_y rfl rfl rfl (y_ld tok rfl rfl rfl rfl hv15)) (fun P_27 => ?_)
                refine sim_p 28 (ei := [(1, .pointer (some (⟨b1, 0, none⟩ : Addr))), (42, .bool true)]) (d := (some 49)) wf (by kernel_rfl) ⟨rfl, rfl, trivial⟩ (by kernel_rfl) (by kernel_rfl) (fun _ => pf_p tok rfl rfl rfl rfl) (fun P_28 => ?_)
                obtain ⟨v16, hv16, H⟩ := H
                refine sim_l 29 (ei := [(42, .bool true), (49, .pointer (some ((⟨b1, 0, none⟩ : Addr).add 1)))]) (d := (some 50)) wf (by kernel_rfl) ⟨rfl, rfl, trivial⟩ (by kernel_rfl) (by kernel_rfl) (pf_y rfl rfl rfl (y_ld tok rfl rfl rfl rfl hv16)) (fun P_29 => ?_)
                refine sim_p 30 (ei := [(3, .int .i64 t3_2), (42, .bool true)]) (d := (some 51)) wf (by kernel_rfl) ⟨rfl, rfl, trivial⟩ (by kernel_rfl) (by kernel_rfl) (fun _ => pf_p tok rfl rfl rfl rfl) (fun P_30 => ?_)
                refine sim_p 31 (ei := [(42, .bool true), (51, .int .i64 t3_2)]) (d := (some 52)) wf (by kernel_rfl) ⟨rfl, rfl, trivial⟩ (by kernel_rfl) (by kernel_rfl) (fun _ => pf_p tok rfl rfl rfl rfl) (fun P_31 => ?_)
                obtain ⟨a17, ha17, la17, ua17, H⟩ := H
                refine sim_p 32 (ei := [(42, .bool true), (50, Slc.v v16), (52, .int .i64 (IntKind.i64.wrap (t3_2 - 1)))]) (d := (some 53)) wf (by kernel_rfl) ⟨rfl, rfl, rfl, trivial⟩ (by kernel_rfl) (by kernel_rfl) (fun _ => pf_y rfl rfl rfl (y_ixa' tok rfl rfl ha17 rfl rfl rfl la17 ua17)) (fun P_32 => ?_)
                refine sim_p 33 (ei := [(42, .bool true), (53, .pointer (some (a17.add ((IntKind.i64.wrap (t3_2 - 1)).toNat * 2))))]) (d := (some 54)) wf (by kernel_rfl) ⟨rfl, rfl, trivial⟩ (by kernel_rfl) (by kernel_rfl) (fun _ => pf_p tok rfl rfl rfl rfl) (fun P_33 => ?_)
                obtain ⟨v18, hv18, H⟩ := H
                refine sim_l 34 (ei := [(42, .bool true), (54, .pointer (some (a17.add ((IntKind.i64.wrap (t3_2 - 1)).toNat * 2))))]) (d := (some 55)) wf (by kernel_rfl) ⟨rfl, rfl, trivial⟩ (by kernel_rfl) (by kernel_rfl) (pf_y rfl rfl rfl (y_ld tok rfl rfl rfl rfl hv18)) (fun P_34 => ?_)
                refine sim_p 35 (ei := [(42, .bool true), (48, .string v15), (55, .string v18)]) (d := (some 56)) wf (by kernel_rfl) ⟨rfl, rfl, rfl, trivial⟩ (by kernel_rfl) (by kernel_rfl) (fun _ => pf_p tok rfl rfl rfl rfl) (fun P_35 => ?_)
                refine sim_p 36 (ei := [(39, .bool false), (42, .bool true), (56, .bool (Op.bytesLess v15.toList v18.toList || v15.toList == v18.toList))]) (d := (some 57)) wf (by kernel_rfl) ⟨rfl, rfl, rfl, trivial⟩ (by kernel_rfl) (by kernel_rfl) (fun _ => pf_p tok rfl rfl rfl rfl) (fun P_36 => ?_)
                refine sim_p 37 (ei := [(39, .bool false), (57, .bool (Op.bytesLess v15.toList v18.toList || v15.toList == v18.toList))]) (d := (some 58)) wf (by kernel_rfl) ⟨rfl, rfl, trivial⟩ (by kernel_rfl) (by kernel_rfl) (fun _ => pf_p tok rfl rfl rfl rfl) (fun P_37 => ?_)
                refine sim_end wf ⟨P_37 _, P_36 _, P_35 _, P_34, P_33 _, P_32 _, P_31 _, P_30 _, P_29, P_28 _, P_27, P_26 _, P_25 _, P_24 _, P_23, P_22 _, P_21 _, P_20 _, P_19 _, P_18 _, P_17 _, P_16 _, P_15 _, P_14 _, P_13 _, P_12 _, P_11 _, P_10 _, P_9 _, P_8 _, P_7 _, trivial, trivial, trivial, trivial, trivial, trivial, trivial⟩ (by kernel_rfl) ?_
                clear wf P_0 P_1 P_10 P_11 P_12 P_13 P_14 P_15 P_16 P_17 P_18 P_19 P_2 P_20 P_21 P_22 P_23 P_24 P_25 P_26 P_27 P_28 P_29 P_3 P_30 P_31 P_32 P_33 P_34 P_35 P_36 P_37 P_4 P_5 P_7 P_8 P_9
                exact x_join (Op.bytesLess v15.toList v18.toList || v15.toList == v18.toList) H ⟨rfl, rfl, rfl, trivial⟩
              ·
                refine sim_p 22 (v := undef) (ei := [(1, .pointer (some (⟨b1, 0, none⟩ : Addr))), (42, .bool false)]) (d := (some 43)) wf (by kernel_rfl) ⟨rfl, rfl, trivial⟩ (by kernel_rfl) (by kernel_rfl) (fun _ => pf_s rfl rfl rfl) (fun P_22 => ?_)
                refine sim_p 23 (v := undef) (ei := [(42, .bool false), (43, undef)]) (d := (some 44)) wf (by kernel_rfl) ⟨rfl, rfl, trivial⟩ (by kernel_rfl) (by kernel_rfl) (fun _ => pf_s rfl rfl rfl) (fun P_23 => ?_)
                refine sim_p 24 (v := undef) (ei := [(3, .int .i64 t3_2), (42, .bool false)]) (d := (some 45)) wf (by kernel_rfl) ⟨rfl, rfl, trivial⟩ (by kernel_rfl) (by kernel_rfl) (fun _ => pf_s rfl rfl rfl) (fun P_24 => ?_)
                refine sim_p 25 (v := undef) (ei := [(42, .bool false), (44, undef), (45, undef)]) (d := (some 46)) wf (by kernel_rfl) ⟨rfl, rfl, rfl, trivial⟩ (by kernel_rfl) (by kernel_rfl) (fun _ => pf_s rfl rfl rfl) (fun P_25 => ?_)
                refine sim_p 26 (v := undef) (ei := [(42, .bool false), (46, undef)]) (d := (some 47)) wf (by kernel_rfl) ⟨rfl, rfl, trivial⟩ (by kernel_rfl) (by kernel_rfl) (fun _ => pf_s rfl rfl rfl) (fun P_26 => ?_)
                refine sim_p 27 (v := undef) (ei := [(42, .bool false), (47, undef)]) (d := (some 48)) wf (by kernel_rfl) ⟨rfl, rfl, trivial⟩ (by kernel_rfl) (by kernel_rfl) (fun _ => pf_s rfl rfl rfl) (fun P_27 => ?_)
                refine sim_p 28 (v := undef) (ei := [(1, .pointer (some (⟨b1, 0, none⟩ : Addr))), (42, .bool false)]) (d := (some 49)) wf (by kernel_rfl) ⟨rfl, rfl, trivial⟩ (by kernel_rfl) (by kernel_rfl) (fun _ => pf_s rfl rfl rfl) (fun P_28 => ?_)
                refine sim_p 29 (v := undef) (ei := [(42, .bool false), (49, undef)]) (d := (some 50)) wf (by kernel_rfl) ⟨rfl, rfl, trivial⟩ (by kernel_rfl) (by kernel_rfl) (fun _ => pf_s rfl rfl rfl) (fun P_29 => ?_)
                refine sim_p 30 (v := undef) (ei := [(3, .int .i64 t3_2), (42, .bool false)]) (d := (some 51)) wf (by kernel_rfl) ⟨rfl, rfl, trivial⟩ (by kernel_rfl) (by kernel_rfl) (fun _ => pf_s rfl rfl rfl) (fun P_30 => ?_)
                refine sim_p 31 (v := undef) (ei := [(42, .bool false), (51, undef)]) (d := (some 52)) wf (by kernel_rfl) ⟨rfl, rfl, trivial⟩ (by kernel_rfl) (by kernel_rfl) (fun _ => pf_s rfl rfl rfl) (fun P_31 => ?_)
                refine sim_p 32 (v := undef) (ei := [(42, .bool false), (50, undef), (52, undef)]) (d := (some 53)) wf (by kernel_rfl) ⟨rfl, rfl, rfl, trivial⟩ (by kernel_rfl) (by kernel_rfl) (fun _ => pf_s rfl rfl rfl) (fun P_32 => ?_)
                refine sim_p 33 (v := undef) (ei := [(42, .bool false), (53, undef)]) (d := (some 54)) wf (by kernel_rfl) ⟨rfl, rfl, trivial⟩ (by kernel_rfl) (by kernel_rfl) (fun _ => pf_s rfl rfl rfl) (fun P_33 => ?_)
                refine sim_p 34 (v := undef) (ei := [(42, .bool false), (54, undef)]) (d := (some 55)) wf (by kernel_rfl) ⟨rfl, rfl, trivial⟩ (by kernel_rfl) (by kernel_rfl) (fun _ => pf_s rfl rfl rfl) (fun P_34 => ?_)
                refine sim_p 35 (v := undef) (ei := [(42, .bool false), (48, undef), (55, undef)]) (d := (some 56)) wf (by kernel_rfl) ⟨rfl, rfl, rfl, trivial⟩ (by kernel_rfl) (by kernel_rfl) (fun _ => pf_s rfl rfl rfl) (fun P_35 => ?_)
                refine sim_p 36 (ei := [(39, .bool false), (42, .bool false), (56, undef)]) (d := (some 57)) wf (by kernel_rfl) ⟨rfl, rfl, rfl, trivial⟩ (by kernel_rfl) (by kernel_rfl) (fun _ => pf_p tok rfl rfl rfl rfl) (fun P_36 => ?_)
                refine sim_p 37 (ei := [(39, .bool false), (57, .bool false)]) (d := (some 58)) wf (by kernel_rfl) ⟨rfl, rfl, trivial⟩ (by kernel_rfl) (by kernel_rfl) (fun _ => pf_p tok rfl rfl rfl rfl) (fun P_37 => ?_)
                refine sim_end wf ⟨P_37 _, P_36 _, P_35 _, P_34 _, P_33 _, P_32 _, P_31 _, P_30 _, P_29 _, P_28 _, P_27 _, P_26 _, P_25 _, P_24 _, P_23 _, P_22 _, P_21 _, P_20 _, P_19 _, P_18 _, P_17 _, P_16 _, P_15 _, P_14 _, P_13 _, P_12 _, P_11 _, P_10 _, P_9 _, P_8 _, P_7 _, trivial, trivial, trivial, trivial, trivial, trivial, trivial⟩ (by kernel_rfl) ?_
                clear wf P_0 P_1 P_10 P_11 P_12 P_13 P_14 P_15 P_16 P_17 P_18 P_19 P_2 P_20 P_21 P_22 P_23 P_24 P_25 P_26 P_27 P_28 P_29 P_3 P_30 P_31 P_32 P_33 P_34 P_35 P_36 P_37 P_4 P_5 P_7 P_8 P_9
                exact x_join false H ⟨rfl, rfl, rfl, trivial⟩
          ·
            refine sim_p 9 (ei := [(1, .pointer (some (⟨b1, 0, none⟩ : Addr))), (29, .bool false)]) (d := (some 30)) wf (by kernel_rfl) ⟨rfl, rfl, trivial⟩ (by kernel_rfl) (by kernel_rfl) (fun _ => pf_p tok rfl rfl rfl rfl) (fun P_9 => ?_)
            obtain ⟨v19, hv19, H⟩ := H
            refine sim_l 10 (ei := [(29, .bool false), (30, .pointer (some ((⟨b1, 0, none⟩ : Addr).add 1)))]) (d := (some 31)) wf (by kernel_rfl) ⟨rfl, rfl, trivial⟩ (by kernel_rfl) (by kernel_rfl) (pf_y rfl rfl rfl (y_ld tok rfl rfl rfl rfl hv19)) (fun P_10 => ?_)
            refine sim_p 11 (ei := [(3, .int .i64 t3_2), (29, .bool false)]) (d := (some 32)) wf (by kernel_rfl) ⟨rfl, rfl, trivial⟩ (by kernel_rfl) (by kernel_rfl) (fun _ => pf_p tok rfl rfl rfl rfl) (fun P_11 => ?_)
            obtain ⟨a20, ha20, la20, ua20, H⟩ := H
            refine sim_p 12 (ei := [(29, .bool false), (31, Slc.v v19), (32, .int .i64 t3_2)]) (d := (some 33)) wf (by kernel_rfl) ⟨rfl, rfl, rfl, trivial⟩ (by kernel_rfl) (by kernel_rfl) (fun _ => pf_y rfl rfl rfl (y_ixa' tok rfl rfl ha20 rfl rfl rfl la20 ua20)) (fun P_12 => ?_)
            refine sim_p 13 (ei := [(29, .bool false), (33, .pointer (some (a20.add (t3_2.toNat * 2))))]) (d := (some 34)) wf (by kernel_rfl) ⟨rfl, rfl, trivial⟩ (by kernel_rfl) (by kernel_rfl) (fun _ => pf_p tok rfl rfl rfl rfl) (fun P_13 => ?_)
            obtain ⟨v21, hv21, H⟩ := H
            refine sim_l 14 (ei := [(29, .bool false), (34, .pointer (some ((a20.add (t3_2.toNat * 2)).add 1)))]) (d := (some 35)) wf (by kernel_rfl) ⟨rfl, rfl, trivial⟩ (by kernel_rfl) (by kernel_rfl) (pf_y rfl rfl rfl (y_ld tok rfl rfl rfl rfl hv21)) (fun P_14 => ?_)
            refine sim_c 15 [0, 1, 2, 3, 4, 5, 6, 7, 8, 9, 10, 11, 12, 13, 14] [0, 1, 2, 3, 4, 5, 7, 8, 9, 10, 11, 12, 13, 14] (ei := [(29, .bool false), (35, .string v21)]) ref15_Word_ok (ref15_Word_ref _ _ _ H) wf ⟨P_14, P_13 _, P_12 _, P_11 _, P_10, P_9 _, P_8 _, P_7 _, trivial, trivial, trivial, trivial, trivial, trivial, trivial⟩ (by kernel_rfl) ⟨rfl, rfl, trivial⟩ (by kernel_rfl) rfl rfl rfl rfl rfl ?_
            rintro _ h23 ⟨r22, rfl, H⟩
            refine sim_p 16 (ei := [(29, .bool false), (36, .bool r22)]) (d := (some 37)) wf (by kernel_rfl) ⟨rfl, rfl, trivial⟩ (by kernel_rfl) (by kernel_rfl) (fun _ => pf_p tok rfl rfl rfl rfl) (fun P_16 => ?_)
            refine sim_p 17 (ei := [(29, .bool false), (37, .bool (!r22))]) (d := (some 38)) wf (by kernel_rfl) ⟨rfl, rfl, trivial⟩ (by kernel_rfl) (by kernel_rfl) (fun _ => pf_p tok rfl rfl rfl rfl) (fun P_17 => ?_)
            refine sim_p 18 (ei := [(38, .bool (!r22))]) (d := (some 39)) wf (by kernel_rfl) ⟨rfl, trivial⟩ (by kernel_rfl) (by kernel_rfl) (fun _ => pf_p tok rfl rfl rfl rfl) (fun P_18 => ?_)
            refine sim_gif 39 H rfl (fun hb H => ?_) (fun hb H => ?_)
            ·
              refine sim_p 19 (v := undef) (ei := [(3, .int .i64 t3_2), (39, .bool true)]) (d := (some 40)) wf (by kernel_rfl) ⟨rfl, rfl, trivial⟩ (by kernel_rfl) (by kernel_rfl) (fun _ => pf_s rfl rfl rfl) (fun P_19 => ?_)
              refine sim_p 20 (v := undef) (ei := [(39, .bool true), (40, undef)]) (d := (some 41)) wf (by kernel_rfl) ⟨rfl, rfl, trivial⟩ (by kernel_rfl) (by kernel_rfl) (fun _ => pf_s rfl rfl rfl) (fun P_20 => ?_)
              refine sim_p 21 (v := undef) (ei := [(39, .bool true), (41, undef)]) (d := (some 42)) wf (by kernel_rfl) ⟨rfl, rfl, trivial⟩ (by kernel_rfl) (by kernel_rfl) (fun _ => pf_s rfl rfl rfl) (fun P_21 => ?_)
              refine sim_p 22 (v := undef) (ei := [(1, .pointer (some (⟨b1, 0, none⟩ : Addr))), (42, undef)]) (d := (some 43)) wf (by kernel_rfl) ⟨rfl, rfl, trivial⟩ (by kernel_rfl) (by kernel_rfl) (fun _ => pf_s rfl rfl rfl) (fun P_22 => ?_)
              refine sim_p 23 (v := undef) (ei := [(42, undef), (43, undef)]) (d := (some 44)) wf (by kernel_rfl) ⟨rfl, rfl, trivial⟩ (by kernel_rfl) (by kernel_rfl) (fun _ => pf_s rfl rfl rfl) (fun P_23 => ?_)
              refine sim_p 24 (v := undef) (ei := [(3, .int .i64 t3_2), (42, undef)]) (d := (some 45)) wf (by kernel_rfl) ⟨rfl, rfl, trivial⟩ (by kernel_rfl) (by kernel_rfl) (fun _ => pf_s rfl rfl rfl) (fun P_24 => ?_)
              refine sim_p 25 (v := undef) (ei := [(42, undef), (44, undef), (45, undef)]) (d := (some 46)) wf (by kernel_rfl) ⟨rfl, rfl, rfl, trivial⟩ (by kernel_rfl) (by kernel_rfl) (fun _ => pf_s rfl rfl rfl) (fun P_25 => ?_)
              refine sim_p 26 (v := undef) (ei := [(42, undef), (46, undef)]) (d := (some 47)) wf (by kernel_rfl) ⟨rfl, rfl, trivial⟩ (by kernel_rfl) (by kernel_rfl) (fun _ => pf_s rfl rfl rfl) (fun P_26 => ?_)
              refine sim_p 27 (v := undef) (ei := [(42, undef), (47, undef)]) (d := (some 48)) wf (by kernel_rfl) ⟨rfl, rfl, trivial⟩ (by kernel_rfl) (by kernel_rfl) (fun _ => pf_s rfl rfl rfl) (fun P_27 => ?_)
              refine sim_p 28 (v := undef) (ei := [(1, .pointer (some (⟨b1, 0, none⟩ : Addr))), (42, undef)]) (d := (some 49)) wf (by kernel_rfl) ⟨rfl, rfl, trivial⟩ (by kernel_rfl) (by kernel_rfl) (fun _ => pf_s rfl rfl rfl) (fun P_28 => ?_)
              refine sim_p 29 (v := undef) (ei := [(42, undef), (49, undef)]) (d := (some 50)) wf (by kernel_rfl) ⟨rfl, rfl, trivial⟩ (by kernel_rfl) (by kernel_rfl) (fun _ => pf_s rfl rfl rfl) (fun P_29 => ?_)
              refine sim_p 30 (v := undef) (ei := [(3, .int .i64 t3_2), (42, undef)]) (d := (some 51)) wf (by kernel_rfl) ⟨rfl, rfl, trivial⟩ (by kernel_rfl) (by kernel_rfl) (fun _ => pf_s rfl rfl rfl) (fun P_30 => ?_)
              refine sim_p 31 (v := undef) (ei := [(42, undef), (51, undef)]) (d := (some 52)) wf (by kernel_rfl) ⟨rfl, rfl, trivial⟩ (by kernel_rfl) (by kernel_rfl) (fun _ => pf_s rfl rfl rfl) (fun P_31 => ?_)
              refine sim_p 32 (v := undef) (ei := [(42, undef), (50, undef), (52, undef)]) (d := (some 53)) wf (by kernel_rfl) ⟨rfl, rfl, rfl, trivial⟩ (by kernel_rfl) (by kernel_rfl) (fun _ => pf_s rfl rfl rfl) (fun P_32 => ?_)
              refine sim_p 33 (v := undef) (ei := [(42, undef), (53, undef)]) (d := (some 54)) wf (by kernel_rfl) ⟨rfl, rfl, trivial⟩ (by kernel_rfl) (by kernel_rfl) (fun _ => pf_s rfl rfl rfl) (fun P_33 => ?_)
              refine sim_p 34 (v := undef) (ei := [(42, undef), (54, undef)]) (d := (some 55)) wf (by kernel_rfl) ⟨rfl, rfl, trivial⟩ (by kernel_rfl) (by kernel_rfl) (fun _ => pf_s rfl rfl rfl) (fun P_34 => ?_)
              refine sim_p 35 (v := undef) (ei := [(42, undef), (48, undef), (55, undef)]) (d := (some 56)) wf (by kernel_rfl) ⟨rfl, rfl, rfl, trivial⟩ (by kernel_rfl) (by kernel_rfl) (fun _ => pf_s rfl rfl rfl) (fun P_35 => ?_)
              refine sim_p 36 (v := undef) (ei := [(39, .bool true), (42, undef), (56, undef)]) (d := (some 57)) wf (by kernel_rfl) ⟨rfl, rfl, rfl, trivial⟩ (by kernel_rfl) (by kernel_rfl) (fun _ => pf_s rfl rfl rfl) (fun P_36 => ?_)
              refine sim_p 37 (ei := [(39, .bool true), (57, undef)]) (d := (some 58)) wf (by kernel_rfl) ⟨rfl, rfl, trivial⟩ (by kernel_rfl) (by kernel_rfl) (fun _ => pf_p tok rfl rfl rfl rfl) (fun P_37 => ?_)
              refine sim_end wf ⟨P_37 _, P_36 _, P_35 _, P_34 _, P_33 _, P_32 _, P_31 _, P_30 _, P_29 _, P_28 _, P_27 _, P_26 _, P_25 _, P_24 _, P_23 _, P_22 _, P_21 _, P_20 _, P_19 _, P_18 _, P_17 _, P_16 _, trivial, trivial, trivial, trivial, trivial, trivial, trivial, trivial, trivial, trivial, trivial, trivial, trivial, trivial, trivial⟩ (by kernel_rfl) ?_
              clear wf P_0 P_1 P_10 P_11 P_12 P_13 P_14 P_16 P_17 P_18 P_19 P_2 P_20 P_21 P_22 P_23 P_24 P_25 P_26 P_27 P_28 P_29 P_3 P_30 P_31 P_32 P_33 P_34 P_35 P_36 P_37 P_4 P_5 P_7 P_8 P_9
              exact x_join true H ⟨rfl, rfl, rfl, trivial⟩
            ·
              refine sim_p 19 (ei := [(3, .int .i64 t3_2), (39, .bool false)]) (d := (some 40)) wf (by kernel_rfl) ⟨rfl, rfl, trivial⟩ (by kernel_rfl) (by kernel_rfl) (fun _ => pf_p tok rfl rfl rfl rfl) (fun P_19 => ?_)
              refine sim_p 20 (ei := [(39, .bool false), (40, .int .i64 t3_2)]) (d := (some 41)) wf (by kernel_rfl) ⟨rfl, rfl, trivial⟩ (by kernel_rfl) (by kernel_rfl) (fun _ => pf_p tok rfl rfl rfl rfl) (fun P_20 => ?_)
              refine sim_p 21 (ei := [(39, .bool false), (41, .bool (decide (t3_2 > 0)))]) (d := (some 42)) wf (by kernel_rfl) ⟨rfl, rfl, trivial⟩ (by kernel_rfl) (by kernel_rfl) (fun _ => pf_p tok rfl rfl rfl rfl) (fun P_21 => ?_)
              refine sim_gif 42 H rfl (fun hb H => ?_) (fun hb H => ?_)
              ·
                refine sim_p 22 (ei := [(1, .pointer (some (⟨b1, 0, none⟩ : Addr))), (42, .bool true)]) (d := (some 43)) wf (by kernel_rfl) ⟨rfl, rfl, trivial⟩ (by kernel_rfl) (by kernel_rfl) (fun _ => pf_p tok rfl rfl rfl rfl) (fun P_22 => ?_)
                obtain ⟨v24, hv24, H⟩ := H
                refine sim_l 23 (ei := [(42, .bool true), (43, .pointer (some ((⟨b1, 0, none⟩ : Addr).add 1)))]) (d := (some 44)) wf (by kernel_rfl) ⟨rfl, rfl, trivial⟩ (by kernel_rfl) (by kernel_rfl) (pf_y rfl rfl rfl (y_ld tok rfl rfl rfl rfl hv24)) (fun P_23 => ?_)
                refine sim_p 24 (ei := [(3, .int .i64 t3_2), (42, .bool true)]) (d := (some 45)) wf (by kernel_rfl) ⟨rfl, rfl, trivial⟩ (by kernel_rfl) (by kernel_rfl) (fun _ => pf_p tok rfl rfl rfl rfl) (fun P_24 => ?_)
                obtain ⟨a25, ha25, la25, ua25, H⟩ := H
                refine sim_p 25 (ei := [(42, .bool true), (44, Slc.v v24), (45, .int .i64 t3_2)]) (d := (some 46)) wf (by kernel_rfl) ⟨rfl, rfl, rfl, trivial⟩ (by kernel_rfl) (by kernel_rfl) (fun _ => pf_y rfl rfl rfl (y_ixa' tok rfl rfl ha25 rfl rfl rfl la25 ua25)) (fun P_25 => ?_)
                refine sim_p 26 (ei := [(42, .bool true), (46, .pointer (some (a25.add (t3_2.toNat * 2))))]) (d := (some 47)) wf (by kernel_rfl) ⟨rfl, rfl, trivial⟩ (by kernel_rfl) (by kernel_rfl) (fun _ => pf_p tok rfl rfl rfl rfl) (fun P_26 => ?_)
                obtain ⟨v26, hv26, H⟩ := H
                refine sim_l 27 (ei := [(42, .bool true), (47, .pointer (some (a25.add (t3_2.toNat * 2))))]) (d := (some 48)) wf (by kernel_rfl) ⟨rfl, rfl, trivial⟩ (by kernel_rfl) (by kernel_rfl) (pf_y rfl rfl rfl (y_ld tok rfl rfl rfl rfl hv26)) (fun P_27 => ?_)
                refine sim_p 28 (ei := [(1, .pointer (some (⟨b1, 0, none⟩ : Addr))), (42, .bool true)]) (d := (some 49)) wf (by kernel_rfl) ⟨rfl, rfl, trivial⟩ (by kernel_rfl) (by kernel_rfl) (fun _ => pf_p tok rfl rfl rfl rfl) (fun P_28 => ?_)
                obtain ⟨v27, hv27, H⟩ := H
                refine sim_l 29 (ei := [(42, .bool true), (49, .pointer (some ((⟨b1, 0, none⟩ : Addr).add 1)))]) (d := (some 50)) wf (by kernel_rfl) ⟨rfl, rfl, trivial⟩ (by kernel_rfl) (by kernel_rfl) (pf_y rfl rfl rfl (y_ld tok rfl rfl rfl rfl hv27)) (fun P_29 => ?_)
                refine sim_p 30 (ei := [(3, .int .i64 t3_2), (42, .bool true)]) (d := (some 51)) wf (by kernel_rfl) ⟨rfl, rfl, trivial⟩ (by kernel_rfl) (by kernel_rfl) (fun _ => pf_p tok rfl rfl rfl rfl) (fun P_30 => ?_)
                refine sim_p 31 (ei := [(42, .bool true), (51, .int .i64 t3_2)]) (d := (some 52)) wf (by kernel_rfl) ⟨rfl, rfl, trivial⟩ (by kernel_rfl) (by kernel_rfl) (fun _ => pf_p tok rfl rfl rfl rfl) (fun P_31 => ?_)
                obtain ⟨a28, ha28, la28, ua28, H⟩ := H
                refine sim_p 32 (ei := [(42, .bool true), (50, Slc.v v27), (52, .int .i64 (IntKind.i64.wrap (t3_2 - 1)))]) (d := (some 53)) wf (by kernel_rfl) ⟨rfl, rfl, rfl, trivial⟩ (by kernel_rfl) (by kernel_rfl) (fun _ => pf_y rfl rfl rfl (y_ixa' tok rfl rfl ha28 rfl rfl rfl la28 ua28)) (fun P_32 => ?_)
                refine sim_p 33 (ei := [(42, .bool true), (53, .pointer (some (a28.add ((IntKind.i64.wrap (t3_2 - 1)).toNat * 2))))]) (d := (some 54)) wf (by kernel_rfl) ⟨rfl, rfl, trivial⟩ (by kernel_rfl) (by kernel_rfl) (fun _ => pf_p tok rfl rfl rfl rfl) (fun P_33 => ?_)
                obtain ⟨v29, hv29, H⟩ := H
                refine sim_l 34 (ei := [(42, .bool true), (54, .pointer (some (a28.add ((IntKind.i64.wrap (t3_2 - 1)).toNat * 2))))]) (d := (some 55)) wf (by kernel_rfl) ⟨rfl, rfl, trivial⟩ (by kernel_rfl) (by kernel_rfl) (pf_y rfl rfl rfl (y_ld tok rfl rfl rfl rfl hv29)) (fun P_34 => ?_)
                refine sim_p 35 (ei := [(42, .bool true), (48, .string v26), (55, .string v29)]) (d := (some 56)) wf (by kernel_rfl) ⟨rfl, rfl, rfl, trivial⟩ (by kernel_rfl) (by kernel_rfl) (fun _ => pf_p tok rfl rfl rfl rfl) (fun P_35 => ?_)
                refine sim_p 36 (ei := [(39, .bool false), (42, .bool true), (56, .bool (Op.bytesLess v26.toList v29.toList || v26.toList == v29.toList))]) (d := (some 57)) wf (by kernel_rfl) ⟨rfl, rfl, rfl, trivial⟩ (by kernel_rfl) (by kernel_rfl) (fun _ => pf_p tok rfl rfl rfl rfl) (fun P_36 => ?_)
                refine sim_p 37 (ei := [(39, .bool false), (57, .bool (Op.bytesLess v26.toList v29.toList || v26.toList == v29.toList))]) (d := (some 58)) wf (by kernel_rfl) ⟨rfl, rfl, trivial⟩ (by kernel_rfl) (by kernel_rfl) (fun _ => pf_p tok rfl rfl rfl rfl) (fun P_37 => ?_)
                refine sim_end wf ⟨P_37 _, P_36 _, P_35 _, P_34, P_33 _, P_32 _, P_31 _, P_30 _, P_29, P_28 _, P_27, P_26 _, P_25 _, P_24 _, P_23, P_22 _, P_21 _, P_20 _, P_19 _, P_18 _, P_17 _, P_16 _, trivial, trivial, trivial, trivial, trivial, trivial, trivial, trivial, trivial, trivial, trivial, trivial, trivial, trivial, trivial⟩ (by kernel_rfl) ?_
                clear wf P_0 P_1 P_10 P_11 P_12 P_13 P_14 P_16 P_17 P_18 P_19 P_2 P_20 P_21 P_22 P_23 P_24 P_25 P_26 P_27 P_28 P_29 P_3 P_30 P_31 P_32 P_33 P_34 P_35 P_36 P_37 P_4 P_5 P_7 P_8 P_9
                exact x_join (Op.bytesLess v26.toList v29.toList || v26.toList == v29.toList) H ⟨rfl, rfl, rfl, trivial⟩
              ·
                refine sim_p 22 (v := undef) (ei := [(1, .pointer (some (⟨b1, 0, none⟩ : Addr))), (42, .bool false)]) (d := (some 43)) wf (by kernel_rfl) ⟨rfl, rfl, trivial⟩ (by kernel_rfl) (by kernel_rfl) (fun _ => pf_s rfl rfl rfl) (fun P_22 => ?_)
                refine sim_p 23 (v := undef) (ei := [(42, .bool false), (43, undef)]) (d := (some 44)) wf (by kernel_rfl) ⟨rfl, rfl, trivial⟩ (by kernel_rfl) (by kernel_rfl) (fun _ => pf_s rfl rfl rfl) (fun P_23 => ?_)
                refine sim_p 24 (v := undef) (ei := [(3, .int .i64 t3_2), (42, .bool false)]) (d := (some 45)) wf (by kernel_rfl) ⟨rfl, rfl, trivial⟩ (by kernel_rfl) (by kernel_rfl) (fun _ => pf_s rfl rfl rfl) (fun P_24 => ?_)
                refine sim_p 25 (v := undef) (ei := [(42, .bool false), (44, undef), (45, undef)]) (d := (some 46)) wf (by kernel_rfl) ⟨rfl, rfl, rfl, trivial⟩ (by kernel_rfl) (by kernel_rfl) (fun _ => pf_s rfl rfl rfl) (fun P_25 => ?_)
                refine sim_p 26 (v := undef) (ei := [(42, .bool false), (46, undef)]) (d := (some 47)) wf (by kernel_rfl) ⟨rfl, rfl, trivial⟩ (by kernel_rfl) (by kernel_rfl) (fun _ => pf_s rfl rfl rfl) (fun P_26 => ?_)
                refine sim_p 27 (v := undef) (ei := [(42, .bool false), (47, undef)]) (d := (some 48)) wf (by kernel_rfl) ⟨rfl, rfl, trivial⟩ (by kernel_rfl) (by kernel_rfl) (fun _ => pf_s rfl rfl rfl) (fun P_27 => ?_)
                refine sim_p 28 (v := undef) (ei := [(1, .pointer (some (⟨b1, 0, none⟩ : Addr))), (42, .bool false)]) (d := (some 49)) wf (by kernel_rfl) ⟨rfl, rfl, trivial⟩ (by kernel_rfl) (by kernel_rfl) (fun _ => pf_s rfl rfl rfl) (fun P_28 => ?_)
                refine sim_p 29 (v := undef) (ei := [(42, .bool false), (49, undef)]) (d := (some 50)) wf (by kernel_rfl) ⟨rfl, rfl, trivial⟩ (by kernel_rfl) (by kernel_rfl) (fun _ => pf_s rfl rfl rfl) (fun P_29 => ?_)
                refine sim_p 30 (v := undef) (ei := [(3, .int .i64 t3_2), (42, .bool false)]) (d := (some 51)) wf (by kernel_rfl) ⟨rfl, rfl, trivial⟩ (by kernel_rfl) (by kernel_rfl) (fun _ => pf_s rfl rfl rfl) (fun P_30 => ?_)
                refine sim_p 31 (v := undef) (ei := [(42, .bool false), (51, undef)]) (d := (some 52)) wf (by kernel_rfl) ⟨rfl, rfl, trivial⟩ (by kernel_rfl) (by kernel_rfl) (fun _ => pf_s rfl rfl rfl) (fun P_31 => ?_)
                refine sim_p 32 (v := undef) (ei := [(42, .bool false), (50, undef), (52, undef)]) (d := (some 53)) wf (by kernel_rfl) ⟨rfl, rfl, rfl, trivial⟩ (by kernel_rfl) (by kernel_rfl) (fun _ => pf_s rfl rfl rfl) (fun P_32 => ?_)
                refine sim_p 33 (v := undef) (ei := [(42, .bool false), (53, undef)]) (d := (some 54)) wf (by kernel_rfl) ⟨rfl, rfl, trivial⟩ (by kernel_rfl) (by kernel_rfl) (fun _ => pf_s rfl rfl rfl) (fun P_33 => ?_)
                refine sim_p 34 (v := undef) (ei := [(42, .bool false), (54, undef)]) (d := (some 55)) wf (by kernel_rfl) ⟨rfl, rfl, trivial⟩ (by kernel_rfl) (by kernel_rfl) (fun _ => pf_s rfl rfl rfl) (fun P_34 => ?_)
                refine sim_p 35 (v := undef) (ei := [(42, .bool false), (48, undef), (55, undef)]) (d := (some 56)) wf (by kernel_rfl) ⟨rfl, rfl, rfl, trivial⟩ (by kernel_rfl) (by kernel_rfl) (fun _ => pf_s rfl rfl rfl) (fun P_35 => ?_)
                refine sim_p 36 (ei := [(39, .bool false), (42, .bool false), (56, undef)]) (d := (some 57)) wf (by kernel_rfl) ⟨rfl, rfl, rfl, trivial⟩ (by kernel_rfl) (by kernel_rfl) (fun _ => pf_p tok rfl rfl rfl rfl) (fun P_36 => ?_)
                refine sim_p 37 (ei := [(39, .bool false), (57, .bool false)]) (d := (some 58)) wf (by kernel_rfl) ⟨rfl, rfl, trivial⟩ (by kernel_rfl) (by kernel_rfl) (fun _ => pf_p tok rfl rfl rfl rfl) (fun P_37 => ?_)
                refine sim_end wf ⟨P_37 _, P_36 _, P_35 _, P_34 _, P_33 _, P_32 _, P_31 _, P_30 _, P_29 _, P_28 _, P_27 _, P_26 _, P_25 _, P_24 _, P_23 _, P_22 _, P_21 _, P_20 _, P_19 _, P_18 _, P_17 _, P_16 _, trivial, trivial, trivial, trivial, trivial, trivial, trivial, trivial, trivial, trivial, trivial, trivial, trivial, trivial, trivial⟩ (by kernel_rfl) ?_
                clear wf P_0 P_1 P_10 P_11 P_12 P_13 P_14 P_16 P_17 P_18 P_19 P_2 P_20 P_21 P_22 P_23 P_24 P_25 P_26 P_27 P_28 P_29 P_3 P_30 P_31 P_32 P_33 P_34 P_35 P_36 P_37 P_4 P_5 P_7 P_8 P_9
                exact x_join false H ⟨rfl, rfl, rfl, trivial⟩
      ·
        refine c_exit ?_
        refine x_te ?_
        refine x_te ?_
        refine x_bh ?_
        refine x_seq ?_
        refine c_weak [] trivial ?_
        refine c_seq ?_
        refine c_region ?_
        refine w_p tok rfl rfl rfl ?_
        refine w_end ?_
        refine x_seq ?_
        refine c_ret ?_
        exact x_ret _ rfl _ rfl ⟨true, rfl, H⟩
  ·
    refine w_gif (d := 8) H rfl (fun H => ?_) (fun H => ?_)
    ·
      refine w_skip rfl rfl ?_
      refine w_skip rfl rfl ?_
      refine w_skip rfl rfl ?_
      refine w_skip rfl rfl ?_
      refine w_p tok rfl rfl rfl ?_
      exact w_jn true H ⟨rfl, rfl, trivial⟩
    ·
      refine w_p tok rfl rfl rfl ?_
      obtain ⟨v30, hv30, H⟩ := H
      refine w_y (y_ld tok rfl rfl rfl rfl hv30) rfl rfl ?_
      refine w_p tok rfl rfl rfl ?_
      refine w_p tok rfl rfl rfl ?_
      refine w_p tok rfl rfl rfl ?_
      exact w_jn (decide ((v30.len : Int) > 8)) H ⟨rfl, rfl, trivial⟩

theorem ref15_Print_ok : CallOk Go.Proofs.Try.prog 121 := ⟨_, Go.Proofs.Try.func121, by kernel_rfl, by kernel_rfl⟩
theorem ref15_Print_ref (p0 : S_api_Selector) (k : (ByteArray) → Heap → Prop) (h : Heap) (H : ref15_Print p0 k h) : CallsH Go.Proofs.Try.prog 121 #[.agg (S_api_Selector.cs p0).toArray] h (fun v h' => ∃ r : ByteArray, v = .string r ∧ k r h') := by
  refine f_enter (N := 52) Go.Proofs.Try.func121 rfl rfl rfl (fun w0 => ?_)
  unfold ref15_Print at H
  refine c_weak [(0, .agg (S_api_Selector.cs p0).toArray)] ⟨rfl, trivial⟩ ?_
  refine c_seq ?_
  refine c_region ?_
  obtain ⟨b1, h2, eb1, eh2, H⟩ := H
  refine w_h (h_box rfl rfl eb1 eh2) rfl rfl ?_
  refine w_p tok rfl rfl rfl ?_
  refine w_end ?_
  refine x_seq ?_
  refine c_seq ?_
  refine c_region ?_
  refine w_p tok rfl rfl rfl ?_
  obtain ⟨v3, hv3, H⟩ := H
  refine w_y (y_ld tok rfl rfl rfl rfl hv3) rfl rfl ?_
  refine w_p tok rfl rfl rfl ?_
  refine w_end ?_
  refine x_seq ?_
  refine c_seq ?_
  refine c_seq ?_
  refine c_region ?_
  refine w_p tok rfl rfl rfl ?_
  refine w_end ?_
  refine x_seq ?_
  refine c_block ?_
  obtain ⟨I1, μ1, H0, HI⟩ := H
  refine c_loop (σ := ByteArray × Int) (fun (s : ByteArray × Int) => [(3, .string s.1), (4, .int .i64 s.2), (1, .pointer (some (⟨b1, 0, none⟩ : Addr)))]) I1 μ1 (v3, 0) H0 ⟨rfl, rfl, rfl, trivial⟩ ?_
  rintro ⟨t3_1, t4_1⟩ h_1 H
  replace H := HI t3_1 t4_1 h_1 H
  unfold ref15_Print_l1b at H
  refine c_weak [(3, .string t3_1), (4, .int .i64 t4_1), (1, .pointer (some (⟨b1, 0, none⟩ : Addr)))] ⟨rfl, rfl, rfl, trivial⟩ ?_
  refine c_seq ?_
  refine c_seq ?_
  refine c_region ?_
  refine w_p tok rfl rfl rfl ?_
  refine w_p tok rfl rfl rfl ?_
  obtain ⟨v4, hv4, H⟩ := H
  refine w_y (y_ld tok rfl rfl rfl rfl hv4) rfl rfl ?_
  refine w_p tok rfl rfl rfl ?_
  refine w_p tok rfl rfl rfl ?_
  refine w_end ?_
  refine x_seq ?_
  refine c_if H rfl (fun H => ?_) (fun H => ?_)
  ·
    refine c_skip ?_
    refine x_seq ?_
    refine c_seq ?_
    refine c_block ?_
    refine c_seqJ (α := ByteArray) (fun (s : ByteArray) => [(3, .string s), (1, .pointer (some (⟨b1, 0, none⟩ : Addr))), (4, .int .i64 t4_1)]) (fun (s : ByteArray) h => ref15_Print_j2 (⟨b1, 0, none⟩ : Addr) t4_1 s k (fun s h' => I1 s h' ∧ μ1 s h' < μ1 (t3_1, t4_1) h_1) h) ?_ ?_
    ·
      rintro t3_2 h_2 H
      replace H : ref15_Print_j2 (⟨b1, 0, none⟩ : Addr) t4_1 t3_2 k (fun s h' => I1 s h' ∧ μ1 s h' < μ1 (t3_1, t4_1) h_1) h_2 := H
      unfold ref15_Print_j2 at H
      refine c_weak [(3, .string t3_2), (1, .pointer (some (⟨b1, 0, none⟩ : Addr))), (4, .int .i64 t4_1)] ⟨rfl, rfl, rfl, trivial⟩ ?_
      refine c_sim [(1, .pointer (some (⟨b1, 0, none⟩ : Addr))), (3, .string t3_2), (4, .int .i64 t4_1)] (by kernel_rfl) (by kernel_rfl) ⟨rfl, rfl, rfl, trivial⟩ (fun wf => ?_)
      refine sim_p 0 (ei := [(3, .string t3_2)]) (d := (some 20)) wf (by kernel_rfl) ⟨rfl, trivial⟩ (by kernel_rfl) (by kernel_rfl) (fun _ => pf_p tok rfl rfl rfl rfl) (fun P_0 => ?_)
      refine sim_p 1 (ei := [(1, .pointer (some (⟨b1, 0, none⟩ : Addr)))]) (d := (some 21)) wf (by kernel_rfl) ⟨rfl, trivial⟩ (by kernel_rfl) (by kernel_rfl) (fun _ => pf_p tok rfl rfl rfl rfl) (fun P_1 => ?_)
      obtain ⟨v5, hv5, H⟩ := H
      refine sim_l 2 (ei := [(21, .pointer (some ((⟨b1, 0, none⟩ : Addr).add 1)))]) (d := (some 22)) wf (by kernel_rfl) ⟨rfl, trivial⟩ (by kernel_rfl) (by kernel_rfl) (pf_y rfl rfl rfl (y_ld tok rfl rfl rfl rfl hv5)) (fun P_2 => ?_)
      refine sim_p 3 (ei := [(4, .int .i64 t4_1)]) (d := (some 23)) wf (by kernel_rfl) ⟨rfl, trivial⟩ (by kernel_rfl) (by kernel_rfl) (fun _ => pf_p tok rfl rfl rfl rfl) (fun P_3 => ?_)
      obtain ⟨a6, ha6, la6, ua6, H⟩ := H
      refine sim_p 4 (ei := [(22, Slc.v v5), (23, .int .i64 t4_1)]) (d := (some 24)) wf (by kernel_rfl) ⟨rfl, rfl, trivial⟩ (by kernel_rfl) (by kernel_rfl) (fun _ => pf_y rfl rfl rfl (y_ixa' tok rfl rfl ha6 rfl rfl rfl la6 ua6)) (fun P_4 => ?_)
      refine sim_p 5 (ei := [(24, .pointer (some (a6.add (t4_1.toNat * 3))))]) (d := (some 25)) wf (by kernel_rfl) ⟨rfl, trivial⟩ (by kernel_rfl) (by kernel_rfl) (fun _ => pf_p tok rfl rfl rfl rfl) (fun P_5 => ?_)
      obtain ⟨v7, hv7, H⟩ := H
      refine sim_l 6 (ei := [(25, .pointer (some (a6.add (t4_1.toNat * 3))))]) (d := (some 26)) wf (by kernel_rfl) ⟨rfl, trivial⟩ (by kernel_rfl) (by kernel_rfl) (pf_y rfl rfl rfl (y_ld tok rfl rfl rfl rfl hv7)) (fun P_6 => ?_)
      obtain ⟨z8, H⟩ := H
      refine sim_p 7 (ei := [(20, .string t3_2), (26, .string v7)]) (d := (some 27)) wf (by kernel_rfl) ⟨rfl, rfl, trivial⟩ (by kernel_rfl) (by kernel_rfl) (fun _ => pf_y rfl rfl rfl (y_cat rfl rfl rfl z8)) (fun P_7 => ?_)
      refine sim_p 9 (ei := [(1, .pointer (some (⟨b1, 0, none⟩ : Addr)))]) (d := (some 29)) wf (by kernel_rfl) ⟨rfl, trivial⟩ (by kernel_rfl) (by kernel_rfl) (fun _ => pf_p tok rfl rfl rfl rfl) (fun P_9 => ?_)
      obtain ⟨v9, hv9, H⟩ := H
      refine sim_l 10 (ei := [(29, .pointer (some ((⟨b1, 0, none⟩ : Addr).add 1)))]) (d := (some 30)) wf (by kernel_rfl) ⟨rfl, trivial⟩ (by kernel_rfl) (by kernel_rfl) (pf_y rfl rfl rfl (y_ld tok rfl rfl rfl rfl hv9)) (fun P_10 => ?_)
      refine sim_p 11 (ei := [(4, .int .i64 t4_1)]) (d := (some 31)) wf (by kernel_rfl) ⟨rfl, trivial⟩ (by kernel_rfl) (by kernel_rfl) (fun _ => pf_p tok rfl rfl rfl rfl) (fun P_11 => ?_)
      obtain ⟨a10, ha10, la10, ua10, H⟩ := H
      refine sim_p 12 (ei := [(30, Slc.v v9), (31, .int .i64 t4_1)]) (d := (some 32)) wf (by kernel_rfl) ⟨rfl, rfl, trivial⟩ (by kernel_rfl) (by kernel_rfl) (fun _ => pf_y rfl rfl rfl (y_ixa' tok rfl rfl ha10 rfl rfl rfl la10 ua10)) (fun P_12 => ?_)
      refine sim_p 13 (ei := [(32, .pointer (some (a10.add (t4_1.toNat * 3))))]) (d := (some 33)) wf (by kernel_rfl) ⟨rfl, trivial⟩ (by kernel_rfl) (by kernel_rfl) (fun _ => pf_p tok rfl rfl rfl rfl) (fun P_13 => ?_)
      obtain ⟨v11, hv11, H⟩ := H
      refine sim_l 14 (ei := [(33, .pointer (some ((a10.add (t4_1.toNat * 3)).add 1)))]) (d := (some 34)) wf (by kernel_rfl) ⟨rfl, trivial⟩ (by kernel_rfl) (by kernel_rfl) (pf_y rfl rfl rfl (y_ld tok rfl rfl rfl rfl hv11)) (fun P_14 => ?_)
      refine sim_p 18 (ei := [(1, .pointer (some (⟨b1, 0, none⟩ : Addr)))]) (d := (some 38)) wf (by kernel_rfl) ⟨rfl, trivial⟩ (by kernel_rfl) (by kernel_rfl) (fun _ => pf_p tok rfl rfl rfl rfl) (fun P_18 => ?_)
      obtain ⟨v12, hv12, H⟩ := H
      refine sim_l 19 (ei := [(38, .pointer (some ((⟨b1, 0, none⟩ : Addr).add 1)))]) (d := (some 39)) wf (by kernel_rfl) ⟨rfl, trivial⟩ (by kernel_rfl) (by kernel_rfl) (pf_y rfl rfl rfl (y_ld tok rfl rfl rfl rfl hv12)) (fun P_19 => ?_)
      refine sim_p 20 (ei := [(4, .int .i64 t4_1)]) (d := (some 40)) wf (by kernel_rfl) ⟨rfl, trivial⟩ (by kernel_rfl) (by kernel_rfl) (fun _ => pf_p tok rfl rfl rfl rfl) (fun P_20 => ?_)
      obtain ⟨a13, ha13, la13, ua13, H⟩ := H
      refine sim_p 21 (ei := [(39, Slc.v v12), (40, .int .i64 t4_1)]) (d := (some 41)) wf (by kernel_rfl) ⟨rfl, rfl, trivial⟩ (by kernel_rfl) (by kernel_rfl) (fun _ => pf_y rfl rfl rfl (y_ixa' tok rfl rfl ha13 rfl rfl rfl la13 ua13)) (fun P_21 => ?_)
      refine sim_p 22 (ei := [(41, .pointer (some (a13.add (t4_1.toNat * 3))))]) (d := (some 42)) wf (by kernel_rfl) ⟨rfl, trivial⟩ (by kernel_rfl) (by kernel_rfl) (fun _ => pf_p tok rfl rfl rfl rfl) (fun P_22 => ?_)
      obtain ⟨v14, hv14, H⟩ := H
      refine sim_l 23 (ei := [(42, .pointer (some ((a13.add (t4_1.toNat * 3)).add 2)))]) (d := (some 43)) wf (by kernel_rfl) ⟨rfl, trivial⟩ (by kernel_rfl) (by kernel_rfl) (pf_y rfl rfl rfl (y_ld tok rfl rfl rfl rfl hv14)) (fun P_23 => ?_)
      obtain ⟨b15, h16, eb15, eh16, H⟩ := H
      refine sim_h 8 [] [] (ei := []) wf ⟨P_23, P_22 _, P_21 _, P_20 _, P_19, P_18 _, P_14, P_13 _, P_12 _, P_11 _, P_10, P_9 _, P_7 _, P_6, P_5 _, P_4 _, P_3 _, P_2, P_1 _, P_0 _, trivial⟩ (by kernel_rfl) trivial (by kernel_rfl) rfl rfl rfl (h_bs tok rfl rfl rfl rfl rfl rfl rfl eb15 eh16) ?_
      obtain ⟨hy17, hy18, hy19, hy20, hy21, hy22, H⟩ := H
      refine sim_re (x := ⟨23, .string v14, [(42, .pointer (some ((a13.add (t4_1.toNat * 3)).add 2)))]⟩) (pf_y rfl rfl rfl (y_ld tok rfl rfl rfl rfl hy17)) (fun P_23 => ?_)
      refine sim_re (x := ⟨19, Slc.v v12, [(38, .pointer (some ((⟨b1, 0, none⟩ : Addr).add 1)))]⟩) (pf_y rfl rfl rfl (y_ld tok rfl rfl rfl rfl hy18)) (fun P_19 => ?_)
      refine sim_re (x := ⟨14, .int .i64 v11, [(33, .pointer (some ((a10.add (t4_1.toNat * 3)).add 1)))]⟩) (pf_y rfl rfl rfl (y_ld tok rfl rfl rfl rfl hy19)) (fun P_14 => ?_)
      refine sim_re (x := ⟨10, Slc.v v9, [(29, .pointer (some ((⟨b1, 0, none⟩ : Addr).add 1)))]⟩) (pf_y rfl rfl rfl (y_ld tok rfl rfl rfl rfl hy20)) (fun P_10 => ?_)
      refine sim_re (x := ⟨6, .string v7, [(25, .pointer (some (a6.add (t4_1.toNat * 3))))]⟩) (pf_y rfl rfl rfl (y_ld tok rfl rfl rfl rfl hy21)) (fun P_6 => ?_)
      refine sim_re (x := ⟨2, Slc.v v5, [(21, .pointer (some ((⟨b1, 0, none⟩ : Addr).add 1)))]⟩) (pf_y rfl rfl rfl (y_ld tok rfl rfl rfl rfl hy22)) (fun P_2 => ?_)
      obtain ⟨a23, ha23, la23, ua23, H⟩ := H
      refine sim_p 15 (ei := [(28, Slc.v (⟨some ⟨b15, 0, none⟩, 3, 3⟩ : Slc)), (34, .int .i64 v11)]) (d := (some 35)) wf (by kernel_rfl) ⟨rfl, rfl, trivial⟩ (by kernel_rfl) (by kernel_rfl) (fun _ => pf_y rfl rfl rfl (y_ixa' tok rfl rfl ha23 rfl rfl rfl la23 ua23)) (fun P_15 => ?_)
      obtain ⟨v24, hv24, H⟩ := H
      refine sim_l 16 (ei := [(35, .pointer (some (a23.add (v11.toNat * 1))))]) (d := (some 36)) wf (by kernel_rfl) ⟨rfl, trivial⟩ (by kernel_rfl) (by kernel_rfl) (pf_y rfl rfl rfl (y_ld tok rfl rfl rfl rfl hv24)) (fun P_16 => ?_)
      obtain ⟨z25, H⟩ := H
      refine sim_p 17 (ei := [(27, .string (t3_2 ++ v7)), (36, .string v24)]) (d := (some 37)) wf (by kernel_rfl) ⟨rfl, rfl, trivial⟩ (by kernel_rfl) (by kernel_rfl) (fun _ => pf_y rfl rfl rfl (y_cat rfl rfl rfl z25)) (fun P_17 => ?_)
      obtain ⟨z26, H⟩ := H
      refine sim_p 24 (ei := [(37, .string ((t3_2 ++ v7) ++ v24)), (43, .string v14)]) (d := (some 44)) wf (by kernel_rfl) ⟨rfl, rfl, trivial⟩ (by kernel_rfl) (by kernel_rfl) (fun _ => pf_y rfl rfl rfl (y_cat rfl rfl rfl z26)) (fun P_24 => ?_)
      refine sim_p 25 (ei := [(44, .string (((t3_2 ++ v7) ++ v24) ++ v14))]) (d := (some 3)) wf (by kernel_rfl) ⟨rfl, trivial⟩ (by kernel_rfl) (by kernel_rfl) (fun _ => pf_p tok rfl rfl rfl rfl) (fun P_25 => ?_)
      refine sim_end wf ⟨P_25 _, P_24 _, P_17 _, P_16, P_15 _, P_23, P_22 _, P_21 _, P_20 _, P_19, P_18 _, P_14, P_13 _, P_12 _, P_11 _, P_10, P_9 _, P_7 _, P_6, P_5 _, P_4 _, P_3 _, P_2, P_1 _, P_0 _, trivial⟩ (by kernel_rfl) ?_
      clear wf P_0 P_1 P_10 P_11 P_12 P_13 P_14 P_15 P_16 P_17 P_18 P_19 P_2 P_20 P_21 P_22 P_23 P_24 P_25 P_3 P_4 P_5 P_6 P_7 P_9
      refine x_blk ?_
      refine x_seq ?_
      refine c_weak [(1, .pointer (some (⟨b1, 0, none⟩ : Addr))), (3, .string (((t3_2 ++ v7) ++ v24) ++ v14)), (4, .int .i64 t4_1)] ⟨rfl, rfl, rfl, trivial⟩ ?_
      refine c_region ?_
      refine w_p tok rfl rfl rfl ?_
      refine w_p tok rfl rfl rfl ?_
      obtain ⟨x27, ex27, H⟩ := H
      refine w_pe tok rfl (congrArg (fun z => (.int .i64 z : Value)) ex27) rfl rfl ?_
      refine w_end ?_
      exact x_join ((((t3_2 ++ v7) ++ v24) ++ v14), x27) H ⟨rfl, rfl, rfl, trivial⟩
    ·
      refine c_seq ?_
      refine c_region ?_
      refine w_p tok rfl rfl rfl ?_
      refine w_p tok rfl rfl rfl ?_
      refine w_end ?_
      refine x_seq ?_
      refine c_if H rfl (fun H => ?_) (fun H => ?_)
      ·
        refine c_region ?_
        refine w_p tok rfl rfl rfl ?_
        obtain ⟨z28, H⟩ := H
        refine w_y (y_cat rfl rfl rfl z28) rfl rfl ?_
        refine w_p tok rfl rfl rfl ?_
        refine w_end ?_
        exact x_join (t3_1 ++ (⟨#[123]⟩ : ByteArray)) H ⟨rfl, rfl, rfl, trivial⟩
      ·
        refine c_region ?_
        refine w_p tok rfl rfl rfl ?_
        obtain ⟨z29, H⟩ := H
        refine w_y (y_cat rfl rfl rfl z29) rfl rfl ?_
        refine w_p tok rfl rfl rfl ?_
        refine w_end ?_
        exact x_join (t3_1 ++ (⟨#[44]⟩ : ByteArray)) H ⟨rfl, rfl, rfl, trivial⟩
  ·
    refine c_exit ?_
    refine x_te ?_
    refine x_te ?_
    refine x_bh ?_
    refine x_seq ?_
    refine c_seqJ (α := ByteArray) (fun (s : ByteArray) => [(3, .string s)]) (fun (s : ByteArray) h => ref15_Print_j3 s k (fun s h' => I1 s h' ∧ μ1 s h' < μ1 (t3_1, t4_1) h_1) h) ?_ ?_
    ·
      rintro t3_3 h_3 H
      replace H : ref15_Print_j3 t3_3 k (fun s h' => I1 s h' ∧ μ1 s h' < μ1 (t3_1, t4_1) h_1) h_3 := H
      unfold ref15_Print_j3 at H
      refine c_weak [(3, .string t3_3)] ⟨rfl, trivial⟩ ?_
      refine c_seq ?_
      refine c_region ?_
      refine w_p tok rfl rfl rfl ?_
      refine w_p tok rfl rfl rfl ?_
      refine w_end ?_
      refine x_seq ?_
      refine c_ret ?_
      exact x_ret _ rfl _ rfl ⟨t3_3, rfl, H⟩
    ·
      refine c_seq ?_
      refine c_region ?_
      refine w_p tok rfl rfl rfl ?_
      obtain ⟨v30, hv30, H⟩ := H
      refine w_y (y_ld tok rfl rfl rfl rfl hv30) rfl rfl ?_
      refine w_p tok rfl rfl rfl ?_
      refine w_p tok rfl rfl rfl ?_
      refine w_end ?_
      refine x_seq ?_
      refine c_weak [(3, .string t3_1), (48, .bool (decide ((v30.len : Int) > 0)))] ⟨rfl, rfl, trivial⟩ ?_
      refine c_if H rfl (fun H => ?_) (fun H => ?_)
      ·
        refine c_region ?_
        refine w_p tok rfl rfl rfl ?_
        obtain ⟨z31, H⟩ := H
        refine w_y (y_cat rfl rfl rfl z31) rfl rfl ?_
        refine w_p tok rfl rfl rfl ?_
        refine w_end ?_
        exact x_join (t3_1 ++ (⟨#[125]⟩ : ByteArray)) H ⟨rfl, trivial⟩
      ·
        refine c_skip ?_
        exact x_join t3_1 H ⟨rfl, trivial⟩

theorem ref15_Text_ok : CallOk Go.Proofs.Try.prog 44 := ⟨_, Go.Proofs.Try.func44, by kernel_rfl, by kernel_rfl⟩
theorem ref15_Text_ref (p0 : S_api_Series) (k : (ByteArray) → Heap → Prop) (h : Heap) (H : ref15_Text p0 k h) : CallsH Go.Proofs.Try.prog 44 #[.agg (S_api_Series.cs p0).toArray] h (fun v h' => ∃ r : ByteArray, v = .string r ∧ k r h') := by
  refine f_enter (N := 35) Go.Proofs.Try.func44 rfl rfl rfl (fun w0 => ?_)
  unfold ref15_Text at H
  refine c_weak [(0, .agg (S_api_Series.cs p0).toArray)] ⟨rfl, trivial⟩ ?_
  refine c_seq ?_
  refine c_region ?_
  obtain ⟨b1, h2, eb1, eh2, H⟩ := H
  refine w_h (h_box rfl rfl eb1 eh2) rfl rfl ?_
  refine w_p tok rfl rfl rfl ?_
  refine w_end ?_
  refine x_seq ?_
  refine c_seq ?_
  refine c_region ?_
  refine w_p tok rfl rfl rfl ?_
  obtain ⟨v3, hv3, H⟩ := H
  refine w_y (y_ld tok rfl rfl rfl rfl hv3) rfl rfl ?_
  refine w_y (y_build tok rfl rfl rfl rfl rfl) rfl rfl ?_
  obtain ⟨b4, h5, eb4, eh5, H⟩ := H
  refine w_h (h_alloc tok rfl rfl eb4 eh5) rfl rfl ?_
  obtain ⟨h6, wh6, eh6, H⟩ := H
  refine w_h (h_sts tok rfl rfl rfl rfl rfl (oneC (by kernel_rfl)) wh6 eh6) rfl rfl ?_
  refine w_end ?_
  refine x_seq ?_
  refine c_seq ?_
  refine c_seq ?_
  refine c_region ?_
  refine w_p tok rfl rfl rfl ?_
  refine w_end ?_
  refine x_seq ?_
  refine c_block ?_
  obtain ⟨I1, μ1, H0, HI⟩ := H
  refine c_loop (σ := Int) (fun (s : Int) => [(4, .int .i64 s), (1, .pointer (some (⟨b1, 0, none⟩ : Addr))), (3, .pointer (some (⟨b4, 0, none⟩ : Addr)))]) I1 μ1 0 H0 ⟨rfl, rfl, rfl, trivial⟩ ?_
  rintro t4_1 h_1 H
  replace H := HI t4_1 h_1 H
  unfold ref15_Text_l1b at H
  refine c_weak [(4, .int .i64 t4_1), (1, .pointer (some (⟨b1, 0, none⟩ : Addr))), (3, .pointer (some (⟨b4, 0, none⟩ : Addr)))] ⟨rfl, rfl, rfl, trivial⟩ ?_
  refine c_seq ?_
  refine c_seq ?_
  refine c_region ?_
  refine w_p tok rfl rfl rfl ?_
  refine w_p tok rfl rfl rfl ?_
  obtain ⟨v7, hv7, H⟩ := H
  refine w_y (y_ld tok rfl rfl rfl rfl hv7) rfl rfl ?_
  refine w_p tok rfl rfl rfl ?_
  refine w_p tok rfl rfl rfl ?_
  refine w_end ?_
  refine x_seq ?_
  refine c_if H rfl (fun H => ?_) (fun H => ?_)
  ·
    refine c_skip ?_
    refine x_seq ?_
    refine c_seq ?_
    refine c_block ?_
    refine c_sim [(1, .pointer (some (⟨b1, 0, none⟩ : Addr))), (3, .pointer (some (⟨b4, 0, none⟩ : Addr))), (4, .int .i64 t4_1)] (by kernel_rfl) (by kernel_rfl) ⟨rfl, rfl, rfl, trivial⟩ (fun wf => ?_)
    refine sim_p 0 (ei := [(3, .pointer (some (⟨b4, 0, none⟩ : Addr)))]) (d := (some 15)) wf (by kernel_rfl) ⟨rfl, trivial⟩ (by kernel_rfl) (by kernel_rfl) (fun _ => pf_p tok rfl rfl rfl rfl) (fun P_0 => ?_)
    obtain ⟨v8, hv8, H⟩ := H
    refine sim_l 1 (ei := [(15, .pointer (some ((⟨b4, 0, none⟩ : Addr).add 1)))]) (d := (some 16)) wf (by kernel_rfl) ⟨rfl, trivial⟩ (by kernel_rfl) (by kernel_rfl) (pf_y rfl rfl rfl (y_ld tok rfl rfl rfl rfl hv8)) (fun P_1 => ?_)
    refine sim_p 2 (ei := [(1, .pointer (some (⟨b1, 0, none⟩ : Addr)))]) (d := (some 17)) wf (by kernel_rfl) ⟨rfl, trivial⟩ (by kernel_rfl) (by kernel_rfl) (fun _ => pf_p tok rfl rfl rfl rfl) (fun P_2 => ?_)
    obtain ⟨v9, hv9, H⟩ := H
    refine sim_l 3 (ei := [(17, .pointer (some ((⟨b1, 0, none⟩ : Addr).add 1)))]) (d := (some 18)) wf (by kernel_rfl) ⟨rfl, trivial⟩ (by kernel_rfl) (by kernel_rfl) (pf_y rfl rfl rfl (y_ld tok rfl rfl rfl rfl hv9)) (fun P_3 => ?_)
    refine sim_p 4 (ei := [(4, .int .i64 t4_1)]) (d := (some 19)) wf (by kernel_rfl) ⟨rfl, trivial⟩ (by kernel_rfl) (by kernel_rfl) (fun _ => pf_p tok rfl rfl rfl rfl) (fun P_4 => ?_)
    obtain ⟨a10, ha10, la10, ua10, H⟩ := H
    refine sim_p 5 (ei := [(18, Slc.v v9), (19, .int .i64 t4_1)]) (d := (some 20)) wf (by kernel_rfl) ⟨rfl, rfl, trivial⟩ (by kernel_rfl) (by kernel_rfl) (fun _ => pf_y rfl rfl rfl (y_ixa' tok rfl rfl ha10 rfl rfl rfl la10 ua10)) (fun P_5 => ?_)
    refine sim_p 6 (ei := [(20, .pointer (some (a10.add (t4_1.toNat * 2))))]) (d := (some 21)) wf (by kernel_rfl) ⟨rfl, trivial⟩ (by kernel_rfl) (by kernel_rfl) (fun _ => pf_p tok rfl rfl rfl rfl) (fun P_6 => ?_)
    obtain ⟨v11, hv11, H⟩ := H
    refine sim_l 7 (ei := [(21, .pointer (some (a10.add (t4_1.toNat * 2))))]) (d := (some 22)) wf (by kernel_rfl) ⟨rfl, trivial⟩ (by kernel_rfl) (by kernel_rfl) (pf_y rfl rfl rfl (y_ld tok rfl rfl rfl rfl hv11)) (fun P_7 => ?_)
    refine sim_p 8 (ei := [(1, .pointer (some (⟨b1, 0, none⟩ : Addr)))]) (d := (some 23)) wf (by kernel_rfl) ⟨rfl, trivial⟩ (by kernel_rfl) (by kernel_rfl) (fun _ => pf_p tok rfl rfl rfl rfl) (fun P_8 => ?_)
    obtain ⟨v12, hv12, H⟩ := H
    refine sim_l 9 (ei := [(23, .pointer (some ((⟨b1, 0, none⟩ : Addr).add 1)))]) (d := (some 24)) wf (by kernel_rfl) ⟨rfl, trivial⟩ (by kernel_rfl) (by kernel_rfl) (pf_y rfl rfl rfl (y_ld tok rfl rfl rfl rfl hv12)) (fun P_9 => ?_)
    refine sim_p 10 (ei := [(4, .int .i64 t4_1)]) (d := (some 25)) wf (by kernel_rfl) ⟨rfl, trivial⟩ (by kernel_rfl) (by kernel_rfl) (fun _ => pf_p tok rfl rfl rfl rfl) (fun P_10 => ?_)
    obtain ⟨a13, ha13, la13, ua13, H⟩ := H
    refine sim_p 11 (ei := [(24, Slc.v v12), (25, .int .i64 t4_1)]) (d := (some 26)) wf (by kernel_rfl) ⟨rfl, rfl, trivial⟩ (by kernel_rfl) (by kernel_rfl) (fun _ => pf_y rfl rfl rfl (y_ixa' tok rfl rfl ha13 rfl rfl rfl la13 ua13)) (fun P_11 => ?_)
    refine sim_p 12 (ei := [(26, .pointer (some (a13.add (t4_1.toNat * 2))))]) (d := (some 27)) wf (by kernel_rfl) ⟨rfl, trivial⟩ (by kernel_rfl) (by kernel_rfl) (fun _ => pf_p tok rfl rfl rfl rfl) (fun P_12 => ?_)
    obtain ⟨v14, hv14, H⟩ := H
    refine sim_l 13 (ei := [(27, .pointer (some ((a13.add (t4_1.toNat * 2)).add 1)))]) (d := (some 28)) wf (by kernel_rfl) ⟨rfl, trivial⟩ (by kernel_rfl) (by kernel_rfl) (pf_y rfl rfl rfl (y_ld tok rfl rfl rfl rfl hv14)) (fun P_13 => ?_)
    refine sim_p 14 (ei := [(22, .string v11), (28, .string v14)]) (d := (some 29)) wf (by kernel_rfl) ⟨rfl, rfl, trivial⟩ (by kernel_rfl) (by kernel_rfl) (fun _ => pf_y rfl rfl rfl (y_build tok rfl rfl rfl rfl rfl)) (fun P_14 => ?_)
    obtain ⟨b15, h16, eb15, eh16, H⟩ := H
    refine sim_h 15 [2, 3, 4, 5, 6, 7, 8, 9, 10, 11, 12, 13, 14] [2, 3, 4, 5, 6, 7, 8, 9, 10, 11, 12, 13, 14] (ei := [(29, .agg (S_api_Question.cs (⟨v11, 0, v14⟩ : S_api_Question)).toArray)]) wf ⟨P_14 _, P_13, P_12 _, P_11 _, P_10 _, P_9, P_8 _, P_7, P_6 _, P_5 _, P_4 _, P_3, P_2 _, P_1, P_0 _, trivial⟩ (by kernel_rfl) ⟨rfl, trivial⟩ (by kernel_rfl) rfl rfl rfl (h_bs tok rfl rfl rfl rfl rfl rfl rfl eb15 eh16) ?_
    obtain ⟨hy17, H⟩ := H
    refine sim_re (x := ⟨1, Slc.v v8, [(15, .pointer (some ((⟨b4, 0, none⟩ : Addr).add 1)))]⟩) (pf_y rfl rfl rfl (y_ld tok rfl rfl rfl rfl hy17)) (fun P_1 => ?_)
    refine sim_a 16 [0, 1, 2, 3, 4, 5, 6, 7, 8, 9, 10, 11, 12, 13, 14, 15] [0, 1, 2, 3, 4, 5, 6, 7, 8, 9, 10, 11, 12, 13, 14] (ei := [(16, Slc.v v8), (30, Slc.v (⟨some ⟨b15, 0, none⟩, 1, 1⟩ : Slc))]) wf ⟨trivial, trivial, trivial, trivial, trivial, trivial, trivial, trivial, trivial, trivial, trivial, trivial, trivial, P_1, P_0 _, trivial⟩ (by kernel_rfl) ⟨rfl, rfl, trivial⟩ (by kernel_rfl) rfl rfl rfl (a_app (s := v8) (r := (⟨some ⟨b15, 0, none⟩, 1, 1⟩ : Slc)) tok rfl rfl rfl rfl rfl (slcAt_push eb15 eh16) H) ?_
    rintro _ h19 ⟨s18, rfl, H⟩
    refine sim_p 17 (ei := [(3, .pointer (some (⟨b4, 0, none⟩ : Addr)))]) (d := (some 32)) wf (by kernel_rfl) ⟨rfl, trivial⟩ (by kernel_rfl) (by kernel_rfl) (fun _ => pf_p tok rfl rfl rfl rfl) (fun P_17 => ?_)
    obtain ⟨h20, wh20, eh20, H⟩ := H
    refine sim_h 18 [0, 1, 2, 3, 4, 5, 6, 7, 8, 9, 10, 11, 12, 13, 14, 15, 16, 17] [0, 1, 2, 3, 4, 5, 6, 7, 8, 9, 10, 11, 12, 13, 14, 17] (ei := [(31, Slc.v s18), (32, .pointer (some ((⟨b4, 0, none⟩ : Addr).add 1)))]) wf ⟨P_17 _, trivial, trivial, trivial, trivial, trivial, trivial, trivial, trivial, trivial, trivial, trivial, trivial, trivial, trivial, trivial, trivial⟩ (by kernel_rfl) ⟨rfl, rfl, trivial⟩ (by kernel_rfl) rfl rfl rfl (h_st tok rfl rfl rfl rfl rfl rfl wh20 eh20) ?_
    refine sim_end wf ⟨trivial, trivial, trivial, trivial, trivial, trivial, trivial, trivial, trivial, trivial, trivial, trivial, trivial, trivial, trivial, trivial, trivial⟩ (by kernel_rfl) ?_
    clear wf P_0 P_1 P_10 P_11 P_12 P_13 P_14 P_17 P_2 P_3 P_4 P_5 P_6 P_7 P_8 P_9
    refine x_blk ?_
    refine x_seq ?_
    refine c_weak [(1, .pointer (some (⟨b1, 0, none⟩ : Addr))), (3, .pointer (some (⟨b4, 0, none⟩ : Addr))), (4, .int .i64 t4_1)] ⟨rfl, rfl, rfl, trivial⟩ ?_
    refine c_region ?_
    refine w_p tok rfl rfl rfl ?_
    refine w_p tok rfl rfl rfl ?_
    obtain ⟨x21, ex21, H⟩ := H
    refine w_pe tok rfl (congrArg (fun z => (.int .i64 z : Value)) ex21) rfl rfl ?_
    refine w_end ?_
    exact x_join x21 H ⟨rfl, rfl, rfl, trivial⟩
  ·
    refine c_exit ?_
    refine x_te ?_
    refine x_te ?_
    refine x_bh ?_
    refine x_seq ?_
    refine c_weak [(3, .pointer (some (⟨b4, 0, none⟩ : Addr)))] ⟨rfl, trivial⟩ ?_
    refine c_seq ?_
    refine c_region ?_
    obtain ⟨v22, hv22, H⟩ := H
    refine w_y (y_lda tok rfl rfl rfl rfl rfl hv22) rfl rfl ?_
    refine w_call ref15_Print_ok (ref15_Print_ref _ _ _ H) rfl rfl rfl rfl ?_
    rintro _ h24 ⟨r23, rfl, H⟩
    refine w_p tok rfl rfl rfl ?_
    refine w_end ?_
    refine x_seq ?_
    refine c_ret ?_
    exact x_ret _ rfl _ rfl ⟨r23, rfl, H⟩

theorem ref15_SameSeries_ok : CallOk Go.Proofs.Try.prog 45 := ⟨_, Go.Proofs.Try.func45, by kernel_rfl, by kernel_rfl⟩
theorem ref15_SameSeries_ref (p0 : S_api_Series) (p1 : S_api_Series) (k : (Bool) → Heap → Prop) (h : Heap) (H : ref15_SameSeries p0 p1 k h) : CallsH Go.Proofs.Try.prog 45 #[.agg (S_api_Series.cs p0).toArray, .agg (S_api_Series.cs p1).toArray] h (fun v h' => ∃ r : Bool, v = .bool r ∧ k r h') := by
  refine f_enter (N := 38) Go.Proofs.Try.func45 rfl rfl rfl (fun w0 => ?_)
  unfold ref15_SameSeries at H
  refine c_weak [(0, .agg (S_api_Series.cs p0).toArray), (1, .agg (S_api_Series.cs p1).toArray)] ⟨rfl, rfl, trivial⟩ ?_
  refine c_seq ?_
  refine c_region ?_
  obtain ⟨b1, h2, eb1, eh2, H⟩ := H
  refine w_h (h_box rfl rfl eb1 eh2) rfl rfl ?_
  obtain ⟨b3, h4, eb3, eh4, H⟩ := H
  refine w_h (h_box rfl rfl eb3 eh4) rfl rfl ?_
  refine w_p tok rfl rfl rfl ?_
  refine w_end ?_
  refine x_seq ?_
  refine c_seq ?_
  refine c_seq ?_
  refine c_region ?_
  refine w_p tok rfl rfl rfl ?_
  obtain ⟨v5, hv5, H⟩ := H
  refine w_y (y_ld tok rfl rfl rfl rfl hv5) rfl rfl ?_
  refine w_p tok rfl rfl rfl ?_
  obtain ⟨v6, hv6, H⟩ := H
  refine w_y (y_ld tok rfl rfl rfl rfl hv6) rfl rfl ?_
  refine w_p tok rfl rfl rfl ?_
  refine w_p tok rfl rfl rfl ?_
  refine w_cut 8 (α := Bool) (fun (s : Bool) => [(19, .bool s), (2, .pointer (some (⟨b1, 0, none⟩ : Addr))), (3, .pointer (some (⟨b3, 0, none⟩ : Addr)))]) (fun (s : Bool) h => ref15_SameSeries_g1 (⟨b1, 0, none⟩ : Addr) (⟨b3, 0, none⟩ : Addr) s k h) ?_ ?_
  ·
    rintro t19_1 h_1 H
    replace H : ref15_SameSeries_g1 (⟨b1, 0, none⟩ : Addr) (⟨b3, 0, none⟩ : Addr) t19_1 k h_1 := H
    unfold ref15_SameSeries_g1 at H
    refine w_weak [(19, .bool t19_1), (2, .pointer (some (⟨b1, 0, none⟩ : Addr))), (3, .pointer (some (⟨b3, 0, none⟩ : Addr)))] ⟨rfl, rfl, rfl, trivial⟩ ?_
    refine w_end ?_
    refine x_seq ?_
    refine c_if H rfl (fun H => ?_) (fun H => ?_)
    ·
      refine c_seq ?_
      refine c_region ?_
      refine w_p tok rfl rfl rfl ?_
      refine w_end ?_
      refine x_seq ?_
      refine c_ret ?_
      refine x_tr ?_
      exact x_ret _ rfl _ rfl ⟨false, rfl, H⟩
    ·
      refine c_skip ?_
      refine x_seq ?_
      refine c_seq ?_
      refine c_seq ?_
      refine c_region ?_
      refine w_p tok rfl rfl rfl ?_
      refine w_end ?_
      refine x_seq ?_
      refine c_block ?_
      obtain ⟨I2, μ2, H0, HI⟩ := H
      refine c_loop (σ := Int) (fun (s : Int) => [(5, .int .i64 s), (2, .pointer (some (⟨b1, 0, none⟩ : Addr))), (3, .pointer (some (⟨b3, 0, none⟩ : Addr)))]) I2 μ2 0 H0 ⟨rfl, rfl, rfl, trivial⟩ ?_
      rintro t5_2 h_2 H
      replace H := HI t5_2 h_2 H
      unfold ref15_SameSeries_l2b at H
      refine c_weak [(5, .int .i64 t5_2), (2, .pointer (some (⟨b1, 0, none⟩ : Addr))), (3, .pointer (some (⟨b3, 0, none⟩ : Addr)))] ⟨rfl, rfl, rfl, trivial⟩ ?_
      refine c_seq ?_
      refine c_seq ?_
      refine c_region ?_
      refine w_p tok rfl rfl rfl ?_
      refine w_p tok rfl rfl rfl ?_
      obtain ⟨v7, hv7, H⟩ := H
      refine w_y (y_ld tok rfl rfl rfl rfl hv7) rfl rfl ?_
      refine w_p tok rfl rfl rfl ?_
      refine w_p tok rfl rfl rfl ?_
      refine w_end ?_
      refine x_seq ?_
      refine c_if H rfl (fun H => ?_) (fun H => ?_)
      ·
        refine c_skip ?_
        refine x_seq ?_
        refine c_seq ?_
        refine c_block ?_
        refine c_seq ?_
        refine c_draw (by kernel_rfl) (by kernel_rfl) ?_
        refine q_p tok rfl rfl rfl ?_
        obtain ⟨v8, hv8, H⟩ := H
        refine q_y (y_ld tok rfl rfl rfl rfl hv8) rfl rfl ?_
        refine q_p tok rfl rfl rfl ?_
        obtain ⟨a9, ha9, la9, ua9, H⟩ := H
        refine q_y (y_ixa' tok rfl rfl ha9 rfl rfl rfl la9 ua9) rfl rfl ?_
        obtain ⟨v10, hv10, H⟩ := H
        refine q_y (y_lda tok rfl rfl rfl rfl rfl hv10) rfl rfl ?_
        refine q_p tok rfl rfl rfl ?_
        obtain ⟨v11, hv11, H⟩ := H
        refine q_y (y_ld tok rfl rfl rfl rfl hv11) rfl rfl ?_
        refine q_p tok rfl rfl rfl ?_
        obtain ⟨a12, ha12, la12, ua12, H⟩ := H
        refine q_y (y_ixa' tok rfl rfl ha12 rfl rfl rfl la12 ua12) rfl rfl ?_
        obtain ⟨v13, hv13, H⟩ := H
        refine q_y (y_lda tok rfl rfl rfl rfl rfl hv13) rfl rfl ?_
        refine q_y (y_eqs (op := .neq) (xs := S_api_Label.cs v10) (ys := S_api_Label.cs v13) (.inr rfl) rfl rfl rfl (eqv163_S_api_Label v10 v13) (by kernel_rfl)) rfl rfl ?_
        refine q_end ?_
        refine x_seq ?_
        refine c_weak [(5, .int .i64 t5_2), (2, .pointer (some (⟨b1, 0, none⟩ : Addr))), (3, .pointer (some (⟨b3, 0, none⟩ : Addr))), (37, .bool (if BinOp.neq = .eql then ((v10.f_Name.toList == v13.f_Name.toList) && (v10.f_Value.toList == v13.f_Value.toList)) else !((v10.f_Name.toList == v13.f_Name.toList) && (v10.f_Value.toList == v13.f_Value.toList))))] ⟨rfl, rfl, rfl, rfl, trivial⟩ ?_
        refine c_if H rfl (fun H => ?_) (fun H => ?_)
        ·
          refine c_seq ?_
          refine c_region ?_
          refine w_p tok rfl rfl rfl ?_
          refine w_end ?_
          refine x_seq ?_
          refine c_ret ?_
          refine x_br ?_
          refine x_tr ?_
          refine x_tr ?_
          refine x_br ?_
          refine x_tr ?_
          exact x_ret _ rfl _ rfl ⟨false, rfl, H⟩
        ·
          refine c_skip ?_
          refine x_blk ?_
          refine x_seq ?_
          refine c_region ?_
          refine w_p tok rfl rfl rfl ?_
          refine w_p tok rfl rfl rfl ?_
          obtain ⟨x14, ex14, H⟩ := H
          refine w_pe tok rfl (congrArg (fun z => (.int .i64 z : Value)) ex14) rfl rfl ?_
          refine w_end ?_
          exact x_join x14 H ⟨rfl, rfl, rfl, trivial⟩
      ·
        refine c_exit ?_
        refine x_te ?_
        refine x_te ?_
        refine x_bh ?_
        refine x_seq ?_
        refine c_weak [] trivial ?_
        refine c_seq ?_
        refine c_region ?_
        refine w_p tok rfl rfl rfl ?_
        refine w_end ?_
        refine x_seq ?_
        refine c_ret ?_
        exact x_ret _ rfl _ rfl ⟨true, rfl, H⟩
  ·
    refine w_gif (d := 11) H rfl (fun H => ?_) (fun H => ?_)
    ·
      refine w_skip rfl rfl ?_
      refine w_skip rfl rfl ?_
      refine w_skip rfl rfl ?_
      refine w_skip rfl rfl ?_
      refine w_skip rfl rfl ?_
      refine w_skip rfl rfl ?_
      refine w_skip rfl rfl ?_
      refine w_p tok rfl rfl rfl ?_
      exact w_jn true H ⟨rfl, rfl, rfl, trivial⟩
    ·
      refine w_p tok rfl rfl rfl ?_
      obtain ⟨v15, hv15, H⟩ := H
      refine w_y (y_ld tok rfl rfl rfl rfl hv15) rfl rfl ?_
      refine w_p tok rfl rfl rfl ?_
      refine w_p tok rfl rfl rfl ?_
      obtain ⟨v16, hv16, H⟩ := H
      refine w_y (y_ld tok rfl rfl rfl rfl hv16) rfl rfl ?_
      refine w_p tok rfl rfl rfl ?_
      refine w_p tok rfl rfl rfl ?_
      refine w_p tok rfl rfl rfl ?_
      exact w_jn ((v15.len : Int) != (v16.len : Int)) H ⟨rfl, rfl, rfl, trivial⟩

theorem law15_LabelWrites_ok : CallOk Go.Proofs.Try.prog 8 := ⟨_, Go.Proofs.Try.func8, by kernel_rfl, by kernel_rfl⟩
theorem law15_LabelWrites_ref (p0 : S_api_Series) (p1 : S_api_Series) (k : (Bool) → Heap → Prop) (h : Heap) (H : law15_LabelWrites p0 p1 k h) : CallsH Go.Proofs.Try.prog 8 #[.agg (S_api_Series.cs p0).toArray, .agg (S_api_Series.cs p1).toArray] h (fun v h' => ∃ r : Bool, v = .bool r ∧ k r h') := by
  refine f_enter (N := 75) Go.Proofs.Try.func8 rfl rfl rfl (fun w0 => ?_)
  unfold law15_LabelWrites at H
  refine c_weak [(0, .agg (S_api_Series.cs p0).toArray), (1, .agg (S_api_Series.cs p1).toArray)] ⟨rfl, rfl, trivial⟩ ?_
  refine c_seq ?_
  refine c_region ?_
  obtain ⟨b1, h2, eb1, eh2, H⟩ := H
  refine w_h (h_box rfl rfl eb1 eh2) rfl rfl ?_
  obtain ⟨b3, h4, eb3, eh4, H⟩ := H
  refine w_h (h_box rfl rfl eb3 eh4) rfl rfl ?_
  refine w_p tok rfl rfl rfl ?_
  refine w_end ?_
  refine x_seq ?_
  refine c_seq ?_
  refine c_seq ?_
  refine c_region ?_
  obtain ⟨v5, hv5, H⟩ := H
  refine w_y (y_lda tok rfl rfl rfl rfl rfl hv5) rfl rfl ?_
  refine w_y (y_build tok rfl rfl rfl rfl rfl) rfl rfl ?_
  refine w_call ref15_Great_ok (ref15_Great_ref _ _ _ _ H) rfl rfl rfl rfl ?_
  rintro _ h7 ⟨r6, rfl, H⟩
  refine w_p tok rfl rfl rfl ?_
  refine w_cut 4 (α := Bool) (fun (s : Bool) => [(16, .bool s), (2, .pointer (some (⟨b1, 0, none⟩ : Addr))), (3, .pointer (some (⟨b3, 0, none⟩ : Addr)))]) (fun (s : Bool) h => law15_LabelWrites_g1 (⟨b1, 0, none⟩ : Addr) (⟨b3, 0, none⟩ : Addr) s k h) ?_ ?_
  ·
    rintro t16_1 h_1 H
    replace H : law15_LabelWrites_g1 (⟨b1, 0, none⟩ : Addr) (⟨b3, 0, none⟩ : Addr) t16_1 k h_1 := H
    unfold law15_LabelWrites_g1 at H
    refine w_weak [(16, .bool t16_1), (2, .pointer (some (⟨b1, 0, none⟩ : Addr))), (3, .pointer (some (⟨b3, 0, none⟩ : Addr)))] ⟨rfl, rfl, rfl, trivial⟩ ?_
    refine w_end ?_
    refine x_seq ?_
    refine c_if H rfl (fun H => ?_) (fun H => ?_)
    ·
      refine c_seq ?_
      refine c_region ?_
      refine w_call law15_awake_ok (law15_awake_ref  _ _ H) rfl rfl rfl rfl ?_
      rintro _ h9 ⟨r8, rfl, H⟩
      refine w_p tok rfl rfl rfl ?_
      refine w_end ?_
      refine x_seq ?_
      refine c_ret ?_
      refine x_tr ?_
      exact x_ret _ rfl _ rfl ⟨r8, rfl, H⟩
    ·
      refine c_skip ?_
      refine x_seq ?_
      refine c_seq ?_
      refine c_region ?_
      obtain ⟨v10, hv10, H⟩ := H
      refine w_y (y_lda tok rfl rfl rfl rfl rfl hv10) rfl rfl ?_
      refine w_call label_Check_ok (label_Check_ref _ _ _ H) rfl rfl rfl rfl ?_
      rintro _ h12 ⟨r11, rfl, H⟩
      refine w_p tok rfl rfl rfl ?_
      refine w_end ?_
      refine x_seq ?_
      refine c_seq ?_
      refine c_seq ?_
      refine c_region ?_
      refine w_p tok rfl rfl rfl ?_
      refine w_p tok rfl rfl rfl ?_
      obtain ⟨v13, hv13, H⟩ := H
      refine w_y (y_lda tok rfl rfl rfl rfl rfl hv13) rfl rfl ?_
      refine w_call ref15_Check_ok (ref15_Check_ref _ _ _ H) rfl rfl rfl rfl ?_
      rintro _ h15 ⟨r14, rfl, H⟩
      refine w_p tok rfl rfl rfl ?_
      refine w_p tok rfl rfl rfl ?_
      refine w_cutU 7 [(32, .bool ((!((r11 == 0) == r14)) || ((r11 != 0) && (r11 != 1)))), (2, .pointer (some (⟨b1, 0, none⟩ : Addr))), (3, .pointer (some (⟨b3, 0, none⟩ : Addr)))] ?_ ?_
      ·
        refine w_end ?_
        refine x_seq ?_
        refine c_if H rfl (fun H => ?_) (fun H => ?_)
        ·
          refine c_seq ?_
          refine c_region ?_
          refine w_p tok rfl rfl rfl ?_
          refine w_end ?_
          refine x_seq ?_
          refine c_ret ?_
          refine x_tr ?_
          exact x_ret _ rfl _ rfl ⟨false, rfl, H⟩
        ·
          refine c_skip ?_
          refine x_seq ?_
          refine c_seq ?_
          refine c_seq ?_
          refine c_region ?_
          obtain ⟨v16, hv16, H⟩ := H
          refine w_y (y_lda tok rfl rfl rfl rfl rfl hv16) rfl rfl ?_
          refine w_call ref15_Check_ok (ref15_Check_ref _ _ _ H) rfl rfl rfl rfl ?_
          rintro _ h18 ⟨r17, rfl, H⟩
          refine w_p tok rfl rfl rfl ?_
          refine w_p tok rfl rfl rfl ?_
          refine w_cut 4 (α := Bool) (fun (s : Bool) => [(40, .bool s), (2, .pointer (some (⟨b1, 0, none⟩ : Addr))), (3, .pointer (some (⟨b3, 0, none⟩ : Addr)))]) (fun (s : Bool) h => law15_LabelWrites_g2 (⟨b1, 0, none⟩ : Addr) (⟨b3, 0, none⟩ : Addr) s k h) ?_ ?_
          ·
            rintro t40_2 h_2 H
            replace H : law15_LabelWrites_g2 (⟨b1, 0, none⟩ : Addr) (⟨b3, 0, none⟩ : Addr) t40_2 k h_2 := H
            unfold law15_LabelWrites_g2 at H
            refine w_weak [(40, .bool t40_2), (2, .pointer (some (⟨b1, 0, none⟩ : Addr))), (3, .pointer (some (⟨b3, 0, none⟩ : Addr)))] ⟨rfl, rfl, rfl, trivial⟩ ?_
            refine w_end ?_
            refine x_seq ?_
            refine c_if H rfl (fun H => ?_) (fun H => ?_)
            ·
              refine c_seq ?_
              refine c_region ?_
              refine w_call law15_awake_ok (law15_awake_ref  _ _ H) rfl rfl rfl rfl ?_
              rintro _ h20 ⟨r19, rfl, H⟩
              refine w_p tok rfl rfl rfl ?_
              refine w_end ?_
              refine x_seq ?_
              refine c_ret ?_
              refine x_tr ?_
              exact x_ret _ rfl _ rfl ⟨r19, rfl, H⟩
            ·
              refine c_skip ?_
              refine x_seq ?_
              refine c_seq ?_
              refine c_region ?_
              obtain ⟨v21, hv21, H⟩ := H
              refine w_y (y_lda tok rfl rfl rfl rfl rfl hv21) rfl rfl ?_
              refine w_call label_Text_ok (label_Text_ref _ _ _ H) rfl rfl rfl rfl ?_
              rintro _ h23 ⟨r22, rfl, H⟩
              refine w_p tok rfl rfl rfl ?_
              refine w_end ?_
              refine x_seq ?_
              refine c_seq ?_
              refine c_region ?_
              refine w_p tok rfl rfl rfl ?_
              refine w_call label_Parse_ok (label_Parse_ref _ _ _ H) rfl rfl rfl rfl ?_
              rintro _ h25 ⟨r24, rfl, H⟩
              refine w_p tok rfl rfl rfl ?_
              refine w_p tok rfl rfl rfl ?_
              refine w_p tok rfl rfl rfl ?_
              obtain ⟨b26, h27, eb26, eh27, H⟩ := H
              refine w_h (h_alloc tok rfl rfl eb26 eh27) rfl rfl ?_
              obtain ⟨h28, wh28, eh28, H⟩ := H
              refine w_h (h_sts tok rfl rfl rfl rfl rfl (oneC (by kernel_rfl)) wh28 eh28) rfl rfl ?_
              refine w_p tok rfl rfl rfl ?_
              refine w_end ?_
              refine x_seq ?_
              refine c_weak [(2, .pointer (some (⟨b1, 0, none⟩ : Addr))), (3, .pointer (some (⟨b3, 0, none⟩ : Addr))), (6, .string r22), (7, .pointer (some (⟨b26, 0, none⟩ : Addr))), (8, .int .i64 r24.2)] ⟨rfl, rfl, rfl, rfl, rfl, trivial⟩ ?_
              refine c_seqJ (α := Bool) (fun (s : Bool) => [(4, .bool s)]) (fun (s : Bool) h => law15_LabelWrites_j3 s k h) ?_ ?_
              ·
                rintro t4_3 h_3 H
                replace H : law15_LabelWrites_j3 t4_3 k h_3 := H
                unfold law15_LabelWrites_j3 at H
                refine c_weak [(4, .bool t4_3)] ⟨rfl, trivial⟩ ?_
                refine c_ret ?_
                exact x_ret _ rfl _ rfl ⟨t4_3, rfl, H⟩
              ·
                refine c_sim [(2, .pointer (some (⟨b1, 0, none⟩ : Addr))), (3, .pointer (some (⟨b3, 0, none⟩ : Addr))), (6, .string r22), (7, .pointer (some (⟨b26, 0, none⟩ : Addr))), (8, .int .i64 r24.2)] (by kernel_rfl) (by kernel_rfl) ⟨rfl, rfl, rfl, rfl, rfl, trivial⟩ (fun wf => ?_)
                refine sim_p 0 (ei := [(6, .string r22)]) (d := (some 49)) wf (by kernel_rfl) ⟨rfl, trivial⟩ (by kernel_rfl) (by kernel_rfl) (fun _ => pf_p tok rfl rfl rfl rfl) (fun P_0 => ?_)
                obtain ⟨v29, hv29, H⟩ := H
                refine sim_l 1 (ei := [(2, .pointer (some (⟨b1, 0, none⟩ : Addr)))]) (d := (some 50)) wf (by kernel_rfl) ⟨rfl, trivial⟩ (by kernel_rfl) (by kernel_rfl) (pf_y rfl rfl rfl (y_lda tok rfl rfl rfl rfl rfl hv29)) (fun P_1 => ?_)
                refine sim_c 2 [1] [1] (ei := [(50, .agg (S_api_Series.cs v29).toArray)]) ref15_Text_ok (ref15_Text_ref _ _ _ H) wf ⟨P_1, P_0 _, trivial⟩ (by kernel_rfl) ⟨rfl, trivial⟩ (by kernel_rfl) rfl rfl rfl rfl rfl ?_
                rintro _ h31 ⟨r30, rfl, H⟩
                refine sim_p 3 (ei := [(49, .string r22), (51, .string r30)]) (d := (some 52)) wf (by kernel_rfl) ⟨rfl, rfl, trivial⟩ (by kernel_rfl) (by kernel_rfl) (fun _ => pf_p tok rfl rfl rfl rfl) (fun P_3 => ?_)
                refine sim_p 4 (ei := [(52, .bool (r22.toList == r30.toList))]) (d := (some 53)) wf (by kernel_rfl) ⟨rfl, trivial⟩ (by kernel_rfl) (by kernel_rfl) (fun _ => pf_p tok rfl rfl rfl rfl) (fun P_4 => ?_)
                refine sim_gif 53 H rfl (fun hb H => ?_) (fun hb H => ?_)
                ·
                  refine sim_p 5 (ei := [(8, .int .i64 r24.2), (53, .bool true)]) (d := (some 54)) wf (by kernel_rfl) ⟨rfl, rfl, trivial⟩ (by kernel_rfl) (by kernel_rfl) (fun _ => pf_p tok rfl rfl rfl rfl) (fun P_5 => ?_)
                  refine sim_p 6 (ei := [(53, .bool true), (54, .int .i64 r24.2)]) (d := (some 55)) wf (by kernel_rfl) ⟨rfl, rfl, trivial⟩ (by kernel_rfl) (by kernel_rfl) (fun _ => pf_p tok rfl rfl rfl rfl) (fun P_6 => ?_)
                  refine sim_p 7 (ei := [(53, .bool true), (55, .bool (r24.2 == 0))]) (d := (some 56)) wf (by kernel_rfl) ⟨rfl, rfl, trivial⟩ (by kernel_rfl) (by kernel_rfl) (fun _ => pf_p tok rfl rfl rfl rfl) (fun P_7 => ?_)
                  refine sim_p 8 (ei := [(56, .bool (r24.2 == 0))]) (d := (some 57)) wf (by kernel_rfl) ⟨rfl, trivial⟩ (by kernel_rfl) (by kernel_rfl) (fun _ => pf_p tok rfl rfl rfl rfl) (fun P_8 => ?_)
                  refine sim_gif 57 H rfl (fun hb H => ?_) (fun hb H => ?_)
                  ·
                    obtain ⟨v32, hv32, H⟩ := H
                    refine sim_l 9 (ei := [(7, .pointer (some (⟨b26, 0, none⟩ : Addr))), (57, .bool true)]) (d := (some 58)) wf (by kernel_rfl) ⟨rfl, rfl, trivial⟩ (by kernel_rfl) (by kernel_rfl) (pf_y rfl rfl rfl (y_lda tok rfl rfl rfl rfl rfl hv32)) (fun P_9 => ?_)
                    obtain ⟨v33, hv33, H⟩ := H
                    refine sim_l 10 (ei := [(2, .pointer (some (⟨b1, 0, none⟩ : Addr))), (57, .bool true)]) (d := (some 59)) wf (by kernel_rfl) ⟨rfl, rfl, trivial⟩ (by kernel_rfl) (by kernel_rfl) (pf_y rfl rfl rfl (y_lda tok rfl rfl rfl rfl rfl hv33)) (fun P_10 => ?_)
                    refine sim_c 11 [0, 1, 2, 3, 4, 5, 6, 7, 8, 9, 10] [0, 1, 3, 4, 5, 6, 7, 8, 9, 10] (ei := [(57, .bool true), (58, .agg (S_api_Series.cs v32).toArray), (59, .agg (S_api_Series.cs v33).toArray)]) ref15_SameSeries_ok (ref15_SameSeries_ref _ _ _ _ H) wf ⟨P_10, P_9, P_8 _, P_7 _, P_6 _, P_5 _, P_4 _, P_3 _, trivial, P_0 _, trivial⟩ (by kernel_rfl) ⟨rfl, rfl, rfl, trivial⟩ (by kernel_rfl) rfl rfl rfl rfl rfl ?_
                    rintro _ h35 ⟨r34, rfl, H⟩
                    refine sim_p 12 (ei := [(57, .bool true), (60, .bool r34)]) (d := (some 61)) wf (by kernel_rfl) ⟨rfl, rfl, trivial⟩ (by kernel_rfl) (by kernel_rfl) (fun _ => pf_p tok rfl rfl rfl rfl) (fun P_12 => ?_)
                    refine sim_p 13 (ei := [(61, .bool r34)]) (d := (some 62)) wf (by kernel_rfl) ⟨rfl, trivial⟩ (by kernel_rfl) (by kernel_rfl) (fun _ => pf_p tok rfl rfl rfl rfl) (fun P_13 => ?_)
                    refine sim_gif 62 H rfl (fun hb H => ?_) (fun hb H => ?_)
                    ·
                      refine sim_p 14 (ei := [(6, .string r22), (62, .bool true)]) (d := (some 63)) wf (by kernel_rfl) ⟨rfl, rfl, trivial⟩ (by kernel_rfl) (by kernel_rfl) (fun _ => pf_p tok rfl rfl rfl rfl) (fun P_14 => ?_)
                      obtain ⟨v36, hv36, H⟩ := H
                      refine sim_l 15 (ei := [(3, .pointer (some (⟨b3, 0, none⟩ : Addr))), (62, .bool true)]) (d := (some 64)) wf (by kernel_rfl) ⟨rfl, rfl, trivial⟩ (by kernel_rfl) (by kernel_rfl) (pf_y rfl rfl rfl (y_lda tok rfl rfl rfl rfl rfl hv36)) (fun P_15 => ?_)
                      obtain ⟨v37, hv37, H⟩ := H
                      refine sim_l 18 (ei := [(2, .pointer (some (⟨b1, 0, none⟩ : Addr))), (62, .bool true)]) (d := (some 67)) wf (by kernel_rfl) ⟨rfl, rfl, trivial⟩ (by kernel_rfl) (by kernel_rfl) (pf_y rfl rfl rfl (y_lda tok rfl rfl rfl rfl rfl hv37)) (fun P_18 => ?_)
                      obtain ⟨v38, hv38, H⟩ := H
                      refine sim_l 19 (ei := [(3, .pointer (some (⟨b3, 0, none⟩ : Addr))), (62, .bool true)]) (d := (some 68)) wf (by kernel_rfl) ⟨rfl, rfl, trivial⟩ (by kernel_rfl) (by kernel_rfl) (pf_y rfl rfl rfl (y_lda tok rfl rfl rfl rfl rfl hv38)) (fun P_19 => ?_)
                      refine sim_c 16 [0, 1, 2, 3, 4, 5, 6, 7, 8, 9, 10, 11, 12, 13, 15] [0, 1, 3, 4, 5, 6, 7, 8, 9, 10, 12, 13, 15] (ei := [(62, .bool true), (64, .agg (S_api_Series.cs v36).toArray)]) label_Text_ok (label_Text_ref _ _ _ H) wf ⟨P_19, P_18, P_15, P_14 _, P_13 _, P_12 _, trivial, trivial, trivial, trivial, trivial, trivial, trivial, trivial, trivial, trivial, trivial⟩ (by kernel_rfl) ⟨rfl, rfl, trivial⟩ (by kernel_rfl) rfl rfl rfl rfl rfl ?_
                      rintro _ h40 ⟨r39, rfl, H⟩
                      obtain ⟨hy41, hy42, H⟩ := H
                      refine sim_re (x := ⟨19, .agg (S_api_Series.cs v38).toArray, [(3, .pointer (some (⟨b3, 0, none⟩ : Addr))), (62, .bool true)]⟩) (pf_y rfl rfl rfl (y_lda tok rfl rfl rfl rfl rfl hy41)) (fun P_19 => ?_)
                      refine sim_re (x := ⟨18, .agg (S_api_Series.cs v37).toArray, [(2, .pointer (some (⟨b1, 0, none⟩ : Addr))), (62, .bool true)]⟩) (pf_y rfl rfl rfl (y_lda tok rfl rfl rfl rfl rfl hy42)) (fun P_18 => ?_)
                      refine sim_p 17 (ei := [(62, .bool true), (63, .string r22), (65, .string r39)]) (d := (some 66)) wf (by kernel_rfl) ⟨rfl, rfl, rfl, trivial⟩ (by kernel_rfl) (by kernel_rfl) (fun _ => pf_p tok rfl rfl rfl rfl) (fun P_17 => ?_)
                      refine sim_c 20 [0, 1, 2, 3, 4, 5, 6, 7, 8, 9, 10, 11, 12, 13, 15, 16, 18, 19] [0, 1, 3, 4, 5, 6, 7, 8, 9, 10, 12, 13, 15, 18, 19] (ei := [(62, .bool true), (67, .agg (S_api_Series.cs v37).toArray), (68, .agg (S_api_Series.cs v38).toArray)]) ref15_SameSeries_ok (ref15_SameSeries_ref _ _ _ _ H) wf ⟨P_17 _, P_19, P_18, trivial, P_14 _, trivial, trivial, trivial, trivial, trivial, trivial, trivial, trivial, trivial, trivial, trivial, trivial, trivial⟩ (by kernel_rfl) ⟨rfl, rfl, rfl, trivial⟩ (by kernel_rfl) rfl rfl rfl rfl rfl ?_
                      rintro _ h44 ⟨r43, rfl, H⟩
                      refine sim_p 21 (ei := [(62, .bool true), (66, .bool (r22.toList == r39.toList)), (69, .bool r43)]) (d := (some 70)) wf (by kernel_rfl) ⟨rfl, rfl, rfl, trivial⟩ (by kernel_rfl) (by kernel_rfl) (fun _ => pf_p tok rfl rfl rfl rfl) (fun P_21 => ?_)
                      refine sim_p 22 (ei := [(62, .bool true), (70, .bool (((r22.toList == r39.toList) == r43)))]) (d := (some 71)) wf (by kernel_rfl) ⟨rfl, rfl, trivial⟩ (by kernel_rfl) (by kernel_rfl) (fun _ => pf_p tok rfl rfl rfl rfl) (fun P_22 => ?_)
                      refine sim_p 23 (ei := [(71, .bool (((r22.toList == r39.toList) == r43)))]) (d := (some 72)) wf (by kernel_rfl) ⟨rfl, trivial⟩ (by kernel_rfl) (by kernel_rfl) (fun _ => pf_p tok rfl rfl rfl rfl) (fun P_23 => ?_)
                      refine sim_gif 72 H rfl (fun hb H => ?_) (fun hb H => ?_)
                      ·
                        refine sim_c 24 [0, 1, 2, 3, 4, 5, 6, 7, 8, 9, 10, 11, 12, 13, 14, 15, 16, 17, 18, 19, 20, 21, 22, 23] [0, 1, 3, 4, 5, 6, 7, 8, 9, 10, 12, 13, 14, 15, 17, 18, 19, 21, 22, 23] (ei := [(72, .bool true)]) law15_awake_ok (law15_awake_ref  _ _ H) wf ⟨P_23 _, P_22 _, P_21 _, P_17 _, trivial, trivial, trivial, P_14 _, trivial, trivial, trivial, trivial, trivial, trivial, trivial, trivial, trivial, trivial, trivial, trivial, trivial⟩ (by kernel_rfl) ⟨rfl, trivial⟩ (by kernel_rfl) rfl rfl rfl rfl rfl ?_
                        rintro _ h46 ⟨r45, rfl, H⟩
                        refine sim_p 25 (ei := [(72, .bool true), (73, .bool r45)]) (d := (some 74)) wf (by kernel_rfl) ⟨rfl, rfl, trivial⟩ (by kernel_rfl) (by kernel_rfl) (fun _ => pf_p tok rfl rfl rfl rfl) (fun P_25 => ?_)
                        refine sim_p 26 (ei := [(74, .bool r45)]) (d := (some 4)) wf (by kernel_rfl) ⟨rfl, trivial⟩ (by kernel_rfl) (by kernel_rfl) (fun _ => pf_p tok rfl rfl rfl rfl) (fun P_26 => ?_)
                        refine sim_end wf ⟨P_26 _, P_25 _, trivial, trivial, trivial, trivial, trivial, trivial, trivial, trivial, trivial, trivial, trivial, trivial, trivial, trivial, trivial, trivial, trivial, trivial, trivial, trivial, trivial⟩ (by kernel_rfl) ?_
                        clear wf P_0 P_1 P_10 P_12 P_13 P_14 P_15 P_17 P_18 P_19 P_21 P_22 P_23 P_25 P_26 P_3 P_4 P_5 P_6 P_7 P_8 P_9
                        exact x_join r45 H ⟨rfl, trivial⟩
                      ·
                        refine sim_p 24 (v := undef) (ei := [(72, .bool false)]) (d := (some 73)) wf (by kernel_rfl) ⟨rfl, trivial⟩ (by kernel_rfl) (by kernel_rfl) (fun _ => pf_s rfl rfl rfl) (fun P_24 => ?_)
                        refine sim_p 25 (ei := [(72, .bool false), (73, undef)]) (d := (some 74)) wf (by kernel_rfl) ⟨rfl, rfl, trivial⟩ (by kernel_rfl) (by kernel_rfl) (fun _ => pf_p tok rfl rfl rfl rfl) (fun P_25 => ?_)
                        refine sim_p 26 (ei := [(74, .bool false)]) (d := (some 4)) wf (by kernel_rfl) ⟨rfl, trivial⟩ (by kernel_rfl) (by kernel_rfl) (fun _ => pf_p tok rfl rfl rfl rfl) (fun P_26 => ?_)
                        refine sim_end wf ⟨P_26 _, P_25 _, P_24 _, P_23 _, P_22 _, P_21 _, P_17 _, trivial, trivial, trivial, P_14 _, trivial, trivial, trivial, trivial, trivial, trivial, trivial, trivial, trivial, trivial, trivial, trivial, trivial⟩ (by kernel_rfl) ?_
                        clear wf P_0 P_1 P_10 P_12 P_13 P_14 P_15 P_17 P_18 P_19 P_21 P_22 P_23 P_24 P_25 P_26 P_3 P_4 P_5 P_6 P_7 P_8 P_9
                        exact x_join false H ⟨rfl, trivial⟩
                    ·
                      refine sim_p 14 (v := undef) (ei := [(6, .string r22), (62, .bool false)]) (d := (some 63)) wf (by kernel_rfl) ⟨rfl, rfl, trivial⟩ (by kernel_rfl) (by kernel_rfl) (fun _ => pf_s rfl rfl rfl) (fun P_14 => ?_)
                      refine sim_p 15 (v := undef) (ei := [(3, .pointer (some (⟨b3, 0, none⟩ : Addr))), (62, .bool false)]) (d := (some 64)) wf (by kernel_rfl) ⟨rfl, rfl, trivial⟩ (by kernel_rfl) (by kernel_rfl) (fun _ => pf_s rfl rfl rfl) (fun P_15 => ?_)
                      refine sim_p 16 (v := undef) (ei := [(62, .bool false), (64, undef)]) (d := (some 65)) wf (by kernel_rfl) ⟨rfl, rfl, trivial⟩ (by kernel_rfl) (by kernel_rfl) (fun _ => pf_s rfl rfl rfl) (fun P_16 => ?_)
                      refine sim_p 17 (v := undef) (ei := [(62, .bool false), (63, undef), (65, undef)]) (d := (some 66)) wf (by kernel_rfl) ⟨rfl, rfl, rfl, trivial⟩ (by kernel_rfl) (by kernel_rfl) (fun _ => pf_s rfl rfl rfl) (fun P_17 => ?_)
                      refine sim_p 18 (v := undef) (ei := [(2, .pointer (some (⟨b1, 0, none⟩ : Addr))), (62, .bool false)]) (d := (some 67)) wf (by kernel_rfl) ⟨rfl, rfl, trivial⟩ (by kernel_rfl) (by kernel_rfl) (fun _ => pf_s rfl rfl rfl) (fun P_18 => ?_)
                      refine sim_p 19 (v := undef) (ei := [(3, .pointer (some (⟨b3, 0, none⟩ : Addr))), (62, .bool false)]) (d := (some 68)) wf (by kernel_rfl) ⟨rfl, rfl, trivial⟩ (by kernel_rfl) (by kernel_rfl) (fun _ => pf_s rfl rfl rfl) (fun P_19 => ?_)
                      refine sim_p 20 (v := undef) (ei := [(62, .bool false), (67, undef), (68, undef)]) (d := (some 69)) wf (by kernel_rfl) ⟨rfl, rfl, rfl, trivial⟩ (by kernel_rfl) (by kernel_rfl) (fun _ => pf_s rfl rfl rfl) (fun P_20 => ?_)
                      refine sim_p 21 (v := undef) (ei := [(62, .bool false), (66, undef), (69, undef)]) (d := (some 70)) wf (by kernel_rfl) ⟨rfl, rfl, rfl, trivial⟩ (by kernel_rfl) (by kernel_rfl) (fun _ => pf_s rfl rfl rfl) (fun P_21 => ?_)
                      refine sim_p 22 (ei := [(62, .bool false), (70, undef)]) (d := (some 71)) wf (by kernel_rfl) ⟨rfl, rfl, trivial⟩ (by kernel_rfl) (by kernel_rfl) (fun _ => pf_p tok rfl rfl rfl rfl) (fun P_22 => ?_)
                      refine sim_p 23 (ei := [(71, .bool false)]) (d := (some 72)) wf (by kernel_rfl) ⟨rfl, trivial⟩ (by kernel_rfl) (by kernel_rfl) (fun _ => pf_p tok rfl rfl rfl rfl) (fun P_23 => ?_)
                      refine sim_gif 72 H rfl (fun hb H => ?_) (fun hb H => ?_)
                      ·
                        refine sim_c 24 [0, 1, 2, 3, 4, 5, 6, 7, 8, 9, 10, 11, 12, 13, 14, 15, 16, 17, 18, 19, 20, 21, 22, 23] [0, 1, 3, 4, 5, 6, 7, 8, 9, 10, 12, 13, 14, 15, 16, 17, 18, 19, 20, 21, 22, 23] (ei := [(72, .bool true)]) law15_awake_ok (law15_awake_ref  _ _ H) wf ⟨P_23 _, P_22 _, P_21 _, P_20 _, P_19 _, P_18 _, P_17 _, P_16 _, P_15 _, P_14 _, P_13 _, P_12 _, trivial, trivial, trivial, trivial, trivial, trivial, trivial, trivial, trivial, trivial, trivial⟩ (by kernel_rfl) ⟨rfl, trivial⟩ (by kernel_rfl) rfl rfl rfl rfl rfl ?_
                        rintro _ h48 ⟨r47, rfl, H⟩
                        refine sim_p 25 (ei := [(72, .bool true), (73, .bool r47)]) (d := (some 74)) wf (by kernel_rfl) ⟨rfl, rfl, trivial⟩ (by kernel_rfl) (by kernel_rfl) (fun _ => pf_p tok rfl rfl rfl rfl) (fun P_25 => ?_)
                        refine sim_p 26 (ei := [(74, .bool r47)]) (d := (some 4)) wf (by kernel_rfl) ⟨rfl, trivial⟩ (by kernel_rfl) (by kernel_rfl) (fun _ => pf_p tok rfl rfl rfl rfl) (fun P_26 => ?_)
                        refine sim_end wf ⟨P_26 _, P_25 _, trivial, trivial, trivial, trivial, trivial, trivial, trivial, trivial, trivial, trivial, trivial, trivial, trivial, trivial, trivial, trivial, trivial, trivial, trivial, trivial, trivial, trivial, trivial⟩ (by kernel_rfl) ?_
                        clear wf P_0 P_1 P_10 P_12 P_13 P_14 P_15 P_16 P_17 P_18 P_19 P_20 P_21 P_22 P_23 P_25 P_26 P_3 P_4 P_5 P_6 P_7 P_8 P_9
                        exact x_join r47 H ⟨rfl, trivial⟩
                      ·
                        refine sim_p 24 (v := undef) (ei := [(72, .bool false)]) (d := (some 73)) wf (by kernel_rfl) ⟨rfl, trivial⟩ (by kernel_rfl) (by kernel_rfl) (fun _ => pf_s rfl rfl rfl) (fun P_24 => ?_)
                        refine sim_p 25 (ei := [(72, .bool false), (73, undef)]) (d := (some 74)) wf (by kernel_rfl) ⟨rfl, rfl, trivial⟩ (by kernel_rfl) (by kernel_rfl) (fun _ => pf_p tok rfl rfl rfl rfl) (fun P_25 => ?_)
                        refine sim_p 26 (ei := [(74, .bool false)]) (d := (some 4)) wf (by kernel_rfl) ⟨rfl, trivial⟩ (by kernel_rfl) (by kernel_rfl) (fun _ => pf_p tok rfl rfl rfl rfl) (fun P_26 => ?_)
                        refine sim_end wf ⟨P_26 _, P_25 _, P_24 _, P_23 _, P_22 _, P_21 _, P_20 _, P_19 _, P_18 _, P_17 _, P_16 _, P_15 _, P_14 _, P_13 _, P_12 _, trivial, trivial, trivial, trivial, trivial, trivial, trivial, trivial, trivial, trivial, trivial⟩ (by kernel_rfl) ?_
                        clear wf P_0 P_1 P_10 P_12 P_13 P_14 P_15 P_16 P_17 P_18 P_19 P_20 P_21 P_22 P_23 P_24 P_25 P_26 P_3 P_4 P_5 P_6 P_7 P_8 P_9
                        exact x_join false H ⟨rfl, trivial⟩
                  ·
                    refine sim_p 9 (v := undef) (ei := [(7, .pointer (some (⟨b26, 0, none⟩ : Addr))), (57, .bool false)]) (d := (some 58)) wf (by kernel_rfl) ⟨rfl, rfl, trivial⟩ (by kernel_rfl) (by kernel_rfl) (fun _ => pf_s rfl rfl rfl) (fun P_9 => ?_)
                    refine sim_p 10 (v := undef) (ei := [(2, .pointer (some (⟨b1, 0, none⟩ : Addr))), (57, .bool false)]) (d := (some 59)) wf (by kernel_rfl) ⟨rfl, rfl, trivial⟩ (by kernel_rfl) (by kernel_rfl) (fun _ => pf_s rfl rfl rfl) (fun P_10 => ?_)
                    refine sim_p 11 (v := undef) (ei := [(57, .bool false), (58, undef), (59, undef)]) (d := (some 60)) wf (by kernel_rfl) ⟨rfl, rfl, rfl, trivial⟩ (by kernel_rfl) (by kernel_rfl) (fun _ => pf_s rfl rfl rfl) (fun P_11 => ?_)
                    refine sim_p 12 (ei := [(57, .bool false), (60, undef)]) (d := (some 61)) wf (by kernel_rfl) ⟨rfl, rfl, trivial⟩ (by kernel_rfl) (by kernel_rfl) (fun _ => pf_p tok rfl rfl rfl rfl) (fun P_12 => ?_)
                    refine sim_p 13 (ei := [(61, .bool false)]) (d := (some 62)) wf (by kernel_rfl) ⟨rfl, trivial⟩ (by kernel_rfl) (by kernel_rfl) (fun _ => pf_p tok rfl rfl rfl rfl) (fun P_13 => ?_)
                    refine sim_gif 62 H rfl (fun hb H => ?_) (fun hb H => ?_)
                    ·
                      refine sim_p 14 (ei := [(6, .string r22), (62, .bool true)]) (d := (some 63)) wf (by kernel_rfl) ⟨rfl, rfl, trivial⟩ (by kernel_rfl) (by kernel_rfl) (fun _ => pf_p tok rfl rfl rfl rfl) (fun P_14 => ?_)
                      obtain ⟨v49, hv49, H⟩ := H
                      refine sim_l 15 (ei := [(3, .pointer (some (⟨b3, 0, none⟩ : Addr))), (62, .bool true)]) (d := (some 64)) wf (by kernel_rfl) ⟨rfl, rfl, trivial⟩ (by kernel_rfl) (by kernel_rfl) (pf_y rfl rfl rfl (y_lda tok rfl rfl rfl rfl rfl hv49)) (fun P_15 => ?_)
                      obtain ⟨v50, hv50, H⟩ := H
                      refine sim_l 18 (ei := [(2, .pointer (some (⟨b1, 0, none⟩ : Addr))), (62, .bool true)]) (d := (some 67)) wf (by kernel_rfl) ⟨rfl, rfl, trivial⟩ (by kernel_rfl) (by kernel_rfl) (pf_y rfl rfl rfl (y_lda tok rfl rfl rfl rfl rfl hv50)) (fun P_18 => ?_)
                      obtain ⟨v51, hv51, H⟩ := H
                      refine sim_l 19 (ei := [(3, .pointer (some (⟨b3, 0, none⟩ : Addr))), (62, .bool true)]) (d := (some 68)) wf (by kernel_rfl) ⟨rfl, rfl, trivial⟩ (by kernel_rfl) (by kernel_rfl) (pf_y rfl rfl rfl (y_lda tok rfl rfl rfl rfl rfl hv51)) (fun P_19 => ?_)
                      refine sim_c 16 [0, 1, 2, 3, 4, 5, 6, 7, 8, 9, 10, 11, 12, 13, 15] [0, 1, 3, 4, 5, 6, 7, 8, 9, 10, 11, 12, 13, 15] (ei := [(62, .bool true), (64, .agg (S_api_Series.cs v49).toArray)]) label_Text_ok (label_Text_ref _ _ _ H) wf ⟨P_19, P_18, P_15, P_14 _, P_13 _, P_12 _, P_11 _, P_10 _, P_9 _, P_8 _, P_7 _, P_6 _, P_5 _, P_4 _, P_3 _, trivial, P_0 _, trivial⟩ (by kernel_rfl) ⟨rfl, rfl, trivial⟩ (by kernel_rfl) rfl rfl rfl rfl rfl ?_
                      rintro _ h53 ⟨r52, rfl, H⟩
                      obtain ⟨hy54, hy55, H⟩ := H
                      refine sim_re (x := ⟨19, .agg (S_api_Series.cs v51).toArray, [(3, .pointer (some (⟨b3, 0, none⟩ : Addr))), (62, .bool true)]⟩) (pf_y rfl rfl rfl (y_lda tok rfl rfl rfl rfl rfl hy54)) (fun P_19 => ?_)
                      refine sim_re (x := ⟨18, .agg (S_api_Series.cs v50).toArray, [(2, .pointer (some (⟨b1, 0, none⟩ : Addr))), (62, .bool true)]⟩) (pf_y rfl rfl rfl (y_lda tok rfl rfl rfl rfl rfl hy55)) (fun P_18 => ?_)
                      refine sim_p 17 (ei := [(62, .bool true), (63, .string r22), (65, .string r52)]) (d := (some 66)) wf (by kernel_rfl) ⟨rfl, rfl, rfl, trivial⟩ (by kernel_rfl) (by kernel_rfl) (fun _ => pf_p tok rfl rfl rfl rfl) (fun P_17 => ?_)
                      refine sim_c 20 [0, 1, 2, 3, 4, 5, 6, 7, 8, 9, 10, 11, 12, 13, 15, 16, 18, 19] [0, 1, 3, 4, 5, 6, 7, 8, 9, 10, 11, 12, 13, 15, 18, 19] (ei := [(62, .bool true), (67, .agg (S_api_Series.cs v50).toArray), (68, .agg (S_api_Series.cs v51).toArray)]) ref15_SameSeries_ok (ref15_SameSeries_ref _ _ _ _ H) wf ⟨P_17 _, P_19, P_18, trivial, P_14 _, trivial, trivial, trivial, trivial, trivial, trivial, trivial, trivial, trivial, trivial, trivial, trivial, trivial, trivial⟩ (by kernel_rfl) ⟨rfl, rfl, rfl, trivial⟩ (by kernel_rfl) rfl rfl rfl rfl rfl ?_
                      rintro _ h57 ⟨r56, rfl, H⟩
                      refine sim_p 21 (ei := [(62, .bool true), (66, .bool (r22.toList == r52.toList)), (69, .bool r56)]) (d := (some 70)) wf (by kernel_rfl) ⟨rfl, rfl, rfl, trivial⟩ (by kernel_rfl) (by kernel_rfl) (fun _ => pf_p tok rfl rfl rfl rfl) (fun P_21 => ?_)
                      refine sim_p 22 (ei := [(62, .bool true), (70, .bool (((r22.toList == r52.toList) == r56)))]) (d := (some 71)) wf (by kernel_rfl) ⟨rfl, rfl, trivial⟩ (by kernel_rfl) (by kernel_rfl) (fun _ => pf_p tok rfl rfl rfl rfl) (fun P_22 => ?_)
                      refine sim_p 23 (ei := [(71, .bool (((r22.toList == r52.toList) == r56)))]) (d := (some 72)) wf (by kernel_rfl) ⟨rfl, trivial⟩ (by kernel_rfl) (by kernel_rfl) (fun _ => pf_p tok rfl rfl rfl rfl) (fun P_23 => ?_)
                      refine sim_gif 72 H rfl (fun hb H => ?_) (fun hb H => ?_)
                      ·
                        refine sim_c 24 [0, 1, 2, 3, 4, 5, 6, 7, 8, 9, 10, 11, 12, 13, 14, 15, 16, 17, 18, 19, 20, 21, 22, 23] [0, 1, 3, 4, 5, 6, 7, 8, 9, 10, 11, 12, 13, 14, 15, 17, 18, 19, 21, 22, 23] (ei := [(72, .bool true)]) law15_awake_ok (law15_awake_ref  _ _ H) wf ⟨P_23 _, P_22 _, P_21 _, P_17 _, trivial, trivial, trivial, P_14 _, trivial, trivial, trivial, trivial, trivial, trivial, trivial, trivial, trivial, trivial, trivial, trivial, trivial, trivial⟩ (by kernel_rfl) ⟨rfl, trivial⟩ (by kernel_rfl) rfl rfl rfl rfl rfl ?_
                        rintro _ h59 ⟨r58, rfl, H⟩
                        refine sim_p 25 (ei := [(72, .bool true), (73, .bool r58)]) (d := (some 74)) wf (by kernel_rfl) ⟨rfl, rfl, trivial⟩ (by kernel_rfl) (by kernel_rfl) (fun _ => pf_p tok rfl rfl rfl rfl) (fun P_25 => ?_)
                        refine sim_p 26 (ei := [(74, .bool r58)]) (d := (some 4)) wf (by kernel_rfl) ⟨rfl, trivial⟩ (by kernel_rfl) (by kernel_rfl) (fun _ => pf_p tok rfl rfl rfl rfl) (fun P_26 => ?_)
                        refine sim_end wf ⟨P_26 _, P_25 _, trivial, trivial, trivial, trivial, trivial, trivial, trivial, trivial, trivial, trivial, trivial, trivial, trivial, trivial, trivial, trivial, trivial, trivial, trivial, trivial, trivial, trivial⟩ (by kernel_rfl) ?_
                        clear wf P_0 P_1 P_10 P_11 P_12 P_13 P_14 P_15 P_17 P_18 P_19 P_21 P_22 P_23 P_25 P_26 P_3 P_4 P_5 P_6 P_7 P_8 P_9
                        exact x_join r58 H ⟨rfl, trivial⟩
                      ·
                        refine sim_p 24 (v := undef) (ei := [(72, .bool false)]) (d := (some 73)) wf (by kernel_rfl) ⟨rfl, trivial⟩ (by kernel_rfl) (by kernel_rfl) (fun _ => pf_s rfl rfl rfl) (fun P_24 => ?_)
                        refine sim_p 25 (ei := [(72, .bool false), (73, undef)]) (d := (some 74)) wf (by kernel_rfl) ⟨rfl, rfl, trivial⟩ (by kernel_rfl) (by kernel_rfl) (fun _ => pf_p tok rfl rfl rfl rfl) (fun P_25 => ?_)
                        refine sim_p 26 (ei := [(74, .bool false)]) (d := (some 4)) wf (by kernel_rfl) ⟨rfl, trivial⟩ (by kernel_rfl) (by kernel_rfl) (fun _ => pf_p tok rfl rfl rfl rfl) (fun P_26 => ?_)
                        refine sim_end wf ⟨P_26 _, P_25 _, P_24 _, P_23 _, P_22 _, P_21 _, P_17 _, trivial, trivial, trivial, P_14 _, trivial, trivial, trivial, trivial, trivial, trivial, trivial, trivial, trivial, trivial, trivial, trivial, trivial, trivial⟩ (by kernel_rfl) ?_
                        clear wf P_0 P_1 P_10 P_11 P_12 P_13 P_14 P_15 P_17 P_18 P_19 P_21 P_22 P_23 P_24 P_25 P_26 P_3 P_4 P_5 P_6 P_7 P_8 P_9
                        exact x_join false H ⟨rfl, trivial⟩
                    ·
                      refine sim_p 14 (v := undef) (ei := [(6, .string r22), (62, .bool false)]) (d := (some 63)) wf (by kernel_rfl) ⟨rfl, rfl, trivial⟩ (by kernel_rfl) (by kernel_rfl) (fun _ => pf_s rfl rfl rfl) (fun P_14 => ?_)
                      refine sim_p 15 (v := undef) (ei := [(3, .pointer (some (⟨b3, 0, none⟩ : Addr))), (62, .bool false)]) (d := (some 64)) wf (by kernel_rfl) ⟨rfl, rfl, trivial⟩ (by kernel_rfl) (by kernel_rfl) (fun _ => pf_s rfl rfl rfl) (fun P_15 => ?_)
                      refine sim_p 16 (v := undef) (ei := [(62, .bool false), (64, undef)]) (d := (some 65)) wf (by kernel_rfl) ⟨rfl, rfl, trivial⟩ (by kernel_rfl) (by kernel_rfl) (fun _ => pf_s rfl rfl rfl) (fun P_16 => ?_)
                      refine sim_p 17 (v := undef) (ei := [(62, .bool false), (63, undef), (65, undef)]) (d := (some 66)) wf (by kernel_rfl) ⟨rfl, rfl, rfl, trivial⟩ (by kernel_rfl) (by kernel_rfl) (fun _ => pf_s rfl rfl rfl) (fun P_17 => ?_)
                      refine sim_p 18 (v := undef) (ei := [(2, .pointer (some (⟨b1, 0, none⟩ : Addr))), (62, .bool false)]) (d := (some 67)) wf (by kernel_rfl) ⟨rfl, rfl, trivial⟩ (by kernel_rfl) (by kernel_rfl) (fun _ => pf_s rfl rfl rfl) (fun P_18 => ?_)
                      refine sim_p 19 (v := undef) (ei := [(3, .pointer (some (⟨b3, 0, none⟩ : Addr))), (62, .bool false)]) (d := (some 68)) wf (by kernel_rfl) ⟨rfl, rfl, trivial⟩ (by kernel_rfl) (by kernel_rfl) (fun _ => pf_s rfl rfl rfl) (fun P_19 => ?_)
                      refine sim_p 20 (v := undef) (ei := [(62, .bool false), (67, undef), (68, undef)]) (d := (some 69)) wf (by kernel_rfl) ⟨rfl, rfl, rfl, trivial⟩ (by kernel_rfl) (by kernel_rfl) (fun _ => pf_s rfl rfl rfl) (fun P_20 => ?_)
                      refine sim_p 21 (v := undef) (ei := [(62, .bool false), (66, undef), (69, undef)]) (d := (some 70)) wf (by kernel_rfl) ⟨rfl, rfl, rfl, trivial⟩ (by kernel_rfl) (by kernel_rfl) (fun _ => pf_s rfl rfl rfl) (fun P_21 => ?_)
                      refine sim_p 22 (ei := [(62, .bool false), (70, undef)]) (d := (some 71)) wf (by kernel_rfl) ⟨rfl, rfl, trivial⟩ (by kernel_rfl) (by kernel_rfl) (fun _ => pf_p tok rfl rfl rfl rfl) (fun P_22 => ?_)
                      refine sim_p 23 (ei := [(71, .bool false)]) (d := (some 72)) wf (by kernel_rfl) ⟨rfl, trivial⟩ (by kernel_rfl) (by kernel_rfl) (fun _ => pf_p tok rfl rfl rfl rfl) (fun P_23 => ?_)
                      refine sim_gif 72 H rfl (fun hb H => ?_) (fun hb H => ?_)
                      ·
                        refine sim_c 24 [0, 1, 2, 3, 4, 5, 6, 7, 8, 9, 10, 11, 12, 13, 14, 15, 16, 17, 18, 19, 20, 21, 22, 23] [0, 1, 3, 4, 5, 6, 7, 8, 9, 10, 11, 12, 13, 14, 15, 16, 17, 18, 19, 20, 21, 22, 23] (ei := [(72, .bool true)]) law15_awake_ok (law15_awake_ref  _ _ H) wf ⟨P_23 _, P_22 _, P_21 _, P_20 _, P_19 _, P_18 _, P_17 _, P_16 _, P_15 _, P_14 _, P_13 _, P_12 _, P_11 _, P_10 _, P_9 _, P_8 _, P_7 _, P_6 _, P_5 _, P_4 _, P_3 _, trivial, P_0 _, trivial⟩ (by kernel_rfl) ⟨rfl, trivial⟩ (by kernel_rfl) rfl rfl rfl rfl rfl ?_
                        rintro _ h61 ⟨r60, rfl, H⟩
                        refine sim_p 25 (ei := [(72, .bool true), (73, .bool r60)]) (d := (some 74)) wf (by kernel_rfl) ⟨rfl, rfl, trivial⟩ (by kernel_rfl) (by kernel_rfl) (fun _ => pf_p tok rfl rfl rfl rfl) (fun P_25 => ?_)
                        refine sim_p 26 (ei := [(74, .bool r60)]) (d := (some 4)) wf (by kernel_rfl) ⟨rfl, trivial⟩ (by kernel_rfl) (by kernel_rfl) (fun _ => pf_p tok rfl rfl rfl rfl) (fun P_26 => ?_)
                        refine sim_end wf ⟨P_26 _, P_25 _, trivial, trivial, trivial, trivial, trivial, trivial, trivial, trivial, trivial, trivial, trivial, trivial, trivial, trivial, trivial, trivial, trivial, trivial, trivial, trivial, trivial, trivial, trivial, trivial⟩ (by kernel_rfl) ?_
                        clear wf P_0 P_1 P_10 P_11 P_12 P_13 P_14 P_15 P_16 P_17 P_18 P_19 P_20 P_21 P_22 P_23 P_25 P_26 P_3 P_4 P_5 P_6 P_7 P_8 P_9
                        exact x_join r60 H ⟨rfl, trivial⟩
                      ·
                        refine sim_p 24 (v := undef) (ei := [(72, .bool false)]) (d := (some 73)) wf (by kernel_rfl) ⟨rfl, trivial⟩ (by kernel_rfl) (by kernel_rfl) (fun _ => pf_s rfl rfl rfl) (fun P_24 => ?_)
                        refine sim_p 25 (ei := [(72, .bool false), (73, undef)]) (d := (some 74)) wf (by kernel_rfl) ⟨rfl, rfl, trivial⟩ (by kernel_rfl) (by kernel_rfl) (fun _ => pf_p tok rfl rfl rfl rfl) (fun P_25 => ?_)
                        refine sim_p 26 (ei := [(74, .bool false)]) (d := (some 4)) wf (by kernel_rfl) ⟨rfl, trivial⟩ (by kernel_rfl) (by kernel_rfl) (fun _ => pf_p tok rfl rfl rfl rfl) (fun P_26 => ?_)
                        refine sim_end wf ⟨P_26 _, P_25 _, P_24 _, P_23 _, P_22 _, P_21 _, P_20 _, P_19 _, P_18 _, P_17 _, P_16 _, P_15 _, P_14 _, P_13 _, P_12 _, P_11 _, P_10 _, P_9 _, P_8 _, P_7 _, P_6 _, P_5 _, P_4 _, P_3 _, trivial, P_0 _, trivial⟩ (by kernel_rfl) ?_
                        clear wf P_0 P_1 P_10 P_11 P_12 P_13 P_14 P_15 P_16 P_17 P_18 P_19 P_20 P_21 P_22 P_23 P_24 P_25 P_26 P_3 P_4 P_5 P_6 P_7 P_8 P_9
                        exact x_join false H ⟨rfl, trivial⟩
                ·
                  refine sim_p 5 (v := undef) (ei := [(8, .int .i64 r24.2), (53, .bool false)]) (d := (some 54)) wf (by kernel_rfl) ⟨rfl, rfl, trivial⟩ (by kernel_rfl) (by kernel_rfl) (fun _ => pf_s rfl rfl rfl) (fun P_5 => ?_)
                  refine sim_p 6 (v := undef) (ei := [(53, .bool false), (54, undef)]) (d := (some 55)) wf (by kernel_rfl) ⟨rfl, rfl, trivial⟩ (by kernel_rfl) (by kernel_rfl) (fun _ => pf_s rfl rfl rfl) (fun P_6 => ?_)
                  refine sim_p 7 (ei := [(53, .bool false), (55, undef)]) (d := (some 56)) wf (by kernel_rfl) ⟨rfl, rfl, trivial⟩ (by kernel_rfl) (by kernel_rfl) (fun _ => pf_p tok rfl rfl rfl rfl) (fun P_7 => ?_)
                  refine sim_p 8 (ei := [(56, .bool false)]) (d := (some 57)) wf (by kernel_rfl) ⟨rfl, trivial⟩ (by kernel_rfl) (by kernel_rfl) (fun _ => pf_p tok rfl rfl rfl rfl) (fun P_8 => ?_)
                  refine sim_gif 57 H rfl (fun hb H => ?_) (fun hb H => ?_)
                  ·
                    obtain ⟨v62, hv62, H⟩ := H
                    refine sim_l 9 (ei := [(7, .pointer (some (⟨b26, 0, none⟩ : Addr))), (57, .bool true)]) (d := (some 58)) wf (by kernel_rfl) ⟨rfl, rfl, trivial⟩ (by kernel_rfl) (by kernel_rfl) (pf_y rfl rfl rfl (y_lda tok rfl rfl rfl rfl rfl hv62)) (fun P_9 => ?_)
                    obtain ⟨v63, hv63, H⟩ := H
                    refine sim_l 10 (ei := [(2, .pointer (some (⟨b1, 0, none⟩ : Addr))), (57, .bool true)]) (d := (some 59)) wf (by kernel_rfl) ⟨rfl, rfl, trivial⟩ (by kernel_rfl) (by kernel_rfl) (pf_y rfl rfl rfl (y_lda tok rfl rfl rfl rfl rfl hv63)) (fun P_10 => ?_)
                    refine sim_c 11 [0, 1, 2, 3, 4, 5, 6, 7, 8, 9, 10] [0, 1, 3, 4, 5, 6, 7, 8, 9, 10] (ei := [(57, .bool true), (58, .agg (S_api_Series.cs v62).toArray), (59, .agg (S_api_Series.cs v63).toArray)]) ref15_SameSeries_ok (ref15_SameSeries_ref _ _ _ _ H) wf ⟨P_10, P_9, P_8 _, P_7 _, P_6 _, P_5 _, P_4 _, P_3 _, trivial, P_0 _, trivial⟩ (by kernel_rfl) ⟨rfl, rfl, rfl, trivial⟩ (by kernel_rfl) rfl rfl rfl rfl rfl ?_
                    rintro _ h65 ⟨r64, rfl, H⟩
                    refine sim_p 12 (ei := [(57, .bool true), (60, .bool r64)]) (d := (some 61)) wf (by kernel_rfl) ⟨rfl, rfl, trivial⟩ (by kernel_rfl) (by kernel_rfl) (fun _ => pf_p tok rfl rfl rfl rfl) (fun P_12 => ?_)
                    refine sim_p 13 (ei := [(61, .bool r64)]) (d := (some 62)) wf (by kernel_rfl) ⟨rfl, trivial⟩ (by kernel_rfl) (by kernel_rfl) (fun _ => pf_p tok rfl rfl rfl rfl) (fun P_13 => ?_)
                    refine sim_gif 62 H rfl (fun hb H => ?_) (fun hb H => ?_)
                    ·
                      refine sim_p 14 (ei := [(6, .string r22), (62, .bool true)]) (d := (some 63)) wf (by kernel_rfl) ⟨rfl, rfl, trivial⟩ (by kernel_rfl) (by kernel_rfl) (fun _ => pf_p tok rfl rfl rfl rfl) (fun P_14 => ?_)
                      obtain ⟨v66, hv66, H⟩ := H
                      refine sim_l 15 (ei := [(3, .pointer (some (⟨b3, 0, none⟩ : Addr))), (62, .bool true)]) (d := (some 64)) wf (by kernel_rfl) ⟨rfl, rfl, trivial⟩ (by kernel_rfl) (by kernel_rfl) (pf_y rfl rfl rfl (y_lda tok rfl rfl rfl rfl rfl hv66)) (fun P_15 => ?_)
                      obtain ⟨v67, hv67, H⟩ := H
                      refine sim_l 18 (ei := [(2, .pointer (some (⟨b1, 0, none⟩ : Addr))), (62, .bool true)]) (d := (some 67)) wf (by kernel_rfl) ⟨rfl, rfl, trivial⟩ (by kernel_rfl) (by kernel_rfl) (pf_y rfl rfl rfl (y_lda tok rfl rfl rfl rfl rfl hv67)) (fun P_18 => ?_)
                      obtain ⟨v68, hv68, H⟩ := H
                      refine sim_l 19 (ei := [(3, .pointer (some (⟨b3, 0, none⟩ : Addr))), (62, .bool true)]) (d := (some 68)) wf (by kernel_rfl) ⟨rfl, rfl, trivial⟩ (by kernel_rfl) (by kernel_rfl) (pf_y rfl rfl rfl (y_lda tok rfl rfl rfl rfl rfl hv68)) (fun P_19 => ?_)
                      refine sim_c 16 [0, 1, 2, 3, 4, 5, 6, 7, 8, 9, 10, 11, 12, 13, 15] [0, 1, 3, 4, 5, 6, 7, 8, 9, 10, 12, 13, 15] (ei := [(62, .bool true), (64, .agg (S_api_Series.cs v66).toArray)]) label_Text_ok (label_Text_ref _ _ _ H) wf ⟨P_19, P_18, P_15, P_14 _, P_13 _, P_12 _, trivial, trivial, trivial, trivial, trivial, trivial, trivial, trivial, trivial, trivial, trivial⟩ (by kernel_rfl) ⟨rfl, rfl, trivial⟩ (by kernel_rfl) rfl rfl rfl rfl rfl ?_
                      rintro _ h70 ⟨r69, rfl, H⟩
                      obtain ⟨hy71, hy72, H⟩ := H
                      refine sim_re (x := ⟨19, .agg (S_api_Series.cs v68).toArray, [(3, .pointer (some (⟨b3, 0, none⟩ : Addr))), (62, .bool true)]⟩) (pf_y rfl rfl rfl (y_lda tok rfl rfl rfl rfl rfl hy71)) (fun P_19 => ?_)
                      refine sim_re (x := ⟨18, .agg (S_api_Series.cs v67).toArray, [(2, .pointer (some (⟨b1, 0, none⟩ : Addr))), (62, .bool true)]⟩) (pf_y rfl rfl rfl (y_lda tok rfl rfl rfl rfl rfl hy72)) (fun P_18 => ?_)
                      refine sim_p 17 (ei := [(62, .bool true), (63, .string r22), (65, .string r69)]) (d := (some 66)) wf (by kernel_rfl) ⟨rfl, rfl, rfl, trivial⟩ (by kernel_rfl) (by kernel_rfl) (fun _ => pf_p tok rfl rfl rfl rfl) (fun P_17 => ?_)
                      refine sim_c 20 [0, 1, 2, 3, 4, 5, 6, 7, 8, 9, 10, 11, 12, 13, 15, 16, 18, 19] [0, 1, 3, 4, 5, 6, 7, 8, 9, 10, 12, 13, 15, 18, 19] (ei := [(62, .bool true), (67, .agg (S_api_Series.cs v67).toArray), (68, .agg (S_api_Series.cs v68).toArray)]) ref15_SameSeries_ok (ref15_SameSeries_ref _ _ _ _ H) wf ⟨P_17 _, P_19, P_18, trivial, P_14 _, trivial, trivial, trivial, trivial, trivial, trivial, trivial, trivial, trivial, trivial, trivial, trivial, trivial⟩ (by kernel_rfl) ⟨rfl, rfl, rfl, trivial⟩ (by kernel_rfl) rfl rfl rfl rfl rfl ?_
                      rintro _ h74 ⟨r73, rfl, H⟩
                      refine sim_p 21 (ei := [(62, .bool true), (66, .bool (r22.toList == r69.toList)), (69, .bool r73)]) (d := (some 70)) wf (by kernel_rfl) ⟨rfl, rfl, rfl, trivial⟩ (by kernel_rfl) (by kernel_rfl) (fun _ => pf_p tok rfl rfl rfl rfl) (fun P_21 => ?_)
                      refine sim_p 22 (ei := [(62, .bool true), (70, .bool (((r22.toList == r69.toList) == r73)))]) (d := (some 71)) wf (by kernel_rfl) ⟨rfl, rfl, trivial⟩ (by kernel_rfl) (by kernel_rfl) (fun _ => pf_p tok rfl rfl rfl rfl) (fun P_22 => ?_)
                      refine sim_p 23 (ei := [(71, .bool (((r22.toList == r69.toList) == r73)))]) (d := (some 72)) wf (by kernel_rfl) ⟨rfl, trivial⟩ (by kernel_rfl) (by kernel_rfl) (fun _ => pf_p tok rfl rfl rfl rfl) (fun P_23 => ?_)
                      refine sim_gif 72 H rfl (fun hb H => ?_) (fun hb H => ?_)
                      ·
                        refine sim_c 24 [0, 1, 2, 3, 4, 5, 6, 7, 8, 9, 10, 11, 12, 13, 14, 15, 16, 17, 18, 19, 20, 21, 22, 23] [0, 1, 3, 4, 5, 6, 7, 8, 9, 10, 12, 13, 14, 15, 17, 18, 19, 21, 22, 23] (ei := [(72, .bool true)]) law15_awake_ok (law15_awake_ref  _ _ H) wf ⟨P_23 _, P_22 _, P_21 _, P_17 _, trivial, trivial, trivial, P_14 _, trivial, trivial, trivial, trivial, trivial, trivial, trivial, trivial, trivial, trivial, trivial, trivial, trivial⟩ (by kernel_rfl) ⟨rfl, trivial⟩ (by kernel_rfl) rfl rfl rfl rfl rfl ?_
                        rintro _ h76 ⟨r75, rfl, H⟩
                        refine sim_p 25 (ei := [(72, .bool true), (73, .bool r75)]) (d := (some 74)) wf (by kernel_rfl) ⟨rfl, rfl, trivial⟩ (by kernel_rfl) (by kernel_rfl) (fun _ => pf_p tok rfl rfl rfl rfl) (fun P_25 => ?_)
                        refine sim_p 26 (ei := [(74, .bool r75)]) (d := (some 4)) wf (by kernel_rfl) ⟨rfl, trivial⟩ (by kernel_rfl) (by kernel_rfl) (fun _ => pf_p tok rfl rfl rfl rfl) (fun P_26 => ?_)
                        refine sim_end wf ⟨P_26 _, P_25 _, trivial, trivial, trivial, trivial, trivial, trivial, trivial, trivial, trivial, trivial, trivial, trivial, trivial, trivial, trivial, trivial, trivial, trivial, trivial, trivial, trivial⟩ (by kernel_rfl) ?_
                        clear wf P_0 P_1 P_10 P_12 P_13 P_14 P_15 P_17 P_18 P_19 P_21 P_22 P_23 P_25 P_26 P_3 P_4 P_5 P_6 P_7 P_8 P_9
                        exact x_join r75 H ⟨rfl, trivial⟩
                      ·
                        refine sim_p 24 (v := undef) (ei := [(72, .bool false)]) (d := (some 73)) wf (by kernel_rfl) ⟨rfl, trivial⟩ (by kernel_rfl) (by kernel_rfl) (fun _ => pf_s rfl rfl rfl) (fun P_24 => ?_)
                        refine sim_p 25 (ei := [(72, .bool false), (73, undef)]) (d := (some 74)) wf (by kernel_rfl) ⟨rfl, rfl, trivial⟩ (by kernel_rfl) (by kernel_rfl) (fun _ => pf_p tok rfl rfl rfl rfl) (fun P_25 => ?_)
                        refine sim_p 26 (ei := [(74, .bool false)]) (d := (some 4)) wf (by kernel_rfl) ⟨rfl, trivial⟩ (by kernel_rfl) (by kernel_rfl) (fun _ => pf_p tok rfl rfl rfl rfl) (fun P_26 => ?_)
                        refine sim_end wf ⟨P_26 _, P_25 _, P_24 _, P_23 _, P_22 _, P_21 _, P_17 _, trivial, trivial, trivial, P_14 _, trivial, trivial, trivial, trivial, trivial, trivial, trivial, trivial, trivial, trivial, trivial, trivial, trivial⟩ (by kernel_rfl) ?_
                        clear wf P_0 P_1 P_10 P_12 P_13 P_14 P_15 P_17 P_18 P_19 P_21 P_22 P_23 P_24 P_25 P_26 P_3 P_4 P_5 P_6 P_7 P_8 P_9
                        exact x_join false H ⟨rfl, trivial⟩
                    ·
                      refine sim_p 14 (v := undef) (ei := [(6, .string r22), (62, .bool false)]) (d := (some 63)) wf (by kernel_rfl) ⟨rfl, rfl, trivial⟩ (by kernel_rfl) (by kernel_rfl) (fun _ => pf_s rfl rfl rfl) (fun P_14 => ?_)
                      refine sim_p 15 (v := undef) (ei := [(3, .pointer (some (⟨b3, 0, none⟩ : Addr))), (62, .bool false)]) (d := (some 64)) wf (by kernel_rfl) ⟨rfl, rfl, trivial⟩ (by kernel_rfl) (by kernel_rfl) (fun _ => pf_s rfl rfl rfl) (fun P_15 => ?_)
                      refine sim_p 16 (v := undef) (ei := [(62, .bool false), (64, undef)]) (d := (some 65)) wf (by kernel_rfl) ⟨rfl, rfl, trivial⟩ (by kernel_rfl) (by kernel_rfl) (fun _ => pf_s rfl rfl rfl) (fun P_16 => ?_)
                      refine sim_p 17 (v := undef) (ei := [(62, .bool false), (63, undef), (65, undef)]) (d := (some 66)) wf (by kernel_rfl) ⟨rfl, rfl, rfl, trivial⟩ (by kernel_rfl) (by kernel_rfl) (fun _ => pf_s rfl rfl rfl) (fun P_17 => ?_)
                      refine sim_p 18 (v := undef) (ei := [(2, .pointer (some (⟨b1, 0, none⟩ : Addr))), (62, .bool false)]) (d := (some 67)) wf (by kernel_rfl) ⟨rfl, rfl, trivial⟩ (by kernel_rfl) (by kernel_rfl) (fun _ => pf_s rfl rfl rfl) (fun P_18 => ?_)
                      refine sim_p 19 (v := undef) (ei := [(3, .pointer (some (⟨b3, 0, none⟩ : Addr))), (62, .bool false)]) (d := (some 68)) wf (by kernel_rfl) ⟨rfl, rfl, trivial⟩ (by kernel_rfl) (by kernel_rfl) (fun _ => pf_s rfl rfl rfl) (fun P_19 => ?_)
                      refine sim_p 20 (v := undef) (ei := [(62, .bool false), (67, undef), (68, undef)]) (d := (some 69)) wf (by kernel_rfl) ⟨rfl, rfl, rfl, trivial⟩ (by kernel_rfl) (by kernel_rfl) (fun _ => pf_s rfl rfl rfl) (fun P_20 => ?_)
                      refine sim_p 21 (v := undef) (ei := [(62, .bool false), (66, undef), (69, undef)]) (d := (some 70)) wf (by kernel_rfl) ⟨rfl, rfl, rfl, trivial⟩ (by kernel_rfl) (by kernel_rfl) (fun _ => pf_s rfl rfl rfl) (fun P_21 => ?_)
                      refine sim_p 22 (ei := [(62, .bool false), (70, undef)]) (d := (some 71)) wf (by kernel_rfl) ⟨rfl, rfl, trivial⟩ (by kernel_rfl) (by kernel_rfl) (fun _ => pf_p tok rfl rfl rfl rfl) (fun P_22 => ?_)
                      refine sim_p 23 (ei := [(71, .bool false)]) (d := (some 72)) wf (by kernel_rfl) ⟨rfl, trivial⟩ (by kernel_rfl) (by kernel_rfl) (fun _ => pf_p tok rfl rfl rfl rfl) (fun P_23 => ?_)
                      refine sim_gif 72 H rfl (fun hb H => ?_) (fun hb H => ?_)
                      ·
                        refine sim_c 24 [0, 1, 2, 3, 4, 5, 6, 7, 8, 9, 10, 11, 12, 13, 14, 15, 16, 17, 18, 19, 20, 21, 22, 23] [0, 1, 3, 4, 5, 6, 7, 8, 9, 10, 12, 13, 14, 15, 16, 17, 18, 19, 20, 21, 22, 23] (ei := [(72, .bool true)]) law15_awake_ok (law15_awake_ref  _ _ H) wf ⟨P_23 _, P_22 _, P_21 _, P_20 _, P_19 _, P_18 _, P_17 _, P_16 _, P_15 _, P_14 _, P_13 _, P_12 _, trivial, trivial, trivial, trivial, trivial, trivial, trivial, trivial, trivial, trivial, trivial⟩ (by kernel_rfl) ⟨rfl, trivial⟩ (by kernel_rfl) rfl rfl rfl rfl rfl ?_
                        rintro _ h78 ⟨r77, rfl, H⟩
                        refine sim_p 25 (ei := [(72, .bool true), (73, .bool r77)]) (d := (some 74)) wf (by kernel_rfl) ⟨rfl, rfl, trivial⟩ (by kernel_rfl) (by kernel_rfl) (fun _ => pf_p tok rfl rfl rfl rfl) (fun P_25 => ?_)
                        refine sim_p 26 (ei := [(74, .bool r77)]) (d := (some 4)) wf (by kernel_rfl) ⟨rfl, trivial⟩ (by kernel_rfl) (by kernel_rfl) (fun _ => pf_p tok rfl rfl rfl rfl) (fun P_26 => ?_)
                        refine sim_end wf ⟨P_26 _, P_25 _, trivial, trivial, trivial, trivial, trivial, trivial, trivial, trivial, trivial, trivial, trivial, trivial, trivial, trivial, trivial, trivial, trivial, trivial, trivial, trivial, trivial, trivial, trivial⟩ (by kernel_rfl) ?_
                        clear wf P_0 P_1 P_10 P_12 P_13 P_14 P_15 P_16 P_17 P_18 P_19 P_20 P_21 P_22 P_23 P_25 P_26 P_3 P_4 P_5 P_6 P_7 P_8 P_9
                        exact x_join r77 H ⟨rfl, trivial⟩
                      ·
                        refine sim_p 24 (v := undef) (ei := [(72, .bool false)]) (d := (some 73)) wf (by kernel_rfl) ⟨rfl, trivial⟩ (by kernel_rfl) (by kernel_rfl) (fun _ => pf_s rfl rfl rfl) (fun P_24 => ?_)
                        refine sim_p 25 (ei := [(72, .bool false), (73, undef)]) (d := (some 74)) wf (by kernel_rfl) ⟨rfl, rfl, trivial⟩ (by kernel_rfl) (by kernel_rfl) (fun _ => pf_p tok rfl rfl rfl rfl) (fun P_25 => ?_)
                        refine sim_p 26 (ei := [(74, .bool false)]) (d := (some 4)) wf (by kernel_rfl) ⟨rfl, trivial⟩ (by kernel_rfl) (by kernel_rfl) (fun _ => pf_p tok rfl rfl rfl rfl) (fun P_26 => ?_)
                        refine sim_end wf ⟨P_26 _, P_25 _, P_24 _, P_23 _, P_22 _, P_21 _, P_20 _, P_19 _, P_18 _, P_17 _, P_16 _, P_15 _, P_14 _, P_13 _, P_12 _, trivial, trivial, trivial, trivial, trivial, trivial, trivial, trivial, trivial, trivial, trivial⟩ (by kernel_rfl) ?_
                        clear wf P_0 P_1 P_10 P_12 P_13 P_14 P_15 P_16 P_17 P_18 P_19 P_20 P_21 P_22 P_23 P_24 P_25 P_26 P_3 P_4 P_5 P_6 P_7 P_8 P_9
                        exact x_join false H ⟨rfl, trivial⟩
                  ·
                    refine sim_p 9 (v := undef) (ei := [(7, .pointer (some (⟨b26, 0, none⟩ : Addr))), (57, .bool false)]) (d := (some 58)) wf (by kernel_rfl) ⟨rfl, rfl, trivial⟩ (by kernel_rfl) (by kernel_rfl) (fun _ => pf_s rfl rfl rfl) (fun P_9 => ?_)
                    refine sim_p 10 (v := undef) (ei := [(2, .pointer (some (⟨b1, 0, none⟩ : Addr))), (57, .bool false)]) (d := (some 59)) wf (by kernel_rfl) ⟨rfl, rfl, trivial⟩ (by kernel_rfl) (by kernel_rfl) (fun _ => pf_s rfl rfl rfl) (fun P_10 => ?_)
                    refine sim_p 11 (v := undef) (ei := [(57, .bool false), (58, undef), (59, undef)]) (d := (some 60)) wf (by kernel_rfl) ⟨rfl, rfl, rfl, trivial⟩ (by kernel_rfl) (by kernel_rfl) (fun _ => pf_s rfl rfl rfl) (fun P_11 => ?_)
                    refine sim_p 12 (ei := [(57, .bool false), (60, undef)]) (d := (some 61)) wf (by kernel_rfl) ⟨rfl, rfl, trivial⟩ (by kernel_rfl) (by kernel_rfl) (fun _ => pf_p tok rfl rfl rfl rfl) (fun P_12 => ?_)
                    refine sim_p 13 (ei := [(61, .bool false)]) (d := (some 62)) wf (by kernel_rfl) ⟨rfl, trivial⟩ (by kernel_rfl) (by kernel_rfl) (fun _ => pf_p tok rfl rfl rfl rfl) (fun P_13 => ?_)
                    refine sim_gif 62 H rfl (fun hb H => ?_) (fun hb H => ?_)
                    ·
                      refine sim_p 14 (ei := [(6, .string r22), (62, .bool true)]) (d := (some 63)) wf (by kernel_rfl) ⟨rfl, rfl, trivial⟩ (by kernel_rfl) (by kernel_rfl) (fun _ => pf_p tok rfl rfl rfl rfl) (fun P_14 => ?_)
                      obtain ⟨v79, hv79, H⟩ := H
                      refine sim_l 15 (ei := [(3, .pointer (some (⟨b3, 0, none⟩ : Addr))), (62, .bool true)]) (d := (some 64)) wf (by kernel_rfl) ⟨rfl, rfl, trivial⟩ (by kernel_rfl) (by kernel_rfl) (pf_y rfl rfl rfl (y_lda tok rfl rfl rfl rfl rfl hv79)) (fun P_15 => ?_)
                      obtain ⟨v80, hv80, H⟩ := H
                      refine sim_l 18 (ei := [(2, .pointer (some (⟨b1, 0, none⟩ : Addr))), (62, .bool true)]) (d := (some 67)) wf (by kernel_rfl) ⟨rfl, rfl, trivial⟩ (by kernel_rfl) (by kernel_rfl) (pf_y rfl rfl rfl (y_lda tok rfl rfl rfl rfl rfl hv80)) (fun P_18 => ?_)
                      obtain ⟨v81, hv81, H⟩ := H
                      refine sim_l 19 (ei := [(3, .pointer (some (⟨b3, 0, none⟩ : Addr))), (62, .bool true)]) (d := (some 68)) wf (by kernel_rfl) ⟨rfl, rfl, trivial⟩ (by kernel_rfl) (by kernel_rfl) (pf_y rfl rfl rfl (y_lda tok rfl rfl rfl rfl rfl hv81)) (fun P_19 => ?_)
                      refine sim_c 16 [0, 1, 2, 3, 4, 5, 6, 7, 8, 9, 10, 11, 12, 13, 15] [0, 1, 3, 4, 5, 6, 7, 8, 9, 10, 11, 12, 13, 15] (ei := [(62, .bool true), (64, .agg (S_api_Series.cs v79).toArray)]) label_Text_ok (label_Text_ref _ _ _ H) wf ⟨P_19, P_18, P_15, P_14 _, P_13 _, P_12 _, P_11 _, P_10 _, P_9 _, P_8 _, P_7 _, P_6 _, P_5 _, P_4 _, P_3 _, trivial, P_0 _, trivial⟩ (by kernel_rfl) ⟨rfl, rfl, trivial⟩ (by kernel_rfl) rfl rfl rfl rfl rfl ?_
                      rintro _ h83 ⟨r82, rfl, H⟩
                      obtain ⟨hy84, hy85, H⟩ := H
                      refine sim_re (x := ⟨19, .agg (S_api_Series.cs v81).toArray, [(3, .pointer (some (⟨b3, 0, none⟩ : Addr))), (62, .bool true)]⟩) (pf_y rfl rfl rfl (y_lda tok rfl rfl rfl rfl rfl hy84)) (fun P_19 => ?_)
                      refine sim_re (x := ⟨18, .agg (S_api_Series.cs v80).toArray, [(2, .pointer (some (⟨b1, 0, none⟩ : Addr))), (62, .bool true)]⟩) (pf_y rfl rfl rfl (y_lda tok rfl rfl rfl rfl rfl hy85)) (fun P_18 => ?_)
                      refine sim_p 17 (ei := [(62, .bool true), (63, .string r22), (65, .string r82)]) (d := (some 66)) wf (by kernel_rfl) ⟨rfl, rfl, rfl, trivial⟩ (by kernel_rfl) (by kernel_rfl) (fun _ => pf_p tok rfl rfl rfl rfl) (fun P_17 => ?_)
                      refine sim_c 20 [0, 1, 2, 3, 4, 5, 6, 7, 8, 9, 10, 11, 12, 13, 15, 16, 18, 19] [0, 1, 3, 4, 5, 6, 7, 8, 9, 10, 11, 12, 13, 15, 18, 19] (ei := [(62, .bool true), (67, .agg (S_api_Series.cs v80).toArray), (68, .agg (S_api_Series.cs v81).toArray)]) ref15_SameSeries_ok (ref15_SameSeries_ref _ _ _ _ H) wf ⟨P_17 _, P_19, P_18, trivial, P_14 _, trivial, trivial, trivial, trivial, trivial, trivial, trivial, trivial, trivial, trivial, trivial, trivial, trivial, trivial⟩ (by kernel_rfl) ⟨rfl, rfl, rfl, trivial⟩ (by kernel_rfl) rfl rfl rfl rfl rfl ?_
                      rintro _ h87 ⟨r86, rfl, H⟩
                      refine sim_p 21 (ei := [(62, .bool true), (66, .bool (r22.toList == r82.toList)), (69, .bool r86)]) (d := (some 70)) wf (by kernel_rfl) ⟨rfl, rfl, rfl, trivial⟩ (by kernel_rfl) (by kernel_rfl) (fun _ => pf_p tok rfl rfl rfl rfl) (fun P_21 => ?_)
                      refine sim_p 22 (ei := [(62, .bool true), (70, .bool (((r22.toList == r82.toList) == r86)))]) (d := (some 71)) wf (by kernel_rfl) ⟨rfl, rfl, trivial⟩ (by kernel_rfl) (by kernel_rfl) (fun _ => pf_p tok rfl rfl rfl rfl) (fun P_22 => ?_)
                      refine sim_p 23 (ei := [(71, .bool (((r22.toList == r82.toList) == r86)))]) (d := (some 72)) wf (by kernel_rfl) ⟨rfl, trivial⟩ (by kernel_rfl) (by kernel_rfl) (fun _ => pf_p tok rfl rfl rfl rfl) (fun P_23 => ?_)
                      refine sim_gif 72 H rfl (fun hb H => ?_) (fun hb H => ?_)
                      ·
                        refine sim_c 24 [0, 1, 2, 3, 4, 5, 6, 7, 8, 9, 10, 11, 12, 13, 14, 15, 16, 17, 18, 19, 20, 21, 22, 23] [0, 1, 3, 4, 5, 6, 7, 8, 9, 10, 11, 12, 13, 14, 15, 17, 18, 19, 21, 22, 23] (ei := [(72, .bool true)]) law15_awake_ok (law15_awake_ref  _ _ H) wf ⟨P_23 _, P_22 _, P_21 _, P_17 _, trivial, trivial, trivial, P_14 _, trivial, trivial, trivial, trivial, trivial, trivial, trivial, trivial, trivial, trivial, trivial, trivial, trivial, trivial⟩ (by kernel_rfl) ⟨rfl, trivial⟩ (by kernel_rfl) rfl rfl rfl rfl rfl ?_
                        rintro _ h89 ⟨r88, rfl, H⟩
                        refine sim_p 25 (ei := [(72, .bool true), (73, .bool r88)]) (d := (some 74)) wf (by kernel_rfl) ⟨rfl, rfl, trivial⟩ (by kernel_rfl) (by kernel_rfl) (fun _ => pf_p tok rfl rfl rfl rfl) (fun P_25 => ?_)
                        refine sim_p 26 (ei := [(74, .bool r88)]) (d := (some 4)) wf (by kernel_rfl) ⟨rfl, trivial⟩ (by kernel_rfl) (by kernel_rfl) (fun _ => pf_p tok rfl rfl rfl rfl) (fun P_26 => ?_)
                        refine sim_end wf ⟨P_26 _, P_25 _, trivial, trivial, trivial, trivial, trivial, trivial, trivial, trivial, trivial, trivial, trivial, trivial, trivial, trivial, trivial, trivial, trivial, trivial, trivial, trivial, trivial, trivial⟩ (by kernel_rfl) ?_
                        clear wf P_0 P_1 P_10 P_11 P_12 P_13 P_14 P_15 P_17 P_18 P_19 P_21 P_22 P_23 P_25 P_26 P_3 P_4 P_5 P_6 P_7 P_8 P_9
                        exact x_join r88 H ⟨rfl, trivial⟩
                      ·
                        refine sim_p 24 (v := undef) (ei := [(72, .bool false)]) (d := (some 73)) wf (by kernel_rfl) ⟨rfl, trivial⟩ (by kernel_rfl) (by kernel_rfl) (fun _ => pf_s rfl rfl rfl) (fun P_24 => ?_)
                        refine sim_p 25 (ei := [(72, .bool false), (73, undef)]) (d := (some 74)) wf (by kernel_rfl) ⟨rfl, rfl, trivial⟩ (by kernel_rfl) (by kernel_rfl) (fun _ => pf_p tok rfl rfl rfl rfl) (fun P_25 => ?_)
                        refine sim_p 26 (ei := [(74, .bool false)]) (d := (some 4)) wf (by kernel_rfl) ⟨rfl, trivial⟩ (by kernel_rfl) (by kernel_rfl) (fun _ => pf_p tok rfl rfl rfl rfl) (fun P_26 => ?_)
                        refine sim_end wf ⟨P_26 _, P_25 _, P_24 _, P_23 _, P_22 _, P_21 _, P_17 _, trivial, trivial, trivial, P_14 _, trivial, trivial, trivial, trivial, trivial, trivial, trivial, trivial, trivial, trivial, trivial, trivial, trivial, trivial⟩ (by kernel_rfl) ?_
                        clear wf P_0 P_1 P_10 P_11 P_12 P_13 P_14 P_15 P_17 P_18 P_19 P_21 P_22 P_23 P_24 P_25 P_26 P_3 P_4 P_5 P_6 P_7 P_8 P_9
                        exact x_join false H ⟨rfl, trivial⟩
                    ·
                      refine sim_p 14 (v := undef) (ei := [(6, .string r22), (62, .bool false)]) (d := (some 63)) wf (by kernel_rfl) ⟨rfl, rfl, trivial⟩ (by kernel_rfl) (by kernel_rfl) (fun _ => pf_s rfl rfl rfl) (fun P_14 => ?_)
                      refine sim_p 15 (v := undef) (ei := [(3, .pointer (some (⟨b3, 0, none⟩ : Addr))), (62, .bool false)]) (d := (some 64)) wf (by kernel_rfl) ⟨rfl, rfl, trivial⟩ (by kernel_rfl) (by kernel_rfl) (fun _ => pf_s rfl rfl rfl) (fun P_15 => ?_)
                      refine sim_p 16 (v := undef) (ei := [(62, .bool false), (64, undef)]) (d := (some 65)) wf (by kernel_rfl) ⟨rfl, rfl, trivial⟩ (by kernel_rfl) (by kernel_rfl) (fun _ => pf_s rfl rfl rfl) (fun P_16 => ?_)
                      refine sim_p 17 (v := undef) (ei := [(62, .bool false), (63, undef), (65, undef)]) (d := (some 66)) wf (by kernel_rfl) ⟨rfl, rfl, rfl, trivial⟩ (by kernel_rfl) (by kernel_rfl) (fun _ => pf_s rfl rfl rfl) (fun P_17 => ?_)
                      refine sim_p 18 (v := undef) (ei := [(2, .pointer (some (⟨b1, 0, none⟩ : Addr))), (62, .bool false)]) (d := (some 67)) wf (by kernel_rfl) ⟨rfl, rfl, trivial⟩ (by kernel_rfl) (by kernel_rfl) (fun _ => pf_s rfl rfl rfl) (fun P_18 => ?_)
                      refine sim_p 19 (v := undef) (ei := [(3, .pointer (some (⟨b3, 0, none⟩ : Addr))), (62, .bool false)]) (d := (some 68)) wf (by kernel_rfl) ⟨rfl, rfl, trivial⟩ (by kernel_rfl) (by kernel_rfl) (fun _ => pf_s rfl rfl rfl) (fun P_19 => ?_)
                      refine sim_p 20 (v := undef) (ei := [(62, .bool false), (67, undef), (68, undef)]) (d := (some 69)) wf (by kernel_rfl) ⟨rfl, rfl, rfl, trivial⟩ (by kernel_rfl) (by kernel_rfl) (fun _ => pf_s rfl rfl rfl) (fun P_20 => ?_)
                      refine sim_p 21 (v := undef) (ei := [(62, .bool false), (66, undef), (69, undef)]) (d := (some 70)) wf (by kernel_rfl) ⟨rfl, rfl, rfl, trivial⟩ (by kernel_rfl) (by kernel_rfl) (fun _ => pf_s rfl rfl rfl) (fun P_21 => ?_)
                      refine sim_p 22 (ei := [(62, .bool false), (70, undef)]) (d := (some 71)) wf (by kernel_rfl) ⟨rfl, rfl, trivial⟩ (by kernel_rfl) (by kernel_rfl) (fun _ => pf_p tok rfl rfl rfl rfl) (fun P_22 => ?_)
                      refine sim_p 23 (ei := [(71, .bool false)]) (d := (some 72)) wf (by kernel_rfl) ⟨rfl, trivial⟩ (by kernel_rfl) (by kernel_rfl) (fun _ => pf_p tok rfl rfl rfl rfl) (fun P_23 => ?_)
                      refine sim_gif 72 H rfl (fun hb H => ?_) (fun hb H => ?_)
                      ·
                        refine sim_c 24 [0, 1, 2, 3, 4, 5, 6, 7, 8, 9, 10, 11, 12, 13, 14, 15, 16, 17, 18, 19, 20, 21, 22, 23] [0, 1, 3, 4, 5, 6, 7, 8, 9, 10, 11, 12, 13, 14, 15, 16, 17, 18, 19, 20, 21, 22, 23] (ei := [(72, .bool true)]) law15_awake_ok (law15_awake_ref  _ _ H) wf ⟨P_23 _, P_22 _, P_21 _, P_20 _, P_19 _, P_18 _, P_17 _, P_16 _, P_15 _, P_14 _, P_13 _, P_12 _, P_11 _, P_10 _, P_9 _, P_8 _, P_7 _, P_6 _, P_5 _, P_4 _, P_3 _, trivial, P_0 _, trivial⟩ (by kernel_rfl) ⟨rfl, trivial⟩ (by kernel_rfl) rfl rfl rfl rfl rfl ?_
                        rintro _ h91 ⟨r90, rfl, H⟩
                        refine sim_p 25 (ei := [(72, .bool true), (73, .bool r90)]) (d := (some 74)) wf (by kernel_rfl) ⟨rfl, rfl, trivial⟩ (by kernel_rfl) (by kernel_rfl) (fun _ => pf_p tok rfl rfl rfl rfl) (fun P_25 => ?_)
                        refine sim_p 26 (ei := [(74, .bool r90)]) (d := (some 4)) wf (by kernel_rfl) ⟨rfl, trivial⟩ (by kernel_rfl) (by kernel_rfl) (fun _ => pf_p tok rfl rfl rfl rfl) (fun P_26 => ?_)
                        refine sim_end wf ⟨P_26 _, P_25 _, trivial, trivial, trivial, trivial, trivial, trivial, trivial, trivial, trivial, trivial, trivial, trivial, trivial, trivial, trivial, trivial, trivial, trivial, trivial, trivial, trivial, trivial, trivial, trivial⟩ (by kernel_rfl) ?_
                        clear wf P_0 P_1 P_10 P_11 P_12 P_13 P_14 P_15 P_16 P_17 P_18 P_19 P_20 P_21 P_22 P_23 P_25 P_26 P_3 P_4 P_5 P_6 P_7 P_8 P_9
                        exact x_join r90 H ⟨rfl, trivial⟩
                      ·
                        refine sim_p 24 (v := undef) (ei := [(72, .bool false)]) (d := (some 73)) wf (by kernel_rfl) ⟨rfl, trivial⟩ (by kernel_rfl) (by kernel_rfl) (fun _ => pf_s rfl rfl rfl) (fun P_24 => ?_)
                        refine sim_p 25 (ei := [(72, .bool false), (73, undef)]) (d := (some 74)) wf (by kernel_rfl) ⟨rfl, rfl, trivial⟩ (by kernel_rfl) (by kernel_rfl) (fun _ => pf_p tok rfl rfl rfl rfl) (fun P_25 => ?_)
                        refine sim_p 26 (ei := [(74, .bool false)]) (d := (some 4)) wf (by kernel_rfl) ⟨rfl, trivial⟩ (by kernel_rfl) (by kernel_rfl) (fun _ => pf_p tok rfl rfl rfl rfl) (fun P_26 => ?_)
                        refine sim_end wf ⟨P_26 _, P_25 _, P_24 _, P_23 _, P_22 _, P_21 _, P_20 _, P_19 _, P_18 _, P_17 _, P_16 _, P_15 _, P_14 _, P_13 _, P_12 _, P_11 _, P_10 _, P_9 _, P_8 _, P_7 _, P_6 _, P_5 _, P_4 _, P_3 _, trivial, P_0 _, trivial⟩ (by kernel_rfl) ?_
                        clear wf P_0 P_1 P_10 P_11 P_12 P_13 P_14 P_15 P_16 P_17 P_18 P_19 P_20 P_21 P_22 P_23 P_24 P_25 P_26 P_3 P_4 P_5 P_6 P_7 P_8 P_9
                        exact x_join false H ⟨rfl, trivial⟩
          ·
            refine w_gif (d := 36) H rfl (fun H => ?_) (fun H => ?_)
            ·
              refine w_skip rfl rfl ?_
              refine w_skip rfl rfl ?_
              refine w_skip rfl rfl ?_
              refine w_p tok rfl rfl rfl ?_
              exact w_jn true H ⟨rfl, rfl, rfl, trivial⟩
            ·
              obtain ⟨v92, hv92, H⟩ := H
              refine w_y (y_lda tok rfl rfl rfl rfl rfl hv92) rfl rfl ?_
              refine w_call ref15_Check_ok (ref15_Check_ref _ _ _ H) rfl rfl rfl rfl ?_
              rintro _ h94 ⟨r93, rfl, H⟩
              refine w_p tok rfl rfl rfl ?_
              refine w_p tok rfl rfl rfl ?_
              exact w_jn (!r93) H ⟨rfl, rfl, rfl, trivial⟩
      ·
        refine w_gs (d := 25) rfl (fun hb => ?_) (fun hb => ?_)
        ·
          refine w_skip rfl rfl ?_
          refine w_skip rfl rfl ?_
          refine w_skip rfl rfl ?_
          refine w_skip rfl rfl ?_
          refine w_skip rfl rfl ?_
          refine w_skip rfl rfl ?_
          refine w_p tok rfl rfl rfl ?_
          refine w_jn () rfl ⟨?_, rfl, rfl, trivial⟩
          exact congrArg (fun b => some (Value.bool b)) (or_t hb)
        ·
          refine w_p tok rfl rfl rfl ?_
          refine w_p tok rfl rfl rfl ?_
          refine w_p tok rfl rfl rfl ?_
          refine w_cutU 3 [(31, .bool ((r11 != 0) && (r11 != 1))), (2, .pointer (some (⟨b1, 0, none⟩ : Addr))), (3, .pointer (some (⟨b3, 0, none⟩ : Addr))), (25, .bool false)] ?_ ?_
          ·
            refine w_p tok rfl rfl rfl ?_
            refine w_jn () rfl ⟨?_, rfl, rfl, trivial⟩
            exact congrArg (fun b => some (Value.bool b)) (or_f hb)
          ·
            refine w_gs (d := 28) rfl (fun hb => ?_) (fun hb => ?_)
            ·
              refine w_p tok rfl rfl rfl ?_
              refine w_p tok rfl rfl rfl ?_
              refine w_p tok rfl rfl rfl ?_
              refine w_jn () rfl ⟨?_, rfl, rfl, rfl, trivial⟩
              exact congrArg (fun b => some (Value.bool b)) (and_t hb)
            ·
              refine w_skip rfl rfl ?_
              refine w_skip rfl rfl ?_
              refine w_p tok rfl rfl rfl ?_
              refine w_jn () rfl ⟨?_, rfl, rfl, rfl, trivial⟩
              exact congrArg (fun b => some (Value.bool b)) (and_f hb)
  ·
    refine w_gif (d := 12) H rfl (fun H => ?_) (fun H => ?_)
    ·
      refine w_skip rfl rfl ?_
      refine w_skip rfl rfl ?_
      refine w_skip rfl rfl ?_
      refine w_p tok rfl rfl rfl ?_
      exact w_jn true H ⟨rfl, rfl, rfl, trivial⟩
    ·
      obtain ⟨v95, hv95, H⟩ := H
      refine w_y (y_lda tok rfl rfl rfl rfl rfl hv95) rfl rfl ?_
      refine w_y (y_build tok rfl rfl rfl rfl rfl) rfl rfl ?_
      refine w_call ref15_Great_ok (ref15_Great_ref _ _ _ _ H) rfl rfl rfl rfl ?_
      rintro _ h97 ⟨r96, rfl, H⟩
      refine w_p tok rfl rfl rfl ?_
      exact w_jn r96 H ⟨rfl, rfl, rfl, trivial⟩
end Go.Q.Yb

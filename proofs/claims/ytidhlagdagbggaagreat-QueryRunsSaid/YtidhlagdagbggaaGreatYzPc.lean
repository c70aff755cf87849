/- A part of the proof of statements of this seat: lemmas, no statement of their own. -/
import Derived.Test.YtidhlagdagbggaaGreatYzTab
import Derived.Test.YtidhlagdagbggaaGreatQFsv
import Derived.Test.YtidhlagdagbggaaGreatQAdd
import Derived.Test.YtidhlagdagbggaaGreatYzSrp
import Derived.Test.YtidhlagdagbggaaGreatYzPlc
import Derived.Test.YtidhlagdagbggaaGreatYzLab
import Derived.Test.YtidhlagdagbggaaGreatYzLab2
import Derived.Test.YtidhlagdagbggaaGreatQRng
import Derived.Test.YtidhlagdagbggaaGreatQShort
-- squeezed
set_option linter.unusedVariables false
set_option linter.unusedSimpArgs false
set_option maxRecDepth 100000
set_option maxHeartbeats 1000000
namespace Go.Q.Yz
/-- maps.Values map quaestor piece.place quaestor api.Piece quaestor piece.place quaestor api.Piece  -/
def maps_Values_map_piece_place_api_Piece_piece_place_api_Piece (p0 : Option Nat) (k : (Value) → Heap → Prop) (h : Heap) : Prop :=
 ∃ (b1 : Nat) (h2 : Heap), b1 = h.size ∧ h2 = h.push (.cells ([.map p0]).toArray 89) ∧ (k (Value.func (.func 67) #[] #[.pointer (some (⟨b1, 0, none⟩ : Addr))]) h2)

/-- quaestor piece.Between -/
def piece_Between_j2 (t1_2 : Int) (t2_2 : Int) (t10_2 : Slc) (t11_2 : Int) (t12_2 : Int) (t7_2 : Slc) (k : (Slc) → Heap → Prop) (nx1 : (Slc × Int) → Heap → Prop) (h_2 : Heap) : Prop :=
 nx1 (t7_2, (IntKind.i64.wrap (t12_2 + 1))) h_2
def piece_Between_g3 (t1_3 : Int) (t2_3 : Int) (t7_3 : Slc) (t9_3 : Addr) (t10_3 : Slc) (t11_3 : Int) (t12_3 : Int) (t25_3 : Bool) (k : (Slc) → Heap → Prop) (nx1 : (Slc × Int) → Heap → Prop) (h_3 : Heap) : Prop :=
 if t25_3 then (∃ v7 : S_api_Piece, CellsAt h_3 t9_3 (S_api_Piece.cs v7) ∧ (∃ (b8 : Nat) (h9 : Heap), b8 = h_3.size ∧ h9 = h_3.push (.cells ((S_api_Piece.cs v7)).toArray 46) ∧ (App 46 5 48 [.string ByteArray.empty, .int .i64 0, .int .i64 0, .int .u64 0, .int .u16 0] h9 t7_3 1 ((S_api_Piece.cs v7)) (fun s10 h11 => piece_Between_j2 t1_3 t2_3 t10_3 t11_3 t12_3 s10 k nx1 h11)))) else (piece_Between_j2 t1_3 t2_3 t10_3 t11_3 t12_3 t7_3 k nx1 h_3)
def piece_Between_l1b (t1_1 : Int) (t2_1 : Int) (t10_1 : Slc) (t11_1 : Int) (t7_1 : Slc) (t12_1 : Int) (k : (Slc) → Heap → Prop) (nx1 : (Slc × Int) → Heap → Prop) (h_1 : Heap) : Prop :=
 if (decide (t12_1 < t11_1)) then (∃ a1 : Addr, t10_1.a = some a1 ∧ (0 : Int) ≤ t12_1 ∧ t12_1 < (t10_1.len : Int) ∧ (∃ v2 : S_api_Piece, CellsAt h_1 (a1.add (t12_1.toNat * 5)) (S_api_Piece.cs v2) ∧ (∃ (b3 : Nat) (h4 : Heap), b3 = h_1.size ∧ h4 = h_1.push (.cells (S_api_Piece.cs (⟨ByteArray.empty, 0, 0, (⟨0, 0⟩ : S_api_Id)⟩ : S_api_Piece)).toArray 46) ∧ (∃ h5 : Heap, WrsAt h4 (⟨b3, 0, none⟩ : Addr) 5 ∧ h5 = setsH h4 (⟨b3, 0, none⟩ : Addr) 0 (S_api_Piece.cs v2) ∧ (∃ v6 : Int, cellH h5 ((⟨b3, 0, none⟩ : Addr).add 1) = some (.int .i64 v6) ∧ (if (decide (v6 ≥ t1_1)) then (∃ v12 : Int, cellH h5 ((⟨b3, 0, none⟩ : Addr).add 1) = some (.int .i64 v12) ∧ (piece_Between_g3 t1_1 t2_1 t7_1 (⟨b3, 0, none⟩ : Addr) t10_1 t11_1 t12_1 (decide (v12 ≤ t2_1)) k nx1 h5)) else (piece_Between_g3 t1_1 t2_1 t7_1 (⟨b3, 0, none⟩ : Addr) t10_1 t11_1 t12_1 false k nx1 h5))))))) else (k t7_1 h_1)
def piece_Between_l1 (t1_1 : Int) (t2_1 : Int) (t10_1 : Slc) (t11_1 : Int) (i7 : Slc) (i12 : Int) (k : (Slc) → Heap → Prop) (h : Heap) : Prop :=
 ∃ (I : (Slc × Int) → Heap → Prop) (μ : (Slc × Int) → Heap → Nat), I (i7, i12) h ∧ ∀ (t7_1 : Slc) (t12_1 : Int) (h : Heap), I (t7_1, t12_1) h → piece_Between_l1b t1_1 t2_1 t10_1 t11_1 t7_1 t12_1 k (fun s h' => I s h' ∧ μ s h' < μ (t7_1, t12_1) h) h
def piece_Between (p0 : Slc) (p1 : Int) (p2 : Int) (k : (Slc) → Heap → Prop) (h : Heap) : Prop :=
 piece_Between_l1 p1 p2 p0 (p0.len : Int) (⟨none, 0, 0⟩ : Slc) 0 k h

/-- quaestor num.Wide -/
def num_Wide (p0 : Int) (k : (S_api_Wide) → Heap → Prop) (h : Heap) : Prop :=
 ∃ (b1 : Nat) (h2 : Heap), b1 = h.size ∧ h2 = h.push (.cells (S_api_Wide.cs (⟨0, 0⟩ : S_api_Wide)).toArray 48) ∧ (∃ h3 : Heap, WrsAt h2 (⟨b1, 0, none⟩ : Addr) 2 ∧ h3 = setsH h2 (⟨b1, 0, none⟩ : Addr) 0 (S_api_Wide.cs (⟨(shr .i64 p0 (63 : Int).toNat), (IntKind.u64.wrap p0)⟩ : S_api_Wide)) ∧ (∃ v4 : S_api_Wide, CellsAt h3 (⟨b1, 0, none⟩ : Addr) (S_api_Wide.cs v4) ∧ k v4 h3))

/-- quaestor num.Add -/
def num_Add_g1 (t4_1 : Addr) (t10_1 : Addr) (t49_1 : Bool) (k : (S_api_Wide × Int) → Heap → Prop) (h_1 : Heap) : Prop :=
 if t49_1 then (∃ h22 : Heap, WrsAt h_1 t4_1 2 ∧ h22 = setsH h_1 t4_1 0 (S_api_Wide.cs (⟨0, 0⟩ : S_api_Wide)) ∧ (∃ v23 : S_api_Wide, CellsAt h22 t4_1 (S_api_Wide.cs v23) ∧ k (v23, 19) h22)) else (∃ v24 : S_api_Wide, CellsAt h_1 t10_1 (S_api_Wide.cs v24) ∧ (∃ h25 : Heap, WrsAt h_1 t4_1 2 ∧ h25 = setsH h_1 t4_1 0 (S_api_Wide.cs v24) ∧ (∃ v26 : S_api_Wide, CellsAt h25 t4_1 (S_api_Wide.cs v26) ∧ k (v26, 0) h25)))
def num_Add (p0 : S_api_Wide) (p1 : S_api_Wide) (k : (S_api_Wide × Int) → Heap → Prop) (h : Heap) : Prop :=
 ∃ (b1 : Nat) (h2 : Heap), b1 = h.size ∧ h2 = h.push (.cells (S_api_Wide.cs p0).toArray 48) ∧ (∃ (b3 : Nat) (h4 : Heap), b3 = h2.size ∧ h4 = h2.push (.cells (S_api_Wide.cs p1).toArray 48) ∧ (∃ (b5 : Nat) (h6 : Heap), b5 = h4.size ∧ h6 = h4.push (.cells (S_api_Wide.cs (⟨0, 0⟩ : S_api_Wide)).toArray 48) ∧ (∃ v7 : Int, cellH h6 ((⟨b1, 0, none⟩ : Addr).add 1) = some (.int .u64 v7) ∧ (∃ v8 : Int, cellH h6 ((⟨b3, 0, none⟩ : Addr).add 1) = some (.int .u64 v8) ∧ (((0 : Int) ≤ v7 ∧ (0 : Int) ≤ v8 ∧ (0 : Int) ≤ 0 ∧ 0 ≤ (1 : Int)) ∧ (∃ x10 : Int, x10 = ((v7 + v8 + 0) % 18446744073709551616) ∧ (∃ x11 : Int, x11 = ((v7 + v8 + 0) / 18446744073709551616) ∧ (∃ v12 : Int, cellH h6 (⟨b1, 0, none⟩ : Addr) = some (.int .i64 v12) ∧ (∃ v13 : Int, cellH h6 (⟨b3, 0, none⟩ : Addr) = some (.int .i64 v13) ∧ (((0 : Int) ≤ (IntKind.u64.wrap v12) ∧ (0 : Int) ≤ (IntKind.u64.wrap v13) ∧ (0 : Int) ≤ x11 ∧ x11 ≤ (1 : Int)) ∧ (∃ x15 : Int, x15 = (((IntKind.u64.wrap v12) + (IntKind.u64.wrap v13) + x11) % 18446744073709551616) ∧ (∃ x16 : Int, x16 = (((IntKind.u64.wrap v12) + (IntKind.u64.wrap v13) + x11) / 18446744073709551616) ∧ (∃ (b17 : Nat) (h18 : Heap), b17 = h6.size ∧ h18 = h6.push (.cells (S_api_Wide.cs (⟨0, 0⟩ : S_api_Wide)).toArray 48) ∧ (∃ h19 : Heap, WrsAt h18 (⟨b17, 0, none⟩ : Addr) 2 ∧ h19 = setsH h18 (⟨b17, 0, none⟩ : Addr) 0 (S_api_Wide.cs (⟨(IntKind.i64.wrap x15), x10⟩ : S_api_Wide)) ∧ (∃ v20 : Int, cellH h19 (⟨b1, 0, none⟩ : Addr) = some (.int .i64 v20) ∧ (∃ v21 : Int, cellH h19 (⟨b3, 0, none⟩ : Addr) = some (.int .i64 v21) ∧ (if ((shr .i64 v20 (63 : Int).toNat) == (shr .i64 v21 (63 : Int).toNat)) then (∃ v27 : Int, cellH h19 (⟨b17, 0, none⟩ : Addr) = some (.int .i64 v27) ∧ (∃ v28 : Int, cellH h19 (⟨b1, 0, none⟩ : Addr) = some (.int .i64 v28) ∧ (num_Add_g1 (⟨b5, 0, none⟩ : Addr) (⟨b17, 0, none⟩ : Addr) ((shr .i64 v27 (63 : Int).toNat) != (shr .i64 v28 (63 : Int).toNat)) k h19))) else (num_Add_g1 (⟨b5, 0, none⟩ : Addr) (⟨b17, 0, none⟩ : Addr) false k h19))))))))))))))))))

/-- quaestor num.Floor -/
def num_Floor_j1 (t6_1 : Int) (k : (Int × Int) → Heap → Prop) (h_1 : Heap) : Prop :=
 k (t6_1, 0) h_1
def num_Floor (p0 : Int) (p1 : Int) (k : (Int × Int) → Heap → Prop) (h : Heap) : Prop :=
 if (p1 == 0) then (k (0, 1) h) else (if ((p0 == (-9223372036854775808)) && (p1 == (-1))) then (k (0, 19) h) else (p1 ≠ 0 ∧ (∃ x2 : Int, x2 = (IntKind.i64.wrap (Int.tdiv p0 p1)) ∧ (p1 ≠ 0 ∧ (if (((Int.tmod p0 p1) != 0) && ((shr .i64 p0 (63 : Int).toNat) != (shr .i64 p1 (63 : Int).toNat))) then (∃ x4 : Int, x4 = (IntKind.i64.wrap (x2 - 1)) ∧ (num_Floor_j1 x4 k h)) else (num_Floor_j1 x2 k h))))))

/-- quaestor query.Check -/
def query_Check_g2 (t31_2 : Bool) (k : (Int) → Heap → Prop) (h_2 : Heap) : Prop :=
 if t31_2 then (k 1 h_2) else (k 0 h_2)
def query_Check_g3 (t22_3 : Bool) (t30_3 : Bool) (k : (Int) → Heap → Prop) (h_3 : Heap) : Prop :=
 query_Check_g2 t30_3 k h_3
def query_Check_g1 (t1_1 : Addr) (t21_1 : Bool) (k : (Int) → Heap → Prop) (h_1 : Heap) : Prop :=
 if t21_1 then (query_Check_g2 true k h_1) else (∃ v10 : Int, cellH h_1 (t1_1.add 3) = some (.int .i64 v10) ∧ (if (v10 == 6) then (∃ v11 : Int, cellH h_1 (t1_1.add 4) = some (.int .i64 v11) ∧ (query_Check_g3 false (decide (v11 < 1)) k h_1)) else (query_Check_g3 false false k h_1)))
def query_Check (p0 : S_api_Query) (k : (Int) → Heap → Prop) (h : Heap) : Prop :=
 ∃ (b1 : Nat) (h2 : Heap), b1 = h.size ∧ h2 = h.push (.cells (S_api_Query.cs p0).toArray 23) ∧ (∃ v3 : ByteArray, cellH h2 (⟨b1, 0, none⟩ : Addr) = some (.string v3) ∧ (label_Selector v3 (fun (r4 : S_api_Selector × Int) h5 => ∃ (b6 : Nat) (h7 : Heap), b6 = h5.size ∧ h7 = h5.push (.cells (S_api_Selector.cs (⟨ByteArray.empty, (⟨none, 0, 0⟩ : Slc)⟩ : S_api_Selector)).toArray 53) ∧ (∃ h8 : Heap, WrsAt h7 (⟨b6, 0, none⟩ : Addr) 2 ∧ h8 = setsH h7 (⟨b6, 0, none⟩ : Addr) 0 (S_api_Selector.cs r4.1) ∧ (if (r4.2 != 0) then (k r4.2 h8) else (∃ v9 : Int, cellH h8 ((⟨b1, 0, none⟩ : Addr).add 3) = some (.int .i64 v9) ∧ (if (decide (v9 < 0)) then (query_Check_g1 (⟨b1, 0, none⟩ : Addr) true k h8) else (∃ v12 : Int, cellH h8 ((⟨b1, 0, none⟩ : Addr).add 3) = some (.int .i64 v12) ∧ (query_Check_g1 (⟨b1, 0, none⟩ : Addr) (decide (v12 > 6)) k h8))))))) h2))

/-- slices.SortedFunc quaestor api.Piece  -/
def slices_SortedFunc_api_Piece__piece_compare (p0 : Value) (k : (Slc) → Heap → Prop) (h : Heap) : Prop :=
 slices_Collect_api_Piece p0 (fun (r1 : Slc) h2 => slices_SortFunc_api_Piece_api_Piece__piece_compare r1 (fun (r3 : Unit) h4 => k r1 h4) h2) h

/-- quaestor piece.Merge -/
def piece_Merge_j3 (t3_3 : Nat) (t12_3 : Slc) (t13_3 : Int) (t14_3 : Int) (t18_3 : Slc) (t19_3 : Int) (t20_3 : Int) (k : (Slc) → Heap → Prop) (nx1 : (Int) → Heap → Prop) (nx2 : (Int) → Heap → Prop) (h_3 : Heap) : Prop :=
 nx2 (IntKind.i64.wrap (t20_3 + 1)) h_3
def piece_Merge_j4 (t3_4 : Nat) (t7_4 : Addr) (t8_4 : Addr) (t12_4 : Slc) (t13_4 : Int) (t14_4 : Int) (t18_4 : Slc) (t19_4 : Int) (t20_4 : Int) (t53_4 : Bool) (k : (Slc) → Heap → Prop) (nx1 : (Int) → Heap → Prop) (nx2 : (Int) → Heap → Prop) (h_4 : Heap) : Prop :=
 if t53_4 then (piece_Merge_j3 t3_4 t12_4 t13_4 t14_4 t18_4 t19_4 t20_4 k nx1 nx2 h_4) else (∃ v23 : S_piece_place, CellsAt h_4 t8_4 (S_piece_place.cs v23) ∧ (∃ v24 : S_api_Piece, CellsAt h_4 t7_4 (S_api_Piece.cs v24) ∧ (∃ (r25 : Nat) (l26 : List (S_piece_place × S_api_Piece)) (h27 : Heap), (some t3_4) = some r25 ∧ MapAS (K := S_piece_place) (V := S_api_Piece) (fun v : S_piece_place => Value.agg (S_piece_place.cs v).toArray) (fun v : S_api_Piece => Value.agg (S_api_Piece.cs v).toArray) h_4 (some r25) l26 ∧ h27 = setM h_4 r25 ((fun v : S_piece_place => Value.agg (S_piece_place.cs v).toArray) v23) (.agg (S_api_Piece.cs v24).toArray) ∧ (piece_Merge_j3 t3_4 t12_4 t13_4 t14_4 t18_4 t19_4 t20_4 k nx1 nx2 h27))))
def piece_Merge_l2b (t3_2 : Nat) (t12_2 : Slc) (t13_2 : Int) (t14_2 : Int) (t18_2 : Slc) (t19_2 : Int) (t20_2 : Int) (k : (Slc) → Heap → Prop) (nx1 : (Int) → Heap → Prop) (nx2 : (Int) → Heap → Prop) (h_2 : Heap) : Prop :=
 if (decide (t20_2 < t19_2)) then (∃ a5 : Addr, t18_2.a = some a5 ∧ (0 : Int) ≤ t20_2 ∧ t20_2 < (t18_2.len : Int) ∧ (∃ v6 : S_api_Piece, CellsAt h_2 (a5.add (t20_2.toNat * 5)) (S_api_Piece.cs v6) ∧ (∃ (b7 : Nat) (h8 : Heap), b7 = h_2.size ∧ h8 = h_2.push (.cells (S_api_Piece.cs (⟨ByteArray.empty, 0, 0, (⟨0, 0⟩ : S_api_Id)⟩ : S_api_Piece)).toArray 46) ∧ (∃ h9 : Heap, WrsAt h8 (⟨b7, 0, none⟩ : Addr) 5 ∧ h9 = setsH h8 (⟨b7, 0, none⟩ : Addr) 0 (S_api_Piece.cs v6) ∧ (∃ v10 : S_api_Piece, CellsAt h9 (⟨b7, 0, none⟩ : Addr) (S_api_Piece.cs v10) ∧ (piece_Check v10 (fun (r11 : Int) h12 => if (r11 != 0) then (piece_Merge_j3 t3_2 t12_2 t13_2 t14_2 t18_2 t19_2 t20_2 k nx1 nx2 h12) else (∃ v13 : ByteArray, cellH h12 (⟨b7, 0, none⟩ : Addr) = some (.string v13) ∧ (∃ v14 : Int, cellH h12 ((⟨b7, 0, none⟩ : Addr).add 1) = some (.int .i64 v14) ∧ (∃ (b15 : Nat) (h16 : Heap), b15 = h12.size ∧ h16 = h12.push (.cells (S_piece_place.cs (⟨ByteArray.empty, 0⟩ : S_piece_place)).toArray 92) ∧ (∃ h17 : Heap, WrsAt h16 (⟨b15, 0, none⟩ : Addr) 2 ∧ h17 = setsH h16 (⟨b15, 0, none⟩ : Addr) 0 (S_piece_place.cs (⟨v13, v14⟩ : S_piece_place)) ∧ (∃ v18 : S_piece_place, CellsAt h17 (⟨b15, 0, none⟩ : Addr) (S_piece_place.cs v18) ∧ (∃ l19 : List (S_piece_place × S_api_Piece), MapAS (K := S_piece_place) (V := S_api_Piece) (fun v : S_piece_place => Value.agg (S_piece_place.cs v).toArray) (fun v : S_api_Piece => Value.agg (S_api_Piece.cs v).toArray) h17 (some t3_2) l19 ∧ (∃ (b20 : Nat) (h21 : Heap), b20 = h17.size ∧ h21 = h17.push (.cells (S_api_Piece.cs (⟨ByteArray.empty, 0, 0, (⟨0, 0⟩ : S_api_Id)⟩ : S_api_Piece)).toArray 46) ∧ (∃ h22 : Heap, WrsAt h21 (⟨b20, 0, none⟩ : Addr) 5 ∧ h22 = setsH h21 (⟨b20, 0, none⟩ : Addr) 0 (S_api_Piece.cs ((mget l19 v18).getD (⟨ByteArray.empty, 0, 0, (⟨0, 0⟩ : S_api_Id)⟩ : S_api_Piece))) ∧ (if (mget l19 v18).isSome then (∃ v28 : S_api_Id, CellsAt h22 ((⟨b20, 0, none⟩ : Addr).add 3) (S_api_Id.cs v28) ∧ (∃ v29 : S_api_Id, CellsAt h22 ((⟨b7, 0, none⟩ : Addr).add 3) (S_api_Id.cs v29) ∧ (∃ v30 : Int, cellH h22 ((⟨b20, 0, none⟩ : Addr).add 2) = some (.int .i64 v30) ∧ (∃ v31 : Int, cellH h22 ((⟨b7, 0, none⟩ : Addr).add 2) = some (.int .i64 v31) ∧ (piece_ids v28 v29 (fun (r32 : Int) h33 => cellH h33 ((⟨b7, 0, none⟩ : Addr).add 2) = some (.int .i64 v31) ∧ cellH h33 ((⟨b20, 0, none⟩ : Addr).add 2) = some (.int .i64 v30) ∧ (cmp_Compare_int64 v30 v31 (fun (r36 : Int) h37 => ∃ (b38 : Nat) (h39 : Heap), b38 = h37.size ∧ h39 = h37.push (.cells ([.int .i64 r32, .int .i64 r36]).toArray 3) ∧ (cmp_Or_int (⟨some ⟨b38, 0, none⟩, 2, 2⟩ : Slc) (fun (r40 : Int) h41 => piece_Merge_j4 t3_2 (⟨b7, 0, none⟩ : Addr) (⟨b15, 0, none⟩ : Addr) t12_2 t13_2 t14_2 t18_2 t19_2 t20_2 (decide (r40 ≥ 0)) k nx1 nx2 h41) h39)) h33)) h22))))) else (piece_Merge_j4 t3_2 (⟨b7, 0, none⟩ : Addr) (⟨b15, 0, none⟩ : Addr) t12_2 t13_2 t14_2 t18_2 t19_2 t20_2 false k nx1 nx2 h22))))))))))) h9)))))) else (nx1 (IntKind.i64.wrap (t14_2 + 1)) h_2)
def piece_Merge_l2 (t3_2 : Nat) (t12_2 : Slc) (t13_2 : Int) (t14_2 : Int) (t18_2 : Slc) (t19_2 : Int) (i20 : Int) (k : (Slc) → Heap → Prop) (nx1 : (Int) → Heap → Prop) (h : Heap) : Prop :=
 ∃ (I : Int → Heap → Prop) (μ : Int → Heap → Nat), I i20 h ∧ ∀ (t20_2 : Int) (h : Heap), I t20_2 h → piece_Merge_l2b t3_2 t12_2 t13_2 t14_2 t18_2 t19_2 t20_2 k nx1 (fun s h' => I s h' ∧ μ s h' < μ t20_2 h) h
def piece_Merge_l1b (t3_1 : Nat) (t12_1 : Slc) (t13_1 : Int) (t14_1 : Int) (k : (Slc) → Heap → Prop) (nx1 : (Int) → Heap → Prop) (h_1 : Heap) : Prop :=
 if (decide (t14_1 < t13_1)) then (∃ a3 : Addr, t12_1.a = some a3 ∧ (0 : Int) ≤ t14_1 ∧ t14_1 < (t12_1.len : Int) ∧ (∃ v4 : Slc, cellH h_1 (a3.add (t14_1.toNat * 1)) = some (Slc.v v4) ∧ (piece_Merge_l2 t3_1 t12_1 t13_1 t14_1 v4 (v4.len : Int) 0 k nx1 h_1))) else (maps_Values_map_piece_place_api_Piece_piece_place_api_Piece (some t3_1) (fun (r42 : Value) h43 => slices_SortedFunc_api_Piece__piece_compare r42 (fun (r44 : Slc) h45 => k r44 h45) h43) h_1)
def piece_Merge_l1 (t3_1 : Nat) (t12_1 : Slc) (t13_1 : Int) (i14 : Int) (k : (Slc) → Heap → Prop) (h : Heap) : Prop :=
 ∃ (I : Int → Heap → Prop) (μ : Int → Heap → Nat), I i14 h ∧ ∀ (t14_1 : Int) (h : Heap), I t14_1 h → piece_Merge_l1b t3_1 t12_1 t13_1 t14_1 k (fun s h' => I s h' ∧ μ s h' < μ t14_1 h) h
def piece_Merge (p0 : Slc) (k : (Slc) → Heap → Prop) (h : Heap) : Prop :=
 ∃ (b1 : Nat) (h2 : Heap), b1 = h.size ∧ h2 = h.push (.map #[] 0) ∧ (piece_Merge_l1 b1 p0 (p0.len : Int) 0 k h2)

/-- quaestor query.Ask -/
def query_Ask_j2 (t9_2 : Addr) (t11_2 : Nat) (t40_2 : Slc) (t41_2 : Int) (t42_2 : Int) (t12_2 : Slc) (k : (Slc × Int) → Heap → Prop) (nx1 : (Slc × Int) → Heap → Prop) (h_2 : Heap) : Prop :=
 nx1 (t12_2, (IntKind.i64.wrap (t42_2 + 1))) h_2
def query_Ask_j3 (t9_3 : Addr) (t11_3 : Nat) (t12_3 : Slc) (t14_3 : Addr) (t40_3 : Slc) (t41_3 : Int) (t42_3 : Int) (t15_3 : Bool) (k : (Slc × Int) → Heap → Prop) (nx1 : (Slc × Int) → Heap → Prop) (h_3 : Heap) : Prop :=
 if t15_3 then (∃ v33 : S_api_Piece, CellsAt h_3 t14_3 (S_api_Piece.cs v33) ∧ (∃ (b34 : Nat) (h35 : Heap), b34 = h_3.size ∧ h35 = h_3.push (.cells ((S_api_Piece.cs v33)).toArray 46) ∧ (App 46 5 48 [.string ByteArray.empty, .int .i64 0, .int .i64 0, .int .u64 0, .int .u16 0] h35 t12_3 1 ((S_api_Piece.cs v33)) (fun s36 h37 => query_Ask_j2 t9_3 t11_3 t40_3 t41_3 t42_3 s36 k nx1 h37)))) else (query_Ask_j2 t9_3 t11_3 t40_3 t41_3 t42_3 t12_3 k nx1 h_3)
def query_Ask_g4 (t9_4 : Addr) (t11_4 : Nat) (t12_4 : Slc) (t14_4 : Addr) (t40_4 : Slc) (t41_4 : Int) (t42_4 : Int) (t67_4 : Bool) (k : (Slc × Int) → Heap → Prop) (nx1 : (Slc × Int) → Heap → Prop) (h_4 : Heap) : Prop :=
 ∃ v44 : ByteArray, cellH h_4 t14_4 = some (.string v44) ∧ (∃ (r45 : Nat) (l46 : List (ByteArray × Bool)) (h47 : Heap), (some t11_4) = some r45 ∧ MapAt (K := ByteArray) (V := Bool) .string Value.string Value.bool h_4 (some r45) l46 ∧ h47 = setM h_4 r45 (Value.string v44) (.bool t67_4) ∧ (query_Ask_j3 t9_4 t11_4 t12_4 t14_4 t40_4 t41_4 t42_4 t67_4 k nx1 h47))
def query_Ask_l1b (t9_1 : Addr) (t11_1 : Nat) (t40_1 : Slc) (t41_1 : Int) (t12_1 : Slc) (t42_1 : Int) (k : (Slc × Int) → Heap → Prop) (nx1 : (Slc × Int) → Heap → Prop) (h_1 : Heap) : Prop :=
 if (decide (t42_1 < t41_1)) then (∃ a26 : Addr, t40_1.a = some a26 ∧ (0 : Int) ≤ t42_1 ∧ t42_1 < (t40_1.len : Int) ∧ (∃ v27 : S_api_Piece, CellsAt h_1 (a26.add (t42_1.toNat * 5)) (S_api_Piece.cs v27) ∧ (∃ (b28 : Nat) (h29 : Heap), b28 = h_1.size ∧ h29 = h_1.push (.cells (S_api_Piece.cs (⟨ByteArray.empty, 0, 0, (⟨0, 0⟩ : S_api_Id)⟩ : S_api_Piece)).toArray 46) ∧ (∃ h30 : Heap, WrsAt h29 (⟨b28, 0, none⟩ : Addr) 5 ∧ h30 = setsH h29 (⟨b28, 0, none⟩ : Addr) 0 (S_api_Piece.cs v27) ∧ (∃ v31 : ByteArray, cellH h30 (⟨b28, 0, none⟩ : Addr) = some (.string v31) ∧ (∃ l32 : List (ByteArray × Bool), MapAt (K := ByteArray) (V := Bool) .string Value.string Value.bool h30 (some t11_1) l32 ∧ (if (!(mget l32 v31).isSome) then (∃ v38 : ByteArray, cellH h30 (⟨b28, 0, none⟩ : Addr) = some (.string v38) ∧ (label_Parse v38 (fun (r39 : S_api_Series × Int) h40 => ∃ (b41 : Nat) (h42 : Heap), b41 = h40.size ∧ h42 = h40.push (.cells (S_api_Series.cs (⟨ByteArray.empty, (⟨none, 0, 0⟩ : Slc)⟩ : S_api_Series)).toArray 62) ∧ (∃ h43 : Heap, WrsAt h42 (⟨b41, 0, none⟩ : Addr) 2 ∧ h43 = setsH h42 (⟨b41, 0, none⟩ : Addr) 0 (S_api_Series.cs r39.1) ∧ (if (r39.2 == 0) then (∃ v48 : S_api_Selector, CellsAt h43 t9_1 (S_api_Selector.cs v48) ∧ (∃ v49 : S_api_Series, CellsAt h43 (⟨b41, 0, none⟩ : Addr) (S_api_Series.cs v49) ∧ (label_Chooses v48 v49 (fun (r50 : Bool) h51 => query_Ask_g4 t9_1 t11_1 t12_1 (⟨b28, 0, none⟩ : Addr) t40_1 t41_1 t42_1 r50 k nx1 h51) h43))) else (query_Ask_g4 t9_1 t11_1 t12_1 (⟨b28, 0, none⟩ : Addr) t40_1 t41_1 t42_1 false k nx1 h43)))) h30)) else (query_Ask_j3 t9_1 t11_1 t12_1 (⟨b28, 0, none⟩ : Addr) t40_1 t41_1 t42_1 ((mget l32 v31).getD false) k nx1 h30)))))))) else (k (t12_1, 0) h_1)
def query_Ask_l1 (t9_1 : Addr) (t11_1 : Nat) (t40_1 : Slc) (t41_1 : Int) (i12 : Slc) (i42 : Int) (k : (Slc × Int) → Heap → Prop) (h : Heap) : Prop :=
 ∃ (I : (Slc × Int) → Heap → Prop) (μ : (Slc × Int) → Heap → Nat), I (i12, i42) h ∧ ∀ (t12_1 : Slc) (t42_1 : Int) (h : Heap), I (t12_1, t42_1) h → query_Ask_l1b t9_1 t11_1 t40_1 t41_1 t12_1 t42_1 k (fun s h' => I s h' ∧ μ s h' < μ (t12_1, t42_1) h) h
def query_Ask (p0 : S_api_Query) (p1 : Slc) (p2 : Int) (k : (Slc × Int) → Heap → Prop) (h : Heap) : Prop :=
 ∃ (b1 : Nat) (h2 : Heap), b1 = h.size ∧ h2 = h.push (.cells (S_api_Query.cs p0).toArray 23) ∧ (∃ v3 : S_api_Query, CellsAt h2 (⟨b1, 0, none⟩ : Addr) (S_api_Query.cs v3) ∧ (query_Check v3 (fun (r4 : Int) h5 => if (r4 != 0) then (k ((⟨none, 0, 0⟩ : Slc), r4) h5) else (∃ v6 : ByteArray, cellH h5 (⟨b1, 0, none⟩ : Addr) = some (.string v6) ∧ (label_Selector v6 (fun (r7 : S_api_Selector × Int) h8 => ∃ (b9 : Nat) (h10 : Heap), b9 = h8.size ∧ h10 = h8.push (.cells (S_api_Selector.cs (⟨ByteArray.empty, (⟨none, 0, 0⟩ : Slc)⟩ : S_api_Selector)).toArray 53) ∧ (∃ h11 : Heap, WrsAt h10 (⟨b9, 0, none⟩ : Addr) 2 ∧ h11 = setsH h10 (⟨b9, 0, none⟩ : Addr) 0 (S_api_Selector.cs r7.1) ∧ (∃ (b12 : Nat) (h13 : Heap), b12 = h11.size ∧ h13 = h11.push (.map #[] 0) ∧ (∃ v14 : Int, cellH h13 ((⟨b1, 0, none⟩ : Addr).add 1) = some (.int .i64 v14) ∧ (∃ v15 : Int, cellH h13 ((⟨b1, 0, none⟩ : Addr).add 2) = some (.int .i64 v15) ∧ (∃ (b16 : Nat) (h17 : Heap), b16 = h13.size ∧ h17 = h13.push (.cells ([Slc.v p1]).toArray 24) ∧ (cellH h17 ((⟨b1, 0, none⟩ : Addr).add 2) = some (.int .i64 v15) ∧ cellH h17 ((⟨b1, 0, none⟩ : Addr).add 1) = some (.int .i64 v14) ∧ (piece_Merge (⟨some ⟨b16, 0, none⟩, 1, 1⟩ : Slc) (fun (r20 : Slc) h21 => cellH h21 ((⟨b1, 0, none⟩ : Addr).add 2) = some (.int .i64 v15) ∧ cellH h21 ((⟨b1, 0, none⟩ : Addr).add 1) = some (.int .i64 v14) ∧ (piece_Between r20 (if p2 > v14 then p2 else v14) v15 (fun (r24 : Slc) h25 => query_Ask_l1 (⟨b9, 0, none⟩ : Addr) b12 r24 (r24.len : Int) (⟨none, 0, 0⟩ : Slc) 0 k h25) h21)) h17)))))))) h5))) h2))

/-- quaestor query.groups -/
def query_groups_l2b (t9_2 : Slc) (t10_2 : Int) (t0_2 : Slc) (t3_2 : Slc) (t11_2 : Int) (k : (Slc) → Heap → Prop) (nx1 : (Slc × Slc) → Heap → Prop) (nx2 : (Slc × Slc × Int) → Heap → Prop) (h_2 : Heap) : Prop :=
 if (decide (t11_2 < t10_2)) then (∃ a1 : Addr, t9_2.a = some a1 ∧ (0 : Int) ≤ t11_2 ∧ t11_2 < (t9_2.len : Int) ∧ (∃ v2 : S_api_Piece, CellsAt h_2 (a1.add (t11_2.toNat * 5)) (S_api_Piece.cs v2) ∧ (∃ (b3 : Nat) (h4 : Heap), b3 = h_2.size ∧ h4 = h_2.push (.cells (S_api_Piece.cs (⟨ByteArray.empty, 0, 0, (⟨0, 0⟩ : S_api_Id)⟩ : S_api_Piece)).toArray 46) ∧ (∃ h5 : Heap, WrsAt h4 (⟨b3, 0, none⟩ : Addr) 5 ∧ h5 = setsH h4 (⟨b3, 0, none⟩ : Addr) 0 (S_api_Piece.cs v2) ∧ (∃ v6 : ByteArray, cellH h5 (⟨b3, 0, none⟩ : Addr) = some (.string v6) ∧ (∃ a7 : Addr, t0_2.a = some a7 ∧ (0 : Int) ≤ 0 ∧ 0 < (t0_2.len : Int) ∧ (∃ v8 : ByteArray, cellH h5 (a7.add ((0 : Int).toNat * 5)) = some (.string v8) ∧ (if (!(v6.toList == v8.toList)) then (∃ s9 : Slc, (0 : Int) ≤ 0 ∧ (0 : Int) ≤ t11_2 ∧ (t11_2 : Int) ≤ (t0_2.cap : Int) ∧ (t0_2.cap : Int) ≤ (t0_2.cap : Int) ∧ s9 = subS t0_2 5 (0 : Int).toNat t11_2.toNat (t0_2.cap : Int).toNat ∧ (∃ (b10 : Nat) (h11 : Heap), b10 = h5.size ∧ h11 = h5.push (.cells ([Slc.v s9]).toArray 24) ∧ (App 24 1 24 [.slice none 0 0] h11 t3_2 1 ([Slc.v s9]) (fun s12 h13 => ∃ s14 : Slc, (0 : Int) ≤ t11_2 ∧ (t11_2 : Int) ≤ (t0_2.len : Int) ∧ ((t0_2.len : Int) : Int) ≤ (t0_2.cap : Int) ∧ (t0_2.cap : Int) ≤ (t0_2.cap : Int) ∧ s14 = subS t0_2 5 t11_2.toNat (t0_2.len : Int).toNat (t0_2.cap : Int).toNat ∧ (nx1 (s14, s12) h13))))) else (nx2 (t0_2, t3_2, (IntKind.i64.wrap (t11_2 + 1))) h5))))))))) else (∃ (b15 : Nat) (h16 : Heap), b15 = h_2.size ∧ h16 = h_2.push (.cells ([Slc.v t0_2]).toArray 24) ∧ (App 24 1 24 [.slice none 0 0] h16 t3_2 1 ([Slc.v t0_2]) (fun s17 h18 => k s17 h18)))
def query_groups_l2 (t9_2 : Slc) (t10_2 : Int) (i0 : Slc) (i3 : Slc) (i11 : Int) (k : (Slc) → Heap → Prop) (nx1 : (Slc × Slc) → Heap → Prop) (h : Heap) : Prop :=
 ∃ (I : (Slc × Slc × Int) → Heap → Prop) (μ : (Slc × Slc × Int) → Heap → Nat), I (i0, i3, i11) h ∧ ∀ (t0_2 : Slc) (t3_2 : Slc) (t11_2 : Int) (h : Heap), I (t0_2, t3_2, t11_2) h → query_groups_l2b t9_2 t10_2 t0_2 t3_2 t11_2 k nx1 (fun s h' => I s h' ∧ μ s h' < μ (t0_2, t3_2, t11_2) h) h
def query_groups_l1b (t0_1 : Slc) (t3_1 : Slc) (k : (Slc) → Heap → Prop) (nx1 : (Slc × Slc) → Heap → Prop) (h_1 : Heap) : Prop :=
 if (decide ((t0_1.len : Int) > 0)) then (query_groups_l2 t0_1 (t0_1.len : Int) t0_1 t3_1 0 k nx1 h_1) else (k t3_1 h_1)
def query_groups_l1 (i0 : Slc) (i3 : Slc) (k : (Slc) → Heap → Prop) (h : Heap) : Prop :=
 ∃ (I : (Slc × Slc) → Heap → Prop) (μ : (Slc × Slc) → Heap → Nat), I (i0, i3) h ∧ ∀ (t0_1 : Slc) (t3_1 : Slc) (h : Heap), I (t0_1, t3_1) h → query_groups_l1b t0_1 t3_1 k (fun s h' => I s h' ∧ μ s h' < μ (t0_1, t3_1) h) h
def query_groups (p0 : Slc) (k : (Slc) → Heap → Prop) (h : Heap) : Prop :=
 query_groups_l1 p0 (⟨none, 0, 0⟩ : Slc) k h

/-- quaestor query.sum -/
def query_sum_l1b (t2_1 : Addr) (t3_1 : Addr) (t6_1 : Slc) (t7_1 : Int) (t8_1 : Int) (k : (S_api_Wide) → Heap → Prop) (nx1 : (Int) → Heap → Prop) (h_1 : Heap) : Prop :=
 if (decide (t8_1 < t7_1)) then (∃ a5 : Addr, t6_1.a = some a5 ∧ (0 : Int) ≤ t8_1 ∧ t8_1 < (t6_1.len : Int) ∧ (∃ v6 : S_api_Piece, CellsAt h_1 (a5.add (t8_1.toNat * 5)) (S_api_Piece.cs v6) ∧ (∃ (b7 : Nat) (h8 : Heap), b7 = h_1.size ∧ h8 = h_1.push (.cells (S_api_Piece.cs (⟨ByteArray.empty, 0, 0, (⟨0, 0⟩ : S_api_Id)⟩ : S_api_Piece)).toArray 46) ∧ (∃ h9 : Heap, WrsAt h8 (⟨b7, 0, none⟩ : Addr) 5 ∧ h9 = setsH h8 (⟨b7, 0, none⟩ : Addr) 0 (S_api_Piece.cs v6) ∧ (∃ v10 : S_api_Wide, CellsAt h9 t3_1 (S_api_Wide.cs v10) ∧ (∃ v11 : Int, cellH h9 ((⟨b7, 0, none⟩ : Addr).add 2) = some (.int .i64 v11) ∧ (num_Wide v11 (fun (r12 : S_api_Wide) h13 => CellsAt h13 t3_1 (S_api_Wide.cs v10) ∧ (num_Add v10 r12 (fun (r15 : S_api_Wide × Int) h16 => ∃ h17 : Heap, WrsAt h16 t3_1 2 ∧ h17 = setsH h16 t3_1 0 (S_api_Wide.cs r15.1) ∧ (nx1 (IntKind.i64.wrap (t8_1 + 1)) h17)) h13)) h9))))))) else (∃ v18 : S_api_Wide, CellsAt h_1 t3_1 (S_api_Wide.cs v18) ∧ (∃ h19 : Heap, WrsAt h_1 t2_1 2 ∧ h19 = setsH h_1 t2_1 0 (S_api_Wide.cs v18) ∧ (∃ v20 : S_api_Wide, CellsAt h19 t2_1 (S_api_Wide.cs v20) ∧ k v20 h19)))
def query_sum_l1 (t2_1 : Addr) (t3_1 : Addr) (t6_1 : Slc) (t7_1 : Int) (i8 : Int) (k : (S_api_Wide) → Heap → Prop) (h : Heap) : Prop :=
 ∃ (I : Int → Heap → Prop) (μ : Int → Heap → Nat), I i8 h ∧ ∀ (t8_1 : Int) (h : Heap), I t8_1 h → query_sum_l1b t2_1 t3_1 t6_1 t7_1 t8_1 k (fun s h' => I s h' ∧ μ s h' < μ t8_1 h) h
def query_sum (p0 : Slc) (k : (S_api_Wide) → Heap → Prop) (h : Heap) : Prop :=
 ∃ (b1 : Nat) (h2 : Heap), b1 = h.size ∧ h2 = h.push (.cells (S_api_Wide.cs (⟨0, 0⟩ : S_api_Wide)).toArray 48) ∧ (∃ (b3 : Nat) (h4 : Heap), b3 = h2.size ∧ h4 = h2.push (.cells (S_api_Wide.cs (⟨0, 0⟩ : S_api_Wide)).toArray 48) ∧ (query_sum_l1 (⟨b1, 0, none⟩ : Addr) (⟨b3, 0, none⟩ : Addr) p0 (p0.len : Int) 0 k h4))

/-- quaestor query.minus -/
def query_minus (p0 : Int) (p1 : Int) (k : (Int × Bool) → Heap → Prop) (h : Heap) : Prop :=
 ∃ x1 : Int, x1 = (IntKind.i64.wrap (p0 - p1)) ∧ (k (x1, (((decide (x1 < p0)) == (decide (p1 > 0))))) h)

/-- quaestor query.rate -/
def query_rate_j1 (t4_1 : Addr) (t5_1 : Addr) (k : (Int × Int) → Heap → Prop) (h_1 : Heap) : Prop :=
 ∃ v1 : Int, cellH h_1 (t5_1.add 2) = some (.int .i64 v1) ∧ (∃ v2 : Int, cellH h_1 (t4_1.add 2) = some (.int .i64 v2) ∧ (query_minus v1 v2 (fun (r3 : Int × Bool) h4 => ∃ v5 : Int, cellH h4 (t5_1.add 1) = some (.int .i64 v5) ∧ (∃ v6 : Int, cellH h4 (t4_1.add 1) = some (.int .i64 v6) ∧ (query_minus v5 v6 (fun (r7 : Int × Bool) h8 => if ((!r3.2) || (!r7.2)) then (k (0, 19) h8) else (num_Floor r3.1 r7.1 (fun (r9 : Int × Int) h10 => k (r9.1, r9.2) h10) h8)) h4))) h_1))
def query_rate (p0 : Slc) (k : (Int × Int) → Heap → Prop) (h : Heap) : Prop :=
 ∃ a11 : Addr, p0.a = some a11 ∧ (0 : Int) ≤ 0 ∧ 0 < (p0.len : Int) ∧ (∃ v12 : S_api_Piece, CellsAt h (a11.add ((0 : Int).toNat * 5)) (S_api_Piece.cs v12) ∧ (∃ a13 : Addr, p0.a = some a13 ∧ (0 : Int) ≤ (IntKind.i64.wrap ((p0.len : Int) - 1)) ∧ (IntKind.i64.wrap ((p0.len : Int) - 1)) < (p0.len : Int) ∧ (∃ v14 : S_api_Piece, CellsAt h (a13.add ((IntKind.i64.wrap ((p0.len : Int) - 1)).toNat * 5)) (S_api_Piece.cs v14) ∧ ((∃ (b15 : Nat) (h16 : Heap), b15 = h.size ∧ h16 = h.push (.cells (S_api_Piece.cs (⟨ByteArray.empty, 0, 0, (⟨0, 0⟩ : S_api_Id)⟩ : S_api_Piece)).toArray 46) ∧ (CellsAt h16 (a13.add ((IntKind.i64.wrap ((p0.len : Int) - 1)).toNat * 5)) (S_api_Piece.cs v14) ∧ CellsAt h16 (a11.add ((0 : Int).toNat * 5)) (S_api_Piece.cs v12) ∧ (∃ (b19 : Nat) (h20 : Heap), b19 = h16.size ∧ h20 = h16.push (.cells (S_api_Piece.cs (⟨ByteArray.empty, 0, 0, (⟨0, 0⟩ : S_api_Id)⟩ : S_api_Piece)).toArray 46) ∧ (CellsAt h20 (a13.add ((IntKind.i64.wrap ((p0.len : Int) - 1)).toNat * 5)) (S_api_Piece.cs v14) ∧ CellsAt h20 (a11.add ((0 : Int).toNat * 5)) (S_api_Piece.cs v12) ∧ (∃ h23 : Heap, WrsAt h20 (⟨b15, 0, none⟩ : Addr) 5 ∧ h23 = setsH h20 (⟨b15, 0, none⟩ : Addr) 0 (S_api_Piece.cs v12) ∧ (CellsAt h23 (a13.add ((IntKind.i64.wrap ((p0.len : Int) - 1)).toNat * 5)) (S_api_Piece.cs v14) ∧ (∃ h25 : Heap, WrsAt h23 (⟨b19, 0, none⟩ : Addr) 5 ∧ h25 = setsH h23 (⟨b19, 0, none⟩ : Addr) 0 (S_api_Piece.cs v14) ∧ (query_rate_j1 (⟨b15, 0, none⟩ : Addr) (⟨b19, 0, none⟩ : Addr) k h25)))))))) ∧ (∃ (b26 : Nat) (h27 : Heap), b26 = h.size ∧ h27 = h.push (.cells (S_api_Piece.cs (⟨ByteArray.empty, 0, 0, (⟨0, 0⟩ : S_api_Id)⟩ : S_api_Piece)).toArray 46) ∧ (CellsAt h27 (a13.add ((IntKind.i64.wrap ((p0.len : Int) - 1)).toNat * 5)) (S_api_Piece.cs v14) ∧ CellsAt h27 (a11.add ((0 : Int).toNat * 5)) (S_api_Piece.cs v12) ∧ (∃ (b30 : Nat) (h31 : Heap), b30 = h27.size ∧ h31 = h27.push (.cells (S_api_Piece.cs (⟨ByteArray.empty, 0, 0, (⟨0, 0⟩ : S_api_Id)⟩ : S_api_Piece)).toArray 46) ∧ (CellsAt h31 (a13.add ((IntKind.i64.wrap ((p0.len : Int) - 1)).toNat * 5)) (S_api_Piece.cs v14) ∧ CellsAt h31 (a11.add ((0 : Int).toNat * 5)) (S_api_Piece.cs v12) ∧ (∃ h34 : Heap, WrsAt h31 (⟨b30, 0, none⟩ : Addr) 5 ∧ h34 = setsH h31 (⟨b30, 0, none⟩ : Addr) 0 (S_api_Piece.cs v12) ∧ (CellsAt h34 (a13.add ((IntKind.i64.wrap ((p0.len : Int) - 1)).toNat * 5)) (S_api_Piece.cs v14) ∧ (∃ h36 : Heap, WrsAt h34 (⟨b26, 0, none⟩ : Addr) 5 ∧ h36 = setsH h34 (⟨b26, 0, none⟩ : Addr) 0 (S_api_Piece.cs v14) ∧ (query_rate_j1 (⟨b30, 0, none⟩ : Addr) (⟨b26, 0, none⟩ : Addr) k h36))))))))))))

/-- quaestor query.each -/
def query_each_j2 (t1_2 : Int) (t11_2 : Slc) (t12_2 : Int) (t13_2 : Int) (t5_2 : Slc) (k : (Slc) → Heap → Prop) (nx1 : (Slc × Int) → Heap → Prop) (h_2 : Heap) : Prop :=
 nx1 (t5_2, (IntKind.i64.wrap (t13_2 + 1))) h_2
def query_each_g3 (t1_3 : Int) (t5_3 : Slc) (t7_3 : Addr) (t10_3 : Int) (t11_3 : Slc) (t12_3 : Int) (t13_3 : Int) (t40_3 : Bool) (k : (Slc) → Heap → Prop) (nx1 : (Slc × Int) → Heap → Prop) (h_3 : Heap) : Prop :=
 if t40_3 then (∃ a10 : Addr, t5_3.a = some a10 ∧ (0 : Int) ≤ (IntKind.i64.wrap ((t5_3.len : Int) - 1)) ∧ (IntKind.i64.wrap ((t5_3.len : Int) - 1)) < (t5_3.len : Int) ∧ (∃ v11 : S_api_Wide, CellsAt h_3 ((a10.add ((IntKind.i64.wrap ((t5_3.len : Int) - 1)).toNat * 4)).add 2) (S_api_Wide.cs v11) ∧ (∃ v12 : Int, cellH h_3 (t7_3.add 2) = some (.int .i64 v12) ∧ (num_Wide v12 (fun (r13 : S_api_Wide) h14 => CellsAt h14 ((a10.add ((IntKind.i64.wrap ((t5_3.len : Int) - 1)).toNat * 4)).add 2) (S_api_Wide.cs v11) ∧ (num_Add v11 r13 (fun (r16 : S_api_Wide × Int) h17 => ∃ a18 : Addr, t5_3.a = some a18 ∧ (0 : Int) ≤ (IntKind.i64.wrap ((t5_3.len : Int) - 1)) ∧ (IntKind.i64.wrap ((t5_3.len : Int) - 1)) < (t5_3.len : Int) ∧ (∃ h19 : Heap, WrsAt h17 ((a18.add ((IntKind.i64.wrap ((t5_3.len : Int) - 1)).toNat * 4)).add 2) 2 ∧ h19 = setsH h17 ((a18.add ((IntKind.i64.wrap ((t5_3.len : Int) - 1)).toNat * 4)).add 2) 0 (S_api_Wide.cs r16.1) ∧ (query_each_j2 t1_3 t11_3 t12_3 t13_3 t5_3 k nx1 h19))) h14)) h_3)))) else (∃ v20 : ByteArray, cellH h_3 t7_3 = some (.string v20) ∧ (∃ v21 : Int, cellH h_3 (t7_3.add 2) = some (.int .i64 v21) ∧ (num_Wide v21 (fun (r22 : S_api_Wide) h23 => cellH h23 t7_3 = some (.string v20) ∧ (∃ (b25 : Nat) (h26 : Heap), b25 = h23.size ∧ h26 = h23.push (.cells ((S_api_Row.cs (⟨v20, t10_3, r22⟩ : S_api_Row))).toArray 50) ∧ (App 50 4 40 [.string ByteArray.empty, .int .i64 0, .int .i64 0, .int .u64 0] h26 t5_3 1 ((S_api_Row.cs (⟨v20, t10_3, r22⟩ : S_api_Row))) (fun s27 h28 => query_each_j2 t1_3 t11_3 t12_3 t13_3 s27 k nx1 h28)))) h_3)))
def query_each_l1b (t1_1 : Int) (t11_1 : Slc) (t12_1 : Int) (t5_1 : Slc) (t13_1 : Int) (k : (Slc) → Heap → Prop) (nx1 : (Slc × Int) → Heap → Prop) (h_1 : Heap) : Prop :=
 if (decide (t13_1 < t12_1)) then (∃ a1 : Addr, t11_1.a = some a1 ∧ (0 : Int) ≤ t13_1 ∧ t13_1 < (t11_1.len : Int) ∧ (∃ v2 : S_api_Piece, CellsAt h_1 (a1.add (t13_1.toNat * 5)) (S_api_Piece.cs v2) ∧ (∃ (b3 : Nat) (h4 : Heap), b3 = h_1.size ∧ h4 = h_1.push (.cells (S_api_Piece.cs (⟨ByteArray.empty, 0, 0, (⟨0, 0⟩ : S_api_Id)⟩ : S_api_Piece)).toArray 46) ∧ (∃ h5 : Heap, WrsAt h4 (⟨b3, 0, none⟩ : Addr) 5 ∧ h5 = setsH h4 (⟨b3, 0, none⟩ : Addr) 0 (S_api_Piece.cs v2) ∧ (∃ v6 : Int, cellH h5 ((⟨b3, 0, none⟩ : Addr).add 1) = some (.int .i64 v6) ∧ (num_Floor v6 t1_1 (fun (r7 : Int × Int) h8 => ∃ x9 : Int, x9 = (IntKind.i64.wrap (r7.1 * t1_1)) ∧ (if (decide ((t5_1.len : Int) > 0)) then (∃ a29 : Addr, t5_1.a = some a29 ∧ (0 : Int) ≤ (IntKind.i64.wrap ((t5_1.len : Int) - 1)) ∧ (IntKind.i64.wrap ((t5_1.len : Int) - 1)) < (t5_1.len : Int) ∧ (∃ v30 : Int, cellH h8 ((a29.add ((IntKind.i64.wrap ((t5_1.len : Int) - 1)).toNat * 4)).add 1) = some (.int .i64 v30) ∧ (query_each_g3 t1_1 t5_1 (⟨b3, 0, none⟩ : Addr) x9 t11_1 t12_1 t13_1 (v30 == x9) k nx1 h8))) else (query_each_g3 t1_1 t5_1 (⟨b3, 0, none⟩ : Addr) x9 t11_1 t12_1 t13_1 false k nx1 h8))) h5)))))) else (k t5_1 h_1)
def query_each_l1 (t1_1 : Int) (t11_1 : Slc) (t12_1 : Int) (i5 : Slc) (i13 : Int) (k : (Slc) → Heap → Prop) (h : Heap) : Prop :=
 ∃ (I : (Slc × Int) → Heap → Prop) (μ : (Slc × Int) → Heap → Nat), I (i5, i13) h ∧ ∀ (t5_1 : Slc) (t13_1 : Int) (h : Heap), I (t5_1, t13_1) h → query_each_l1b t1_1 t11_1 t12_1 t5_1 t13_1 k (fun s h' => I s h' ∧ μ s h' < μ (t5_1, t13_1) h) h
def query_each (p0 : Slc) (p1 : Int) (k : (Slc) → Heap → Prop) (h : Heap) : Prop :=
 query_each_l1 p1 p0 (p0.len : Int) (⟨none, 0, 0⟩ : Slc) 0 k h

/-- slices.MinFunc   quaestor api.Piece quaestor api.Piece  -/
def slices_MinFunc_api_Piece_api_Piece__query_less_j3 (t0_3 : Slc) (t4_3 : Addr) (t5_3 : Addr) (t6_3 : Int) (k : (S_api_Piece) → Heap → Prop) (nx2 : (Int) → Heap → Prop) (h_3 : Heap) : Prop :=
 ∃ x8 : Int, x8 = (IntKind.i64.wrap (t6_3 + 1)) ∧ (nx2 x8 h_3)
def slices_MinFunc_api_Piece_api_Piece__query_less_l2b (t0_2 : Slc) (t4_2 : Addr) (t5_2 : Addr) (t6_2 : Int) (k : (S_api_Piece) → Heap → Prop) (nx2 : (Int) → Heap → Prop) (h_2 : Heap) : Prop :=
 if (decide (t6_2 < (t0_2.len : Int))) then (∃ a9 : Addr, t0_2.a = some a9 ∧ (0 : Int) ≤ t6_2 ∧ t6_2 < (t0_2.len : Int) ∧ (∃ v10 : S_api_Piece, CellsAt h_2 (a9.add (t6_2.toNat * 5)) (S_api_Piece.cs v10) ∧ (∃ v11 : S_api_Piece, CellsAt h_2 t5_2 (S_api_Piece.cs v11) ∧ (query_less v10 v11 (fun (r12 : Int) h13 => if (decide (r12 < 0)) then (∃ a14 : Addr, t0_2.a = some a14 ∧ (0 : Int) ≤ t6_2 ∧ t6_2 < (t0_2.len : Int) ∧ (∃ v15 : S_api_Piece, CellsAt h13 (a14.add (t6_2.toNat * 5)) (S_api_Piece.cs v15) ∧ (∃ h16 : Heap, WrsAt h13 t5_2 5 ∧ h16 = setsH h13 t5_2 0 (S_api_Piece.cs v15) ∧ (slices_MinFunc_api_Piece_api_Piece__query_less_j3 t0_2 t4_2 t5_2 t6_2 k nx2 h16)))) else (slices_MinFunc_api_Piece_api_Piece__query_less_j3 t0_2 t4_2 t5_2 t6_2 k nx2 h13)) h_2)))) else (∃ v17 : S_api_Piece, CellsAt h_2 t5_2 (S_api_Piece.cs v17) ∧ (∃ h18 : Heap, WrsAt h_2 t4_2 5 ∧ h18 = setsH h_2 t4_2 0 (S_api_Piece.cs v17) ∧ (∃ v19 : S_api_Piece, CellsAt h18 t4_2 (S_api_Piece.cs v19) ∧ k v19 h18)))
def slices_MinFunc_api_Piece_api_Piece__query_less_l2 (t0_2 : Slc) (t4_2 : Addr) (t5_2 : Addr) (i6 : Int) (k : (S_api_Piece) → Heap → Prop) (h : Heap) : Prop :=
 ∃ (I : Int → Heap → Prop) (μ : Int → Heap → Nat), I i6 h ∧ ∀ (t6_2 : Int) (h : Heap), I t6_2 h → slices_MinFunc_api_Piece_api_Piece__query_less_l2b t0_2 t4_2 t5_2 t6_2 k (fun s h' => I s h' ∧ μ s h' < μ t6_2 h) h
def slices_MinFunc_api_Piece_api_Piece__query_less_j1 (t0_1 : Slc) (t4_1 : Addr) (k : (S_api_Piece) → Heap → Prop) (h_1 : Heap) : Prop :=
 ∃ a3 : Addr, t0_1.a = some a3 ∧ (0 : Int) ≤ 0 ∧ 0 < (t0_1.len : Int) ∧ (∃ v4 : S_api_Piece, CellsAt h_1 (a3.add ((0 : Int).toNat * 5)) (S_api_Piece.cs v4) ∧ (∃ (b5 : Nat) (h6 : Heap), b5 = h_1.size ∧ h6 = h_1.push (.cells (S_api_Piece.cs (⟨ByteArray.empty, 0, 0, (⟨0, 0⟩ : S_api_Id)⟩ : S_api_Piece)).toArray 46) ∧ (∃ h7 : Heap, WrsAt h6 (⟨b5, 0, none⟩ : Addr) 5 ∧ h7 = setsH h6 (⟨b5, 0, none⟩ : Addr) 0 (S_api_Piece.cs v4) ∧ (slices_MinFunc_api_Piece_api_Piece__query_less_l2 t0_1 t4_1 (⟨b5, 0, none⟩ : Addr) 1 k h7))))
def slices_MinFunc_api_Piece_api_Piece__query_less (p0 : Slc) (k : (S_api_Piece) → Heap → Prop) (h : Heap) : Prop :=
 ∃ (b1 : Nat) (h2 : Heap), b1 = h.size ∧ h2 = h.push (.cells (S_api_Piece.cs (⟨ByteArray.empty, 0, 0, (⟨0, 0⟩ : S_api_Id)⟩ : S_api_Piece)).toArray 46) ∧ (if (decide ((p0.len : Int) < 1)) then (False) else (slices_MinFunc_api_Piece_api_Piece__query_less_j1 p0 (⟨b1, 0, none⟩ : Addr) k h2))

/-- slices.MaxFunc   quaestor api.Piece quaestor api.Piece  -/
def slices_MaxFunc_api_Piece_api_Piece__query_less_j3 (t0_3 : Slc) (t4_3 : Addr) (t5_3 : Addr) (t6_3 : Int) (k : (S_api_Piece) → Heap → Prop) (nx2 : (Int) → Heap → Prop) (h_3 : Heap) : Prop :=
 ∃ x8 : Int, x8 = (IntKind.i64.wrap (t6_3 + 1)) ∧ (nx2 x8 h_3)
def slices_MaxFunc_api_Piece_api_Piece__query_less_l2b (t0_2 : Slc) (t4_2 : Addr) (t5_2 : Addr) (t6_2 : Int) (k : (S_api_Piece) → Heap → Prop) (nx2 : (Int) → Heap → Prop) (h_2 : Heap) : Prop :=
 if (decide (t6_2 < (t0_2.len : Int))) then (∃ a9 : Addr, t0_2.a = some a9 ∧ (0 : Int) ≤ t6_2 ∧ t6_2 < (t0_2.len : Int) ∧ (∃ v10 : S_api_Piece, CellsAt h_2 (a9.add (t6_2.toNat * 5)) (S_api_Piece.cs v10) ∧ (∃ v11 : S_api_Piece, CellsAt h_2 t5_2 (S_api_Piece.cs v11) ∧ (query_less v10 v11 (fun (r12 : Int) h13 => if (decide (r12 > 0)) then (∃ a14 : Addr, t0_2.a = some a14 ∧ (0 : Int) ≤ t6_2 ∧ t6_2 < (t0_2.len : Int) ∧ (∃ v15 : S_api_Piece, CellsAt h13 (a14.add (t6_2.toNat * 5)) (S_api_Piece.cs v15) ∧ (∃ h16 : Heap, WrsAt h13 t5_2 5 ∧ h16 = setsH h13 t5_2 0 (S_api_Piece.cs v15) ∧ (slices_MaxFunc_api_Piece_api_Piece__query_less_j3 t0_2 t4_2 t5_2 t6_2 k nx2 h16)))) else (slices_MaxFunc_api_Piece_api_Piece__query_less_j3 t0_2 t4_2 t5_2 t6_2 k nx2 h13)) h_2)))) else (∃ v17 : S_api_Piece, CellsAt h_2 t5_2 (S_api_Piece.cs v17) ∧ (∃ h18 : Heap, WrsAt h_2 t4_2 5 ∧ h18 = setsH h_2 t4_2 0 (S_api_Piece.cs v17) ∧ (∃ v19 : S_api_Piece, CellsAt h18 t4_2 (S_api_Piece.cs v19) ∧ k v19 h18)))
def slices_MaxFunc_api_Piece_api_Piece__query_less_l2 (t0_2 : Slc) (t4_2 : Addr) (t5_2 : Addr) (i6 : Int) (k : (S_api_Piece) → Heap → Prop) (h : Heap) : Prop :=
 ∃ (I : Int → Heap → Prop) (μ : Int → Heap → Nat), I i6 h ∧ ∀ (t6_2 : Int) (h : Heap), I t6_2 h → slices_MaxFunc_api_Piece_api_Piece__query_less_l2b t0_2 t4_2 t5_2 t6_2 k (fun s h' => I s h' ∧ μ s h' < μ t6_2 h) h
def slices_MaxFunc_api_Piece_api_Piece__query_less_j1 (t0_1 : Slc) (t4_1 : Addr) (k : (S_api_Piece) → Heap → Prop) (h_1 : Heap) : Prop :=
 ∃ a3 : Addr, t0_1.a = some a3 ∧ (0 : Int) ≤ 0 ∧ 0 < (t0_1.len : Int) ∧ (∃ v4 : S_api_Piece, CellsAt h_1 (a3.add ((0 : Int).toNat * 5)) (S_api_Piece.cs v4) ∧ (∃ (b5 : Nat) (h6 : Heap), b5 = h_1.size ∧ h6 = h_1.push (.cells (S_api_Piece.cs (⟨ByteArray.empty, 0, 0, (⟨0, 0⟩ : S_api_Id)⟩ : S_api_Piece)).toArray 46) ∧ (∃ h7 : Heap, WrsAt h6 (⟨b5, 0, none⟩ : Addr) 5 ∧ h7 = setsH h6 (⟨b5, 0, none⟩ : Addr) 0 (S_api_Piece.cs v4) ∧ (slices_MaxFunc_api_Piece_api_Piece__query_less_l2 t0_1 t4_1 (⟨b5, 0, none⟩ : Addr) 1 k h7))))
def slices_MaxFunc_api_Piece_api_Piece__query_less (p0 : Slc) (k : (S_api_Piece) → Heap → Prop) (h : Heap) : Prop :=
 ∃ (b1 : Nat) (h2 : Heap), b1 = h.size ∧ h2 = h.push (.cells (S_api_Piece.cs (⟨ByteArray.empty, 0, 0, (⟨0, 0⟩ : S_api_Id)⟩ : S_api_Piece)).toArray 46) ∧ (if (decide ((p0.len : Int) < 1)) then (False) else (slices_MaxFunc_api_Piece_api_Piece__query_less_j1 p0 (⟨b1, 0, none⟩ : Addr) k h2))

/-- quaestor query.rows -/
def query_rows_j1 (t6_1 : Addr) (k : (Slc × Int) → Heap → Prop) (h_1 : Heap) : Prop :=
 ∃ v8 : S_api_Row, CellsAt h_1 t6_1 (S_api_Row.cs v8) ∧ (∃ (b9 : Nat) (h10 : Heap), b9 = h_1.size ∧ h10 = h_1.push (.cells ((S_api_Row.cs v8)).toArray 50) ∧ (k ((⟨some ⟨b9, 0, none⟩, 1, 1⟩ : Slc), 0) h10))
def query_rows_l2b (t25_2 : Slc) (t26_2 : Int) (t7_2 : Slc) (t27_2 : Int) (k : (Slc × Int) → Heap → Prop) (nx2 : (Slc × Int) → Heap → Prop) (h_2 : Heap) : Prop :=
 if (decide (t27_2 < t26_2)) then (∃ a12 : Addr, t25_2.a = some a12 ∧ (0 : Int) ≤ t27_2 ∧ t27_2 < (t25_2.len : Int) ∧ (∃ v13 : S_api_Piece, CellsAt h_2 (a12.add (t27_2.toNat * 5)) (S_api_Piece.cs v13) ∧ (∃ (b14 : Nat) (h15 : Heap), b14 = h_2.size ∧ h15 = h_2.push (.cells (S_api_Piece.cs (⟨ByteArray.empty, 0, 0, (⟨0, 0⟩ : S_api_Id)⟩ : S_api_Piece)).toArray 46) ∧ (∃ h16 : Heap, WrsAt h15 (⟨b14, 0, none⟩ : Addr) 5 ∧ h16 = setsH h15 (⟨b14, 0, none⟩ : Addr) 0 (S_api_Piece.cs v13) ∧ (∃ v17 : ByteArray, cellH h16 (⟨b14, 0, none⟩ : Addr) = some (.string v17) ∧ (∃ v18 : Int, cellH h16 ((⟨b14, 0, none⟩ : Addr).add 1) = some (.int .i64 v18) ∧ (∃ v19 : Int, cellH h16 ((⟨b14, 0, none⟩ : Addr).add 2) = some (.int .i64 v19) ∧ (num_Wide v19 (fun (r20 : S_api_Wide) h21 => cellH h21 ((⟨b14, 0, none⟩ : Addr).add 1) = some (.int .i64 v18) ∧ cellH h21 (⟨b14, 0, none⟩ : Addr) = some (.string v17) ∧ (∃ (b24 : Nat) (h25 : Heap), b24 = h21.size ∧ h25 = h21.push (.cells ((S_api_Row.cs (⟨v17, v18, r20⟩ : S_api_Row))).toArray 50) ∧ (App 50 4 40 [.string ByteArray.empty, .int .i64 0, .int .i64 0, .int .u64 0] h25 t7_2 1 ((S_api_Row.cs (⟨v17, v18, r20⟩ : S_api_Row))) (fun s26 h27 => nx2 (s26, (IntKind.i64.wrap (t27_2 + 1))) h27)))) h16)))))))) else (k (t7_2, 0) h_2)
def query_rows_l2 (t25_2 : Slc) (t26_2 : Int) (i7 : Slc) (i27 : Int) (k : (Slc × Int) → Heap → Prop) (h : Heap) : Prop :=
 ∃ (I : (Slc × Int) → Heap → Prop) (μ : (Slc × Int) → Heap → Nat), I (i7, i27) h ∧ ∀ (t7_2 : Slc) (t27_2 : Int) (h : Heap), I (t7_2, t27_2) h → query_rows_l2b t25_2 t26_2 t7_2 t27_2 k (fun s h' => I s h' ∧ μ s h' < μ (t7_2, t27_2) h) h
def query_rows (p0 : S_api_Query) (p1 : Slc) (k : (Slc × Int) → Heap → Prop) (h : Heap) : Prop :=
 ∃ (b1 : Nat) (h2 : Heap), b1 = h.size ∧ h2 = h.push (.cells (S_api_Query.cs p0).toArray 23) ∧ (∃ a3 : Addr, p1.a = some a3 ∧ (0 : Int) ≤ 0 ∧ 0 < (p1.len : Int) ∧ (∃ v4 : ByteArray, cellH h2 (a3.add ((0 : Int).toNat * 5)) = some (.string v4) ∧ (∃ (b5 : Nat) (h6 : Heap), b5 = h2.size ∧ h6 = h2.push (.cells (S_api_Row.cs (⟨ByteArray.empty, 0, (⟨0, 0⟩ : S_api_Wide)⟩ : S_api_Row)).toArray 50) ∧ (∃ h7 : Heap, WrsAt h6 (⟨b5, 0, none⟩ : Addr) 4 ∧ h7 = setsH h6 (⟨b5, 0, none⟩ : Addr) 0 (S_api_Row.cs (⟨v4, 0, (⟨0, 0⟩ : S_api_Wide)⟩ : S_api_Row)) ∧ (∃ v11 : Int, cellH h7 ((⟨b1, 0, none⟩ : Addr).add 3) = some (.int .i64 v11) ∧ (if (v11 == 0) then (query_rows_l2 p1 (p1.len : Int) (⟨none, 0, 0⟩ : Slc) 0 k h7) else (if (v11 == 1) then (num_Wide (p1.len : Int) (fun (r28 : S_api_Wide) h29 => ∃ h30 : Heap, WrsAt h29 ((⟨b5, 0, none⟩ : Addr).add 2) 2 ∧ h30 = setsH h29 ((⟨b5, 0, none⟩ : Addr).add 2) 0 (S_api_Wide.cs r28) ∧ (query_rows_j1 (⟨b5, 0, none⟩ : Addr) k h30)) h7) else (if (v11 == 2) then (query_sum p1 (fun (r31 : S_api_Wide) h32 => ∃ h33 : Heap, WrsAt h32 ((⟨b5, 0, none⟩ : Addr).add 2) 2 ∧ h33 = setsH h32 ((⟨b5, 0, none⟩ : Addr).add 2) 0 (S_api_Wide.cs r31) ∧ (query_rows_j1 (⟨b5, 0, none⟩ : Addr) k h33)) h7) else (if (v11 == 3) then (slices_MinFunc_api_Piece_api_Piece__query_less p1 (fun (r34 : S_api_Piece) h35 => num_Wide r34.f_V (fun (r36 : S_api_Wide) h37 => ∃ h38 : Heap, WrsAt h37 ((⟨b5, 0, none⟩ : Addr).add 2) 2 ∧ h38 = setsH h37 ((⟨b5, 0, none⟩ : Addr).add 2) 0 (S_api_Wide.cs r36) ∧ (query_rows_j1 (⟨b5, 0, none⟩ : Addr) k h38)) h35) h7) else (if (v11 == 4) then (slices_MaxFunc_api_Piece_api_Piece__query_less p1 (fun (r39 : S_api_Piece) h40 => num_Wide r39.f_V (fun (r41 : S_api_Wide) h42 => ∃ h43 : Heap, WrsAt h42 ((⟨b5, 0, none⟩ : Addr).add 2) 2 ∧ h43 = setsH h42 ((⟨b5, 0, none⟩ : Addr).add 2) 0 (S_api_Wide.cs r41) ∧ (query_rows_j1 (⟨b5, 0, none⟩ : Addr) k h43)) h40) h7) else (if (v11 == 5) then (if (decide ((p1.len : Int) < 2)) then (k ((⟨none, 0, 0⟩ : Slc), 0) h7) else (query_rate p1 (fun (r44 : Int × Int) h45 => if (r44.2 != 0) then (k ((⟨none, 0, 0⟩ : Slc), r44.2) h45) else (num_Wide r44.1 (fun (r46 : S_api_Wide) h47 => ∃ h48 : Heap, WrsAt h47 ((⟨b5, 0, none⟩ : Addr).add 2) 2 ∧ h48 = setsH h47 ((⟨b5, 0, none⟩ : Addr).add 2) 0 (S_api_Wide.cs r46) ∧ (query_rows_j1 (⟨b5, 0, none⟩ : Addr) k h48)) h45)) h7)) else (∃ v49 : Int, cellH h7 ((⟨b1, 0, none⟩ : Addr).add 4) = some (.int .i64 v49) ∧ (query_each p1 v49 (fun (r50 : Slc) h51 => k (r50, 0) h51) h7)))))))))))))

/-- quaestor query.Run -/
def query_Run_l1b (t3_1 : Addr) (t26_1 : Slc) (t27_1 : Int) (t10_1 : Slc) (t28_1 : Int) (k : (Slc × Int) → Heap → Prop) (nx1 : (Slc × Int) → Heap → Prop) (h_1 : Heap) : Prop :=
 if (decide (t28_1 < t27_1)) then (∃ a8 : Addr, t26_1.a = some a8 ∧ (0 : Int) ≤ t28_1 ∧ t28_1 < (t26_1.len : Int) ∧ (∃ v9 : Slc, cellH h_1 (a8.add (t28_1.toNat * 1)) = some (Slc.v v9) ∧ (∃ v10 : S_api_Query, CellsAt h_1 t3_1 (S_api_Query.cs v10) ∧ (query_rows v10 v9 (fun (r11 : Slc × Int) h12 => if (r11.2 != 0) then (k ((⟨none, 0, 0⟩ : Slc), r11.2) h12) else (∃ l15 : List Value, SlcAt h12 r11.1 l15 ∧ App 50 4 40 [.string ByteArray.empty, .int .i64 0, .int .i64 0, .int .u64 0] h12 t10_1 r11.1.len l15 (fun s13 h14 => nx1 (s13, (IntKind.i64.wrap (t28_1 + 1))) h14))) h_1)))) else (k (t10_1, 0) h_1)
def query_Run_l1 (t3_1 : Addr) (t26_1 : Slc) (t27_1 : Int) (i10 : Slc) (i28 : Int) (k : (Slc × Int) → Heap → Prop) (h : Heap) : Prop :=
 ∃ (I : (Slc × Int) → Heap → Prop) (μ : (Slc × Int) → Heap → Nat), I (i10, i28) h ∧ ∀ (t10_1 : Slc) (t28_1 : Int) (h : Heap), I (t10_1, t28_1) h → query_Run_l1b t3_1 t26_1 t27_1 t10_1 t28_1 k (fun s h' => I s h' ∧ μ s h' < μ (t10_1, t28_1) h) h
def query_Run (p0 : S_api_Query) (p1 : Slc) (p2 : Int) (k : (Slc × Int) → Heap → Prop) (h : Heap) : Prop :=
 ∃ (b1 : Nat) (h2 : Heap), b1 = h.size ∧ h2 = h.push (.cells (S_api_Query.cs p0).toArray 23) ∧ (∃ v3 : S_api_Query, CellsAt h2 (⟨b1, 0, none⟩ : Addr) (S_api_Query.cs v3) ∧ (query_Ask v3 p1 p2 (fun (r4 : Slc × Int) h5 => if (r4.2 != 0) then (k ((⟨none, 0, 0⟩ : Slc), r4.2) h5) else (query_groups r4.1 (fun (r6 : Slc) h7 => query_Run_l1 (⟨b1, 0, none⟩ : Addr) r6 (r6.len : Int) (⟨none, 0, 0⟩ : Slc) 0 k h7) h5)) h2))

theorem maps_Values_map_piece_place_api_Piece_piece_place_api_Piece_ok : CallOk Go.Proofs.Tryz.prog 38 := ⟨_, Go.Proofs.Tryz.func38, by kernel_rfl, by kernel_rfl⟩
theorem maps_Values_map_piece_place_api_Piece_piece_place_api_Piece_ref (p0 : Option Nat) (k : (Value) → Heap → Prop) (h : Heap) (H : maps_Values_map_piece_place_api_Piece_piece_place_api_Piece p0 k h) : CallsH Go.Proofs.Tryz.prog 38 #[.map p0] h (fun v h' => ∃ r : Value, v = r ∧ k r h') := by
 refine f_enter (N := 4) Go.Proofs.Tryz.func38 rfl rfl rfl (fun w0 => ?_)
 unfold maps_Values_map_piece_place_api_Piece_piece_place_api_Piece at H
 refine cW [(0, .map p0)] ?_
 refine c_seq (c_region ?_)
 obtain ⟨b1, h2, eb1, eh2, H⟩ := H
 refine w_h (h_box rfl rfl eb1 eh2) rfl rfl ?_
 refine wP tok ?_
 refine w_end (x_seq ?_)
 refine c_seq (c_region ?_)
 refine w_y (y_mkf rfl rfl) rfl rfl ?_
 refine wP tok ?_
 refine w_end (x_seq (c_ret ?_))
 exact x_ret _ rfl _ rfl ⟨(Value.func (.func 67) #[] #[pt b1]), rfl, H⟩

theorem piece_Between_ok : CallOk Go.Proofs.Tryz.prog 15 := ⟨_, Go.Proofs.Tryz.func15, by kernel_rfl, by kernel_rfl⟩
theorem piece_Between_ref (p0 : Slc) (p1 : Int) (p2 : Int) (k : (Slc) → Heap → Prop) (h : Heap) (H : piece_Between p0 p1 p2 k h) : CallsH Go.Proofs.Tryz.prog 15 #[Slc.v p0, .int .i64 p1, .int .i64 p2] h (fun v h' => ∃ r : Slc, v = Slc.v r ∧ k r h') := by
 refine f_enter (N := 32) Go.Proofs.Tryz.func15 rfl rfl rfl (fun w0 => ?_)
 unfold piece_Between at H
 refine cW [(0, Slc.v p0), (1, .int .i64 p1), (2, .int .i64 p2)] ?_
 refine c_seq (c_region ?_)
 refine wP tok ?_
 refine w_end (x_seq ?_)
 refine c_seq (c_region ?_)
 refine wP tok ?_
 refine w_end (x_seq ?_)
 refine c_seq (c_seq (c_region ?_))
 iterate 3 refine wP tok ?_
 refine w_end (x_seq (c_block ?_))
 obtain ⟨I1, μ1, H0, HI⟩ := H
 refine c_loop (σ := Slc × Int) (fun (s : Slc × Int) => [(7, Slc.v s.1), (12, .int .i64 s.2), (1, .int .i64 p1), (2, .int .i64 p2), (10, Slc.v p0), (11, .int .i64 (p0.len : Int))]) I1 μ1 ((⟨none, 0, 0⟩ : Slc), 0) H0 ⟨rfl, rfl, rfl, rfl, rfl, rfl, trivial⟩ ?_
 rintro ⟨t7_1, t12_1⟩ h_1 H
 replace H := HI t7_1 t12_1 h_1 H
 unfold piece_Between_l1b at H
 refine cW [(7, Slc.v t7_1), (12, .int .i64 t12_1), (1, .int .i64 p1), (2, .int .i64 p2), (10, Slc.v p0), (11, .int .i64 (p0.len : Int))] ?_
 refine c_seq (c_region ?_)
 refine wP tok ?_
 refine w_end (x_seq (c_seq ?_))
 refine c_if H rfl (fun H => ?_) (fun H => ?_)
 ·
  refine c_skip (x_seq ?_)
  refine c_seqJ (α := Slc) (fun (s : Slc) => [(7, Slc.v s), (1, .int .i64 p1), (2, .int .i64 p2), (10, Slc.v p0), (11, .int .i64 (p0.len : Int)), (12, .int .i64 t12_1)]) (fun (s : Slc) h => piece_Between_j2 p1 p2 p0 (p0.len : Int) t12_1 s k (fun s h' => I1 s h' ∧ μ1 s h' < μ1 (t7_1, t12_1) h_1) h) ?_ ?_
  ·
   rintro t7_2 h_2 H
   unfold piece_Between_j2 at H
   refine cW [(7, Slc.v t7_2), (1, .int .i64 p1), (2, .int .i64 p2), (10, Slc.v p0), (11, .int .i64 (p0.len : Int)), (12, .int .i64 t12_1)] ?_
   refine c_region ?_
   iterate 2 refine wP tok ?_
   refine w_end ?_
   exact xJ (t7_2, (IntKind.i64.wrap (t12_1 + 1))) H
  ·
   refine c_block (c_seq (c_region ?_))
   obtain ⟨a1, ha1, la1, ua1, H⟩ := H
   refine w_y (y_ixa' tok rfl rfl ha1 rfl rfl rfl la1 ua1) rfl rfl ?_
   obtain ⟨v2, hv2, H⟩ := H
   refine w_y (y_lda tok rfl rfl rfl rfl rfl hv2) rfl rfl ?_
   obtain ⟨b3, h4, eb3, eh4, H⟩ := H
   refine w_h (h_alloc tok rfl rfl eb3 eh4) rfl rfl ?_
   obtain ⟨h5, wh5, eh5, H⟩ := H
   refine w_h (h_sts tok rfl rfl rfl rfl rfl (oneC (by kernel_rfl)) wh5 eh5) rfl rfl ?_
   refine w_end (x_seq ?_)
   refine c_seq (c_region ?_)
   refine wP tok ?_
   obtain ⟨v6, hv6, H⟩ := H
   refine w_y (y_ld tok rfl rfl rfl rfl hv6) rfl rfl ?_
   iterate 3 refine wP tok ?_
   refine w_cut 5 (α := Bool) (fun (s : Bool) => [(25, .bool s), (1, .int .i64 p1), (2, .int .i64 p2), (7, Slc.v t7_1), (9, pt b3), (10, Slc.v p0), (11, .int .i64 (p0.len : Int)), (12, .int .i64 t12_1)]) (fun (s : Bool) h => piece_Between_g3 p1 p2 t7_1 (ad b3) p0 (p0.len : Int) t12_1 s k (fun s h' => I1 s h' ∧ μ1 s h' < μ1 (t7_1, t12_1) h_1) h) ?_ ?_
   ·
    rintro t25_3 h_3 H
    unfold piece_Between_g3 at H
    refine wW [(25, .bool t25_3), (1, .int .i64 p1), (2, .int .i64 p2), (7, Slc.v t7_1), (9, pt b3), (10, Slc.v p0), (11, .int .i64 (p0.len : Int)), (12, .int .i64 t12_1)] ?_
    refine w_end (x_seq ?_)
    refine c_if H rfl (fun H => ?_) (fun H => ?_)
    ·
     refine c_region ?_
     refine wP tok ?_
     obtain ⟨v7, hv7, H⟩ := H
     refine w_y (y_lda tok rfl rfl rfl rfl rfl hv7) rfl rfl ?_
     obtain ⟨b8, h9, eb8, eh9, H⟩ := H
     refine w_h (h_bs tok rfl rfl rfl rfl rfl rfl rfl eb8 eh9) rfl rfl ?_
     refine w_a (a_app (s := t7_1) (r := (⟨some ⟨b8, 0, none⟩, 1, 1⟩ : Slc)) tok rfl rfl rfl rfl rfl (slcAt_push eb8 eh9) H) rfl rfl ?_
     rintro _ h11 ⟨s10, rfl, H⟩
     refine wP tok ?_
     refine w_end ?_
     refine x_blk ?_
     exact xJ s10 H
    ·
     refine c_skip ?_
     refine x_blk ?_
     exact xJ t7_1 H
   ·
    refine w_gif (d := 20) H rfl (fun H => ?_) (fun H => ?_)
    ·
     refine wP tok ?_
     obtain ⟨v12, hv12, H⟩ := H
     refine w_y (y_ld tok rfl rfl rfl rfl hv12) rfl rfl ?_
     iterate 3 refine wP tok ?_
     exact wJ (decide (v12 ≤ p2)) H
    ·
     iterate 4 refine w_skip rfl rfl ?_
     refine wP tok ?_
     exact wJ false H
 ·
  refine c_exit ?_
  refine x_te (x_te ?_)
  refine x_bh ?_
  refine x_seq (c_seq (c_region ?_))
  iterate 2 refine wP tok ?_
  refine w_end (x_seq ?_)
  refine cW [(6, Slc.v t7_1)] ?_
  refine c_ret ?_
  exact x_ret _ rfl _ rfl ⟨t7_1, rfl, H⟩

theorem num_Wide_ok : CallOk Go.Proofs.Tryz.prog 44 := ⟨_, Go.Proofs.Tryz.func44, by kernel_rfl, by kernel_rfl⟩
theorem num_Wide_ref (p0 : Int) (k : (S_api_Wide) → Heap → Prop) (h : Heap) (H : num_Wide p0 k h) : CallsH Go.Proofs.Tryz.prog 44 #[.int .i64 p0] h (fun v h' => ∃ r : S_api_Wide, v = .agg (S_api_Wide.cs r).toArray ∧ k r h') := by
 refine f_enter (N := 8) Go.Proofs.Tryz.func44 rfl rfl rfl (fun w0 => ?_)
 unfold num_Wide at H
 refine cW [(0, .int .i64 p0)] ?_
 refine c_seq (c_region ?_)
 obtain ⟨b1, h2, eb1, eh2, H⟩ := H
 refine w_h (h_alloc tok rfl rfl eb1 eh2) rfl rfl ?_
 refine w_end (x_seq ?_)
 refine c_seq (c_region ?_)
 iterate 4 refine wP tok ?_
 refine w_y (y_build tok rfl rfl rfl rfl rfl) rfl rfl ?_
 obtain ⟨h3, wh3, eh3, H⟩ := H
 refine w_h (h_sts tok rfl rfl rfl rfl rfl (oneC (by kernel_rfl)) wh3 eh3) rfl rfl ?_
 refine w_end (x_seq (c_ret ?_))
 obtain ⟨v4, hv4, H⟩ := H
 exact x_retc tok _ rfl [.agg (S_api_Wide.cs v4).toArray] ⟨⟨_, _, rfl, rfl, .inr ⟨rfl, _, rfl, rfl, hv4⟩⟩, trivial⟩ ⟨v4, rfl, H⟩

theorem num_Add_ok : CallOk Go.Proofs.Tryz.prog 74 := ⟨_, Go.Proofs.Tryz.func74, by kernel_rfl, by kernel_rfl⟩
theorem num_Add_ref (p0 : S_api_Wide) (p1 : S_api_Wide) (k : (S_api_Wide × Int) → Heap → Prop) (h : Heap) (H : num_Add p0 p1 k h) : CallsH Go.Proofs.Tryz.prog 74 #[.agg (S_api_Wide.cs p0).toArray, .agg (S_api_Wide.cs p1).toArray] h (fun v h' => ∃ r : S_api_Wide × Int, v = .tuple #[.agg (S_api_Wide.cs r.1).toArray, .int .i64 r.2] ∧ k r h') := by
 refine f_enter (N := 52) Go.Proofs.Tryz.func74 rfl rfl rfl (fun w0 => ?_)
 unfold num_Add at H
 refine cW [(0, .agg (S_api_Wide.cs p0).toArray), (1, .agg (S_api_Wide.cs p1).toArray)] ?_
 refine c_seq (c_region ?_)
 obtain ⟨b1, h2, eb1, eh2, H⟩ := H
 refine w_h (h_box rfl rfl eb1 eh2) rfl rfl ?_
 obtain ⟨b3, h4, eb3, eh4, H⟩ := H
 refine w_h (h_box rfl rfl eb3 eh4) rfl rfl ?_
 obtain ⟨b5, h6, eb5, eh6, H⟩ := H
 refine w_h (h_alloc tok rfl rfl eb5 eh6) rfl rfl ?_
 refine wP tok ?_
 refine w_end (x_seq ?_)
 refine c_seq (c_region ?_)
 refine wP tok ?_
 obtain ⟨v7, hv7, H⟩ := H
 refine w_y (y_ld tok rfl rfl rfl rfl hv7) rfl rfl ?_
 refine wP tok ?_
 obtain ⟨v8, hv8, H⟩ := H
 refine w_y (y_ld tok rfl rfl rfl rfl hv8) rfl rfl ?_
 obtain ⟨hc9, H⟩ := H
 refine w_y (y_ext (add_run v7 v8 0 Go.Proofs.Tryz.func91 (by kernel_rfl) (by kernel_rfl) (by kernel_rfl) (by kernel_rfl) hc9) rfl rfl) rfl rfl ?_
 iterate 3 refine wP tok ?_
 obtain ⟨x10, ex10, H⟩ := H
 refine w_pe tok rfl (congrArg (fun z => (.int .u64 z : Value)) ex10) rfl rfl ?_
 obtain ⟨x11, ex11, H⟩ := H
 refine w_pe tok rfl (congrArg (fun z => (.int .u64 z : Value)) ex11) rfl rfl ?_
 refine w_end (x_seq ?_)
 refine cW [(2, pt b1), (3, pt b3), (4, pt b5), (6, .int .u64 x10), (7, .int .u64 x11)] ?_
 refine c_seq (c_region ?_)
 refine wP tok ?_
 obtain ⟨v12, hv12, H⟩ := H
 refine w_y (y_ld tok rfl rfl rfl rfl hv12) rfl rfl ?_
 iterate 2 refine wP tok ?_
 obtain ⟨v13, hv13, H⟩ := H
 refine w_y (y_ld tok rfl rfl rfl rfl hv13) rfl rfl ?_
 iterate 2 refine wP tok ?_
 obtain ⟨hc14, H⟩ := H
 refine w_y (y_ext (add_run (IntKind.u64.wrap v12) (IntKind.u64.wrap v13) x11 Go.Proofs.Tryz.func91 (by kernel_rfl) (by kernel_rfl) (by kernel_rfl) (by kernel_rfl) hc14) rfl rfl) rfl rfl ?_
 iterate 3 refine wP tok ?_
 obtain ⟨x15, ex15, H⟩ := H
 refine w_pe tok rfl (congrArg (fun z => (.int .u64 z : Value)) ex15) rfl rfl ?_
 obtain ⟨x16, ex16, H⟩ := H
 refine w_pe tok rfl (congrArg (fun z => (.int .u64 z : Value)) ex16) rfl rfl ?_
 refine w_end (x_seq ?_)
 refine cW [(2, pt b1), (3, pt b3), (4, pt b5), (6, .int .u64 x10), (8, .int .u64 x15)] ?_
 refine c_seq (c_region ?_)
 iterate 3 refine wP tok ?_
 refine w_y (y_build tok rfl rfl rfl rfl rfl) rfl rfl ?_
 obtain ⟨b17, h18, eb17, eh18, H⟩ := H
 refine w_h (h_alloc tok rfl rfl eb17 eh18) rfl rfl ?_
 obtain ⟨h19, wh19, eh19, H⟩ := H
 refine w_h (h_sts tok rfl rfl rfl rfl rfl (oneC (by kernel_rfl)) wh19 eh19) rfl rfl ?_
 refine w_end (x_seq ?_)
 refine c_seq (c_seq (c_region ?_))
 refine wP tok ?_
 obtain ⟨v20, hv20, H⟩ := H
 refine w_y (y_ld tok rfl rfl rfl rfl hv20) rfl rfl ?_
 iterate 2 refine wP tok ?_
 obtain ⟨v21, hv21, H⟩ := H
 refine w_y (y_ld tok rfl rfl rfl rfl hv21) rfl rfl ?_
 iterate 3 refine wP tok ?_
 refine w_cut 8 (α := Bool) (fun (s : Bool) => [(49, .bool s), (4, pt b5), (10, pt b17)]) (fun (s : Bool) h => num_Add_g1 (ad b5) (ad b17) s k h) ?_ ?_
 ·
  rintro t49_1 h_1 H
  unfold num_Add_g1 at H
  refine wW [(49, .bool t49_1), (4, pt b5), (10, pt b17)] ?_
  refine w_end (x_seq ?_)
  refine c_if H rfl (fun H => ?_) (fun H => ?_)
  ·
   refine c_seq (c_region ?_)
   refine w_y (y_build tok rfl rfl rfl rfl rfl) rfl rfl ?_
   obtain ⟨h22, wh22, eh22, H⟩ := H
   refine w_h (h_sts tok rfl rfl rfl rfl rfl (oneC (by kernel_rfl)) wh22 eh22) rfl rfl ?_
   refine wP tok ?_
   refine w_end (x_seq ?_)
   refine c_ret (x_tr ?_)
   obtain ⟨v23, hv23, H⟩ := H
   exact x_retc tok _ rfl [.agg (S_api_Wide.cs v23).toArray, .int .i64 19] ⟨⟨_, _, rfl, rfl, .inr ⟨rfl, _, rfl, rfl, hv23⟩⟩, rfl, trivial⟩ ⟨(v23, 19), rfl, H⟩
  ·
   refine c_skip (x_seq ?_)
   refine c_seq (c_region ?_)
   obtain ⟨v24, hv24, H⟩ := H
   refine w_y (y_lda tok rfl rfl rfl rfl rfl hv24) rfl rfl ?_
   obtain ⟨h25, wh25, eh25, H⟩ := H
   refine w_h (h_sts tok rfl rfl rfl rfl rfl (oneC (by kernel_rfl)) wh25 eh25) rfl rfl ?_
   refine wP tok ?_
   refine w_end (x_seq (c_ret ?_))
   obtain ⟨v26, hv26, H⟩ := H
   exact x_retc tok _ rfl [.agg (S_api_Wide.cs v26).toArray, .int .i64 0] ⟨⟨_, _, rfl, rfl, .inr ⟨rfl, _, rfl, rfl, hv26⟩⟩, rfl, trivial⟩ ⟨(v26, 0), rfl, H⟩
 ·
  refine w_gif (d := 41) H rfl (fun H => ?_) (fun H => ?_)
  ·
   refine wP tok ?_
   obtain ⟨v27, hv27, H⟩ := H
   refine w_y (y_ld tok rfl rfl rfl rfl hv27) rfl rfl ?_
   iterate 2 refine wP tok ?_
   obtain ⟨v28, hv28, H⟩ := H
   refine w_y (y_ld tok rfl rfl rfl rfl hv28) rfl rfl ?_
   iterate 3 refine wP tok ?_
   exact wJ ((shr .i64 v27 (63 : Int).toNat) != (shr .i64 v28 (63 : Int).toNat)) H
  ·
   iterate 7 refine w_skip rfl rfl ?_
   refine wP tok ?_
   exact wJ false H

theorem num_Floor_ok : CallOk Go.Proofs.Tryz.prog 76 := ⟨_, Go.Proofs.Tryz.func76, by kernel_rfl, by kernel_rfl⟩
theorem num_Floor_ref (p0 : Int) (p1 : Int) (k : (Int × Int) → Heap → Prop) (h : Heap) (H : num_Floor p0 p1 k h) : CallsH Go.Proofs.Tryz.prog 76 #[.int .i64 p0, .int .i64 p1] h (fun v h' => ∃ r : Int × Int, v = .tuple #[.int .i64 r.1, .int .i64 r.2] ∧ k r h') := by
 refine f_enter (N := 34) Go.Proofs.Tryz.func76 rfl rfl rfl (fun w0 => ?_)
 unfold num_Floor at H
 refine cW [(0, .int .i64 p0), (1, .int .i64 p1)] ?_
 refine c_seq (c_region ?_)
 iterate 2 refine wP tok ?_
 refine w_end (x_seq ?_)
 refine c_seq (c_block ?_)
 refine c_seq (c_region ?_)
 iterate 3 refine wP tok ?_
 refine w_end (x_seq ?_)
 refine c_if H rfl (fun H => ?_) (fun H => ?_)
 ·
  refine c_seq (c_region ?_)
  iterate 2 refine wP tok ?_
  refine w_end (x_seq (c_ret ?_))
  refine x_br ?_
  refine x_tr ?_
  exact x_ret _ rfl _ rfl ⟨(0, 1), rfl, H⟩
 ·
  refine c_seq (c_region ?_)
  iterate 3 refine wP tok ?_
  refine w_cutU 3 [(16, .bool ((p0 == (-9223372036854775808)) && (p1 == (-1)))), (0, .int .i64 p0), (1, .int .i64 p1)] ?_ ?_
  ·
   refine wP tok ?_
   refine w_end (x_seq ?_)
   refine c_if H rfl (fun H => ?_) (fun H => ?_)
   ·
    refine c_seq (c_region ?_)
    iterate 2 refine wP tok ?_
    refine w_end (x_seq (c_ret ?_))
    refine x_br ?_
    refine x_tr ?_
    exact x_ret _ rfl _ rfl ⟨(0, 19), rfl, H⟩
   ·
    refine c_skip ?_
    refine x_blk ?_
    refine x_seq (c_seq (c_region ?_))
    iterate 2 refine wP tok ?_
    obtain ⟨z1, H⟩ := H
    refine w_y (y_quo rfl rfl rfl z1) rfl rfl ?_
    obtain ⟨x2, ex2, H⟩ := H
    refine w_pe tok rfl (congrArg (fun z => (.int .i64 z : Value)) ex2) rfl rfl ?_
    refine w_end (x_seq ?_)
    refine c_seqJ (α := Int) (fun (s : Int) => [(6, .int .i64 s)]) (fun (s : Int) h => num_Floor_j1 s k h) ?_ ?_
    ·
     rintro t6_1 h_1 H
     unfold num_Floor_j1 at H
     refine cW [(6, .int .i64 t6_1)] ?_
     refine c_seq (c_region ?_)
     iterate 3 refine wP tok ?_
     refine w_end (x_seq (c_ret ?_))
     exact x_ret _ rfl _ rfl ⟨(t6_1, 0), rfl, H⟩
    ·
     refine c_seq (c_region ?_)
     iterate 2 refine wP tok ?_
     obtain ⟨z3, H⟩ := H
     refine w_y (y_rem rfl rfl rfl z3) rfl rfl ?_
     iterate 2 refine wP tok ?_
     refine w_cutU 6 [(30, .bool (((Int.tmod p0 p1) != 0) && ((shr .i64 p0 (63 : Int).toNat) != (shr .i64 p1 (63 : Int).toNat)))), (6, .int .i64 x2)] ?_ ?_
     ·
      refine w_end (x_seq ?_)
      refine c_if H rfl (fun H => ?_) (fun H => ?_)
      ·
       refine c_region ?_
       iterate 2 refine wP tok ?_
       obtain ⟨x4, ex4, H⟩ := H
       refine w_pe tok rfl (congrArg (fun z => (.int .i64 z : Value)) ex4) rfl rfl ?_
       refine w_end ?_
       exact xJ x4 H
      ·
       refine c_skip ?_
       exact xJ x2 H
     ·
      refine w_gs (d := 24) rfl (fun hb => ?_) (fun hb => ?_)
      ·
       iterate 6 refine wP tok ?_
       refine w_jn () rfl ⟨?_, rfl, trivial⟩
       exact congrArg (fun b => some (Value.bool b)) (and_t hb)
      ·
       iterate 5 refine w_skip rfl rfl ?_
       refine wP tok ?_
       refine w_jn () rfl ⟨?_, rfl, trivial⟩
       exact congrArg (fun b => some (Value.bool b)) (and_f hb)
  ·
   refine w_gs (d := 13) rfl (fun hb => ?_) (fun hb => ?_)
   ·
    iterate 3 refine wP tok ?_
    refine w_jn () rfl ⟨?_, rfl, rfl, trivial⟩
    exact congrArg (fun b => some (Value.bool b)) (and_t hb)
   ·
    iterate 2 refine w_skip rfl rfl ?_
    refine wP tok ?_
    refine w_jn () rfl ⟨?_, rfl, rfl, trivial⟩
    exact congrArg (fun b => some (Value.bool b)) (and_f hb)

theorem query_Check_ok : CallOk Go.Proofs.Tryz.prog 6 := ⟨_, Go.Proofs.Tryz.func6, by kernel_rfl, by kernel_rfl⟩
theorem query_Check_ref (p0 : S_api_Query) (k : (Int) → Heap → Prop) (h : Heap) (H : query_Check p0 k h) : CallsH Go.Proofs.Tryz.prog 6 #[.agg (S_api_Query.cs p0).toArray] h (fun v h' => ∃ r : Int, v = .int .i64 r ∧ k r h') := by
 refine f_enter (N := 32) Go.Proofs.Tryz.func6 rfl rfl rfl (fun w0 => ?_)
 unfold query_Check at H
 refine cW [(0, .agg (S_api_Query.cs p0).toArray)] ?_
 refine c_seq (c_region ?_)
 obtain ⟨b1, h2, eb1, eh2, H⟩ := H
 refine w_h (h_box rfl rfl eb1 eh2) rfl rfl ?_
 refine wP tok ?_
 refine w_end (x_seq ?_)
 refine c_seq (c_seq (c_region ?_))
 refine wP tok ?_
 obtain ⟨v3, hv3, H⟩ := H
 refine w_y (y_ld tok rfl rfl rfl rfl hv3) rfl rfl ?_
 refine w_call label_Selector_ok (label_Selector_ref _ _ _ H) rfl rfl rfl rfl ?_
 rintro _ h5 ⟨r4, rfl, H⟩
 iterate 3 refine wP tok ?_
 obtain ⟨b6, h7, eb6, eh7, H⟩ := H
 refine w_h (h_alloc tok rfl rfl eb6 eh7) rfl rfl ?_
 obtain ⟨h8, wh8, eh8, H⟩ := H
 refine w_h (h_sts tok rfl rfl rfl rfl rfl (oneC (by kernel_rfl)) wh8 eh8) rfl rfl ?_
 refine wP tok ?_
 refine w_end (x_seq ?_)
 refine cW [(1, pt b1), (4, .int .i64 r4.2)] ?_
 refine c_seq (c_region ?_)
 iterate 2 refine wP tok ?_
 refine w_end (x_seq ?_)
 refine c_if H rfl (fun H => ?_) (fun H => ?_)
 ·
  refine c_seq (c_region ?_)
  iterate 2 refine wP tok ?_
  refine w_end (x_seq ?_)
  refine c_ret (x_tr ?_)
  exact x_ret _ rfl _ rfl ⟨r4.2, rfl, H⟩
 ·
  refine c_skip (x_seq ?_)
  refine c_seq (c_seq (c_region ?_))
  refine wP tok ?_
  obtain ⟨v9, hv9, H⟩ := H
  refine w_y (y_ld tok rfl rfl rfl rfl hv9) rfl rfl ?_
  iterate 2 refine wP tok ?_
  refine w_cut 4 (α := Bool) (fun (s : Bool) => [(21, .bool s), (1, pt b1)]) (fun (s : Bool) h => query_Check_g1 (ad b1) s k h) ?_ ?_
  ·
   rintro t21_1 h_1 H
   unfold query_Check_g1 at H
   refine wW [(21, .bool t21_1), (1, pt b1)] ?_
   refine wP tok ?_
   refine w_cut 9 (α := Bool) (fun (s : Bool) => [(31, .bool s)]) (fun (s : Bool) h => query_Check_g2 s k h) ?_ ?_
   ·
    rintro t31_2 h_2 H
    unfold query_Check_g2 at H
    refine wW [(31, .bool t31_2)] ?_
    refine w_end (x_seq ?_)
    refine c_if H rfl (fun H => ?_) (fun H => ?_)
    ·
     refine c_seq (c_region ?_)
     refine wP tok ?_
     refine w_end (x_seq ?_)
     refine c_ret (x_tr ?_)
     exact x_ret _ rfl _ rfl ⟨1, rfl, H⟩
    ·
     refine c_skip (x_seq ?_)
     refine c_seq (c_region ?_)
     refine wP tok ?_
     refine w_end (x_seq (c_ret ?_))
     exact x_ret _ rfl _ rfl ⟨0, rfl, H⟩
   ·
    refine w_gif (d := 22) H rfl (fun H => ?_) (fun H => ?_)
    ·
     iterate 8 refine w_skip rfl rfl ?_
     refine wP tok ?_
     exact wJ true H
    ·
     refine wP tok ?_
     obtain ⟨v10, hv10, H⟩ := H
     refine w_y (y_ld tok rfl rfl rfl rfl hv10) rfl rfl ?_
     iterate 2 refine wP tok ?_
     refine w_cut 4 (α := Bool) (fun (s : Bool) => [(30, .bool s), (22, .bool false)]) (fun (s : Bool) h => query_Check_g3 false s k h) ?_ ?_
     ·
      rintro t30_3 h_3 H
      unfold query_Check_g3 at H
      refine wW [(30, .bool t30_3), (22, .bool false)] ?_
      refine wP tok ?_
      exact wJ t30_3 H
     ·
      refine w_gif (d := 26) H rfl (fun H => ?_) (fun H => ?_)
      ·
       refine wP tok ?_
       obtain ⟨v11, hv11, H⟩ := H
       refine w_y (y_ld tok rfl rfl rfl rfl hv11) rfl rfl ?_
       iterate 2 refine wP tok ?_
       exact wJ (decide (v11 < 1)) H
      ·
       iterate 3 refine w_skip rfl rfl ?_
       refine wP tok ?_
       exact wJ false H
  ·
   refine w_gif (d := 17) H rfl (fun H => ?_) (fun H => ?_)
   ·
    iterate 3 refine w_skip rfl rfl ?_
    refine wP tok ?_
    exact wJ true H
   ·
    refine wP tok ?_
    obtain ⟨v12, hv12, H⟩ := H
    refine w_y (y_ld tok rfl rfl rfl rfl hv12) rfl rfl ?_
    iterate 2 refine wP tok ?_
    exact wJ (decide (v12 > 6)) H

theorem slices_SortedFunc_api_Piece__piece_compare_ok : CallOk Go.Proofs.Tryz.prog 37 := ⟨_, Go.Proofs.Tryz.func37, by kernel_rfl, by kernel_rfl⟩
theorem slices_SortedFunc_api_Piece__piece_compare_ref (p0 : Value) (k : (Slc) → Heap → Prop) (h : Heap) (H : slices_SortedFunc_api_Piece__piece_compare p0 k h) : CallsH Go.Proofs.Tryz.prog 37 #[p0, (Value.func (.func 39) #[] #[])] h (fun v h' => ∃ r : Slc, v = Slc.v r ∧ k r h') := by
 refine f_enter (N := 12) Go.Proofs.Tryz.func37 rfl rfl rfl (fun w0 => ?_)
 unfold slices_SortedFunc_api_Piece__piece_compare at H
 refine cW [(0, p0), (1, (Value.func (.func 39) #[] #[]))] ?_
 refine c_seq (c_region ?_)
 refine wP tok ?_
 refine w_end (x_seq ?_)
 refine c_seq (c_region ?_)
 refine wP tok ?_
 refine w_call slices_Collect_api_Piece_ok (slices_Collect_api_Piece_ref _ _ _ H) rfl rfl rfl rfl ?_
 rintro _ h2 ⟨r1, rfl, H⟩
 refine wP tok ?_
 refine w_end (x_seq ?_)
 refine c_seq (c_region ?_)
 iterate 2 refine wP tok ?_
 refine w_call slices_SortFunc_api_Piece_api_Piece__piece_compare_ok (slices_SortFunc_api_Piece_api_Piece__piece_compare_ref _ _ _ H) rfl rfl rfl rfl ?_
 rintro _ h4 ⟨r3, rfl, H⟩
 refine w_end (x_seq ?_)
 refine cW [(5, Slc.v r1)] ?_
 refine c_seq (c_region ?_)
 iterate 2 refine wP tok ?_
 refine w_end (x_seq (c_ret ?_))
 exact x_ret _ rfl _ rfl ⟨r1, rfl, H⟩

theorem piece_Merge_ok : CallOk Go.Proofs.Tryz.prog 16 := ⟨_, Go.Proofs.Tryz.func16, by kernel_rfl, by kernel_rfl⟩
theorem piece_Merge_ref (p0 : Slc) (k : (Slc) → Heap → Prop) (h : Heap) (H : piece_Merge p0 k h) : CallsH Go.Proofs.Tryz.prog 16 #[Slc.v p0] h (fun v h' => ∃ r : Slc, v = Slc.v r ∧ k r h') := by
 refine f_enter (N := 62) Go.Proofs.Tryz.func16 rfl rfl rfl (fun w0 => ?_)
 unfold piece_Merge at H
 refine cW [(0, Slc.v p0)] ?_
 refine c_seq (c_region ?_)
 refine wP tok ?_
 refine w_end (x_seq ?_)
 refine c_seq (c_region ?_)
 obtain ⟨b1, h2, eb1, eh2, H⟩ := H
 refine w_h (h_mkm rfl eb1 eh2) rfl rfl ?_
 refine wP tok ?_
 refine w_end (x_seq ?_)
 refine c_seq (c_seq (c_region ?_))
 iterate 3 refine wP tok ?_
 refine w_end (x_seq (c_block ?_))
 obtain ⟨I1, μ1, H0, HI⟩ := H
 refine c_loop (σ := Int) (fun (s : Int) => [(14, .int .i64 s), (3, .map (some b1)), (12, Slc.v p0), (13, .int .i64 (p0.len : Int))]) I1 μ1 0 H0 ⟨rfl, rfl, rfl, rfl, trivial⟩ ?_
 rintro t14_1 h_1 H
 replace H := HI t14_1 h_1 H
 unfold piece_Merge_l1b at H
 refine cW [(14, .int .i64 t14_1), (3, .map (some b1)), (12, Slc.v p0), (13, .int .i64 (p0.len : Int))] ?_
 refine c_seq (c_region ?_)
 refine wP tok ?_
 refine w_end (x_seq (c_seq ?_))
 refine c_if H rfl (fun H => ?_) (fun H => ?_)
 ·
  refine c_skip (x_seq ?_)
  refine c_seq (c_block ?_)
  refine c_seq (c_region ?_)
  obtain ⟨a3, ha3, la3, ua3, H⟩ := H
  refine w_y (y_ixa' tok rfl rfl ha3 rfl rfl rfl la3 ua3) rfl rfl ?_
  obtain ⟨v4, hv4, H⟩ := H
  refine w_y (y_ld tok rfl rfl rfl rfl hv4) rfl rfl ?_
  refine wP tok ?_
  refine w_end (x_seq ?_)
  refine c_scope ?_
  refine c_seq ?_
  refine c_label ?_
  refine x_seq (c_seq (c_region ?_))
  iterate 3 refine wP tok ?_
  refine w_end (x_seq (c_block ?_))
  obtain ⟨I2, μ2, H0, HI⟩ := H
  refine c_loop (σ := Int) (fun (s : Int) => [(20, .int .i64 s), (3, .map (some b1)), (12, Slc.v p0), (13, .int .i64 (p0.len : Int)), (14, .int .i64 t14_1), (18, Slc.v v4), (19, .int .i64 (v4.len : Int))]) I2 μ2 0 H0 ⟨rfl, rfl, rfl, rfl, rfl, rfl, rfl, trivial⟩ ?_
  rintro t20_2 h_2 H
  replace H := HI t20_2 h_2 H
  unfold piece_Merge_l2b at H
  refine cW [(20, .int .i64 t20_2), (3, .map (some b1)), (12, Slc.v p0), (13, .int .i64 (p0.len : Int)), (14, .int .i64 t14_1), (18, Slc.v v4), (19, .int .i64 (v4.len : Int))] ?_
  refine c_seq (c_region ?_)
  refine wP tok ?_
  refine w_end (x_seq (c_seq ?_))
  refine c_if H rfl (fun H => ?_) (fun H => ?_)
  ·
   refine c_skip (x_seq ?_)
   refine c_seqJ (α := Unit) (fun (s : Unit) => [(3, .map (some b1)), (12, Slc.v p0), (13, .int .i64 (p0.len : Int)), (14, .int .i64 t14_1), (18, Slc.v v4), (19, .int .i64 (v4.len : Int)), (20, .int .i64 t20_2)]) (fun (s : Unit) h => piece_Merge_j3 b1 p0 (p0.len : Int) t14_1 v4 (v4.len : Int) t20_2 k (fun s h' => I1 s h' ∧ μ1 s h' < μ1 t14_1 h_1) (fun s h' => I2 s h' ∧ μ2 s h' < μ2 t20_2 h_2) h) ?_ ?_
   ·
    rintro _ h_3 H
    unfold piece_Merge_j3 at H
    refine cW [(3, .map (some b1)), (12, Slc.v p0), (13, .int .i64 (p0.len : Int)), (14, .int .i64 t14_1), (18, Slc.v v4), (19, .int .i64 (v4.len : Int)), (20, .int .i64 t20_2)] ?_
    refine c_region ?_
    iterate 2 refine wP tok ?_
    refine w_end ?_
    exact xJ (IntKind.i64.wrap (t20_2 + 1)) H
   ·
    refine c_block (c_seq (c_region ?_))
    obtain ⟨a5, ha5, la5, ua5, H⟩ := H
    refine w_y (y_ixa' tok rfl rfl ha5 rfl rfl rfl la5 ua5) rfl rfl ?_
    obtain ⟨v6, hv6, H⟩ := H
    refine w_y (y_lda tok rfl rfl rfl rfl rfl hv6) rfl rfl ?_
    obtain ⟨b7, h8, eb7, eh8, H⟩ := H
    refine w_h (h_alloc tok rfl rfl eb7 eh8) rfl rfl ?_
    obtain ⟨h9, wh9, eh9, H⟩ := H
    refine w_h (h_sts tok rfl rfl rfl rfl rfl (oneC (by kernel_rfl)) wh9 eh9) rfl rfl ?_
    refine w_end (x_seq ?_)
    refine c_seq (c_seq (c_region ?_))
    obtain ⟨v10, hv10, H⟩ := H
    refine w_y (y_lda tok rfl rfl rfl rfl rfl hv10) rfl rfl ?_
    refine w_call piece_Check_ok (piece_Check_ref _ _ _ H) rfl rfl rfl rfl ?_
    rintro _ h12 ⟨r11, rfl, H⟩
    refine wP tok ?_
    refine w_end (x_seq ?_)
    refine c_if H rfl (fun H => ?_) (fun H => ?_)
    ·
     refine c_exit ?_
     refine x_te ?_
     refine x_bh ?_
     exact xJ () H
    ·
     refine c_skip (x_seq ?_)
     refine c_seq (c_region ?_)
     refine wP tok ?_
     obtain ⟨v13, hv13, H⟩ := H
     refine w_y (y_ld tok rfl rfl rfl rfl hv13) rfl rfl ?_
     refine wP tok ?_
     obtain ⟨v14, hv14, H⟩ := H
     refine w_y (y_ld tok rfl rfl rfl rfl hv14) rfl rfl ?_
     refine w_y (y_build tok rfl rfl rfl rfl rfl) rfl rfl ?_
     obtain ⟨b15, h16, eb15, eh16, H⟩ := H
     refine w_h (h_alloc tok rfl rfl eb15 eh16) rfl rfl ?_
     obtain ⟨h17, wh17, eh17, H⟩ := H
     refine w_h (h_sts tok rfl rfl rfl rfl rfl (oneC (by kernel_rfl)) wh17 eh17) rfl rfl ?_
     refine w_end (x_seq ?_)
     refine cW [(20, .int .i64 t20_2), (3, .map (some b1)), (12, Slc.v p0), (13, .int .i64 (p0.len : Int)), (14, .int .i64 t14_1), (18, Slc.v v4), (19, .int .i64 (v4.len : Int)), (7, pt b7), (8, pt b15)] ?_
     refine c_seq (c_seq (c_region ?_))
     refine wP tok ?_
     obtain ⟨v18, hv18, H⟩ := H
     refine w_y (y_lda tok rfl rfl rfl rfl rfl hv18) rfl rfl ?_
     obtain ⟨l19, hl19, H⟩ := H
     refine w_y (y_lk2a (K := S_piece_place) (V := S_api_Piece) (kf := (fun v : S_piece_place => Value.agg (S_piece_place.cs v).toArray)) (vf := (fun v : S_api_Piece => Value.agg (S_api_Piece.cs v).toArray)) (kt := 92) (et := 46) (k := v18) (z := (⟨ByteArray.empty, 0, 0, (⟨0, 0⟩ : S_api_Id)⟩ : S_api_Piece)) (m := (some b1)) (l := l19) rfl rfl rfl (by kernel_rfl) keyS_S_piece_place (zero_a tok (T := tab) rfl rfl rfl) hl19) rfl rfl ?_
     iterate 3 refine wP tok ?_
     obtain ⟨b20, h21, eb20, eh21, H⟩ := H
     refine w_h (h_alloc tok rfl rfl eb20 eh21) rfl rfl ?_
     obtain ⟨h22, wh22, eh22, H⟩ := H
     refine w_h (h_sts tok rfl rfl rfl rfl rfl (oneC (by kernel_rfl)) wh22 eh22) rfl rfl ?_
     refine wP tok ?_
     refine w_end (x_seq ?_)
     refine c_seqJ (α := Bool) (fun (s : Bool) => [(53, .bool s), (3, .map (some b1)), (7, pt b7), (8, pt b15), (12, Slc.v p0), (13, .int .i64 (p0.len : Int)), (14, .int .i64 t14_1), (18, Slc.v v4), (19, .int .i64 (v4.len : Int)), (20, .int .i64 t20_2)]) (fun (s : Bool) h => piece_Merge_j4 b1 (ad b7) (ad b15) p0 (p0.len : Int) t14_1 v4 (v4.len : Int) t20_2 s k (fun s h' => I1 s h' ∧ μ1 s h' < μ1 t14_1 h_1) (fun s h' => I2 s h' ∧ μ2 s h' < μ2 t20_2 h_2) h) ?_ ?_
     ·
      rintro t53_4 h_4 H
      unfold piece_Merge_j4 at H
      refine cW [(53, .bool t53_4), (3, .map (some b1)), (7, pt b7), (8, pt b15), (12, Slc.v p0), (13, .int .i64 (p0.len : Int)), (14, .int .i64 t14_1), (18, Slc.v v4), (19, .int .i64 (v4.len : Int)), (20, .int .i64 t20_2)] ?_
      refine c_if H rfl (fun H => ?_) (fun H => ?_)
      ·
       refine c_exit ?_
       refine x_te ?_
       refine x_bh ?_
       exact xJ () H
      ·
       refine c_skip (x_seq (c_region ?_))
       refine wP tok ?_
       obtain ⟨v23, hv23, H⟩ := H
       refine w_y (y_lda tok rfl rfl rfl rfl rfl hv23) rfl rfl ?_
       obtain ⟨v24, hv24, H⟩ := H
       refine w_y (y_lda tok rfl rfl rfl rfl rfl hv24) rfl rfl ?_
       obtain ⟨r25, l26, h27, er25, hl26, eh27, H⟩ := H
       refine w_h (h_mus (K := S_piece_place) (V := S_api_Piece) (kf := (fun v : S_piece_place => Value.agg (S_piece_place.cs v).toArray)) (vf := (fun v : S_api_Piece => Value.agg (S_api_Piece.cs v).toArray)) (kt := 92) (et := 46) (k := v23) (v := v24) (m := (some b1)) (l := l26) rfl rfl rfl rfl (by kernel_rfl) keyS_S_piece_place er25 hl26 eh27) rfl rfl ?_
       refine w_end ?_
       refine x_blk ?_
       exact xJ () H
     ·
      refine c_sim [(3, .map (some b1)), (7, pt b7), (8, pt b15), (9, pt b20), (10, .bool ((mget l19 v18).isSome)), (12, Slc.v p0), (13, .int .i64 (p0.len : Int)), (14, .int .i64 t14_1), (18, Slc.v v4), (19, .int .i64 (v4.len : Int)), (20, .int .i64 t20_2)] (by kernel_rfl) (by kernel_rfl) ⟨rfl, rfl, rfl, rfl, rfl, rfl, rfl, rfl, rfl, rfl, rfl, trivial⟩ (fun wf => ?_)
      refine sT 0 [(10, .bool ((mget l19 v18).isSome))] (some 38) tok wf (fun P_0 => ?_)
      refine sT 1 [(38, .bool ((mget l19 v18).isSome))] (some 39) tok wf (fun P_1 => ?_)
      refine sim_gif 39 H rfl (fun hb H => ?_) (fun hb H => ?_)
      ·
       refine sT 2 [(9, pt b20), (39, .bool true)] (some 40) tok wf (fun P_2 => ?_)
       obtain ⟨v28, hv28, H⟩ := H
       refine sV 3 [(39, .bool true), (40, .pointer (some ((ad b20).add 3)))] (some 41) wf (pf_y rfl rfl rfl (y_lda tok rfl rfl rfl rfl rfl hv28)) (fun P_3 => ?_)
       refine sT 4 [(7, pt b7), (39, .bool true)] (some 42) tok wf (fun P_4 => ?_)
       obtain ⟨v29, hv29, H⟩ := H
       refine sV 5 [(39, .bool true), (42, .pointer (some ((ad b7).add 3)))] (some 43) wf (pf_y rfl rfl rfl (y_lda tok rfl rfl rfl rfl rfl hv29)) (fun P_5 => ?_)
       refine sT 7 [(9, pt b20), (39, .bool true)] (some 45) tok wf (fun P_7 => ?_)
       obtain ⟨v30, hv30, H⟩ := H
       refine sV 8 [(39, .bool true), (45, .pointer (some ((ad b20).add 2)))] (some 46) wf (pf_y rfl rfl rfl (y_ld tok rfl rfl rfl rfl hv30)) (fun P_8 => ?_)
       refine sT 9 [(7, pt b7), (39, .bool true)] (some 47) tok wf (fun P_9 => ?_)
       obtain ⟨v31, hv31, H⟩ := H
       refine sV 10 [(39, .bool true), (47, .pointer (some ((ad b7).add 2)))] (some 48) wf (pf_y rfl rfl rfl (y_ld tok rfl rfl rfl rfl hv31)) (fun P_10 => ?_)
       refine sim_c 6 [0, 1, 2, 3, 4, 5] [0, 1, 2, 3, 4, 5] (ei := [(39, .bool true), (41, .agg (S_api_Id.cs v28).toArray), (43, .agg (S_api_Id.cs v29).toArray)]) piece_ids_ok (piece_ids_ref _ _ _ _ H) wf ⟨P_10, P_9 _, P_8, P_7 _, P_5, P_4 _, P_3, P_2 _, P_1 _, P_0 _, trivial⟩ (by kernel_rfl) ⟨rfl, rfl, rfl, trivial⟩ (by kernel_rfl) rfl rfl rfl rfl rfl ?_
       rintro _ h33 ⟨r32, rfl, H⟩
       obtain ⟨hy34, hy35, H⟩ := H
       refine sim_re (x := ⟨10, .int .i64 v31, [(39, .bool true), (47, .pointer (some ((ad b7).add 2)))]⟩) (pf_y rfl rfl rfl (y_ld tok rfl rfl rfl rfl hy34)) (fun P_10 => ?_)
       refine sim_re (x := ⟨8, .int .i64 v30, [(39, .bool true), (45, .pointer (some ((ad b20).add 2)))]⟩) (pf_y rfl rfl rfl (y_ld tok rfl rfl rfl rfl hy35)) (fun P_8 => ?_)
       refine sim_c 11 [0, 1, 2, 3, 4, 5, 6, 7, 8, 9, 10] [0, 1, 2, 3, 4, 5, 7, 8, 9, 10] (ei := [(39, .bool true), (46, .int .i64 v30), (48, .int .i64 v31)]) cmp_Compare_int64_ok (cmp_Compare_int64_ref _ _ _ _ H) wf ⟨P_10, P_9 _, P_8, P_7 _, trivial, trivial, trivial, trivial, trivial, trivial, trivial⟩ (by kernel_rfl) ⟨rfl, rfl, rfl, trivial⟩ (by kernel_rfl) rfl rfl rfl rfl rfl ?_
       rintro _ h37 ⟨r36, rfl, H⟩
       obtain ⟨b38, h39, eb38, eh39, H⟩ := H
       refine sim_h 12 [0, 1, 2, 3, 4, 5, 6, 7, 8, 9, 10, 11] [0, 1, 2, 3, 4, 5, 7, 8, 9, 10] (ei := [(39, .bool true), (44, .int .i64 r32), (49, .int .i64 r36)]) wf ⟨trivial, trivial, trivial, trivial, trivial, trivial, trivial, trivial, trivial, trivial, trivial⟩ (by kernel_rfl) ⟨rfl, rfl, rfl, trivial⟩ (by kernel_rfl) rfl rfl rfl (h_bs tok rfl rfl rfl rfl rfl rfl rfl eb38 eh39) ?_
       refine sim_c 13 [0, 1, 2, 3, 4, 5, 6, 7, 8, 9, 10, 11, 12] [0, 1, 2, 3, 4, 5, 7, 8, 9, 10] (ei := [(39, .bool true), (50, Slc.v (⟨some ⟨b38, 0, none⟩, 2, 2⟩ : Slc))]) cmp_Or_int_ok (cmp_Or_int_ref _ _ _ H) wf ⟨trivial, trivial, trivial, trivial, trivial, trivial, trivial, trivial, trivial, trivial, trivial⟩ (by kernel_rfl) ⟨rfl, rfl, trivial⟩ (by kernel_rfl) rfl rfl rfl rfl rfl ?_
       rintro _ h41 ⟨r40, rfl, H⟩
       refine sT 14 [(39, .bool true), (51, .int .i64 r40)] (some 52) tok wf (fun P_14 => ?_)
       refine sT 15 [(39, .bool true), (52, .bool (decide (r40 ≥ 0)))] (some 53) tok wf (fun P_15 => ?_)
       refine sim_end wf ⟨P_15 _, P_14 _, trivial, trivial, trivial, trivial, trivial, trivial, trivial, trivial, trivial, trivial, trivial⟩ (by kernel_rfl) ?_
       clear wf P_0 P_1 P_10 P_14 P_15 P_2 P_3 P_4 P_5 P_7 P_8 P_9
       exact xJ (decide (r40 ≥ 0)) H
      ·
       refine sS 2 [(9, pt b20), (39, .bool false)] (some 40) wf (fun P_2 => ?_)
       refine sS 3 [(39, .bool false), (40, undef)] (some 41) wf (fun P_3 => ?_)
       refine sS 4 [(7, pt b7), (39, .bool false)] (some 42) wf (fun P_4 => ?_)
       refine sS 5 [(39, .bool false), (42, undef)] (some 43) wf (fun P_5 => ?_)
       refine sS 6 [(39, .bool false), (41, undef), (43, undef)] (some 44) wf (fun P_6 => ?_)
       refine sS 7 [(9, pt b20), (39, .bool false)] (some 45) wf (fun P_7 => ?_)
       refine sS 8 [(39, .bool false), (45, undef)] (some 46) wf (fun P_8 => ?_)
       refine sS 9 [(7, pt b7), (39, .bool false)] (some 47) wf (fun P_9 => ?_)
       refine sS 10 [(39, .bool false), (47, undef)] (some 48) wf (fun P_10 => ?_)
       refine sS 11 [(39, .bool false), (46, undef), (48, undef)] (some 49) wf (fun P_11 => ?_)
       refine sS 12 [(39, .bool false), (44, undef), (49, undef)] (some 50) wf (fun P_12 => ?_)
       refine sS 13 [(39, .bool false), (50, undef)] (some 51) wf (fun P_13 => ?_)
       refine sS 14 [(39, .bool false), (51, undef)] (some 52) wf (fun P_14 => ?_)
       refine sT 15 [(39, .bool false), (52, undef)] (some 53) tok wf (fun P_15 => ?_)
       refine sim_end wf ⟨P_15 _, P_14 _, P_13 _, P_12 _, P_11 _, P_10 _, P_9 _, P_8 _, P_7 _, P_6 _, P_5 _, P_4 _, P_3 _, P_2 _, P_1 _, P_0 _, trivial⟩ (by kernel_rfl) ?_
       clear wf P_0 P_1 P_10 P_11 P_12 P_13 P_14 P_15 P_2 P_3 P_4 P_5 P_6 P_7 P_8 P_9
       exact xJ false H
  ·
   refine c_exit ?_
   refine x_te (x_te ?_)
   refine x_bh ?_
   refine x_scn ?_
   refine x_blk ?_
   refine x_seq (c_region ?_)
   iterate 2 refine wP tok ?_
   refine w_end ?_
   exact xJ (IntKind.i64.wrap (t14_1 + 1)) H
 ·
  refine c_exit ?_
  refine x_te (x_te ?_)
  refine x_bh ?_
  refine x_seq (c_seq (c_region ?_))
  refine wP tok ?_
  refine w_call maps_Values_map_piece_place_api_Piece_piece_place_api_Piece_ok (maps_Values_map_piece_place_api_Piece_piece_place_api_Piece_ref _ _ _ H) rfl rfl rfl rfl ?_
  rintro _ h43 ⟨r42, rfl, H⟩
  refine w_call slices_SortedFunc_api_Piece__piece_compare_ok (slices_SortedFunc_api_Piece__piece_compare_ref _ _ _ H) rfl rfl rfl rfl ?_
  rintro _ h45 ⟨r44, rfl, H⟩
  refine wP tok ?_
  refine w_end (x_seq ?_)
  refine cW [(2, Slc.v r44)] ?_
  refine c_ret ?_
  exact x_ret _ rfl _ rfl ⟨r44, rfl, H⟩

theorem query_Ask_ok : CallOk Go.Proofs.Tryz.prog 7 := ⟨_, Go.Proofs.Tryz.func7, by kernel_rfl, by kernel_rfl⟩
theorem query_Ask_ref (p0 : S_api_Query) (p1 : Slc) (p2 : Int) (k : (Slc × Int) → Heap → Prop) (h : Heap) (H : query_Ask p0 p1 p2 k h) : CallsH Go.Proofs.Tryz.prog 7 #[.agg (S_api_Query.cs p0).toArray, Slc.v p1, .int .i64 p2] h (fun v h' => ∃ r : Slc × Int, v = .tuple #[Slc.v r.1, .int .i64 r.2] ∧ k r h') := by
 refine f_enter (N := 79) Go.Proofs.Tryz.func7 rfl rfl rfl (fun w0 => ?_)
 unfold query_Ask at H
 refine cW [(0, .agg (S_api_Query.cs p0).toArray), (1, Slc.v p1), (2, .int .i64 p2)] ?_
 refine c_seq (c_region ?_)
 obtain ⟨b1, h2, eb1, eh2, H⟩ := H
 refine w_h (h_box rfl rfl eb1 eh2) rfl rfl ?_
 iterate 2 refine wP tok ?_
 refine w_end (x_seq ?_)
 refine c_seq (c_seq (c_region ?_))
 obtain ⟨v3, hv3, H⟩ := H
 refine w_y (y_lda tok rfl rfl rfl rfl rfl hv3) rfl rfl ?_
 refine w_call query_Check_ok (query_Check_ref _ _ _ H) rfl rfl rfl rfl ?_
 rintro _ h5 ⟨r4, rfl, H⟩
 refine wP tok ?_
 refine w_end (x_seq ?_)
 refine c_seq (c_region ?_)
 iterate 2 refine wP tok ?_
 refine w_end (x_seq ?_)
 refine c_if H rfl (fun H => ?_) (fun H => ?_)
 ·
  refine c_seq (c_region ?_)
  iterate 3 refine wP tok ?_
  refine w_end (x_seq ?_)
  refine cW [(6, Slc.v (⟨none, 0, 0⟩ : Slc)), (7, .int .i64 r4)] ?_
  refine c_ret (x_tr ?_)
  exact x_ret _ rfl _ rfl ⟨((⟨none, 0, 0⟩ : Slc), r4), rfl, H⟩
 ·
  refine c_skip (x_seq ?_)
  refine cW [(1, Slc.v p1), (2, .int .i64 p2), (3, pt b1)] ?_
  refine c_seq (c_region ?_)
  refine wP tok ?_
  obtain ⟨v6, hv6, H⟩ := H
  refine w_y (y_ld tok rfl rfl rfl rfl hv6) rfl rfl ?_
  refine w_call label_Selector_ok (label_Selector_ref _ _ _ H) rfl rfl rfl rfl ?_
  rintro _ h8 ⟨r7, rfl, H⟩
  iterate 3 refine wP tok ?_
  obtain ⟨b9, h10, eb9, eh10, H⟩ := H
  refine w_h (h_alloc tok rfl rfl eb9 eh10) rfl rfl ?_
  obtain ⟨h11, wh11, eh11, H⟩ := H
  refine w_h (h_sts tok rfl rfl rfl rfl rfl (oneC (by kernel_rfl)) wh11 eh11) rfl rfl ?_
  refine wP tok ?_
  refine w_end (x_seq ?_)
  refine cW [(1, Slc.v p1), (2, .int .i64 p2), (3, pt b1), (9, pt b9)] ?_
  refine c_seq (c_region ?_)
  obtain ⟨b12, h13, eb12, eh13, H⟩ := H
  refine w_h (h_mkm rfl eb12 eh13) rfl rfl ?_
  refine wP tok ?_
  refine w_end (x_seq ?_)
  refine c_seq (c_region ?_)
  refine wP tok ?_
  refine w_end (x_seq ?_)
  refine c_seq (c_seq ?_)
  refine c_sim [(1, Slc.v p1), (2, .int .i64 p2), (3, pt b1), (9, pt b9), (11, .map (some b12)), (12, Slc.v (⟨none, 0, 0⟩ : Slc))] (by kernel_rfl) (by kernel_rfl) ⟨rfl, rfl, rfl, rfl, rfl, rfl, trivial⟩ (fun wf => ?_)
  refine sT 0 [(1, Slc.v p1)] (some 31) tok wf (fun P_0 => ?_)
  refine sT 3 [(3, pt b1)] (some 34) tok wf (fun P_3 => ?_)
  obtain ⟨v14, hv14, H⟩ := H
  refine sV 4 [(34, .pointer (some ((ad b1).add 1)))] (some 35) wf (pf_y rfl rfl rfl (y_ld tok rfl rfl rfl rfl hv14)) (fun P_4 => ?_)
  refine sT 5 [(2, .int .i64 p2)] (some 36) tok wf (fun P_5 => ?_)
  refine sT 6 [(35, .int .i64 v14), (36, .int .i64 p2)] (some 37) tok wf (fun P_6 => ?_)
  refine sT 7 [(3, pt b1)] (some 38) tok wf (fun P_7 => ?_)
  obtain ⟨v15, hv15, H⟩ := H
  refine sV 8 [(38, .pointer (some ((ad b1).add 2)))] (some 39) wf (pf_y rfl rfl rfl (y_ld tok rfl rfl rfl rfl hv15)) (fun P_8 => ?_)
  refine sT 11 [] (some 42) tok wf (fun P_11 => ?_)
  obtain ⟨b16, h17, eb16, eh17, H⟩ := H
  refine sim_h 1 [0] [0] (ei := [(31, Slc.v p1)]) wf ⟨P_11 _, P_8, P_7 _, P_6 _, P_5 _, P_4, P_3 _, P_0 _, trivial⟩ (by kernel_rfl) ⟨rfl, trivial⟩ (by kernel_rfl) rfl rfl rfl (h_bs tok rfl rfl rfl rfl rfl rfl rfl eb16 eh17) ?_
  obtain ⟨hy18, hy19, H⟩ := H
  refine sim_re (x := ⟨8, .int .i64 v15, [(38, .pointer (some ((ad b1).add 2)))]⟩) (pf_y rfl rfl rfl (y_ld tok rfl rfl rfl rfl hy18)) (fun P_8 => ?_)
  refine sim_re (x := ⟨4, .int .i64 v14, [(34, .pointer (some ((ad b1).add 1)))]⟩) (pf_y rfl rfl rfl (y_ld tok rfl rfl rfl rfl hy19)) (fun P_4 => ?_)
  refine sim_c 2 [0, 1] [0] (ei := [(32, Slc.v (⟨some ⟨b16, 0, none⟩, 1, 1⟩ : Slc))]) piece_Merge_ok (piece_Merge_ref _ _ _ H) wf ⟨P_11 _, P_8, P_7 _, P_6 _, P_5 _, P_4, P_3 _, trivial, trivial⟩ (by kernel_rfl) ⟨rfl, trivial⟩ (by kernel_rfl) rfl rfl rfl rfl rfl ?_
  rintro _ h21 ⟨r20, rfl, H⟩
  obtain ⟨hy22, hy23, H⟩ := H
  refine sim_re (x := ⟨8, .int .i64 v15, [(38, .pointer (some ((ad b1).add 2)))]⟩) (pf_y rfl rfl rfl (y_ld tok rfl rfl rfl rfl hy22)) (fun P_8 => ?_)
  refine sim_re (x := ⟨4, .int .i64 v14, [(34, .pointer (some ((ad b1).add 1)))]⟩) (pf_y rfl rfl rfl (y_ld tok rfl rfl rfl rfl hy23)) (fun P_4 => ?_)
  refine sim_c 9 [0, 1, 2, 3, 4, 5, 6, 7, 8] [0, 3, 4, 5, 6, 7, 8] (ei := [(33, Slc.v r20), (37, .int .i64 (if p2 > v14 then p2 else v14)), (39, .int .i64 v15)]) piece_Between_ok (piece_Between_ref _ _ _ _ _ H) wf ⟨P_11 _, P_8, P_7 _, P_6 _, P_5 _, P_4, P_3 _, trivial, trivial⟩ (by kernel_rfl) ⟨rfl, rfl, rfl, trivial⟩ (by kernel_rfl) rfl rfl rfl rfl rfl ?_
  rintro _ h25 ⟨r24, rfl, H⟩
  refine sT 10 [(40, Slc.v r24)] (some 41) tok wf (fun P_10 => ?_)
  refine sim_end wf ⟨P_10 _, P_11 _, trivial, trivial, trivial, trivial, trivial, trivial, trivial, trivial⟩ (by kernel_rfl) ?_
  clear wf P_0 P_10 P_11 P_3 P_4 P_5 P_6 P_7 P_8
  refine x_seq ?_
  refine cW [(9, pt b9), (11, .map (some b12)), (12, Slc.v (⟨none, 0, 0⟩ : Slc)), (42, .int .i64 0), (40, Slc.v r24), (41, .int .i64 (r24.len : Int))] ?_
  refine c_block ?_
  obtain ⟨I1, μ1, H0, HI⟩ := H
  refine c_loop (σ := Slc × Int) (fun (s : Slc × Int) => [(12, Slc.v s.1), (42, .int .i64 s.2), (9, pt b9), (11, .map (some b12)), (40, Slc.v r24), (41, .int .i64 (r24.len : Int))]) I1 μ1 ((⟨none, 0, 0⟩ : Slc), 0) H0 ⟨rfl, rfl, rfl, rfl, rfl, rfl, trivial⟩ ?_
  rintro ⟨t12_1, t42_1⟩ h_1 H
  replace H := HI t12_1 t42_1 h_1 H
  unfold query_Ask_l1b at H
  refine cW [(12, Slc.v t12_1), (42, .int .i64 t42_1), (9, pt b9), (11, .map (some b12)), (40, Slc.v r24), (41, .int .i64 (r24.len : Int))] ?_
  refine c_seq (c_region ?_)
  refine wP tok ?_
  refine w_end (x_seq (c_seq ?_))
  refine c_if H rfl (fun H => ?_) (fun H => ?_)
  ·
   refine c_skip (x_seq ?_)
   refine c_seqJ (α := Slc) (fun (s : Slc) => [(12, Slc.v s), (9, pt b9), (11, .map (some b12)), (40, Slc.v r24), (41, .int .i64 (r24.len : Int)), (42, .int .i64 t42_1)]) (fun (s : Slc) h => query_Ask_j2 (ad b9) b12 r24 (r24.len : Int) t42_1 s k (fun s h' => I1 s h' ∧ μ1 s h' < μ1 (t12_1, t42_1) h_1) h) ?_ ?_
   ·
    rintro t12_2 h_2 H
    unfold query_Ask_j2 at H
    refine cW [(12, Slc.v t12_2), (9, pt b9), (11, .map (some b12)), (40, Slc.v r24), (41, .int .i64 (r24.len : Int)), (42, .int .i64 t42_1)] ?_
    refine c_region ?_
    iterate 2 refine wP tok ?_
    refine w_end ?_
    exact xJ (t12_2, (IntKind.i64.wrap (t42_1 + 1))) H
   ·
    refine c_block (c_seq (c_region ?_))
    obtain ⟨a26, ha26, la26, ua26, H⟩ := H
    refine w_y (y_ixa' tok rfl rfl ha26 rfl rfl rfl la26 ua26) rfl rfl ?_
    obtain ⟨v27, hv27, H⟩ := H
    refine w_y (y_lda tok rfl rfl rfl rfl rfl hv27) rfl rfl ?_
    obtain ⟨b28, h29, eb28, eh29, H⟩ := H
    refine w_h (h_alloc tok rfl rfl eb28 eh29) rfl rfl ?_
    obtain ⟨h30, wh30, eh30, H⟩ := H
    refine w_h (h_sts tok rfl rfl rfl rfl rfl (oneC (by kernel_rfl)) wh30 eh30) rfl rfl ?_
    refine w_end (x_seq ?_)
    refine c_seq (c_region ?_)
    iterate 2 refine wP tok ?_
    obtain ⟨v31, hv31, H⟩ := H
    refine w_y (y_ld tok rfl rfl rfl rfl hv31) rfl rfl ?_
    obtain ⟨l32, hl32, H⟩ := H
    refine w_y (y_lk2 (K := ByteArray) (V := Bool) (d := .string) (kf := Value.string) (vf := Value.bool) (kt := 9) (et := 4) (k := v31) (z := false) (m := (some b12)) (l := l32) rfl rfl rfl (by kernel_rfl) (by kernel_rfl) kStr (zero_1 tok (T := tab) rfl rfl rfl) hl32) rfl rfl ?_
    iterate 5 refine wP tok ?_
    refine w_end (x_seq ?_)
    refine cW [(12, Slc.v t12_1), (42, .int .i64 t42_1), (9, pt b9), (11, .map (some b12)), (40, Slc.v r24), (41, .int .i64 (r24.len : Int)), (14, pt b28), (15, .bool ((mget l32 v31).getD false)), (16, .bool ((mget l32 v31).isSome))] ?_
    refine c_seqJ (α := Bool) (fun (s : Bool) => [(15, .bool s), (9, pt b9), (11, .map (some b12)), (12, Slc.v t12_1), (14, pt b28), (40, Slc.v r24), (41, .int .i64 (r24.len : Int)), (42, .int .i64 t42_1)]) (fun (s : Bool) h => query_Ask_j3 (ad b9) b12 t12_1 (ad b28) r24 (r24.len : Int) t42_1 s k (fun s h' => I1 s h' ∧ μ1 s h' < μ1 (t12_1, t42_1) h_1) h) ?_ ?_
    ·
     rintro t15_3 h_3 H
     unfold query_Ask_j3 at H
     refine cW [(15, .bool t15_3), (9, pt b9), (11, .map (some b12)), (12, Slc.v t12_1), (14, pt b28), (40, Slc.v r24), (41, .int .i64 (r24.len : Int)), (42, .int .i64 t42_1)] ?_
     refine c_seq (c_region ?_)
     refine wP tok ?_
     refine w_end (x_seq ?_)
     refine c_if H rfl (fun H => ?_) (fun H => ?_)
     ·
      refine c_region ?_
      refine wP tok ?_
      obtain ⟨v33, hv33, H⟩ := H
      refine w_y (y_lda tok rfl rfl rfl rfl rfl hv33) rfl rfl ?_
      obtain ⟨b34, h35, eb34, eh35, H⟩ := H
      refine w_h (h_bs tok rfl rfl rfl rfl rfl rfl rfl eb34 eh35) rfl rfl ?_
      refine w_a (a_app (s := t12_1) (r := (⟨some ⟨b34, 0, none⟩, 1, 1⟩ : Slc)) tok rfl rfl rfl rfl rfl (slcAt_push eb34 eh35) H) rfl rfl ?_
      rintro _ h37 ⟨s36, rfl, H⟩
      refine wP tok ?_
      refine w_end ?_
      refine x_blk ?_
      exact xJ s36 H
     ·
      refine c_skip ?_
      refine x_blk ?_
      exact xJ t12_1 H
    ·
     refine c_seq (c_region ?_)
     iterate 2 refine wP tok ?_
     refine w_end (x_seq ?_)
     refine c_if H rfl (fun H => ?_) (fun H => ?_)
     ·
      refine c_seq (c_region ?_)
      refine wP tok ?_
      obtain ⟨v38, hv38, H⟩ := H
      refine w_y (y_ld tok rfl rfl rfl rfl hv38) rfl rfl ?_
      refine w_call label_Parse_ok (label_Parse_ref _ _ _ H) rfl rfl rfl rfl ?_
      rintro _ h40 ⟨r39, rfl, H⟩
      iterate 3 refine wP tok ?_
      obtain ⟨b41, h42, eb41, eh42, H⟩ := H
      refine w_h (h_alloc tok rfl rfl eb41 eh42) rfl rfl ?_
      obtain ⟨h43, wh43, eh43, H⟩ := H
      refine w_h (h_sts tok rfl rfl rfl rfl rfl (oneC (by kernel_rfl)) wh43 eh43) rfl rfl ?_
      refine wP tok ?_
      refine w_end (x_seq ?_)
      refine cW [(12, Slc.v t12_1), (42, .int .i64 t42_1), (9, pt b9), (11, .map (some b12)), (40, Slc.v r24), (41, .int .i64 (r24.len : Int)), (14, pt b28), (17, pt b41), (18, .int .i64 r39.2)] ?_
      refine c_seq (c_region ?_)
      iterate 3 refine wP tok ?_
      refine w_cut 4 (α := Bool) (fun (s : Bool) => [(67, .bool s), (9, pt b9), (11, .map (some b12)), (12, Slc.v t12_1), (14, pt b28), (40, Slc.v r24), (41, .int .i64 (r24.len : Int)), (42, .int .i64 t42_1)]) (fun (s : Bool) h => query_Ask_g4 (ad b9) b12 t12_1 (ad b28) r24 (r24.len : Int) t42_1 s k (fun s h' => I1 s h' ∧ μ1 s h' < μ1 (t12_1, t42_1) h_1) h) ?_ ?_
      ·
       rintro t67_4 h_4 H
       unfold query_Ask_g4 at H
       refine wW [(67, .bool t67_4), (9, pt b9), (11, .map (some b12)), (12, Slc.v t12_1), (14, pt b28), (40, Slc.v r24), (41, .int .i64 (r24.len : Int)), (42, .int .i64 t42_1)] ?_
       refine wP tok ?_
       refine w_end (x_seq (c_region ?_))
       iterate 2 refine wP tok ?_
       obtain ⟨v44, hv44, H⟩ := H
       refine w_y (y_ld tok rfl rfl rfl rfl hv44) rfl rfl ?_
       refine wP tok ?_
       obtain ⟨r45, l46, h47, er45, hl46, eh47, H⟩ := H
       refine w_h (h_mu (K := ByteArray) (V := Bool) (d := .string) (kf := Value.string) (vf := Value.bool) (kt := 9) (et := 4) (k := v44) (v := t67_4) (m := (some b12)) (l := l46) rfl rfl rfl rfl (by kernel_rfl) (by kernel_rfl) kStr er45 hl46 eh47) rfl rfl ?_
       refine w_end ?_
       exact xJ t67_4 H
      ·
       refine w_gif (d := 63) H rfl (fun H => ?_) (fun H => ?_)
       ·
        obtain ⟨v48, hv48, H⟩ := H
        refine w_y (y_lda tok rfl rfl rfl rfl rfl hv48) rfl rfl ?_
        obtain ⟨v49, hv49, H⟩ := H
        refine w_y (y_lda tok rfl rfl rfl rfl rfl hv49) rfl rfl ?_
        refine w_call label_Chooses_ok (label_Chooses_ref _ _ _ _ H) rfl rfl rfl rfl ?_
        rintro _ h51 ⟨r50, rfl, H⟩
        refine wP tok ?_
        exact wJ r50 H
       ·
        iterate 3 refine w_skip rfl rfl ?_
        refine wP tok ?_
        exact wJ false H
     ·
      refine c_skip ?_
      exact xJ ((mget l32 v31).getD false) H
  ·
   refine c_exit ?_
   refine x_te (x_te ?_)
   refine x_bh ?_
   refine x_seq (c_seq (c_region ?_))
   iterate 3 refine wP tok ?_
   refine w_end (x_seq ?_)
   refine cW [(6, Slc.v t12_1), (7, .int .i64 0)] ?_
   refine c_ret ?_
   exact x_ret _ rfl _ rfl ⟨(t12_1, 0), rfl, H⟩

theorem query_groups_ok : CallOk Go.Proofs.Tryz.prog 19 := ⟨_, Go.Proofs.Tryz.func19, by kernel_rfl, by kernel_rfl⟩
theorem query_groups_ref (p0 : Slc) (k : (Slc) → Heap → Prop) (h : Heap) (H : query_groups p0 k h) : CallsH Go.Proofs.Tryz.prog 19 #[Slc.v p0] h (fun v h' => ∃ r : Slc, v = Slc.v r ∧ k r h') := by
 refine f_enter (N := 38) Go.Proofs.Tryz.func19 rfl rfl rfl (fun w0 => ?_)
 unfold query_groups at H
 refine cW [(0, Slc.v p0)] ?_
 refine c_seq (c_region ?_)
 refine wP tok ?_
 refine w_end (x_seq ?_)
 refine c_scope ?_
 refine c_seq (c_region ?_)
 refine wP tok ?_
 refine w_end (x_seq (c_seq ?_))
 refine c_label ?_
 refine x_seq (c_seq (c_block ?_))
 obtain ⟨I1, μ1, H0, HI⟩ := H
 refine c_loop (σ := Slc × Slc) (fun (s : Slc × Slc) => [(0, Slc.v s.1), (3, Slc.v s.2)]) I1 μ1 (p0, (⟨none, 0, 0⟩ : Slc)) H0 ⟨rfl, rfl, trivial⟩ ?_
 rintro ⟨t0_1, t3_1⟩ h_1 H
 replace H := HI t0_1 t3_1 h_1 H
 unfold query_groups_l1b at H
 refine cW [(0, Slc.v t0_1), (3, Slc.v t3_1)] ?_
 refine c_seq (c_seq (c_region ?_))
 iterate 3 refine wP tok ?_
 refine w_end (x_seq ?_)
 refine c_if H rfl (fun H => ?_) (fun H => ?_)
 ·
  refine c_skip (x_seq ?_)
  refine c_block (c_seq ?_)
  refine c_seq (c_region ?_)
  iterate 3 refine wP tok ?_
  refine w_end (x_seq (c_block ?_))
  obtain ⟨I2, μ2, H0, HI⟩ := H
  refine c_loop (σ := Slc × Slc × Int) (fun (s : Slc × Slc × Int) => [(0, Slc.v s.1), (3, Slc.v s.2.1), (11, .int .i64 s.2.2), (9, Slc.v t0_1), (10, .int .i64 (t0_1.len : Int))]) I2 μ2 (t0_1, t3_1, 0) H0 ⟨rfl, rfl, rfl, rfl, rfl, trivial⟩ ?_
  rintro ⟨t0_2, t3_2, t11_2⟩ h_2 H
  replace H := HI t0_2 t3_2 t11_2 h_2 H
  unfold query_groups_l2b at H
  refine cW [(0, Slc.v t0_2), (3, Slc.v t3_2), (11, .int .i64 t11_2), (9, Slc.v t0_1), (10, .int .i64 (t0_1.len : Int))] ?_
  refine c_seq (c_region ?_)
  refine wP tok ?_
  refine w_end (x_seq (c_seq ?_))
  refine c_if H rfl (fun H => ?_) (fun H => ?_)
  ·
   refine c_skip (x_seq ?_)
   refine c_seq (c_block ?_)
   refine c_seq (c_region ?_)
   refine wP tok ?_
   obtain ⟨a1, ha1, la1, ua1, H⟩ := H
   refine w_y (y_ixa' tok rfl rfl ha1 rfl rfl rfl la1 ua1) rfl rfl ?_
   obtain ⟨v2, hv2, H⟩ := H
   refine w_y (y_lda tok rfl rfl rfl rfl rfl hv2) rfl rfl ?_
   obtain ⟨b3, h4, eb3, eh4, H⟩ := H
   refine w_h (h_alloc tok rfl rfl eb3 eh4) rfl rfl ?_
   refine wP tok ?_
   obtain ⟨h5, wh5, eh5, H⟩ := H
   refine w_h (h_sts tok rfl rfl rfl rfl rfl (oneC (by kernel_rfl)) wh5 eh5) rfl rfl ?_
   refine w_end (x_seq (c_seq ?_))
   refine c_draw (by kernel_rfl) (by kernel_rfl) ?_
   refine q_p tok rfl rfl rfl ?_
   obtain ⟨v6, hv6, H⟩ := H
   refine q_y (y_ld tok rfl rfl rfl rfl hv6) rfl rfl ?_
   refine q_p tok rfl rfl rfl ?_
   obtain ⟨a7, ha7, la7, ua7, H⟩ := H
   refine q_y (y_ixa' tok rfl rfl ha7 rfl rfl rfl la7 ua7) rfl rfl ?_
   refine q_p tok rfl rfl rfl ?_
   obtain ⟨v8, hv8, H⟩ := H
   refine q_y (y_ld tok rfl rfl rfl rfl hv8) rfl rfl ?_
   refine q_p tok rfl rfl rfl ?_
   refine q_end ?_
   refine x_seq ?_
   refine cW [(0, Slc.v t0_2), (3, Slc.v t3_2), (11, .int .i64 t11_2), (9, Slc.v t0_1), (10, .int .i64 (t0_1.len : Int)), (4, .int .i64 t11_2), (22, .bool (!(v6.toList == v8.toList)))] ?_
   refine c_if H rfl (fun H => ?_) (fun H => ?_)
   ·
    refine c_seq (c_region ?_)
    iterate 3 refine wP tok ?_
    obtain ⟨s9, ps9, qs9, rs9, ts9, es9, H⟩ := H
    refine w_ye (y_sl (s := t0_2) (L := 0) (H := t11_2) (M := (t0_2.cap : Int)) tok rfl rfl rfl rfl rfl rfl rfl (by simp) ps9 qs9 rs9 ts9) (congrArg Slc.v es9) rfl rfl ?_
    obtain ⟨b10, h11, eb10, eh11, H⟩ := H
    refine w_h (h_bs tok rfl rfl rfl rfl rfl rfl rfl eb10 eh11) rfl rfl ?_
    refine w_a (a_app (s := t3_2) (r := (⟨some ⟨b10, 0, none⟩, 1, 1⟩ : Slc)) tok rfl rfl rfl rfl rfl (slcAt_push eb10 eh11) H) rfl rfl ?_
    rintro _ h13 ⟨s12, rfl, H⟩
    refine wP tok ?_
    refine w_end (x_seq ?_)
    refine cW [(0, Slc.v t0_2), (3, Slc.v s12), (4, .int .i64 t11_2)] ?_
    refine c_seq (c_region ?_)
    iterate 2 refine wP tok ?_
    obtain ⟨s14, ps14, qs14, rs14, ts14, es14, H⟩ := H
    refine w_ye (y_sl (s := t0_2) (L := t11_2) (H := (t0_2.len : Int)) (M := (t0_2.cap : Int)) tok rfl rfl rfl rfl rfl rfl rfl (by simp) ps14 qs14 rs14 ts14) (congrArg Slc.v es14) rfl rfl ?_
    refine wP tok ?_
    refine w_end (x_seq ?_)
    refine c_exit ?_
    refine x_bm rfl ?_
    refine x_te (x_te ?_)
    refine x_bm rfl ?_
    refine x_te ?_
    refine x_bh ?_
    exact xJ (s14, s12) H
   ·
    refine c_skip ?_
    refine x_blk ?_
    refine x_seq (c_region ?_)
    iterate 2 refine wP tok ?_
    refine w_end ?_
    exact xJ (t0_2, t3_2, (IntKind.i64.wrap (t11_2 + 1))) H
  ·
   refine c_exit ?_
   refine x_te (x_te ?_)
   refine x_bh ?_
   refine x_seq (c_seq (c_region ?_))
   iterate 2 refine wP tok ?_
   obtain ⟨b15, h16, eb15, eh16, H⟩ := H
   refine w_h (h_bs tok rfl rfl rfl rfl rfl rfl rfl eb15 eh16) rfl rfl ?_
   refine w_a (a_app (s := t3_2) (r := (⟨some ⟨b15, 0, none⟩, 1, 1⟩ : Slc)) tok rfl rfl rfl rfl rfl (slcAt_push eb15 eh16) H) rfl rfl ?_
   rintro _ h18 ⟨s17, rfl, H⟩
   refine wP tok ?_
   refine w_end (x_seq ?_)
   refine cW [(2, Slc.v s17)] ?_
   refine c_ret ?_
   refine x_br ?_
   refine x_tr ?_
   refine x_br ?_
   refine x_tr ?_
   refine x_sr ?_
   exact x_ret _ rfl _ rfl ⟨s17, rfl, H⟩
 ·
  refine c_exit ?_
  refine x_te (x_te ?_)
  refine x_bh ?_
  refine x_seq (c_seq (c_region ?_))
  iterate 2 refine wP tok ?_
  refine w_end (x_seq (c_ret ?_))
  refine x_sr ?_
  exact x_ret _ rfl _ rfl ⟨t3_1, rfl, H⟩

theorem query_sum_ok : CallOk Go.Proofs.Tryz.prog 45 := ⟨_, Go.Proofs.Tryz.func45, by kernel_rfl, by kernel_rfl⟩
theorem query_sum_ref (p0 : Slc) (k : (S_api_Wide) → Heap → Prop) (h : Heap) (H : query_sum p0 k h) : CallsH Go.Proofs.Tryz.prog 45 #[Slc.v p0] h (fun v h' => ∃ r : S_api_Wide, v = .agg (S_api_Wide.cs r).toArray ∧ k r h') := by
 refine f_enter (N := 22) Go.Proofs.Tryz.func45 rfl rfl rfl (fun w0 => ?_)
 unfold query_sum at H
 refine cW [(0, Slc.v p0)] ?_
 refine c_seq (c_region ?_)
 obtain ⟨b1, h2, eb1, eh2, H⟩ := H
 refine w_h (h_alloc tok rfl rfl eb1 eh2) rfl rfl ?_
 refine w_end (x_seq ?_)
 refine c_seq (c_region ?_)
 obtain ⟨b3, h4, eb3, eh4, H⟩ := H
 refine w_h (h_alloc tok rfl rfl eb3 eh4) rfl rfl ?_
 refine w_end (x_seq ?_)
 refine c_seq (c_seq (c_region ?_))
 iterate 3 refine wP tok ?_
 refine w_end (x_seq (c_block ?_))
 obtain ⟨I1, μ1, H0, HI⟩ := H
 refine c_loop (σ := Int) (fun (s : Int) => [(8, .int .i64 s), (2, pt b1), (3, pt b3), (6, Slc.v p0), (7, .int .i64 (p0.len : Int))]) I1 μ1 0 H0 ⟨rfl, rfl, rfl, rfl, rfl, trivial⟩ ?_
 rintro t8_1 h_1 H
 replace H := HI t8_1 h_1 H
 unfold query_sum_l1b at H
 refine cW [(8, .int .i64 t8_1), (2, pt b1), (3, pt b3), (6, Slc.v p0), (7, .int .i64 (p0.len : Int))] ?_
 refine c_seq (c_region ?_)
 refine wP tok ?_
 refine w_end (x_seq (c_seq ?_))
 refine c_if H rfl (fun H => ?_) (fun H => ?_)
 ·
  refine c_skip (x_seq ?_)
  refine c_seq (c_block ?_)
  refine c_seq (c_region ?_)
  obtain ⟨a5, ha5, la5, ua5, H⟩ := H
  refine w_y (y_ixa' tok rfl rfl ha5 rfl rfl rfl la5 ua5) rfl rfl ?_
  obtain ⟨v6, hv6, H⟩ := H
  refine w_y (y_lda tok rfl rfl rfl rfl rfl hv6) rfl rfl ?_
  obtain ⟨b7, h8, eb7, eh8, H⟩ := H
  refine w_h (h_alloc tok rfl rfl eb7 eh8) rfl rfl ?_
  obtain ⟨h9, wh9, eh9, H⟩ := H
  refine w_h (h_sts tok rfl rfl rfl rfl rfl (oneC (by kernel_rfl)) wh9 eh9) rfl rfl ?_
  refine w_end (x_seq ?_)
  refine c_sim [(2, pt b1), (3, pt b3), (5, pt b7), (6, Slc.v p0), (7, .int .i64 (p0.len : Int)), (8, .int .i64 t8_1)] (by kernel_rfl) (by kernel_rfl) ⟨rfl, rfl, rfl, rfl, rfl, rfl, trivial⟩ (fun wf => ?_)
  obtain ⟨v10, hv10, H⟩ := H
  refine sV 0 [(3, pt b3)] (some 13) wf (pf_y rfl rfl rfl (y_lda tok rfl rfl rfl rfl rfl hv10)) (fun P_0 => ?_)
  refine sT 1 [(5, pt b7)] (some 14) tok wf (fun P_1 => ?_)
  obtain ⟨v11, hv11, H⟩ := H
  refine sV 2 [(14, .pointer (some ((ad b7).add 2)))] (some 15) wf (pf_y rfl rfl rfl (y_ld tok rfl rfl rfl rfl hv11)) (fun P_2 => ?_)
  refine sim_c 3 [1, 2] [1, 2] (ei := [(15, .int .i64 v11)]) num_Wide_ok (num_Wide_ref _ _ _ H) wf ⟨P_2, P_1 _, P_0, trivial⟩ (by kernel_rfl) ⟨rfl, trivial⟩ (by kernel_rfl) rfl rfl rfl rfl rfl ?_
  rintro _ h13 ⟨r12, rfl, H⟩
  obtain ⟨hy14, H⟩ := H
  refine sim_re (x := ⟨0, .agg (S_api_Wide.cs v10).toArray, [(3, pt b3)]⟩) (pf_y rfl rfl rfl (y_lda tok rfl rfl rfl rfl rfl hy14)) (fun P_0 => ?_)
  refine sim_c 4 [0, 1, 2, 3] [0, 1, 2] (ei := [(13, .agg (S_api_Wide.cs v10).toArray), (16, .agg (S_api_Wide.cs r12).toArray)]) num_Add_ok (num_Add_ref _ _ _ _ H) wf ⟨trivial, trivial, P_0, trivial⟩ (by kernel_rfl) ⟨rfl, rfl, trivial⟩ (by kernel_rfl) rfl rfl rfl rfl rfl ?_
  rintro _ h16 ⟨r15, rfl, H⟩
  refine sT 5 [(17, .tuple #[.agg (S_api_Wide.cs r15.1).toArray, .int .i64 r15.2])] (some 12) tok wf (fun P_5 => ?_)
  refine sT 6 [(12, .tuple #[.agg (S_api_Wide.cs r15.1).toArray, .int .i64 r15.2])] (some 18) tok wf (fun P_6 => ?_)
  refine sT 7 [(12, .tuple #[.agg (S_api_Wide.cs r15.1).toArray, .int .i64 r15.2])] (some 19) tok wf (fun P_7 => ?_)
  obtain ⟨h17, wh17, eh17, H⟩ := H
  refine sim_h 8 [0, 1, 2, 3, 4, 5, 6] [0, 1, 2, 5, 6] (ei := [(3, pt b3), (18, .agg (S_api_Wide.cs r15.1).toArray)]) wf ⟨P_7 _, P_6 _, P_5 _, trivial, trivial, trivial, trivial⟩ (by kernel_rfl) ⟨rfl, rfl, trivial⟩ (by kernel_rfl) rfl rfl rfl (h_sts tok rfl rfl rfl rfl rfl (oneC (by kernel_rfl)) wh17 eh17) ?_
  refine sim_end wf ⟨P_7 _, trivial, trivial, trivial, trivial, trivial, trivial⟩ (by kernel_rfl) ?_
  clear wf P_0 P_1 P_2 P_5 P_6 P_7
  refine x_blk ?_
  refine x_seq ?_
  refine cW [(2, pt b1), (3, pt b3), (6, Slc.v p0), (7, .int .i64 (p0.len : Int)), (8, .int .i64 t8_1)] ?_
  refine c_region ?_
  iterate 2 refine wP tok ?_
  refine w_end ?_
  exact xJ (IntKind.i64.wrap (t8_1 + 1)) H
 ·
  refine c_exit ?_
  refine x_te (x_te ?_)
  refine x_bh ?_
  refine x_seq (c_seq (c_region ?_))
  obtain ⟨v18, hv18, H⟩ := H
  refine w_y (y_lda tok rfl rfl rfl rfl rfl hv18) rfl rfl ?_
  obtain ⟨h19, wh19, eh19, H⟩ := H
  refine w_h (h_sts tok rfl rfl rfl rfl rfl (oneC (by kernel_rfl)) wh19 eh19) rfl rfl ?_
  refine w_end (x_seq (c_ret ?_))
  obtain ⟨v20, hv20, H⟩ := H
  exact x_retc tok _ rfl [.agg (S_api_Wide.cs v20).toArray] ⟨⟨_, _, rfl, rfl, .inr ⟨rfl, _, rfl, rfl, hv20⟩⟩, trivial⟩ ⟨v20, rfl, H⟩

theorem query_minus_ok : CallOk Go.Proofs.Tryz.prog 75 := ⟨_, Go.Proofs.Tryz.func75, by kernel_rfl, by kernel_rfl⟩
theorem query_minus_ref (p0 : Int) (p1 : Int) (k : (Int × Bool) → Heap → Prop) (h : Heap) (H : query_minus p0 p1 k h) : CallsH Go.Proofs.Tryz.prog 75 #[.int .i64 p0, .int .i64 p1] h (fun v h' => ∃ r : Int × Bool, v = .tuple #[.int .i64 r.1, .bool r.2] ∧ k r h') := by
 refine f_enter (N := 17) Go.Proofs.Tryz.func75 rfl rfl rfl (fun w0 => ?_)
 unfold query_minus at H
 refine cW [(0, .int .i64 p0), (1, .int .i64 p1)] ?_
 refine c_seq (c_region ?_)
 iterate 2 refine wP tok ?_
 refine w_end (x_seq ?_)
 refine c_seq (c_region ?_)
 iterate 3 refine wP tok ?_
 obtain ⟨x1, ex1, H⟩ := H
 refine w_pe tok rfl (congrArg (fun z => (.int .i64 z : Value)) ex1) rfl rfl ?_
 refine w_end (x_seq ?_)
 refine c_seq (c_region ?_)
 iterate 9 refine wP tok ?_
 refine w_end (x_seq ?_)
 refine cW [(4, .int .i64 x1), (5, .bool (((decide (x1 < p0)) == (decide (p1 > 0)))))] ?_
 refine c_ret ?_
 exact x_ret _ rfl _ rfl ⟨(x1, (((decide (x1 < p0)) == (decide (p1 > 0))))), rfl, H⟩

theorem query_rate_ok : CallOk Go.Proofs.Tryz.prog 49 := ⟨_, Go.Proofs.Tryz.func49, by kernel_rfl, by kernel_rfl⟩
theorem query_rate_ref (p0 : Slc) (k : (Int × Int) → Heap → Prop) (h : Heap) (H : query_rate p0 k h) : CallsH Go.Proofs.Tryz.prog 49 #[Slc.v p0] h (fun v h' => ∃ r : Int × Int, v = .tuple #[.int .i64 r.1, .int .i64 r.2] ∧ k r h') := by
 refine f_enter (N := 46) Go.Proofs.Tryz.func49 rfl rfl rfl (fun w0 => ?_)
 unfold query_rate at H
 refine cW [(0, Slc.v p0)] ?_
 refine c_seq (c_region ?_)
 iterate 2 refine wP tok ?_
 refine w_end (x_seq ?_)
 refine c_seqJ (α := Addr × Addr) (fun (s : Addr × Addr) => [(4, .pointer (some s.1)), (5, .pointer (some s.2))]) (fun (s : Addr × Addr) h => query_rate_j1 s.1 s.2 k h) ?_ ?_
 ·
  rintro ⟨t4_1, t5_1⟩ h_1 H
  unfold query_rate_j1 at H
  refine cW [(4, .pointer (some t4_1)), (5, .pointer (some t5_1))] ?_
  refine c_seq (c_region ?_)
  refine wP tok ?_
  obtain ⟨v1, hv1, H⟩ := H
  refine w_y (y_ld tok rfl rfl rfl rfl hv1) rfl rfl ?_
  refine wP tok ?_
  obtain ⟨v2, hv2, H⟩ := H
  refine w_y (y_ld tok rfl rfl rfl rfl hv2) rfl rfl ?_
  refine w_call query_minus_ok (query_minus_ref _ _ _ _ H) rfl rfl rfl rfl ?_
  rintro _ h4 ⟨r3, rfl, H⟩
  iterate 5 refine wP tok ?_
  refine w_end (x_seq ?_)
  refine cW [(4, .pointer (some t4_1)), (5, .pointer (some t5_1)), (6, .int .i64 r3.1), (7, .bool r3.2)] ?_
  refine c_seq (c_region ?_)
  refine wP tok ?_
  obtain ⟨v5, hv5, H⟩ := H
  refine w_y (y_ld tok rfl rfl rfl rfl hv5) rfl rfl ?_
  refine wP tok ?_
  obtain ⟨v6, hv6, H⟩ := H
  refine w_y (y_ld tok rfl rfl rfl rfl hv6) rfl rfl ?_
  refine w_call query_minus_ok (query_minus_ref _ _ _ _ H) rfl rfl rfl rfl ?_
  rintro _ h8 ⟨r7, rfl, H⟩
  iterate 5 refine wP tok ?_
  refine w_end (x_seq ?_)
  refine cW [(6, .int .i64 r3.1), (7, .bool r3.2), (8, .int .i64 r7.1), (9, .bool r7.2)] ?_
  refine c_seq (c_seq (c_region ?_))
  iterate 3 refine wP tok ?_
  refine w_cutU 3 [(40, .bool ((!r3.2) || (!r7.2))), (6, .int .i64 r3.1), (8, .int .i64 r7.1)] ?_ ?_
  ·
   refine w_end (x_seq ?_)
   refine c_if H rfl (fun H => ?_) (fun H => ?_)
   ·
    refine c_seq (c_region ?_)
    iterate 2 refine wP tok ?_
    refine w_end (x_seq ?_)
    refine c_ret (x_tr ?_)
    exact x_ret _ rfl _ rfl ⟨(0, 19), rfl, H⟩
   ·
    refine c_skip (x_seq ?_)
    refine c_seq (c_region ?_)
    iterate 2 refine wP tok ?_
    refine w_call num_Floor_ok (num_Floor_ref _ _ _ _ H) rfl rfl rfl rfl ?_
    rintro _ h10 ⟨r9, rfl, H⟩
    iterate 4 refine wP tok ?_
    refine w_end (x_seq ?_)
    refine cW [(2, .int .i64 r9.1), (3, .int .i64 r9.2)] ?_
    refine c_ret ?_
    exact x_ret _ rfl _ rfl ⟨(r9.1, r9.2), rfl, H⟩
  ·
   refine w_gs (d := 37) rfl (fun hb => ?_) (fun hb => ?_)
   ·
    iterate 2 refine w_skip rfl rfl ?_
    refine wP tok ?_
    refine w_jn () rfl ⟨?_, rfl, rfl, trivial⟩
    exact congrArg (fun b => some (Value.bool b)) (or_t hb)
   ·
    iterate 3 refine wP tok ?_
    refine w_jn () rfl ⟨?_, rfl, rfl, trivial⟩
    exact congrArg (fun b => some (Value.bool b)) (or_f hb)
 ·
  refine c_sim [(0, Slc.v p0)] (by kernel_rfl) (by kernel_rfl) ⟨rfl, trivial⟩ (fun wf => ?_)
  refine sT 0 [(0, Slc.v p0)] (some 10) tok wf (fun P_0 => ?_)
  obtain ⟨a11, ha11, la11, ua11, H⟩ := H
  refine sU 1 [(10, Slc.v p0)] (some 11) wf (fun _ => pf_y rfl rfl rfl (y_ixa' tok rfl rfl ha11 rfl rfl rfl la11 ua11)) (fun P_1 => ?_)
  obtain ⟨v12, hv12, H⟩ := H
  refine sV 2 [(11, .pointer (some (a11.add ((0 : Int).toNat * 5))))] (some 12) wf (pf_y rfl rfl rfl (y_lda tok rfl rfl rfl rfl rfl hv12)) (fun P_2 => ?_)
  refine sT 3 [(0, Slc.v p0)] (some 13) tok wf (fun P_3 => ?_)
  refine sT 4 [(0, Slc.v p0)] (some 14) tok wf (fun P_4 => ?_)
  refine sT 5 [(14, Slc.v p0)] (some 15) tok wf (fun P_5 => ?_)
  refine sT 6 [(15, .int .i64 (p0.len : Int))] (some 16) tok wf (fun P_6 => ?_)
  obtain ⟨a13, ha13, la13, ua13, H⟩ := H
  refine sU 7 [(13, Slc.v p0), (16, .int .i64 (IntKind.i64.wrap ((p0.len : Int) - 1)))] (some 17) wf (fun _ => pf_y rfl rfl rfl (y_ixa' tok rfl rfl ha13 rfl rfl rfl la13 ua13)) (fun P_7 => ?_)
  obtain ⟨v14, hv14, H⟩ := H
  refine sV 8 [(17, .pointer (some (a13.add ((IntKind.i64.wrap ((p0.len : Int) - 1)).toNat * 5))))] (some 18) wf (pf_y rfl rfl rfl (y_lda tok rfl rfl rfl rfl rfl hv14)) (fun P_8 => ?_)
  refine sim_or 9 10 wf ⟨P_8, P_7 _, P_6 _, P_5 _, P_4 _, P_3 _, P_2, P_1 _, P_0 _, trivial⟩ (by kernel_rfl) (by kernel_rfl) H (fun H => ?_) (fun H => ?_)
  ·
   obtain ⟨b15, h16, eb15, eh16, H⟩ := H
   refine sim_hi 9 [] [] (ei := []) wf ⟨P_8, P_7 _, P_6 _, P_5 _, P_4 _, P_3 _, P_2, P_1 _, P_0 _, trivial⟩ (by kernel_rfl) trivial (by kernel_rfl) rfl rfl rfl (h_alloc tok rfl rfl eb15 eh16) ?_
   obtain ⟨hy17, hy18, H⟩ := H
   refine sim_re (x := ⟨8, .agg (S_api_Piece.cs v14).toArray, [(17, .pointer (some (a13.add ((IntKind.i64.wrap ((p0.len : Int) - 1)).toNat * 5))))]⟩) (pf_y rfl rfl rfl (y_lda tok rfl rfl rfl rfl rfl hy17)) (fun P_8 => ?_)
   refine sim_re (x := ⟨2, .agg (S_api_Piece.cs v12).toArray, [(11, .pointer (some (a11.add ((0 : Int).toNat * 5))))]⟩) (pf_y rfl rfl rfl (y_lda tok rfl rfl rfl rfl rfl hy18)) (fun P_2 => ?_)
   obtain ⟨b19, h20, eb19, eh20, H⟩ := H
   refine sim_h 10 [] [] (ei := []) wf ⟨P_8, P_7 _, P_6 _, P_5 _, P_4 _, P_3 _, P_2, P_1 _, P_0 _, trivial⟩ (by kernel_rfl) trivial (by kernel_rfl) rfl rfl rfl (h_alloc tok rfl rfl eb19 eh20) ?_
   obtain ⟨hy21, hy22, H⟩ := H
   refine sim_re (x := ⟨8, .agg (S_api_Piece.cs v14).toArray, [(17, .pointer (some (a13.add ((IntKind.i64.wrap ((p0.len : Int) - 1)).toNat * 5))))]⟩) (pf_y rfl rfl rfl (y_lda tok rfl rfl rfl rfl rfl hy21)) (fun P_8 => ?_)
   refine sim_re (x := ⟨2, .agg (S_api_Piece.cs v12).toArray, [(11, .pointer (some (a11.add ((0 : Int).toNat * 5))))]⟩) (pf_y rfl rfl rfl (y_lda tok rfl rfl rfl rfl rfl hy22)) (fun P_2 => ?_)
   obtain ⟨h23, wh23, eh23, H⟩ := H
   refine sim_h 11 [0, 1, 2, 9, 10] [0, 1, 2] (ei := [(4, pt b15), (12, .agg (S_api_Piece.cs v12).toArray)]) wf ⟨P_8, P_7 _, P_6 _, P_5 _, P_4 _, P_3 _, P_2, P_1 _, P_0 _, trivial⟩ (by kernel_rfl) ⟨rfl, rfl, trivial⟩ (by kernel_rfl) rfl rfl rfl (h_sts tok rfl rfl rfl rfl rfl (oneC (by kernel_rfl)) wh23 eh23) ?_
   obtain ⟨hy24, H⟩ := H
   refine sim_re (x := ⟨8, .agg (S_api_Piece.cs v14).toArray, [(17, .pointer (some (a13.add ((IntKind.i64.wrap ((p0.len : Int) - 1)).toNat * 5))))]⟩) (pf_y rfl rfl rfl (y_lda tok rfl rfl rfl rfl rfl hy24)) (fun P_8 => ?_)
   obtain ⟨h25, wh25, eh25, H⟩ := H
   refine sim_h 12 [0, 1, 2, 3, 4, 5, 6, 7, 8, 9, 10, 11] [0, 1, 2, 3, 4, 5, 6, 7, 8] (ei := [(5, pt b19), (18, .agg (S_api_Piece.cs v14).toArray)]) wf ⟨P_8, P_7 _, P_6 _, P_5 _, P_4 _, P_3 _, trivial, trivial, trivial, trivial⟩ (by kernel_rfl) ⟨rfl, rfl, trivial⟩ (by kernel_rfl) rfl rfl rfl (h_sts tok rfl rfl rfl rfl rfl (oneC (by kernel_rfl)) wh25 eh25) ?_
   refine sim_end wf ⟨trivial, trivial, trivial, trivial, trivial, trivial, trivial, trivial, trivial, trivial⟩ (by kernel_rfl) ?_
   clear wf P_0 P_1 P_2 P_3 P_4 P_5 P_6 P_7 P_8
   exact xJ ((ad b15), (ad b19)) H
  ·
   obtain ⟨b26, h27, eb26, eh27, H⟩ := H
   refine sim_hi 10 [] [] (ei := []) wf ⟨P_8, P_7 _, P_6 _, P_5 _, P_4 _, P_3 _, P_2, P_1 _, P_0 _, trivial⟩ (by kernel_rfl) trivial (by kernel_rfl) rfl rfl rfl (h_alloc tok rfl rfl eb26 eh27) ?_
   obtain ⟨hy28, hy29, H⟩ := H
   refine sim_re (x := ⟨8, .agg (S_api_Piece.cs v14).toArray, [(17, .pointer (some (a13.add ((IntKind.i64.wrap ((p0.len : Int) - 1)).toNat * 5))))]⟩) (pf_y rfl rfl rfl (y_lda tok rfl rfl rfl rfl rfl hy28)) (fun P_8 => ?_)
   refine sim_re (x := ⟨2, .agg (S_api_Piece.cs v12).toArray, [(11, .pointer (some (a11.add ((0 : Int).toNat * 5))))]⟩) (pf_y rfl rfl rfl (y_lda tok rfl rfl rfl rfl rfl hy29)) (fun P_2 => ?_)
   obtain ⟨b30, h31, eb30, eh31, H⟩ := H
   refine sim_h 9 [] [] (ei := []) wf ⟨P_8, P_7 _, P_6 _, P_5 _, P_4 _, P_3 _, P_2, P_1 _, P_0 _, trivial⟩ (by kernel_rfl) trivial (by kernel_rfl) rfl rfl rfl (h_alloc tok rfl rfl eb30 eh31) ?_
   obtain ⟨hy32, hy33, H⟩ := H
   refine sim_re (x := ⟨8, .agg (S_api_Piece.cs v14).toArray, [(17, .pointer (some (a13.add ((IntKind.i64.wrap ((p0.len : Int) - 1)).toNat * 5))))]⟩) (pf_y rfl rfl rfl (y_lda tok rfl rfl rfl rfl rfl hy32)) (fun P_8 => ?_)
   refine sim_re (x := ⟨2, .agg (S_api_Piece.cs v12).toArray, [(11, .pointer (some (a11.add ((0 : Int).toNat * 5))))]⟩) (pf_y rfl rfl rfl (y_lda tok rfl rfl rfl rfl rfl hy33)) (fun P_2 => ?_)
   obtain ⟨h34, wh34, eh34, H⟩ := H
   refine sim_h 11 [0, 1, 2, 9, 10] [0, 1, 2] (ei := [(4, pt b30), (12, .agg (S_api_Piece.cs v12).toArray)]) wf ⟨P_8, P_7 _, P_6 _, P_5 _, P_4 _, P_3 _, P_2, P_1 _, P_0 _, trivial⟩ (by kernel_rfl) ⟨rfl, rfl, trivial⟩ (by kernel_rfl) rfl rfl rfl (h_sts tok rfl rfl rfl rfl rfl (oneC (by kernel_rfl)) wh34 eh34) ?_
   obtain ⟨hy35, H⟩ := H
   refine sim_re (x := ⟨8, .agg (S_api_Piece.cs v14).toArray, [(17, .pointer (some (a13.add ((IntKind.i64.wrap ((p0.len : Int) - 1)).toNat * 5))))]⟩) (pf_y rfl rfl rfl (y_lda tok rfl rfl rfl rfl rfl hy35)) (fun P_8 => ?_)
   obtain ⟨h36, wh36, eh36, H⟩ := H
   refine sim_h 12 [0, 1, 2, 3, 4, 5, 6, 7, 8, 9, 10, 11] [0, 1, 2, 3, 4, 5, 6, 7, 8] (ei := [(5, pt b26), (18, .agg (S_api_Piece.cs v14).toArray)]) wf ⟨P_8, P_7 _, P_6 _, P_5 _, P_4 _, P_3 _, trivial, trivial, trivial, trivial⟩ (by kernel_rfl) ⟨rfl, rfl, trivial⟩ (by kernel_rfl) rfl rfl rfl (h_sts tok rfl rfl rfl rfl rfl (oneC (by kernel_rfl)) wh36 eh36) ?_
   refine sim_end wf ⟨trivial, trivial, trivial, trivial, trivial, trivial, trivial, trivial, trivial, trivial⟩ (by kernel_rfl) ?_
   clear wf P_0 P_1 P_2 P_3 P_4 P_5 P_6 P_7 P_8
   exact xJ ((ad b30), (ad b26)) H

theorem query_each_ok : CallOk Go.Proofs.Tryz.prog 50 := ⟨_, Go.Proofs.Tryz.func50, by kernel_rfl, by kernel_rfl⟩
theorem query_each_ref (p0 : Slc) (p1 : Int) (k : (Slc) → Heap → Prop) (h : Heap) (H : query_each p0 p1 k h) : CallsH Go.Proofs.Tryz.prog 50 #[Slc.v p0, .int .i64 p1] h (fun v h' => ∃ r : Slc, v = Slc.v r ∧ k r h') := by
 refine f_enter (N := 73) Go.Proofs.Tryz.func50 rfl rfl rfl (fun w0 => ?_)
 unfold query_each at H
 refine cW [(0, Slc.v p0), (1, .int .i64 p1)] ?_
 refine c_seq (c_region ?_)
 refine wP tok ?_
 refine w_end (x_seq ?_)
 refine c_seq (c_region ?_)
 refine wP tok ?_
 refine w_end (x_seq ?_)
 refine c_seq (c_seq (c_region ?_))
 iterate 3 refine wP tok ?_
 refine w_end (x_seq (c_block ?_))
 obtain ⟨I1, μ1, H0, HI⟩ := H
 refine c_loop (σ := Slc × Int) (fun (s : Slc × Int) => [(5, Slc.v s.1), (13, .int .i64 s.2), (1, .int .i64 p1), (11, Slc.v p0), (12, .int .i64 (p0.len : Int))]) I1 μ1 ((⟨none, 0, 0⟩ : Slc), 0) H0 ⟨rfl, rfl, rfl, rfl, rfl, trivial⟩ ?_
 rintro ⟨t5_1, t13_1⟩ h_1 H
 replace H := HI t5_1 t13_1 h_1 H
 unfold query_each_l1b at H
 refine cW [(5, Slc.v t5_1), (13, .int .i64 t13_1), (1, .int .i64 p1), (11, Slc.v p0), (12, .int .i64 (p0.len : Int))] ?_
 refine c_seq (c_region ?_)
 refine wP tok ?_
 refine w_end (x_seq (c_seq ?_))
 refine c_if H rfl (fun H => ?_) (fun H => ?_)
 ·
  refine c_skip (x_seq ?_)
  refine c_seqJ (α := Slc) (fun (s : Slc) => [(5, Slc.v s), (1, .int .i64 p1), (11, Slc.v p0), (12, .int .i64 (p0.len : Int)), (13, .int .i64 t13_1)]) (fun (s : Slc) h => query_each_j2 p1 p0 (p0.len : Int) t13_1 s k (fun s h' => I1 s h' ∧ μ1 s h' < μ1 (t5_1, t13_1) h_1) h) ?_ ?_
  ·
   rintro t5_2 h_2 H
   unfold query_each_j2 at H
   refine cW [(5, Slc.v t5_2), (1, .int .i64 p1), (11, Slc.v p0), (12, .int .i64 (p0.len : Int)), (13, .int .i64 t13_1)] ?_
   refine c_region ?_
   iterate 2 refine wP tok ?_
   refine w_end ?_
   exact xJ (t5_2, (IntKind.i64.wrap (t13_1 + 1))) H
  ·
   refine c_block (c_seq (c_region ?_))
   obtain ⟨a1, ha1, la1, ua1, H⟩ := H
   refine w_y (y_ixa' tok rfl rfl ha1 rfl rfl rfl la1 ua1) rfl rfl ?_
   obtain ⟨v2, hv2, H⟩ := H
   refine w_y (y_lda tok rfl rfl rfl rfl rfl hv2) rfl rfl ?_
   obtain ⟨b3, h4, eb3, eh4, H⟩ := H
   refine w_h (h_alloc tok rfl rfl eb3 eh4) rfl rfl ?_
   obtain ⟨h5, wh5, eh5, H⟩ := H
   refine w_h (h_sts tok rfl rfl rfl rfl rfl (oneC (by kernel_rfl)) wh5 eh5) rfl rfl ?_
   refine w_end (x_seq ?_)
   refine c_seq (c_region ?_)
   refine wP tok ?_
   obtain ⟨v6, hv6, H⟩ := H
   refine w_y (y_ld tok rfl rfl rfl rfl hv6) rfl rfl ?_
   refine wP tok ?_
   refine w_call num_Floor_ok (num_Floor_ref _ _ _ _ H) rfl rfl rfl rfl ?_
   rintro _ h8 ⟨r7, rfl, H⟩
   iterate 5 refine wP tok ?_
   refine w_end (x_seq ?_)
   refine cW [(5, Slc.v t5_1), (13, .int .i64 t13_1), (1, .int .i64 p1), (11, Slc.v p0), (12, .int .i64 (p0.len : Int)), (7, pt b3), (8, .int .i64 r7.1)] ?_
   refine c_seq (c_region ?_)
   iterate 3 refine wP tok ?_
   obtain ⟨x9, ex9, H⟩ := H
   refine w_pe tok rfl (congrArg (fun z => (.int .i64 z : Value)) ex9) rfl rfl ?_
   refine w_end (x_seq ?_)
   refine c_seq (c_region ?_)
   iterate 4 refine wP tok ?_
   refine w_cut 10 (α := Bool) (fun (s : Bool) => [(40, .bool s), (1, .int .i64 p1), (5, Slc.v t5_1), (7, pt b3), (10, .int .i64 x9), (11, Slc.v p0), (12, .int .i64 (p0.len : Int)), (13, .int .i64 t13_1)]) (fun (s : Bool) h => query_each_g3 p1 t5_1 (ad b3) x9 p0 (p0.len : Int) t13_1 s k (fun s h' => I1 s h' ∧ μ1 s h' < μ1 (t5_1, t13_1) h_1) h) ?_ ?_
   ·
    rintro t40_3 h_3 H
    unfold query_each_g3 at H
    refine wW [(40, .bool t40_3), (1, .int .i64 p1), (5, Slc.v t5_1), (7, pt b3), (10, .int .i64 x9), (11, Slc.v p0), (12, .int .i64 (p0.len : Int)), (13, .int .i64 t13_1)] ?_
    refine w_end (x_seq ?_)
    refine c_if H rfl (fun H => ?_) (fun H => ?_)
    ·
     refine c_sim [(1, .int .i64 p1), (5, Slc.v t5_1), (7, pt b3), (11, Slc.v p0), (12, .int .i64 (p0.len : Int)), (13, .int .i64 t13_1)] (by kernel_rfl) (by kernel_rfl) ⟨rfl, rfl, rfl, rfl, rfl, rfl, trivial⟩ (fun wf => ?_)
     refine sT 0 [(5, Slc.v t5_1)] (some 42) tok wf (fun P_0 => ?_)
     refine sT 1 [(5, Slc.v t5_1)] (some 43) tok wf (fun P_1 => ?_)
     refine sT 2 [(43, Slc.v t5_1)] (some 44) tok wf (fun P_2 => ?_)
     refine sT 3 [(44, .int .i64 (t5_1.len : Int))] (some 45) tok wf (fun P_3 => ?_)
     refine sT 4 [(5, Slc.v t5_1)] (some 46) tok wf (fun P_4 => ?_)
     refine sT 5 [(5, Slc.v t5_1)] (some 47) tok wf (fun P_5 => ?_)
     refine sT 6 [(47, Slc.v t5_1)] (some 48) tok wf (fun P_6 => ?_)
     refine sT 7 [(48, .int .i64 (t5_1.len : Int))] (some 49) tok wf (fun P_7 => ?_)
     obtain ⟨a10, ha10, la10, ua10, H⟩ := H
     refine sU 8 [(46, Slc.v t5_1), (49, .int .i64 (IntKind.i64.wrap ((t5_1.len : Int) - 1)))] (some 50) wf (fun _ => pf_y rfl rfl rfl (y_ixa' tok rfl rfl ha10 rfl rfl rfl la10 ua10)) (fun P_8 => ?_)
     refine sT 9 [(50, .pointer (some (a10.add ((IntKind.i64.wrap ((t5_1.len : Int) - 1)).toNat * 4))))] (some 51) tok wf (fun P_9 => ?_)
     obtain ⟨v11, hv11, H⟩ := H
     refine sV 10 [(51, .pointer (some ((a10.add ((IntKind.i64.wrap ((t5_1.len : Int) - 1)).toNat * 4)).add 2)))] (some 52) wf (pf_y rfl rfl rfl (y_lda tok rfl rfl rfl rfl rfl hv11)) (fun P_10 => ?_)
     refine sT 11 [(7, pt b3)] (some 53) tok wf (fun P_11 => ?_)
     obtain ⟨v12, hv12, H⟩ := H
     refine sV 12 [(53, .pointer (some ((ad b3).add 2)))] (some 54) wf (pf_y rfl rfl rfl (y_ld tok rfl rfl rfl rfl hv12)) (fun P_12 => ?_)
     refine sim_c 13 [11, 12] [11, 12] (ei := [(54, .int .i64 v12)]) num_Wide_ok (num_Wide_ref _ _ _ H) wf ⟨P_12, P_11 _, P_10, P_9 _, P_8 _, P_7 _, P_6 _, P_5 _, P_4 _, P_3 _, P_2 _, P_1 _, P_0 _, trivial⟩ (by kernel_rfl) ⟨rfl, trivial⟩ (by kernel_rfl) rfl rfl rfl rfl rfl ?_
     rintro _ h14 ⟨r13, rfl, H⟩
     obtain ⟨hy15, H⟩ := H
     refine sim_re (x := ⟨10, .agg (S_api_Wide.cs v11).toArray, [(51, .pointer (some ((a10.add ((IntKind.i64.wrap ((t5_1.len : Int) - 1)).toNat * 4)).add 2)))]⟩) (pf_y rfl rfl rfl (y_lda tok rfl rfl rfl rfl rfl hy15)) (fun P_10 => ?_)
     refine sim_c 14 [4, 5, 6, 7, 8, 9, 10, 11, 12, 13] [4, 5, 6, 7, 8, 9, 10, 11, 12] (ei := [(52, .agg (S_api_Wide.cs v11).toArray), (55, .agg (S_api_Wide.cs r13).toArray)]) num_Add_ok (num_Add_ref _ _ _ _ H) wf ⟨trivial, trivial, P_10, P_9 _, P_8 _, P_7 _, P_6 _, P_5 _, P_4 _, P_3 _, P_2 _, P_1 _, P_0 _, trivial⟩ (by kernel_rfl) ⟨rfl, rfl, trivial⟩ (by kernel_rfl) rfl rfl rfl rfl rfl ?_
     rintro _ h17 ⟨r16, rfl, H⟩
     refine sT 15 [(56, .tuple #[.agg (S_api_Wide.cs r16.1).toArray, .int .i64 r16.2])] (some 41) tok wf (fun P_15 => ?_)
     refine sT 16 [(41, .tuple #[.agg (S_api_Wide.cs r16.1).toArray, .int .i64 r16.2])] (some 57) tok wf (fun P_16 => ?_)
     refine sT 17 [(41, .tuple #[.agg (S_api_Wide.cs r16.1).toArray, .int .i64 r16.2])] (some 58) tok wf (fun P_17 => ?_)
     obtain ⟨a18, ha18, la18, ua18, H⟩ := H
     refine sU 18 [(42, Slc.v t5_1), (45, .int .i64 (IntKind.i64.wrap ((t5_1.len : Int) - 1)))] (some 59) wf (fun _ => pf_y rfl rfl rfl (y_ixa' tok rfl rfl ha18 rfl rfl rfl la18 ua18)) (fun P_18 => ?_)
     refine sT 19 [(59, .pointer (some (a18.add ((IntKind.i64.wrap ((t5_1.len : Int) - 1)).toNat * 4))))] (some 60) tok wf (fun P_19 => ?_)
     obtain ⟨h19, wh19, eh19, H⟩ := H
     refine sim_h 20 [0, 1, 2, 3, 4, 5, 6, 7, 8, 9, 10, 11, 12, 13, 14, 15, 16, 18, 19] [0, 1, 2, 3, 4, 5, 6, 7, 8, 9, 10, 11, 12, 15, 16, 18, 19] (ei := [(57, .agg (S_api_Wide.cs r16.1).toArray), (60, .pointer (some ((a18.add ((IntKind.i64.wrap ((t5_1.len : Int) - 1)).toNat * 4)).add 2)))]) wf ⟨P_19 _, P_18 _, P_17 _, P_16 _, P_15 _, trivial, trivial, trivial, trivial, trivial, trivial, trivial, trivial, trivial, P_3 _, P_2 _, P_1 _, P_0 _, trivial⟩ (by kernel_rfl) ⟨rfl, rfl, trivial⟩ (by kernel_rfl) rfl rfl rfl (h_sts tok rfl rfl rfl rfl rfl (oneC (by kernel_rfl)) wh19 eh19) ?_
     refine sim_end wf ⟨trivial, trivial, P_17 _, trivial, trivial, trivial, trivial, trivial, trivial, trivial, trivial, trivial, trivial, trivial, trivial, trivial, trivial, trivial, trivial⟩ (by kernel_rfl) ?_
     clear wf P_0 P_1 P_10 P_11 P_12 P_15 P_16 P_17 P_18 P_19 P_2 P_3 P_4 P_5 P_6 P_7 P_8 P_9
     refine x_blk ?_
     exact xJ t5_1 H
    ·
     refine c_sim [(1, .int .i64 p1), (5, Slc.v t5_1), (7, pt b3), (10, .int .i64 x9), (11, Slc.v p0), (12, .int .i64 (p0.len : Int)), (13, .int .i64 t13_1)] (by kernel_rfl) (by kernel_rfl) ⟨rfl, rfl, rfl, rfl, rfl, rfl, rfl, trivial⟩ (fun wf => ?_)
     refine sT 0 [(5, Slc.v t5_1)] (some 61) tok wf (fun P_0 => ?_)
     refine sT 1 [(7, pt b3)] (some 62) tok wf (fun P_1 => ?_)
     obtain ⟨v20, hv20, H⟩ := H
     refine sV 2 [(62, pt b3)] (some 63) wf (pf_y rfl rfl rfl (y_ld tok rfl rfl rfl rfl hv20)) (fun P_2 => ?_)
     refine sT 3 [(10, .int .i64 x9)] (some 64) tok wf (fun P_3 => ?_)
     refine sT 4 [(7, pt b3)] (some 65) tok wf (fun P_4 => ?_)
     obtain ⟨v21, hv21, H⟩ := H
     refine sV 5 [(65, .pointer (some ((ad b3).add 2)))] (some 66) wf (pf_y rfl rfl rfl (y_ld tok rfl rfl rfl rfl hv21)) (fun P_5 => ?_)
     refine sim_c 6 [4, 5] [4, 5] (ei := [(66, .int .i64 v21)]) num_Wide_ok (num_Wide_ref _ _ _ H) wf ⟨P_5, P_4 _, P_3 _, P_2, P_1 _, P_0 _, trivial⟩ (by kernel_rfl) ⟨rfl, trivial⟩ (by kernel_rfl) rfl rfl rfl rfl rfl ?_
     rintro _ h23 ⟨r22, rfl, H⟩
     obtain ⟨hy24, H⟩ := H
     refine sim_re (x := ⟨2, .string v20, [(62, pt b3)]⟩) (pf_y rfl rfl rfl (y_ld tok rfl rfl rfl rfl hy24)) (fun P_2 => ?_)
     refine sU 7 [(63, .string v20), (64, .int .i64 x9), (67, .agg (S_api_Wide.cs r22).toArray)] (some 68) wf (fun _ => pf_y rfl rfl rfl (y_build tok rfl rfl rfl rfl rfl)) (fun P_7 => ?_)
     obtain ⟨b25, h26, eb25, eh26, H⟩ := H
     refine sim_h 8 [1, 2, 3, 4, 5, 6, 7] [1, 2, 3, 4, 5, 7] (ei := [(68, .agg (S_api_Row.cs (⟨v20, x9, r22⟩ : S_api_Row)).toArray)]) wf ⟨P_7 _, trivial, trivial, P_3 _, P_2, P_1 _, P_0 _, trivial⟩ (by kernel_rfl) ⟨rfl, trivial⟩ (by kernel_rfl) rfl rfl rfl (h_bs tok rfl rfl rfl rfl rfl rfl rfl eb25 eh26) ?_
     refine sim_a 9 [0, 1, 2, 3, 4, 5, 6, 7, 8] [0, 1, 2, 3, 4, 5, 7] (ei := [(61, Slc.v t5_1), (69, Slc.v (⟨some ⟨b25, 0, none⟩, 1, 1⟩ : Slc))]) wf ⟨trivial, trivial, trivial, trivial, trivial, trivial, P_0 _, trivial⟩ (by kernel_rfl) ⟨rfl, rfl, trivial⟩ (by kernel_rfl) rfl rfl rfl (a_app (s := t5_1) (r := (⟨some ⟨b25, 0, none⟩, 1, 1⟩ : Slc)) tok rfl rfl rfl rfl rfl (slcAt_push eb25 eh26) H) ?_
     rintro _ h28 ⟨s27, rfl, H⟩
     refine sT 10 [(70, Slc.v s27)] (some 5) tok wf (fun P_10 => ?_)
     refine sim_end wf ⟨P_10 _, trivial, trivial, trivial, trivial, trivial, trivial, trivial, trivial⟩ (by kernel_rfl) ?_
     clear wf P_0 P_1 P_10 P_2 P_3 P_4 P_5 P_7
     refine x_blk ?_
     exact xJ s27 H
   ·
    refine w_gif (d := 30) H rfl (fun H => ?_) (fun H => ?_)
    ·
     iterate 4 refine wP tok ?_
     obtain ⟨a29, ha29, la29, ua29, H⟩ := H
     refine w_y (y_ixa' tok rfl rfl ha29 rfl rfl rfl la29 ua29) rfl rfl ?_
     refine wP tok ?_
     obtain ⟨v30, hv30, H⟩ := H
     refine w_y (y_ld tok rfl rfl rfl rfl hv30) rfl rfl ?_
     iterate 3 refine wP tok ?_
     exact wJ (v30 == x9) H
    ·
     iterate 9 refine w_skip rfl rfl ?_
     refine wP tok ?_
     exact wJ false H
 ·
  refine c_exit ?_
  refine x_te (x_te ?_)
  refine x_bh ?_
  refine x_seq (c_seq (c_region ?_))
  iterate 2 refine wP tok ?_
  refine w_end (x_seq ?_)
  refine cW [(4, Slc.v t5_1)] ?_
  refine c_ret ?_
  exact x_ret _ rfl _ rfl ⟨t5_1, rfl, H⟩

theorem slices_MinFunc_api_Piece_api_Piece__query_less_ok : CallOk Go.Proofs.Tryz.prog 46 := ⟨_, Go.Proofs.Tryz.func46, by kernel_rfl, by kernel_rfl⟩
theorem slices_MinFunc_api_Piece_api_Piece__query_less_ref (p0 : Slc) (k : (S_api_Piece) → Heap → Prop) (h : Heap) (H : slices_MinFunc_api_Piece_api_Piece__query_less p0 k h) : CallsH Go.Proofs.Tryz.prog 46 #[Slc.v p0, (Value.func (.func 47) #[] #[])] h (fun v h' => ∃ r : S_api_Piece, v = .agg (S_api_Piece.cs r).toArray ∧ k r h') := by
 refine f_enter (N := 33) Go.Proofs.Tryz.func46 rfl rfl rfl (fun w0 => ?_)
 unfold slices_MinFunc_api_Piece_api_Piece__query_less at H
 refine cW [(0, Slc.v p0), (1, (Value.func (.func 47) #[] #[]))] ?_
 refine c_seq (c_region ?_)
 obtain ⟨b1, h2, eb1, eh2, H⟩ := H
 refine w_h (h_alloc tok rfl rfl eb1 eh2) rfl rfl ?_
 refine w_end (x_seq ?_)
 refine c_seqJ (α := Unit) (fun (s : Unit) => [(0, Slc.v p0), (1, (Value.func (.func 47) #[] #[])), (4, pt b1)]) (fun (s : Unit) h => slices_MinFunc_api_Piece_api_Piece__query_less_j1 p0 (ad b1) k h) ?_ ?_
 ·
  rintro _ h_1 H
  unfold slices_MinFunc_api_Piece_api_Piece__query_less_j1 at H
  refine cW [(0, Slc.v p0), (1, (Value.func (.func 47) #[] #[])), (4, pt b1)] ?_
  refine c_seq (c_region ?_)
  refine wP tok ?_
  obtain ⟨a3, ha3, la3, ua3, H⟩ := H
  refine w_y (y_ixa' tok rfl rfl ha3 rfl rfl rfl la3 ua3) rfl rfl ?_
  obtain ⟨v4, hv4, H⟩ := H
  refine w_y (y_lda tok rfl rfl rfl rfl rfl hv4) rfl rfl ?_
  obtain ⟨b5, h6, eb5, eh6, H⟩ := H
  refine w_h (h_alloc tok rfl rfl eb5 eh6) rfl rfl ?_
  obtain ⟨h7, wh7, eh7, H⟩ := H
  refine w_h (h_sts tok rfl rfl rfl rfl rfl (oneC (by kernel_rfl)) wh7 eh7) rfl rfl ?_
  refine w_end (x_seq ?_)
  refine c_seq (c_seq (c_region ?_))
  refine wP tok ?_
  refine w_end (x_seq (c_block ?_))
  obtain ⟨I2, μ2, H0, HI⟩ := H
  refine c_loop (σ := Int) (fun (s : Int) => [(6, .int .i64 s), (0, Slc.v p0), (1, (Value.func (.func 47) #[] #[])), (4, pt b1), (5, pt b5)]) I2 μ2 1 H0 ⟨rfl, rfl, rfl, rfl, rfl, trivial⟩ ?_
  rintro t6_2 h_2 H
  replace H := HI t6_2 h_2 H
  unfold slices_MinFunc_api_Piece_api_Piece__query_less_l2b at H
  refine cW [(6, .int .i64 t6_2), (0, Slc.v p0), (1, (Value.func (.func 47) #[] #[])), (4, pt b1), (5, pt b5)] ?_
  refine c_seq (c_seq (c_region ?_))
  iterate 4 refine wP tok ?_
  refine w_end (x_seq ?_)
  refine c_if H rfl (fun H => ?_) (fun H => ?_)
  ·
   refine c_skip (x_seq ?_)
   refine c_seqJ (α := Unit) (fun (s : Unit) => [(0, Slc.v p0), (1, (Value.func (.func 47) #[] #[])), (4, pt b1), (5, pt b5), (6, .int .i64 t6_2)]) (fun (s : Unit) h => slices_MinFunc_api_Piece_api_Piece__query_less_j3 p0 (ad b1) (ad b5) t6_2 k (fun s h' => I2 s h' ∧ μ2 s h' < μ2 t6_2 h_2) h) ?_ ?_
   ·
    rintro _ h_3 H
    unfold slices_MinFunc_api_Piece_api_Piece__query_less_j3 at H
    refine cW [(0, Slc.v p0), (1, (Value.func (.func 47) #[] #[])), (4, pt b1), (5, pt b5), (6, .int .i64 t6_2)] ?_
    refine c_region ?_
    iterate 2 refine wP tok ?_
    obtain ⟨x8, ex8, H⟩ := H
    refine w_pe tok rfl (congrArg (fun z => (.int .i64 z : Value)) ex8) rfl rfl ?_
    refine w_end ?_
    exact xJ x8 H
   ·
    refine c_block (c_seq ?_)
    refine c_sim [(0, Slc.v p0), (1, (Value.func (.func 47) #[] #[])), (4, pt b1), (5, pt b5), (6, .int .i64 t6_2)] (by kernel_rfl) (by kernel_rfl) ⟨rfl, rfl, rfl, rfl, rfl, trivial⟩ (fun wf => ?_)
    refine sT 0 [(1, (Value.func (.func 47) #[] #[]))] (some 20) tok wf (fun P_0 => ?_)
    refine sT 1 [(0, Slc.v p0)] (some 21) tok wf (fun P_1 => ?_)
    refine sT 2 [(6, .int .i64 t6_2)] (some 22) tok wf (fun P_2 => ?_)
    obtain ⟨a9, ha9, la9, ua9, H⟩ := H
    refine sU 3 [(21, Slc.v p0), (22, .int .i64 t6_2)] (some 23) wf (fun _ => pf_y rfl rfl rfl (y_ixa' tok rfl rfl ha9 rfl rfl rfl la9 ua9)) (fun P_3 => ?_)
    obtain ⟨v10, hv10, H⟩ := H
    refine sV 4 [(23, .pointer (some (a9.add (t6_2.toNat * 5))))] (some 24) wf (pf_y rfl rfl rfl (y_lda tok rfl rfl rfl rfl rfl hv10)) (fun P_4 => ?_)
    obtain ⟨v11, hv11, H⟩ := H
    refine sV 5 [(5, pt b5)] (some 25) wf (pf_y rfl rfl rfl (y_lda tok rfl rfl rfl rfl rfl hv11)) (fun P_5 => ?_)
    refine sim_cv0 6 [0, 1, 2, 3, 4, 5] [0, 1, 2, 3, 4, 5] (ei := [(20, (Value.func (.func 47) #[] #[])), (24, .agg (S_api_Piece.cs v10).toArray), (25, .agg (S_api_Piece.cs v11).toArray)]) query_less_ok (query_less_ref _ _ _ _ H) wf ⟨P_5, P_4, P_3 _, P_2 _, P_1 _, P_0 _, trivial⟩ (by kernel_rfl) ⟨rfl, rfl, rfl, trivial⟩ (by kernel_rfl) rfl rfl rfl rfl rfl rfl ?_
    rintro _ h13 ⟨r12, rfl, H⟩
    refine sT 7 [(26, .int .i64 r12)] (some 27) tok wf (fun P_7 => ?_)
    refine sim_end wf ⟨P_7 _, trivial, trivial, trivial, trivial, trivial, trivial, trivial⟩ (by kernel_rfl) ?_
    clear wf P_0 P_1 P_2 P_3 P_4 P_5 P_7
    refine x_seq ?_
    refine cW [(0, Slc.v p0), (1, (Value.func (.func 47) #[] #[])), (4, pt b1), (5, pt b5), (6, .int .i64 t6_2), (27, .bool (decide (r12 < 0)))] ?_
    refine c_if H rfl (fun H => ?_) (fun H => ?_)
    ·
     refine c_region ?_
     iterate 2 refine wP tok ?_
     obtain ⟨a14, ha14, la14, ua14, H⟩ := H
     refine w_y (y_ixa' tok rfl rfl ha14 rfl rfl rfl la14 ua14) rfl rfl ?_
     obtain ⟨v15, hv15, H⟩ := H
     refine w_y (y_lda tok rfl rfl rfl rfl rfl hv15) rfl rfl ?_
     obtain ⟨h16, wh16, eh16, H⟩ := H
     refine w_h (h_sts tok rfl rfl rfl rfl rfl (oneC (by kernel_rfl)) wh16 eh16) rfl rfl ?_
     refine w_end ?_
     refine x_blk ?_
     exact xJ () H
    ·
     refine c_skip ?_
     refine x_blk ?_
     exact xJ () H
  ·
   refine c_exit ?_
   refine x_te (x_te ?_)
   refine x_bh ?_
   refine x_seq ?_
   refine cW [(4, pt b1), (5, pt b5)] ?_
   refine c_seq (c_region ?_)
   obtain ⟨v17, hv17, H⟩ := H
   refine w_y (y_lda tok rfl rfl rfl rfl rfl hv17) rfl rfl ?_
   obtain ⟨h18, wh18, eh18, H⟩ := H
   refine w_h (h_sts tok rfl rfl rfl rfl rfl (oneC (by kernel_rfl)) wh18 eh18) rfl rfl ?_
   refine w_end (x_seq (c_ret ?_))
   obtain ⟨v19, hv19, H⟩ := H
   exact x_retc tok _ rfl [.agg (S_api_Piece.cs v19).toArray] ⟨⟨_, _, rfl, rfl, .inr ⟨rfl, _, rfl, rfl, hv19⟩⟩, trivial⟩ ⟨v19, rfl, H⟩
 ·
  refine c_seq (c_region ?_)
  iterate 3 refine wP tok ?_
  refine w_end (x_seq ?_)
  refine c_if H rfl (fun H => ?_) (fun H => ?_)
  ·
   refine c_region ?_
   exact H.elim
  ·
   refine c_skip ?_
   exact xJ () H

theorem slices_MaxFunc_api_Piece_api_Piece__query_less_ok : CallOk Go.Proofs.Tryz.prog 48 := ⟨_, Go.Proofs.Tryz.func48, by kernel_rfl, by kernel_rfl⟩
theorem slices_MaxFunc_api_Piece_api_Piece__query_less_ref (p0 : Slc) (k : (S_api_Piece) → Heap → Prop) (h : Heap) (H : slices_MaxFunc_api_Piece_api_Piece__query_less p0 k h) : CallsH Go.Proofs.Tryz.prog 48 #[Slc.v p0, (Value.func (.func 47) #[] #[])] h (fun v h' => ∃ r : S_api_Piece, v = .agg (S_api_Piece.cs r).toArray ∧ k r h') := by
 refine f_enter (N := 33) Go.Proofs.Tryz.func48 rfl rfl rfl (fun w0 => ?_)
 unfold slices_MaxFunc_api_Piece_api_Piece__query_less at H
 refine cW [(0, Slc.v p0), (1, (Value.func (.func 47) #[] #[]))] ?_
 refine c_seq (c_region ?_)
 obtain ⟨b1, h2, eb1, eh2, H⟩ := H
 refine w_h (h_alloc tok rfl rfl eb1 eh2) rfl rfl ?_
 refine w_end (x_seq ?_)
 refine c_seqJ (α := Unit) (fun (s : Unit) => [(0, Slc.v p0), (1, (Value.func (.func 47) #[] #[])), (4, pt b1)]) (fun (s : Unit) h => slices_MaxFunc_api_Piece_api_Piece__query_less_j1 p0 (ad b1) k h) ?_ ?_
 ·
  rintro _ h_1 H
  unfold slices_MaxFunc_api_Piece_api_Piece__query_less_j1 at H
  refine cW [(0, Slc.v p0), (1, (Value.func (.func 47) #[] #[])), (4, pt b1)] ?_
  refine c_seq (c_region ?_)
  refine wP tok ?_
  obtain ⟨a3, ha3, la3, ua3, H⟩ := H
  refine w_y (y_ixa' tok rfl rfl ha3 rfl rfl rfl la3 ua3) rfl rfl ?_
  obtain ⟨v4, hv4, H⟩ := H
  refine w_y (y_lda tok rfl rfl rfl rfl rfl hv4) rfl rfl ?_
  obtain ⟨b5, h6, eb5, eh6, H⟩ := H
  refine w_h (h_alloc tok rfl rfl eb5 eh6) rfl rfl ?_
  obtain ⟨h7, wh7, eh7, H⟩ := H
  refine w_h (h_sts tok rfl rfl rfl rfl rfl (oneC (by kernel_rfl)) wh7 eh7) rfl rfl ?_
  refine w_end (x_seq ?_)
  refine c_seq (c_seq (c_region ?_))
  refine wP tok ?_
  refine w_end (x_seq (c_block ?_))
  obtain ⟨I2, μ2, H0, HI⟩ := H
  refine c_loop (σ := Int) (fun (s : Int) => [(6, .int .i64 s), (0, Slc.v p0), (1, (Value.func (.func 47) #[] #[])), (4, pt b1), (5, pt b5)]) I2 μ2 1 H0 ⟨rfl, rfl, rfl, rfl, rfl, trivial⟩ ?_
  rintro t6_2 h_2 H
  replace H := HI t6_2 h_2 H
  unfold slices_MaxFunc_api_Piece_api_Piece__query_less_l2b at H
  refine cW [(6, .int .i64 t6_2), (0, Slc.v p0), (1, (Value.func (.func 47) #[] #[])), (4, pt b1), (5, pt b5)] ?_
  refine c_seq (c_seq (c_region ?_))
  iterate 4 refine wP tok ?_
  refine w_end (x_seq ?_)
  refine c_if H rfl (fun H => ?_) (fun H => ?_)
  ·
   refine c_skip (x_seq ?_)
   refine c_seqJ (α := Unit) (fun (s : Unit) => [(0, Slc.v p0), (1, (Value.func (.func 47) #[] #[])), (4, pt b1), (5, pt b5), (6, .int .i64 t6_2)]) (fun (s : Unit) h => slices_MaxFunc_api_Piece_api_Piece__query_less_j3 p0 (ad b1) (ad b5) t6_2 k (fun s h' => I2 s h' ∧ μ2 s h' < μ2 t6_2 h_2) h) ?_ ?_
   ·
    rintro _ h_3 H
    unfold slices_MaxFunc_api_Piece_api_Piece__query_less_j3 at H
    refine cW [(0, Slc.v p0), (1, (Value.func (.func 47) #[] #[])), (4, pt b1), (5, pt b5), (6, .int .i64 t6_2)] ?_
    refine c_region ?_
    iterate 2 refine wP tok ?_
    obtain ⟨x8, ex8, H⟩ := H
    refine w_pe tok rfl (congrArg (fun z => (.int .i64 z : Value)) ex8) rfl rfl ?_
    refine w_end ?_
    exact xJ x8 H
   ·
    refine c_block (c_seq ?_)
    refine c_sim [(0, Slc.v p0), (1, (Value.func (.func 47) #[] #[])), (4, pt b1), (5, pt b5), (6, .int .i64 t6_2)] (by kernel_rfl) (by kernel_rfl) ⟨rfl, rfl, rfl, rfl, rfl, trivial⟩ (fun wf => ?_)
    refine sT 0 [(1, (Value.func (.func 47) #[] #[]))] (some 20) tok wf (fun P_0 => ?_)
    refine sT 1 [(0, Slc.v p0)] (some 21) tok wf (fun P_1 => ?_)
    refine sT 2 [(6, .int .i64 t6_2)] (some 22) tok wf (fun P_2 => ?_)
    obtain ⟨a9, ha9, la9, ua9, H⟩ := H
    refine sU 3 [(21, Slc.v p0), (22, .int .i64 t6_2)] (some 23) wf (fun _ => pf_y rfl rfl rfl (y_ixa' tok rfl rfl ha9 rfl rfl rfl la9 ua9)) (fun P_3 => ?_)
    obtain ⟨v10, hv10, H⟩ := H
    refine sV 4 [(23, .pointer (some (a9.add (t6_2.toNat * 5))))] (some 24) wf (pf_y rfl rfl rfl (y_lda tok rfl rfl rfl rfl rfl hv10)) (fun P_4 => ?_)
    obtain ⟨v11, hv11, H⟩ := H
    refine sV 5 [(5, pt b5)] (some 25) wf (pf_y rfl rfl rfl (y_lda tok rfl rfl rfl rfl rfl hv11)) (fun P_5 => ?_)
    refine sim_cv0 6 [0, 1, 2, 3, 4, 5] [0, 1, 2, 3, 4, 5] (ei := [(20, (Value.func (.func 47) #[] #[])), (24, .agg (S_api_Piece.cs v10).toArray), (25, .agg (S_api_Piece.cs v11).toArray)]) query_less_ok (query_less_ref _ _ _ _ H) wf ⟨P_5, P_4, P_3 _, P_2 _, P_1 _, P_0 _, trivial⟩ (by kernel_rfl) ⟨rfl, rfl, rfl, trivial⟩ (by kernel_rfl) rfl rfl rfl rfl rfl rfl ?_
    rintro _ h13 ⟨r12, rfl, H⟩
    refine sT 7 [(26, .int .i64 r12)] (some 27) tok wf (fun P_7 => ?_)
    refine sim_end wf ⟨P_7 _, trivial, trivial, trivial, trivial, trivial, trivial, trivial⟩ (by kernel_rfl) ?_
    clear wf P_0 P_1 P_2 P_3 P_4 P_5 P_7
    refine x_seq ?_
    refine cW [(0, Slc.v p0), (1, (Value.func (.func 47) #[] #[])), (4, pt b1), (5, pt b5), (6, .int .i64 t6_2), (27, .bool (decide (r12 > 0)))] ?_
    refine c_if H rfl (fun H => ?_) (fun H => ?_)
    ·
     refine c_region ?_
     iterate 2 refine wP tok ?_
     obtain ⟨a14, ha14, la14, ua14, H⟩ := H
     refine w_y (y_ixa' tok rfl rfl ha14 rfl rfl rfl la14 ua14) rfl rfl ?_
     obtain ⟨v15, hv15, H⟩ := H
     refine w_y (y_lda tok rfl rfl rfl rfl rfl hv15) rfl rfl ?_
     obtain ⟨h16, wh16, eh16, H⟩ := H
     refine w_h (h_sts tok rfl rfl rfl rfl rfl (oneC (by kernel_rfl)) wh16 eh16) rfl rfl ?_
     refine w_end ?_
     refine x_blk ?_
     exact xJ () H
    ·
     refine c_skip ?_
     refine x_blk ?_
     exact xJ () H
  ·
   refine c_exit ?_
   refine x_te (x_te ?_)
   refine x_bh ?_
   refine x_seq ?_
   refine cW [(4, pt b1), (5, pt b5)] ?_
   refine c_seq (c_region ?_)
   obtain ⟨v17, hv17, H⟩ := H
   refine w_y (y_lda tok rfl rfl rfl rfl rfl hv17) rfl rfl ?_
   obtain ⟨h18, wh18, eh18, H⟩ := H
   refine w_h (h_sts tok rfl rfl rfl rfl rfl (oneC (by kernel_rfl)) wh18 eh18) rfl rfl ?_
   refine w_end (x_seq (c_ret ?_))
   obtain ⟨v19, hv19, H⟩ := H
   exact x_retc tok _ rfl [.agg (S_api_Piece.cs v19).toArray] ⟨⟨_, _, rfl, rfl, .inr ⟨rfl, _, rfl, rfl, hv19⟩⟩, trivial⟩ ⟨v19, rfl, H⟩
 ·
  refine c_seq (c_region ?_)
  iterate 3 refine wP tok ?_
  refine w_end (x_seq ?_)
  refine c_if H rfl (fun H => ?_) (fun H => ?_)
  ·
   refine c_region ?_
   exact H.elim
  ·
   refine c_skip ?_
   exact xJ () H

theorem query_rows_ok : CallOk Go.Proofs.Tryz.prog 20 := ⟨_, Go.Proofs.Tryz.func20, by kernel_rfl, by kernel_rfl⟩
theorem query_rows_ref (p0 : S_api_Query) (p1 : Slc) (k : (Slc × Int) → Heap → Prop) (h : Heap) (H : query_rows p0 p1 k h) : CallsH Go.Proofs.Tryz.prog 20 #[.agg (S_api_Query.cs p0).toArray, Slc.v p1] h (fun v h' => ∃ r : Slc × Int, v = .tuple #[Slc.v r.1, .int .i64 r.2] ∧ k r h') := by
 refine f_enter (N := 87) Go.Proofs.Tryz.func20 rfl rfl rfl (fun w0 => ?_)
 unfold query_rows at H
 refine cW [(0, .agg (S_api_Query.cs p0).toArray), (1, Slc.v p1)] ?_
 refine c_seq (c_region ?_)
 obtain ⟨b1, h2, eb1, eh2, H⟩ := H
 refine w_h (h_box rfl rfl eb1 eh2) rfl rfl ?_
 iterate 2 refine wP tok ?_
 refine w_end (x_seq ?_)
 refine c_seq (c_region ?_)
 refine wP tok ?_
 obtain ⟨a3, ha3, la3, ua3, H⟩ := H
 refine w_y (y_ixa' tok rfl rfl ha3 rfl rfl rfl la3 ua3) rfl rfl ?_
 refine wP tok ?_
 obtain ⟨v4, hv4, H⟩ := H
 refine w_y (y_ld tok rfl rfl rfl rfl hv4) rfl rfl ?_
 refine w_y (y_build tok rfl rfl rfl rfl rfl) rfl rfl ?_
 obtain ⟨b5, h6, eb5, eh6, H⟩ := H
 refine w_h (h_alloc tok rfl rfl eb5 eh6) rfl rfl ?_
 obtain ⟨h7, wh7, eh7, H⟩ := H
 refine w_h (h_sts tok rfl rfl rfl rfl rfl (oneC (by kernel_rfl)) wh7 eh7) rfl rfl ?_
 refine w_end (x_seq ?_)
 refine cW [(1, Slc.v p1), (2, pt b1), (6, pt b5)] ?_
 refine c_seqJ (α := Unit) (fun (s : Unit) => [(6, pt b5)]) (fun (s : Unit) h => query_rows_j1 (ad b5) k h) ?_ ?_
 ·
  rintro _ h_1 H
  unfold query_rows_j1 at H
  refine cW [(6, pt b5)] ?_
  refine c_seq (c_region ?_)
  obtain ⟨v8, hv8, H⟩ := H
  refine w_y (y_lda tok rfl rfl rfl rfl rfl hv8) rfl rfl ?_
  obtain ⟨b9, h10, eb9, eh10, H⟩ := H
  refine w_h (h_bs tok rfl rfl rfl rfl rfl rfl rfl eb9 eh10) rfl rfl ?_
  iterate 2 refine wP tok ?_
  refine w_end (x_seq (c_ret ?_))
  exact x_ret _ rfl _ rfl ⟨((⟨some ⟨b9, 0, none⟩, 1, 1⟩ : Slc), 0), rfl, H⟩
 ·
  refine c_seq (c_region ?_)
  refine wP tok ?_
  obtain ⟨v11, hv11, H⟩ := H
  refine w_y (y_ld tok rfl rfl rfl rfl hv11) rfl rfl ?_
  refine w_end (x_seq ?_)
  refine c_block (c_seq (c_region ?_))
  iterate 2 refine wP tok ?_
  refine w_end (x_seq ?_)
  refine c_if H rfl (fun H => ?_) (fun H => ?_)
  ·
   refine c_seq (c_region ?_)
   refine wP tok ?_
   refine w_end (x_seq ?_)
   refine c_seq (c_seq (c_region ?_))
   iterate 3 refine wP tok ?_
   refine w_end (x_seq ?_)
   refine cW [(7, Slc.v (⟨none, 0, 0⟩ : Slc)), (25, Slc.v p1), (26, .int .i64 (p1.len : Int)), (27, .int .i64 0)] ?_
   refine c_block ?_
   obtain ⟨I2, μ2, H0, HI⟩ := H
   refine c_loop (σ := Slc × Int) (fun (s : Slc × Int) => [(7, Slc.v s.1), (27, .int .i64 s.2), (25, Slc.v p1), (26, .int .i64 (p1.len : Int))]) I2 μ2 ((⟨none, 0, 0⟩ : Slc), 0) H0 ⟨rfl, rfl, rfl, rfl, trivial⟩ ?_
   rintro ⟨t7_2, t27_2⟩ h_2 H
   replace H := HI t7_2 t27_2 h_2 H
   unfold query_rows_l2b at H
   refine cW [(7, Slc.v t7_2), (27, .int .i64 t27_2), (25, Slc.v p1), (26, .int .i64 (p1.len : Int))] ?_
   refine c_seq (c_region ?_)
   refine wP tok ?_
   refine w_end (x_seq (c_seq ?_))
   refine c_if H rfl (fun H => ?_) (fun H => ?_)
   ·
    refine c_skip (x_seq ?_)
    refine c_seq (c_block ?_)
    refine c_seq (c_region ?_)
    obtain ⟨a12, ha12, la12, ua12, H⟩ := H
    refine w_y (y_ixa' tok rfl rfl ha12 rfl rfl rfl la12 ua12) rfl rfl ?_
    obtain ⟨v13, hv13, H⟩ := H
    refine w_y (y_lda tok rfl rfl rfl rfl rfl hv13) rfl rfl ?_
    obtain ⟨b14, h15, eb14, eh15, H⟩ := H
    refine w_h (h_alloc tok rfl rfl eb14 eh15) rfl rfl ?_
    obtain ⟨h16, wh16, eh16, H⟩ := H
    refine w_h (h_sts tok rfl rfl rfl rfl rfl (oneC (by kernel_rfl)) wh16 eh16) rfl rfl ?_
    refine w_end (x_seq ?_)
    refine c_sim [(7, Slc.v t7_2), (9, pt b14), (25, Slc.v p1), (26, .int .i64 (p1.len : Int)), (27, .int .i64 t27_2)] (by kernel_rfl) (by kernel_rfl) ⟨rfl, rfl, rfl, rfl, rfl, trivial⟩ (fun wf => ?_)
    refine sT 0 [(7, Slc.v t7_2)] (some 31) tok wf (fun P_0 => ?_)
    refine sT 1 [(9, pt b14)] (some 32) tok wf (fun P_1 => ?_)
    obtain ⟨v17, hv17, H⟩ := H
    refine sV 2 [(32, pt b14)] (some 33) wf (pf_y rfl rfl rfl (y_ld tok rfl rfl rfl rfl hv17)) (fun P_2 => ?_)
    refine sT 3 [(9, pt b14)] (some 34) tok wf (fun P_3 => ?_)
    obtain ⟨v18, hv18, H⟩ := H
    refine sV 4 [(34, .pointer (some ((ad b14).add 1)))] (some 35) wf (pf_y rfl rfl rfl (y_ld tok rfl rfl rfl rfl hv18)) (fun P_4 => ?_)
    refine sT 5 [(9, pt b14)] (some 36) tok wf (fun P_5 => ?_)
    obtain ⟨v19, hv19, H⟩ := H
    refine sV 6 [(36, .pointer (some ((ad b14).add 2)))] (some 37) wf (pf_y rfl rfl rfl (y_ld tok rfl rfl rfl rfl hv19)) (fun P_6 => ?_)
    refine sim_c 7 [5, 6] [5, 6] (ei := [(37, .int .i64 v19)]) num_Wide_ok (num_Wide_ref _ _ _ H) wf ⟨P_6, P_5 _, P_4, P_3 _, P_2, P_1 _, P_0 _, trivial⟩ (by kernel_rfl) ⟨rfl, trivial⟩ (by kernel_rfl) rfl rfl rfl rfl rfl ?_
    rintro _ h21 ⟨r20, rfl, H⟩
    obtain ⟨hy22, hy23, H⟩ := H
    refine sim_re (x := ⟨4, .int .i64 v18, [(34, .pointer (some ((ad b14).add 1)))]⟩) (pf_y rfl rfl rfl (y_ld tok rfl rfl rfl rfl hy22)) (fun P_4 => ?_)
    refine sim_re (x := ⟨2, .string v17, [(32, pt b14)]⟩) (pf_y rfl rfl rfl (y_ld tok rfl rfl rfl rfl hy23)) (fun P_2 => ?_)
    refine sU 8 [(33, .string v17), (35, .int .i64 v18), (38, .agg (S_api_Wide.cs r20).toArray)] (some 39) wf (fun _ => pf_y rfl rfl rfl (y_build tok rfl rfl rfl rfl rfl)) (fun P_8 => ?_)
    obtain ⟨b24, h25, eb24, eh25, H⟩ := H
    refine sim_h 9 [1, 2, 3, 4, 5, 6, 7, 8] [1, 2, 3, 4, 5, 6, 8] (ei := [(39, .agg (S_api_Row.cs (⟨v17, v18, r20⟩ : S_api_Row)).toArray)]) wf ⟨P_8 _, trivial, trivial, P_4, P_3 _, P_2, P_1 _, P_0 _, trivial⟩ (by kernel_rfl) ⟨rfl, trivial⟩ (by kernel_rfl) rfl rfl rfl (h_bs tok rfl rfl rfl rfl rfl rfl rfl eb24 eh25) ?_
    refine sim_a 10 [0, 1, 2, 3, 4, 5, 6, 7, 8, 9] [0, 1, 2, 3, 4, 5, 6, 8] (ei := [(31, Slc.v t7_2), (40, Slc.v (⟨some ⟨b24, 0, none⟩, 1, 1⟩ : Slc))]) wf ⟨trivial, trivial, trivial, trivial, trivial, trivial, trivial, P_0 _, trivial⟩ (by kernel_rfl) ⟨rfl, rfl, trivial⟩ (by kernel_rfl) rfl rfl rfl (a_app (s := t7_2) (r := (⟨some ⟨b24, 0, none⟩, 1, 1⟩ : Slc)) tok rfl rfl rfl rfl rfl (slcAt_push eb24 eh25) H) ?_
    rintro _ h27 ⟨s26, rfl, H⟩
    refine sT 11 [(41, Slc.v s26)] (some 7) tok wf (fun P_11 => ?_)
    refine sim_end wf ⟨P_11 _, trivial, trivial, trivial, trivial, trivial, trivial, trivial, trivial, trivial⟩ (by kernel_rfl) ?_
    clear wf P_0 P_1 P_11 P_2 P_3 P_4 P_5 P_6 P_8
    refine x_blk ?_
    refine x_seq ?_
    refine cW [(7, Slc.v s26), (25, Slc.v p1), (26, .int .i64 (p1.len : Int)), (27, .int .i64 t27_2)] ?_
    refine c_region ?_
    iterate 2 refine wP tok ?_
    refine w_end ?_
    exact xJ (s26, (IntKind.i64.wrap (t27_2 + 1))) H
   ·
    refine c_exit ?_
    refine x_te (x_te ?_)
    refine x_bh ?_
    refine x_seq (c_seq (c_region ?_))
    iterate 3 refine wP tok ?_
    refine w_end (x_seq (c_ret ?_))
    refine x_br ?_
    refine x_tr ?_
    exact x_ret _ rfl _ rfl ⟨(t7_2, 0), rfl, H⟩
  ·
   refine c_seq (c_region ?_)
   iterate 2 refine wP tok ?_
   refine w_end (x_seq ?_)
   refine c_if H rfl (fun H => ?_) (fun H => ?_)
   ·
    refine c_region ?_
    iterate 2 refine wP tok ?_
    refine w_call num_Wide_ok (num_Wide_ref _ _ _ H) rfl rfl rfl rfl ?_
    rintro _ h29 ⟨r28, rfl, H⟩
    refine wP tok ?_
    obtain ⟨h30, wh30, eh30, H⟩ := H
    refine w_h (h_sts tok rfl rfl rfl rfl rfl (oneC (by kernel_rfl)) wh30 eh30) rfl rfl ?_
    refine w_end ?_
    refine x_blk ?_
    exact xJ () H
   ·
    refine c_seq (c_region ?_)
    iterate 2 refine wP tok ?_
    refine w_end (x_seq ?_)
    refine c_if H rfl (fun H => ?_) (fun H => ?_)
    ·
     refine c_region ?_
     refine wP tok ?_
     refine w_call query_sum_ok (query_sum_ref _ _ _ H) rfl rfl rfl rfl ?_
     rintro _ h32 ⟨r31, rfl, H⟩
     refine wP tok ?_
     obtain ⟨h33, wh33, eh33, H⟩ := H
     refine w_h (h_sts tok rfl rfl rfl rfl rfl (oneC (by kernel_rfl)) wh33 eh33) rfl rfl ?_
     refine w_end ?_
     refine x_blk ?_
     exact xJ () H
    ·
     refine c_seq (c_region ?_)
     iterate 2 refine wP tok ?_
     refine w_end (x_seq ?_)
     refine cW [(1, Slc.v p1), (2, pt b1), (6, pt b5), (18, .int .i64 v11), (55, .bool (v11 == 3))] ?_
     refine c_if H rfl (fun H => ?_) (fun H => ?_)
     ·
      refine c_region ?_
      refine wP tok ?_
      refine w_call slices_MinFunc_api_Piece_api_Piece__query_less_ok (slices_MinFunc_api_Piece_api_Piece__query_less_ref _ _ _ H) rfl rfl rfl rfl ?_
      rintro _ h35 ⟨r34, rfl, H⟩
      refine wP tok ?_
      refine w_call num_Wide_ok (num_Wide_ref _ _ _ H) rfl rfl rfl rfl ?_
      rintro _ h37 ⟨r36, rfl, H⟩
      refine wP tok ?_
      obtain ⟨h38, wh38, eh38, H⟩ := H
      refine w_h (h_sts tok rfl rfl rfl rfl rfl (oneC (by kernel_rfl)) wh38 eh38) rfl rfl ?_
      refine w_end ?_
      refine x_blk ?_
      exact xJ () H
     ·
      refine c_seq (c_region ?_)
      iterate 2 refine wP tok ?_
      refine w_end (x_seq ?_)
      refine c_if H rfl (fun H => ?_) (fun H => ?_)
      ·
       refine c_region ?_
       refine wP tok ?_
       refine w_call slices_MaxFunc_api_Piece_api_Piece__query_less_ok (slices_MaxFunc_api_Piece_api_Piece__query_less_ref _ _ _ H) rfl rfl rfl rfl ?_
       rintro _ h40 ⟨r39, rfl, H⟩
       refine wP tok ?_
       refine w_call num_Wide_ok (num_Wide_ref _ _ _ H) rfl rfl rfl rfl ?_
       rintro _ h42 ⟨r41, rfl, H⟩
       refine wP tok ?_
       obtain ⟨h43, wh43, eh43, H⟩ := H
       refine w_h (h_sts tok rfl rfl rfl rfl rfl (oneC (by kernel_rfl)) wh43 eh43) rfl rfl ?_
       refine w_end ?_
       refine x_blk ?_
       exact xJ () H
      ·
       refine c_seq (c_region ?_)
       iterate 2 refine wP tok ?_
       refine w_end (x_seq ?_)
       refine c_if H rfl (fun H => ?_) (fun H => ?_)
       ·
        refine c_seq (c_seq (c_region ?_))
        iterate 3 refine wP tok ?_
        refine w_end (x_seq ?_)
        refine cW [(1, Slc.v p1), (6, pt b5), (73, .bool (decide ((p1.len : Int) < 2)))] ?_
        refine c_if H rfl (fun H => ?_) (fun H => ?_)
        ·
         refine c_seq (c_region ?_)
         iterate 2 refine wP tok ?_
         refine w_end (x_seq ?_)
         refine c_ret (x_tr ?_)
         refine x_br ?_
         refine x_tr ?_
         exact x_ret _ rfl _ rfl ⟨((⟨none, 0, 0⟩ : Slc), 0), rfl, H⟩
        ·
         refine c_skip (x_seq ?_)
         refine c_seq (c_region ?_)
         refine wP tok ?_
         refine w_call query_rate_ok (query_rate_ref _ _ _ H) rfl rfl rfl rfl ?_
         rintro _ h45 ⟨r44, rfl, H⟩
         iterate 5 refine wP tok ?_
         refine w_end (x_seq ?_)
         refine cW [(6, pt b5), (10, .int .i64 r44.1), (11, .int .i64 r44.2)] ?_
         refine c_seq (c_seq (c_region ?_))
         iterate 2 refine wP tok ?_
         refine w_end (x_seq ?_)
         refine c_if H rfl (fun H => ?_) (fun H => ?_)
         ·
          refine c_seq (c_region ?_)
          iterate 3 refine wP tok ?_
          refine w_end (x_seq ?_)
          refine c_ret (x_tr ?_)
          refine x_br ?_
          refine x_tr ?_
          exact x_ret _ rfl _ rfl ⟨((⟨none, 0, 0⟩ : Slc), r44.2), rfl, H⟩
         ·
          refine c_skip (x_seq (c_region ?_))
          refine wP tok ?_
          refine w_call num_Wide_ok (num_Wide_ref _ _ _ H) rfl rfl rfl rfl ?_
          rintro _ h47 ⟨r46, rfl, H⟩
          refine wP tok ?_
          obtain ⟨h48, wh48, eh48, H⟩ := H
          refine w_h (h_sts tok rfl rfl rfl rfl rfl (oneC (by kernel_rfl)) wh48 eh48) rfl rfl ?_
          refine w_end ?_
          refine x_blk ?_
          exact xJ () H
       ·
        refine c_seq (c_region ?_)
        iterate 2 refine wP tok ?_
        obtain ⟨v49, hv49, H⟩ := H
        refine w_y (y_ld tok rfl rfl rfl rfl hv49) rfl rfl ?_
        refine w_call query_each_ok (query_each_ref _ _ _ _ H) rfl rfl rfl rfl ?_
        rintro _ h51 ⟨r50, rfl, H⟩
        iterate 2 refine wP tok ?_
        refine w_end (x_seq ?_)
        refine cW [(4, Slc.v r50), (5, .int .i64 0)] ?_
        refine c_ret ?_
        refine x_br ?_
        refine x_tr ?_
        exact x_ret _ rfl _ rfl ⟨(r50, 0), rfl, H⟩

theorem query_Run_ok : CallOk Go.Proofs.Tryz.prog 8 := ⟨_, Go.Proofs.Tryz.func8, by kernel_rfl, by kernel_rfl⟩
theorem query_Run_ref (p0 : S_api_Query) (p1 : Slc) (p2 : Int) (k : (Slc × Int) → Heap → Prop) (h : Heap) (H : query_Run p0 p1 p2 k h) : CallsH Go.Proofs.Tryz.prog 8 #[.agg (S_api_Query.cs p0).toArray, Slc.v p1, .int .i64 p2] h (fun v h' => ∃ r : Slc × Int, v = .tuple #[Slc.v r.1, .int .i64 r.2] ∧ k r h') := by
 refine f_enter (N := 46) Go.Proofs.Tryz.func8 rfl rfl rfl (fun w0 => ?_)
 unfold query_Run at H
 refine cW [(0, .agg (S_api_Query.cs p0).toArray), (1, Slc.v p1), (2, .int .i64 p2)] ?_
 refine c_seq (c_region ?_)
 obtain ⟨b1, h2, eb1, eh2, H⟩ := H
 refine w_h (h_box rfl rfl eb1 eh2) rfl rfl ?_
 iterate 2 refine wP tok ?_
 refine w_end (x_seq ?_)
 refine c_seq (c_region ?_)
 obtain ⟨v3, hv3, H⟩ := H
 refine w_y (y_lda tok rfl rfl rfl rfl rfl hv3) rfl rfl ?_
 iterate 2 refine wP tok ?_
 refine w_call query_Ask_ok (query_Ask_ref _ _ _ _ _ H) rfl rfl rfl rfl ?_
 rintro _ h5 ⟨r4, rfl, H⟩
 iterate 5 refine wP tok ?_
 refine w_end (x_seq ?_)
 refine cW [(3, pt b1), (8, Slc.v r4.1), (9, .int .i64 r4.2)] ?_
 refine c_seq (c_seq (c_region ?_))
 iterate 2 refine wP tok ?_
 refine w_end (x_seq ?_)
 refine c_if H rfl (fun H => ?_) (fun H => ?_)
 ·
  refine c_seq (c_region ?_)
  iterate 3 refine wP tok ?_
  refine w_end (x_seq ?_)
  refine c_ret (x_tr ?_)
  exact x_ret _ rfl _ rfl ⟨((⟨none, 0, 0⟩ : Slc), r4.2), rfl, H⟩
 ·
  refine c_skip (x_seq ?_)
  refine c_seq (c_region ?_)
  refine wP tok ?_
  refine w_end (x_seq ?_)
  refine c_seq (c_seq (c_region ?_))
  refine wP tok ?_
  refine w_call query_groups_ok (query_groups_ref _ _ _ H) rfl rfl rfl rfl ?_
  rintro _ h7 ⟨r6, rfl, H⟩
  iterate 2 refine wP tok ?_
  refine w_end (x_seq (c_block ?_))
  obtain ⟨I1, μ1, H0, HI⟩ := H
  refine c_loop (σ := Slc × Int) (fun (s : Slc × Int) => [(10, Slc.v s.1), (28, .int .i64 s.2), (3, pt b1), (26, Slc.v r6), (27, .int .i64 (r6.len : Int))]) I1 μ1 ((⟨none, 0, 0⟩ : Slc), 0) H0 ⟨rfl, rfl, rfl, rfl, rfl, trivial⟩ ?_
  rintro ⟨t10_1, t28_1⟩ h_1 H
  replace H := HI t10_1 t28_1 h_1 H
  unfold query_Run_l1b at H
  refine cW [(10, Slc.v t10_1), (28, .int .i64 t28_1), (3, pt b1), (26, Slc.v r6), (27, .int .i64 (r6.len : Int))] ?_
  refine c_seq (c_region ?_)
  refine wP tok ?_
  refine w_end (x_seq (c_seq ?_))
  refine c_if H rfl (fun H => ?_) (fun H => ?_)
  ·
   refine c_skip (x_seq ?_)
   refine c_seq (c_block ?_)
   refine c_seq (c_region ?_)
   obtain ⟨a8, ha8, la8, ua8, H⟩ := H
   refine w_y (y_ixa' tok rfl rfl ha8 rfl rfl rfl la8 ua8) rfl rfl ?_
   obtain ⟨v9, hv9, H⟩ := H
   refine w_y (y_ld tok rfl rfl rfl rfl hv9) rfl rfl ?_
   refine wP tok ?_
   refine w_end (x_seq ?_)
   refine c_seq (c_region ?_)
   obtain ⟨v10, hv10, H⟩ := H
   refine w_y (y_lda tok rfl rfl rfl rfl rfl hv10) rfl rfl ?_
   refine wP tok ?_
   refine w_call query_rows_ok (query_rows_ref _ _ _ _ H) rfl rfl rfl rfl ?_
   rintro _ h12 ⟨r11, rfl, H⟩
   iterate 5 refine wP tok ?_
   refine w_end (x_seq ?_)
   refine cW [(10, Slc.v t10_1), (28, .int .i64 t28_1), (3, pt b1), (26, Slc.v r6), (27, .int .i64 (r6.len : Int)), (13, Slc.v r11.1), (14, .int .i64 r11.2)] ?_
   refine c_seq (c_seq (c_region ?_))
   iterate 2 refine wP tok ?_
   refine w_end (x_seq ?_)
   refine c_if H rfl (fun H => ?_) (fun H => ?_)
   ·
    refine c_seq (c_region ?_)
    iterate 3 refine wP tok ?_
    refine w_end (x_seq ?_)
    refine cW [(6, Slc.v (⟨none, 0, 0⟩ : Slc)), (7, .int .i64 r11.2)] ?_
    refine c_ret (x_tr ?_)
    refine x_br ?_
    refine x_tr (x_tr ?_)
    refine x_br ?_
    refine x_tr ?_
    exact x_ret _ rfl _ rfl ⟨((⟨none, 0, 0⟩ : Slc), r11.2), rfl, H⟩
   ·
    refine c_skip (x_seq (c_region ?_))
    iterate 2 refine wP tok ?_
    obtain ⟨l15, hl15, H⟩ := H
    refine w_a (a_app (s := t10_1) (r := r11.1) tok rfl rfl rfl rfl rfl hl15 H) rfl rfl ?_
    rintro _ h14 ⟨s13, rfl, H⟩
    refine wP tok ?_
    refine w_end ?_
    refine x_blk ?_
    refine x_seq ?_
    refine cW [(10, Slc.v s13), (28, .int .i64 t28_1), (3, pt b1), (26, Slc.v r6), (27, .int .i64 (r6.len : Int))] ?_
    refine c_region ?_
    iterate 2 refine wP tok ?_
    refine w_end ?_
    exact xJ (s13, (IntKind.i64.wrap (t28_1 + 1))) H
  ·
   refine c_exit ?_
   refine x_te (x_te ?_)
   refine x_bh ?_
   refine x_seq (c_seq (c_region ?_))
   iterate 3 refine wP tok ?_
   refine w_end (x_seq ?_)
   refine cW [(6, Slc.v t10_1), (7, .int .i64 0)] ?_
   refine c_ret ?_
   exact x_ret _ rfl _ rfl ⟨(t10_1, 0), rfl, H⟩
end Go.Q.Yz

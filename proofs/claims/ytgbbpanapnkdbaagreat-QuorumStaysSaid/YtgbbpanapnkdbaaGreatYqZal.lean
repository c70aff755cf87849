/- A part of the proof of statements of this seat: lemmas, no statement of their own. -/
import Derived.Test.YtgbbpanapnkdbaaGreatYqZad
import Derived.Test.YtgbbpanapnkdbaaGreatYqZae
import Derived.Test.YtgbbpanapnkdbaaGreatYqZah
import Derived.Test.YtgbbpanapnkdbaaGreatYqZai
import Derived.Test.YtgbbpanapnkdbaaGreatYqZaj
import Derived.Test.YtgbbpanapnkdbaaGreatYqZak
set_option linter.unusedVariables false
set_option linter.unusedSimpArgs false
section
set_option maxRecDepth 100000
set_option maxHeartbeats 1000000
namespace Go.Q.Yq
open Go.Proofs.Tryz
/-- maps.Values map quaestor piece.place quaestor api.Piece quaestor piece.place quaestor api.Piece  -/
def maps_Values_map_piece_place_api_Piece_piece_place_api_Piece (p0:Option Nat) (k:(Value)->Heap->Prop) (h:Heap):Prop :=
  ∃ (b1:Nat) (h2:Heap),b1=h.size/\h2=h.push (.cells ([.map p0]).toArray 92)/\(k (Value.func (.func 71) #[] #[.pointer (some (⟨b1,0,none⟩:Addr))]) h2)
/-- quaestor piece.Between -/
def piece_Between_j2 (t1_2:Int) (t2_2:Int) (t10_2:Slc) (t11_2:Int) (t12_2:Int) (t7_2:Slc) (k:(Slc)->Heap->Prop) (nx1:(Slc × Int)->Heap->Prop) (h_2:Heap):Prop :=
  nx1 (t7_2,(IntKind.i64.wrap (t12_2 + 1))) h_2
def piece_Between_g3 (t1_3:Int) (t2_3:Int) (t7_3:Slc) (t9_3:Addr) (t10_3:Slc) (t11_3:Int) (t12_3:Int) (t25_3:Bool) (k:(Slc)->Heap->Prop) (nx1:(Slc × Int)->Heap->Prop) (h_3:Heap):Prop :=
  if t25_3 then (∃ v7:S_api_Piece,CellsAt h_3 t9_3 (S_api_Piece.cs v7)/\(∃ (b8:Nat) (h9:Heap),b8=h_3.size/\h9=h_3.push (.cells ((S_api_Piece.cs v7)).toArray 89)/\(App 89 5 48 [.string ByteArray.empty,.int .i64 0,.int .i64 0,.int .u64 0,.int .u16 0] h9 t7_3 1 ((S_api_Piece.cs v7)) (fun s10 h11=>piece_Between_j2 t1_3 t2_3 t10_3 t11_3 t12_3 s10 k nx1 h11)))) else (piece_Between_j2 t1_3 t2_3 t10_3 t11_3 t12_3 t7_3 k nx1 h_3)
def piece_Between_l1b (t1_1:Int) (t2_1:Int) (t10_1:Slc) (t11_1:Int) (t7_1:Slc) (t12_1:Int) (k:(Slc)->Heap->Prop) (nx1:(Slc × Int)->Heap->Prop) (h_1:Heap):Prop :=
  if (decide (t12_1 < t11_1)) then (∃ a1:Addr,t10_1.a=some a1/\(0:Int)<=t12_1/\t12_1 < (t10_1.len:Int)/\(∃ v2:S_api_Piece,CellsAt h_1 (a1.add (t12_1.toNat * 5)) (S_api_Piece.cs v2)/\(∃ (b3:Nat) (h4:Heap),b3=h_1.size/\h4=h_1.push (.cells (S_api_Piece.cs (⟨ByteArray.empty,0,0,(⟨0,0⟩:S_api_Id)⟩:S_api_Piece)).toArray 89)/\(∃ h5:Heap,WrsAt h4 (⟨b3,0,none⟩:Addr) 5/\h5=setsH h4 (⟨b3,0,none⟩:Addr) 0 (S_api_Piece.cs v2)/\(∃ v6:Int,cellH h5 ((⟨b3,0,none⟩:Addr).add 1)=some (.int .i64 v6)/\(if (decide (v6>=t1_1)) then (∃ v12:Int,cellH h5 ((⟨b3,0,none⟩:Addr).add 1)=some (.int .i64 v12)/\(piece_Between_g3 t1_1 t2_1 t7_1 (⟨b3,0,none⟩:Addr) t10_1 t11_1 t12_1 (decide (v12<=t2_1)) k nx1 h5)) else (piece_Between_g3 t1_1 t2_1 t7_1 (⟨b3,0,none⟩:Addr) t10_1 t11_1 t12_1 false k nx1 h5))))))) else (k t7_1 h_1)
def piece_Between_l1 (t1_1:Int) (t2_1:Int) (t10_1:Slc) (t11_1:Int) (i7:Slc) (i12:Int) (k:(Slc)->Heap->Prop) (h:Heap):Prop :=
  ∃ (I:(Slc × Int)->Heap->Prop) (μ:(Slc × Int)->Heap->Nat),I (i7,i12) h/\∀ (t7_1:Slc) (t12_1:Int) (h:Heap),I (t7_1,t12_1) h->piece_Between_l1b t1_1 t2_1 t10_1 t11_1 t7_1 t12_1 k (fun s h'=>I s h'/\μ s h' < μ (t7_1,t12_1) h) h
def piece_Between (p0:Slc) (p1:Int) (p2:Int) (k:(Slc)->Heap->Prop) (h:Heap):Prop :=
  piece_Between_l1 p1 p2 p0 (p0.len:Int) (⟨none,0,0⟩:Slc) 0 k h
/-- quaestor num.Wide -/
def num_Wide (p0:Int) (k:(S_api_Wide)->Heap->Prop) (h:Heap):Prop :=
  ∃ (b1:Nat) (h2:Heap),b1=h.size/\h2=h.push (.cells (S_api_Wide.cs (⟨0,0⟩:S_api_Wide)).toArray 116)/\(∃ h3:Heap,WrsAt h2 (⟨b1,0,none⟩:Addr) 2/\h3=setsH h2 (⟨b1,0,none⟩:Addr) 0 (S_api_Wide.cs (⟨(shr .i64 p0 (63:Int).toNat),(IntKind.u64.wrap p0)⟩:S_api_Wide))/\(∃ v4:S_api_Wide,CellsAt h3 (⟨b1,0,none⟩:Addr) (S_api_Wide.cs v4)/\k v4 h3))
/-- quaestor num.Add -/
def num_Add_g1 (t4_1:Addr) (t10_1:Addr) (t49_1:Bool) (k:(S_api_Wide × Int)->Heap->Prop) (h_1:Heap):Prop :=
  if t49_1 then (∃ h22:Heap,WrsAt h_1 t4_1 2/\h22=setsH h_1 t4_1 0 (S_api_Wide.cs (⟨0,0⟩:S_api_Wide))/\(∃ v23:S_api_Wide,CellsAt h22 t4_1 (S_api_Wide.cs v23)/\k (v23,19) h22)) else (∃ v24:S_api_Wide,CellsAt h_1 t10_1 (S_api_Wide.cs v24)/\(∃ h25:Heap,WrsAt h_1 t4_1 2/\h25=setsH h_1 t4_1 0 (S_api_Wide.cs v24)/\(∃ v26:S_api_Wide,CellsAt h25 t4_1 (S_api_Wide.cs v26)/\k (v26,0) h25)))
def num_Add (p0:S_api_Wide) (p1:S_api_Wide) (k:(S_api_Wide × Int)->Heap->Prop) (h:Heap):Prop :=
  ∃ (b1:Nat) (h2:Heap),b1=h.size/\h2=h.push (.cells (S_api_Wide.cs p0).toArray 116)/\(∃ (b3:Nat) (h4:Heap),b3=h2.size/\h4=h2.push (.cells (S_api_Wide.cs p1).toArray 116)/\(∃ (b5:Nat) (h6:Heap),b5=h4.size/\h6=h4.push (.cells (S_api_Wide.cs (⟨0,0⟩:S_api_Wide)).toArray 116)/\(∃ v7:Int,cellH h6 ((⟨b1,0,none⟩:Addr).add 1)=some (.int .u64 v7)/\(∃ v8:Int,cellH h6 ((⟨b3,0,none⟩:Addr).add 1)=some (.int .u64 v8)/\(((0:Int)<=v7/\(0:Int)<=v8/\(0:Int)<=0/\0<=(1:Int))/\(∃ x10:Int,x10=((v7 + v8 + 0) % 18446744073709551616)/\(∃ x11:Int,x11=((v7 + v8 + 0) / 18446744073709551616)/\(∃ v12:Int,cellH h6 (⟨b1,0,none⟩:Addr)=some (.int .i64 v12)/\(∃ v13:Int,cellH h6 (⟨b3,0,none⟩:Addr)=some (.int .i64 v13)/\(((0:Int)<=(IntKind.u64.wrap v12)/\(0:Int)<=(IntKind.u64.wrap v13)/\(0:Int)<=x11/\x11<=(1:Int))/\(∃ x15:Int,x15=(((IntKind.u64.wrap v12) + (IntKind.u64.wrap v13) + x11) % 18446744073709551616)/\(∃ x16:Int,x16=(((IntKind.u64.wrap v12) + (IntKind.u64.wrap v13) + x11) / 18446744073709551616)/\(∃ (b17:Nat) (h18:Heap),b17=h6.size/\h18=h6.push (.cells (S_api_Wide.cs (⟨0,0⟩:S_api_Wide)).toArray 116)/\(∃ h19:Heap,WrsAt h18 (⟨b17,0,none⟩:Addr) 2/\h19=setsH h18 (⟨b17,0,none⟩:Addr) 0 (S_api_Wide.cs (⟨(IntKind.i64.wrap x15),x10⟩:S_api_Wide))/\(∃ v20:Int,cellH h19 (⟨b1,0,none⟩:Addr)=some (.int .i64 v20)/\(∃ v21:Int,cellH h19 (⟨b3,0,none⟩:Addr)=some (.int .i64 v21)/\(if ((shr .i64 v20 (63:Int).toNat) == (shr .i64 v21 (63:Int).toNat)) then (∃ v27:Int,cellH h19 (⟨b17,0,none⟩:Addr)=some (.int .i64 v27)/\(∃ v28:Int,cellH h19 (⟨b1,0,none⟩:Addr)=some (.int .i64 v28)/\(num_Add_g1 (⟨b5,0,none⟩:Addr) (⟨b17,0,none⟩:Addr) ((shr .i64 v27 (63:Int).toNat) != (shr .i64 v28 (63:Int).toNat)) k h19))) else (num_Add_g1 (⟨b5,0,none⟩:Addr) (⟨b17,0,none⟩:Addr) false k h19))))))))))))))))))
/-- quaestor num.Floor -/
def num_Floor_j1 (t6_1:Int) (k:(Int × Int)->Heap->Prop) (h_1:Heap):Prop :=
  k (t6_1,0) h_1
def num_Floor (p0:Int) (p1:Int) (k:(Int × Int)->Heap->Prop) (h:Heap):Prop :=
  if (p1 == 0) then (k (0,1) h) else (if ((p0 == (-9223372036854775808)) && (p1 == (-1))) then (k (0,19) h) else (p1≠0/\(∃ x2:Int,x2=(IntKind.i64.wrap (Int.tdiv p0 p1))/\(p1≠0/\(if (((Int.tmod p0 p1) != 0) && ((shr .i64 p0 (63:Int).toNat) != (shr .i64 p1 (63:Int).toNat))) then (∃ x4:Int,x4=(IntKind.i64.wrap (x2 - 1))/\(num_Floor_j1 x4 k h)) else (num_Floor_j1 x2 k h))))))
/-- quaestor query.Check -/
def query_Check_g2 (t31_2:Bool) (k:(Int)->Heap->Prop) (h_2:Heap):Prop :=
  if t31_2 then (k 1 h_2) else (k 0 h_2)
def query_Check_g3 (t22_3:Bool) (t30_3:Bool) (k:(Int)->Heap->Prop) (h_3:Heap):Prop :=
  query_Check_g2 t30_3 k h_3
def query_Check_g1 (t1_1:Addr) (t21_1:Bool) (k:(Int)->Heap->Prop) (h_1:Heap):Prop :=
  if t21_1 then (query_Check_g2 true k h_1) else (∃ v10:Int,cellH h_1 (t1_1.add 3)=some (.int .i64 v10)/\(if (v10 == 6) then (∃ v11:Int,cellH h_1 (t1_1.add 4)=some (.int .i64 v11)/\(query_Check_g3 false (decide (v11 < 1)) k h_1)) else (query_Check_g3 false false k h_1)))
def query_Check (p0:S_api_Query) (k:(Int)->Heap->Prop) (h:Heap):Prop :=
  ∃ (b1:Nat) (h2:Heap),b1=h.size/\h2=h.push (.cells (S_api_Query.cs p0).toArray 28)/\(∃ v3:ByteArray,cellH h2 (⟨b1,0,none⟩:Addr)=some (.string v3)/\(label_Selector v3 (fun (r4:S_api_Selector × Int) h5=>∃ (b6:Nat) (h7:Heap),b6=h5.size/\h7=h5.push (.cells (S_api_Selector.cs (⟨ByteArray.empty,(⟨none,0,0⟩:Slc)⟩:S_api_Selector)).toArray 139)/\(∃ h8:Heap,WrsAt h7 (⟨b6,0,none⟩:Addr) 2/\h8=setsH h7 (⟨b6,0,none⟩:Addr) 0 (S_api_Selector.cs r4.1)/\(if (r4.2 != 0) then (k r4.2 h8) else (∃ v9:Int,cellH h8 ((⟨b1,0,none⟩:Addr).add 3)=some (.int .i64 v9)/\(if (decide (v9 < 0)) then (query_Check_g1 (⟨b1,0,none⟩:Addr) true k h8) else (∃ v12:Int,cellH h8 ((⟨b1,0,none⟩:Addr).add 3)=some (.int .i64 v12)/\(query_Check_g1 (⟨b1,0,none⟩:Addr) (decide (v12 > 6)) k h8))))))) h2))
/-- slices.SortedFunc quaestor api.Piece  -/
def slices_SortedFunc_api_Piece__piece_compare (p0:Value) (k:(Slc)->Heap->Prop) (h:Heap):Prop :=
  slices_Collect_api_Piece p0 (fun (r1:Slc) h2=>slices_SortFunc_api_Piece_api_Piece__piece_compare r1 (fun (r3:Unit) h4=>k r1 h4) h2) h
/-- quaestor piece.Merge -/
def piece_Merge_j3 (t3_3:Option Nat) (t12_3:Slc) (t13_3:Int) (t14_3:Int) (t18_3:Slc) (t19_3:Int) (t20_3:Int) (k:(Slc)->Heap->Prop) (nx1:(Int)->Heap->Prop) (nx2:(Int)->Heap->Prop) (h_3:Heap):Prop :=
  nx2 (IntKind.i64.wrap (t20_3 + 1)) h_3
def piece_Merge_j4 (t3_4:Option Nat) (t7_4:Addr) (t8_4:Addr) (t12_4:Slc) (t13_4:Int) (t14_4:Int) (t18_4:Slc) (t19_4:Int) (t20_4:Int) (t53_4:Bool) (k:(Slc)->Heap->Prop) (nx1:(Int)->Heap->Prop) (nx2:(Int)->Heap->Prop) (h_4:Heap):Prop :=
  if t53_4 then (piece_Merge_j3 t3_4 t12_4 t13_4 t14_4 t18_4 t19_4 t20_4 k nx1 nx2 h_4) else (∃ v23:S_piece_place,CellsAt h_4 t8_4 (S_piece_place.cs v23)/\(∃ v24:S_api_Piece,CellsAt h_4 t7_4 (S_api_Piece.cs v24)/\(∃ (r25:Nat) (l26:List (S_piece_place × S_api_Piece)) (h27:Heap),t3_4=some r25/\MapAS (K:=S_piece_place) (V:=S_api_Piece) (fun v:S_piece_place=>Value.agg (S_piece_place.cs v).toArray) (fun v:S_api_Piece=>Value.agg (S_api_Piece.cs v).toArray) h_4 (some r25) l26/\h27=setM h_4 r25 ((fun v:S_piece_place=>Value.agg (S_piece_place.cs v).toArray) v23) (.agg (S_api_Piece.cs v24).toArray)/\(piece_Merge_j3 t3_4 t12_4 t13_4 t14_4 t18_4 t19_4 t20_4 k nx1 nx2 h27))))
def piece_Merge_l2b (t3_2:Option Nat) (t12_2:Slc) (t13_2:Int) (t14_2:Int) (t18_2:Slc) (t19_2:Int) (t20_2:Int) (k:(Slc)->Heap->Prop) (nx1:(Int)->Heap->Prop) (nx2:(Int)->Heap->Prop) (h_2:Heap):Prop :=
  if (decide (t20_2 < t19_2)) then (∃ a5:Addr,t18_2.a=some a5/\(0:Int)<=t20_2/\t20_2 < (t18_2.len:Int)/\(∃ v6:S_api_Piece,CellsAt h_2 (a5.add (t20_2.toNat * 5)) (S_api_Piece.cs v6)/\(∃ (b7:Nat) (h8:Heap),b7=h_2.size/\h8=h_2.push (.cells (S_api_Piece.cs (⟨ByteArray.empty,0,0,(⟨0,0⟩:S_api_Id)⟩:S_api_Piece)).toArray 89)/\(∃ h9:Heap,WrsAt h8 (⟨b7,0,none⟩:Addr) 5/\h9=setsH h8 (⟨b7,0,none⟩:Addr) 0 (S_api_Piece.cs v6)/\(∃ v10:S_api_Piece,CellsAt h9 (⟨b7,0,none⟩:Addr) (S_api_Piece.cs v10)/\(piece_Check v10 (fun (r11:Int) h12=>if (r11 != 0) then (piece_Merge_j3 t3_2 t12_2 t13_2 t14_2 t18_2 t19_2 t20_2 k nx1 nx2 h12) else (∃ v13:ByteArray,cellH h12 (⟨b7,0,none⟩:Addr)=some (.string v13)/\(∃ v14:Int,cellH h12 ((⟨b7,0,none⟩:Addr).add 1)=some (.int .i64 v14)/\(∃ (b15:Nat) (h16:Heap),b15=h12.size/\h16=h12.push (.cells (S_piece_place.cs (⟨ByteArray.empty,0⟩:S_piece_place)).toArray 95)/\(∃ h17:Heap,WrsAt h16 (⟨b15,0,none⟩:Addr) 2/\h17=setsH h16 (⟨b15,0,none⟩:Addr) 0 (S_piece_place.cs (⟨v13,v14⟩:S_piece_place))/\(∃ v18:S_piece_place,CellsAt h17 (⟨b15,0,none⟩:Addr) (S_piece_place.cs v18)/\(∃ l19:List (S_piece_place × S_api_Piece),MapAS (K:=S_piece_place) (V:=S_api_Piece) (fun v:S_piece_place=>Value.agg (S_piece_place.cs v).toArray) (fun v:S_api_Piece=>Value.agg (S_api_Piece.cs v).toArray) h17 t3_2 l19/\(∃ (b20:Nat) (h21:Heap),b20=h17.size/\h21=h17.push (.cells (S_api_Piece.cs (⟨ByteArray.empty,0,0,(⟨0,0⟩:S_api_Id)⟩:S_api_Piece)).toArray 89)/\(∃ h22:Heap,WrsAt h21 (⟨b20,0,none⟩:Addr) 5/\h22=setsH h21 (⟨b20,0,none⟩:Addr) 0 (S_api_Piece.cs ((mget l19 v18).getD (⟨ByteArray.empty,0,0,(⟨0,0⟩:S_api_Id)⟩:S_api_Piece)))/\(if (mget l19 v18).isSome then (∃ v28:S_api_Id,CellsAt h22 ((⟨b20,0,none⟩:Addr).add 3) (S_api_Id.cs v28)/\(∃ v29:S_api_Id,CellsAt h22 ((⟨b7,0,none⟩:Addr).add 3) (S_api_Id.cs v29)/\(∃ v30:Int,cellH h22 ((⟨b20,0,none⟩:Addr).add 2)=some (.int .i64 v30)/\(∃ v31:Int,cellH h22 ((⟨b7,0,none⟩:Addr).add 2)=some (.int .i64 v31)/\(piece_ids v28 v29 (fun (r32:Int) h33=>cellH h33 ((⟨b7,0,none⟩:Addr).add 2)=some (.int .i64 v31)/\cellH h33 ((⟨b20,0,none⟩:Addr).add 2)=some (.int .i64 v30)/\(cmp_Compare_int64 v30 v31 (fun (r36:Int) h37=>∃ (b38:Nat) (h39:Heap),b38=h37.size/\h39=h37.push (.cells ([.int .i64 r32,.int .i64 r36]).toArray 3)/\(cmp_Or_int (⟨some ⟨b38,0,none⟩,2,2⟩:Slc) (fun (r40:Int) h41=>piece_Merge_j4 t3_2 (⟨b7,0,none⟩:Addr) (⟨b15,0,none⟩:Addr) t12_2 t13_2 t14_2 t18_2 t19_2 t20_2 (decide (r40>=0)) k nx1 nx2 h41) h39)) h33)) h22))))) else (piece_Merge_j4 t3_2 (⟨b7,0,none⟩:Addr) (⟨b15,0,none⟩:Addr) t12_2 t13_2 t14_2 t18_2 t19_2 t20_2 false k nx1 nx2 h22))))))))))) h9)))))) else (nx1 (IntKind.i64.wrap (t14_2 + 1)) h_2)
def piece_Merge_l2 (t3_2:Option Nat) (t12_2:Slc) (t13_2:Int) (t14_2:Int) (t18_2:Slc) (t19_2:Int) (i20:Int) (k:(Slc)->Heap->Prop) (nx1:(Int)->Heap->Prop) (h:Heap):Prop :=
  ∃ (I:Int->Heap->Prop) (μ:Int->Heap->Nat),I i20 h/\∀ (t20_2:Int) (h:Heap),I t20_2 h->piece_Merge_l2b t3_2 t12_2 t13_2 t14_2 t18_2 t19_2 t20_2 k nx1 (fun s h'=>I s h'/\μ s h' < μ t20_2 h) h
def piece_Merge_l1b (t3_1:Option Nat) (t12_1:Slc) (t13_1:Int) (t14_1:Int) (k:(Slc)->Heap->Prop) (nx1:(Int)->Heap->Prop) (h_1:Heap):Prop :=
  if (decide (t14_1 < t13_1)) then (∃ a3:Addr,t12_1.a=some a3/\(0:Int)<=t14_1/\t14_1 < (t12_1.len:Int)/\(∃ v4:Slc,cellH h_1 (a3.add (t14_1.toNat * 1))=some (Slc.v v4)/\(piece_Merge_l2 t3_1 t12_1 t13_1 t14_1 v4 (v4.len:Int) 0 k nx1 h_1))) else (maps_Values_map_piece_place_api_Piece_piece_place_api_Piece t3_1 (fun (r42:Value) h43=>slices_SortedFunc_api_Piece__piece_compare r42 (fun (r44:Slc) h45=>k r44 h45) h43) h_1)
def piece_Merge_l1 (t3_1:Option Nat) (t12_1:Slc) (t13_1:Int) (i14:Int) (k:(Slc)->Heap->Prop) (h:Heap):Prop :=
  ∃ (I:Int->Heap->Prop) (μ:Int->Heap->Nat),I i14 h/\∀ (t14_1:Int) (h:Heap),I t14_1 h->piece_Merge_l1b t3_1 t12_1 t13_1 t14_1 k (fun s h'=>I s h'/\μ s h' < μ t14_1 h) h
def piece_Merge (p0:Slc) (k:(Slc)->Heap->Prop) (h:Heap):Prop :=
  ∃ (b1:Nat) (h2:Heap),b1=h.size/\h2=h.push (.map #[] 0)/\(piece_Merge_l1 (some b1) p0 (p0.len:Int) 0 k h2)
/-- quaestor query.Ask -/
def query_Ask_j2 (t9_2:Addr) (t11_2:Option Nat) (t40_2:Slc) (t41_2:Int) (t42_2:Int) (t12_2:Slc) (k:(Slc × Int)->Heap->Prop) (nx1:(Slc × Int)->Heap->Prop) (h_2:Heap):Prop :=
  nx1 (t12_2,(IntKind.i64.wrap (t42_2 + 1))) h_2
def query_Ask_j3 (t9_3:Addr) (t11_3:Option Nat) (t12_3:Slc) (t14_3:Addr) (t40_3:Slc) (t41_3:Int) (t42_3:Int) (t15_3:Bool) (k:(Slc × Int)->Heap->Prop) (nx1:(Slc × Int)->Heap->Prop) (h_3:Heap):Prop :=
  if t15_3 then (∃ v33:S_api_Piece,CellsAt h_3 t14_3 (S_api_Piece.cs v33)/\(∃ (b34:Nat) (h35:Heap),b34=h_3.size/\h35=h_3.push (.cells ((S_api_Piece.cs v33)).toArray 89)/\(App 89 5 48 [.string ByteArray.empty,.int .i64 0,.int .i64 0,.int .u64 0,.int .u16 0] h35 t12_3 1 ((S_api_Piece.cs v33)) (fun s36 h37=>query_Ask_j2 t9_3 t11_3 t40_3 t41_3 t42_3 s36 k nx1 h37)))) else (query_Ask_j2 t9_3 t11_3 t40_3 t41_3 t42_3 t12_3 k nx1 h_3)
def query_Ask_g4 (t9_4:Addr) (t11_4:Option Nat) (t12_4:Slc) (t14_4:Addr) (t40_4:Slc) (t41_4:Int) (t42_4:Int) (t67_4:Bool) (k:(Slc × Int)->Heap->Prop) (nx1:(Slc × Int)->Heap->Prop) (h_4:Heap):Prop :=
  ∃ v44:ByteArray,cellH h_4 t14_4=some (.string v44)/\(∃ (r45:Nat) (l46:List (ByteArray × Bool)) (h47:Heap),t11_4=some r45/\MapAt (K:=ByteArray) (V:=Bool) .string Value.string Value.bool h_4 (some r45) l46/\h47=setM h_4 r45 (Value.string v44) (.bool t67_4)/\(query_Ask_j3 t9_4 t11_4 t12_4 t14_4 t40_4 t41_4 t42_4 t67_4 k nx1 h47))
def query_Ask_l1b (t9_1:Addr) (t11_1:Option Nat) (t40_1:Slc) (t41_1:Int) (t12_1:Slc) (t42_1:Int) (k:(Slc × Int)->Heap->Prop) (nx1:(Slc × Int)->Heap->Prop) (h_1:Heap):Prop :=
  if (decide (t42_1 < t41_1)) then (∃ a26:Addr,t40_1.a=some a26/\(0:Int)<=t42_1/\t42_1 < (t40_1.len:Int)/\(∃ v27:S_api_Piece,CellsAt h_1 (a26.add (t42_1.toNat * 5)) (S_api_Piece.cs v27)/\(∃ (b28:Nat) (h29:Heap),b28=h_1.size/\h29=h_1.push (.cells (S_api_Piece.cs (⟨ByteArray.empty,0,0,(⟨0,0⟩:S_api_Id)⟩:S_api_Piece)).toArray 89)/\(∃ h30:Heap,WrsAt h29 (⟨b28,0,none⟩:Addr) 5/\h30=setsH h29 (⟨b28,0,none⟩:Addr) 0 (S_api_Piece.cs v27)/\(∃ v31:ByteArray,cellH h30 (⟨b28,0,none⟩:Addr)=some (.string v31)/\(∃ l32:List (ByteArray × Bool),MapAt (K:=ByteArray) (V:=Bool) .string Value.string Value.bool h30 t11_1 l32/\(if (!(mget l32 v31).isSome) then (∃ v38:ByteArray,cellH h30 (⟨b28,0,none⟩:Addr)=some (.string v38)/\(label_Parse v38 (fun (r39:S_api_Series × Int) h40=>∃ (b41:Nat) (h42:Heap),b41=h40.size/\h42=h40.push (.cells (S_api_Series.cs (⟨ByteArray.empty,(⟨none,0,0⟩:Slc)⟩:S_api_Series)).toArray 147)/\(∃ h43:Heap,WrsAt h42 (⟨b41,0,none⟩:Addr) 2/\h43=setsH h42 (⟨b41,0,none⟩:Addr) 0 (S_api_Series.cs r39.1)/\(if (r39.2 == 0) then (∃ v48:S_api_Selector,CellsAt h43 t9_1 (S_api_Selector.cs v48)/\(∃ v49:S_api_Series,CellsAt h43 (⟨b41,0,none⟩:Addr) (S_api_Series.cs v49)/\(label_Chooses v48 v49 (fun (r50:Bool) h51=>query_Ask_g4 t9_1 t11_1 t12_1 (⟨b28,0,none⟩:Addr) t40_1 t41_1 t42_1 r50 k nx1 h51) h43))) else (query_Ask_g4 t9_1 t11_1 t12_1 (⟨b28,0,none⟩:Addr) t40_1 t41_1 t42_1 false k nx1 h43)))) h30)) else (query_Ask_j3 t9_1 t11_1 t12_1 (⟨b28,0,none⟩:Addr) t40_1 t41_1 t42_1 ((mget l32 v31).getD false) k nx1 h30)))))))) else (k (t12_1,0) h_1)
def query_Ask_l1 (t9_1:Addr) (t11_1:Option Nat) (t40_1:Slc) (t41_1:Int) (i12:Slc) (i42:Int) (k:(Slc × Int)->Heap->Prop) (h:Heap):Prop :=
  ∃ (I:(Slc × Int)->Heap->Prop) (μ:(Slc × Int)->Heap->Nat),I (i12,i42) h/\∀ (t12_1:Slc) (t42_1:Int) (h:Heap),I (t12_1,t42_1) h->query_Ask_l1b t9_1 t11_1 t40_1 t41_1 t12_1 t42_1 k (fun s h'=>I s h'/\μ s h' < μ (t12_1,t42_1) h) h
def query_Ask (p0:S_api_Query) (p1:Slc) (p2:Int) (k:(Slc × Int)->Heap->Prop) (h:Heap):Prop :=
  ∃ (b1:Nat) (h2:Heap),b1=h.size/\h2=h.push (.cells (S_api_Query.cs p0).toArray 28)/\(∃ v3:S_api_Query,CellsAt h2 (⟨b1,0,none⟩:Addr) (S_api_Query.cs v3)/\(query_Check v3 (fun (r4:Int) h5=>if (r4 != 0) then (k ((⟨none,0,0⟩:Slc),r4) h5) else (∃ v6:ByteArray,cellH h5 (⟨b1,0,none⟩:Addr)=some (.string v6)/\(label_Selector v6 (fun (r7:S_api_Selector × Int) h8=>∃ (b9:Nat) (h10:Heap),b9=h8.size/\h10=h8.push (.cells (S_api_Selector.cs (⟨ByteArray.empty,(⟨none,0,0⟩:Slc)⟩:S_api_Selector)).toArray 139)/\(∃ h11:Heap,WrsAt h10 (⟨b9,0,none⟩:Addr) 2/\h11=setsH h10 (⟨b9,0,none⟩:Addr) 0 (S_api_Selector.cs r7.1)/\(∃ (b12:Nat) (h13:Heap),b12=h11.size/\h13=h11.push (.map #[] 0)/\(∃ v14:Int,cellH h13 ((⟨b1,0,none⟩:Addr).add 1)=some (.int .i64 v14)/\(∃ v15:Int,cellH h13 ((⟨b1,0,none⟩:Addr).add 2)=some (.int .i64 v15)/\(∃ (b16:Nat) (h17:Heap),b16=h13.size/\h17=h13.push (.cells ([Slc.v p1]).toArray 26)/\(cellH h17 ((⟨b1,0,none⟩:Addr).add 2)=some (.int .i64 v15)/\cellH h17 ((⟨b1,0,none⟩:Addr).add 1)=some (.int .i64 v14)/\(piece_Merge (⟨some ⟨b16,0,none⟩,1,1⟩:Slc) (fun (r20:Slc) h21=>cellH h21 ((⟨b1,0,none⟩:Addr).add 2)=some (.int .i64 v15)/\cellH h21 ((⟨b1,0,none⟩:Addr).add 1)=some (.int .i64 v14)/\(piece_Between r20 (if p2 > v14 then p2 else v14) v15 (fun (r24:Slc) h25=>query_Ask_l1 (⟨b9,0,none⟩:Addr) (some b12) r24 (r24.len:Int) (⟨none,0,0⟩:Slc) 0 k h25) h21)) h17)))))))) h5))) h2))
/-- quaestor query.groups -/
def query_groups_l2b (t9_2:Slc) (t10_2:Int) (t0_2:Slc) (t3_2:Slc) (t11_2:Int) (k:(Slc)->Heap->Prop) (nx1:(Slc × Slc)->Heap->Prop) (nx2:(Slc × Slc × Int)->Heap->Prop) (h_2:Heap):Prop :=
  if (decide (t11_2 < t10_2)) then (∃ a1:Addr,t9_2.a=some a1/\(0:Int)<=t11_2/\t11_2 < (t9_2.len:Int)/\(∃ v2:S_api_Piece,CellsAt h_2 (a1.add (t11_2.toNat * 5)) (S_api_Piece.cs v2)/\(∃ (b3:Nat) (h4:Heap),b3=h_2.size/\h4=h_2.push (.cells (S_api_Piece.cs (⟨ByteArray.empty,0,0,(⟨0,0⟩:S_api_Id)⟩:S_api_Piece)).toArray 89)/\(∃ h5:Heap,WrsAt h4 (⟨b3,0,none⟩:Addr) 5/\h5=setsH h4 (⟨b3,0,none⟩:Addr) 0 (S_api_Piece.cs v2)/\(∃ v6:ByteArray,cellH h5 (⟨b3,0,none⟩:Addr)=some (.string v6)/\(∃ a7:Addr,t0_2.a=some a7/\(0:Int)<=0/\0 < (t0_2.len:Int)/\(∃ v8:ByteArray,cellH h5 (a7.add ((0:Int).toNat * 5))=some (.string v8)/\(if (!(v6.toList == v8.toList)) then (∃ s9:Slc,(0:Int)<=0/\(0:Int)<=t11_2/\(t11_2:Int)<=(t0_2.cap:Int)/\(t0_2.cap:Int)<=(t0_2.cap:Int)/\s9=subS t0_2 5 (0:Int).toNat t11_2.toNat (t0_2.cap:Int).toNat/\(∃ (b10:Nat) (h11:Heap),b10=h5.size/\h11=h5.push (.cells ([Slc.v s9]).toArray 26)/\(App 26 1 24 [.slice none 0 0] h11 t3_2 1 ([Slc.v s9]) (fun s12 h13=>∃ s14:Slc,(0:Int)<=t11_2/\(t11_2:Int)<=(t0_2.len:Int)/\((t0_2.len:Int):Int)<=(t0_2.cap:Int)/\(t0_2.cap:Int)<=(t0_2.cap:Int)/\s14=subS t0_2 5 t11_2.toNat (t0_2.len:Int).toNat (t0_2.cap:Int).toNat/\(nx1 (s14,s12) h13))))) else (nx2 (t0_2,t3_2,(IntKind.i64.wrap (t11_2 + 1))) h5))))))))) else (∃ (b15:Nat) (h16:Heap),b15=h_2.size/\h16=h_2.push (.cells ([Slc.v t0_2]).toArray 26)/\(App 26 1 24 [.slice none 0 0] h16 t3_2 1 ([Slc.v t0_2]) (fun s17 h18=>k s17 h18)))
def query_groups_l2 (t9_2:Slc) (t10_2:Int) (i0:Slc) (i3:Slc) (i11:Int) (k:(Slc)->Heap->Prop) (nx1:(Slc × Slc)->Heap->Prop) (h:Heap):Prop :=
  ∃ (I:(Slc × Slc × Int)->Heap->Prop) (μ:(Slc × Slc × Int)->Heap->Nat),I (i0,i3,i11) h/\∀ (t0_2:Slc) (t3_2:Slc) (t11_2:Int) (h:Heap),I (t0_2,t3_2,t11_2) h->query_groups_l2b t9_2 t10_2 t0_2 t3_2 t11_2 k nx1 (fun s h'=>I s h'/\μ s h' < μ (t0_2,t3_2,t11_2) h) h
def query_groups_l1b (t0_1:Slc) (t3_1:Slc) (k:(Slc)->Heap->Prop) (nx1:(Slc × Slc)->Heap->Prop) (h_1:Heap):Prop :=
  if (decide ((t0_1.len:Int) > 0)) then (query_groups_l2 t0_1 (t0_1.len:Int) t0_1 t3_1 0 k nx1 h_1) else (k t3_1 h_1)
def query_groups_l1 (i0:Slc) (i3:Slc) (k:(Slc)->Heap->Prop) (h:Heap):Prop :=
  ∃ (I:(Slc × Slc)->Heap->Prop) (μ:(Slc × Slc)->Heap->Nat),I (i0,i3) h/\∀ (t0_1:Slc) (t3_1:Slc) (h:Heap),I (t0_1,t3_1) h->query_groups_l1b t0_1 t3_1 k (fun s h'=>I s h'/\μ s h' < μ (t0_1,t3_1) h) h
def query_groups (p0:Slc) (k:(Slc)->Heap->Prop) (h:Heap):Prop :=
  query_groups_l1 p0 (⟨none,0,0⟩:Slc) k h
/-- quaestor query.sum -/
def query_sum_l1b (t2_1:Addr) (t3_1:Addr) (t6_1:Slc) (t7_1:Int) (t8_1:Int) (k:(S_api_Wide)->Heap->Prop) (nx1:(Int)->Heap->Prop) (h_1:Heap):Prop :=
  if (decide (t8_1 < t7_1)) then (∃ a5:Addr,t6_1.a=some a5/\(0:Int)<=t8_1/\t8_1 < (t6_1.len:Int)/\(∃ v6:S_api_Piece,CellsAt h_1 (a5.add (t8_1.toNat * 5)) (S_api_Piece.cs v6)/\(∃ (b7:Nat) (h8:Heap),b7=h_1.size/\h8=h_1.push (.cells (S_api_Piece.cs (⟨ByteArray.empty,0,0,(⟨0,0⟩:S_api_Id)⟩:S_api_Piece)).toArray 89)/\(∃ h9:Heap,WrsAt h8 (⟨b7,0,none⟩:Addr) 5/\h9=setsH h8 (⟨b7,0,none⟩:Addr) 0 (S_api_Piece.cs v6)/\(∃ v10:S_api_Wide,CellsAt h9 t3_1 (S_api_Wide.cs v10)/\(∃ v11:Int,cellH h9 ((⟨b7,0,none⟩:Addr).add 2)=some (.int .i64 v11)/\(num_Wide v11 (fun (r12:S_api_Wide) h13=>CellsAt h13 t3_1 (S_api_Wide.cs v10)/\(num_Add v10 r12 (fun (r15:S_api_Wide × Int) h16=>∃ h17:Heap,WrsAt h16 t3_1 2/\h17=setsH h16 t3_1 0 (S_api_Wide.cs r15.1)/\(nx1 (IntKind.i64.wrap (t8_1 + 1)) h17)) h13)) h9))))))) else (∃ v18:S_api_Wide,CellsAt h_1 t3_1 (S_api_Wide.cs v18)/\(∃ h19:Heap,WrsAt h_1 t2_1 2/\h19=setsH h_1 t2_1 0 (S_api_Wide.cs v18)/\(∃ v20:S_api_Wide,CellsAt h19 t2_1 (S_api_Wide.cs v20)/\k v20 h19)))
def query_sum_l1 (t2_1:Addr) (t3_1:Addr) (t6_1:Slc) (t7_1:Int) (i8:Int) (k:(S_api_Wide)->Heap->Prop) (h:Heap):Prop :=
  ∃ (I:Int->Heap->Prop) (μ:Int->Heap->Nat),I i8 h/\∀ (t8_1:Int) (h:Heap),I t8_1 h->query_sum_l1b t2_1 t3_1 t6_1 t7_1 t8_1 k (fun s h'=>I s h'/\μ s h' < μ t8_1 h) h
def query_sum (p0:Slc) (k:(S_api_Wide)->Heap->Prop) (h:Heap):Prop :=
  ∃ (b1:Nat) (h2:Heap),b1=h.size/\h2=h.push (.cells (S_api_Wide.cs (⟨0,0⟩:S_api_Wide)).toArray 116)/\(∃ (b3:Nat) (h4:Heap),b3=h2.size/\h4=h2.push (.cells (S_api_Wide.cs (⟨0,0⟩:S_api_Wide)).toArray 116)/\(query_sum_l1 (⟨b1,0,none⟩:Addr) (⟨b3,0,none⟩:Addr) p0 (p0.len:Int) 0 k h4))
/-- quaestor query.minus -/
def query_minus (p0:Int) (p1:Int) (k:(Int × Bool)->Heap->Prop) (h:Heap):Prop :=
  ∃ x1:Int,x1=(IntKind.i64.wrap (p0 - p1))/\(k (x1,(((decide (x1 < p0)) == (decide (p1 > 0))))) h)
/-- quaestor query.rate -/
def query_rate_j1 (t4_1:Addr) (t5_1:Addr) (k:(Int × Int)->Heap->Prop) (h_1:Heap):Prop :=
  ∃ v1:Int,cellH h_1 (t5_1.add 2)=some (.int .i64 v1)/\(∃ v2:Int,cellH h_1 (t4_1.add 2)=some (.int .i64 v2)/\(query_minus v1 v2 (fun (r3:Int × Bool) h4=>∃ v5:Int,cellH h4 (t5_1.add 1)=some (.int .i64 v5)/\(∃ v6:Int,cellH h4 (t4_1.add 1)=some (.int .i64 v6)/\(query_minus v5 v6 (fun (r7:Int × Bool) h8=>if ((!r3.2) || (!r7.2)) then (k (0,19) h8) else (num_Floor r3.1 r7.1 (fun (r9:Int × Int) h10=>k (r9.1,r9.2) h10) h8)) h4))) h_1))
def query_rate (p0:Slc) (k:(Int × Int)->Heap->Prop) (h:Heap):Prop :=
  ∃ a11:Addr,p0.a=some a11/\(0:Int)<=0/\0 < (p0.len:Int)/\(∃ v12:S_api_Piece,CellsAt h (a11.add ((0:Int).toNat * 5)) (S_api_Piece.cs v12)/\(∃ a13:Addr,p0.a=some a13/\(0:Int)<=(IntKind.i64.wrap ((p0.len:Int) - 1))/\(IntKind.i64.wrap ((p0.len:Int) - 1)) < (p0.len:Int)/\(∃ v14:S_api_Piece,CellsAt h (a13.add ((IntKind.i64.wrap ((p0.len:Int) - 1)).toNat * 5)) (S_api_Piece.cs v14)/\((∃ (b15:Nat) (h16:Heap),b15=h.size/\h16=h.push (.cells (S_api_Piece.cs (⟨ByteArray.empty,0,0,(⟨0,0⟩:S_api_Id)⟩:S_api_Piece)).toArray 89)/\(CellsAt h16 (a13.add ((IntKind.i64.wrap ((p0.len:Int) - 1)).toNat * 5)) (S_api_Piece.cs v14)/\CellsAt h16 (a11.add ((0:Int).toNat * 5)) (S_api_Piece.cs v12)/\(∃ (b19:Nat) (h20:Heap),b19=h16.size/\h20=h16.push (.cells (S_api_Piece.cs (⟨ByteArray.empty,0,0,(⟨0,0⟩:S_api_Id)⟩:S_api_Piece)).toArray 89)/\(CellsAt h20 (a13.add ((IntKind.i64.wrap ((p0.len:Int) - 1)).toNat * 5)) (S_api_Piece.cs v14)/\CellsAt h20 (a11.add ((0:Int).toNat * 5)) (S_api_Piece.cs v12)/\(∃ h23:Heap,WrsAt h20 (⟨b15,0,none⟩:Addr) 5/\h23=setsH h20 (⟨b15,0,none⟩:Addr) 0 (S_api_Piece.cs v12)/\(CellsAt h23 (a13.add ((IntKind.i64.wrap ((p0.len:Int) - 1)).toNat * 5)) (S_api_Piece.cs v14)/\(∃ h25:Heap,WrsAt h23 (⟨b19,0,none⟩:Addr) 5/\h25=setsH h23 (⟨b19,0,none⟩:Addr) 0 (S_api_Piece.cs v14)/\(query_rate_j1 (⟨b15,0,none⟩:Addr) (⟨b19,0,none⟩:Addr) k h25))))))))/\(∃ (b26:Nat) (h27:Heap),b26=h.size/\h27=h.push (.cells (S_api_Piece.cs (⟨ByteArray.empty,0,0,(⟨0,0⟩:S_api_Id)⟩:S_api_Piece)).toArray 89)/\(CellsAt h27 (a13.add ((IntKind.i64.wrap ((p0.len:Int) - 1)).toNat * 5)) (S_api_Piece.cs v14)/\CellsAt h27 (a11.add ((0:Int).toNat * 5)) (S_api_Piece.cs v12)/\(∃ (b30:Nat) (h31:Heap),b30=h27.size/\h31=h27.push (.cells (S_api_Piece.cs (⟨ByteArray.empty,0,0,(⟨0,0⟩:S_api_Id)⟩:S_api_Piece)).toArray 89)/\(CellsAt h31 (a13.add ((IntKind.i64.wrap ((p0.len:Int) - 1)).toNat * 5)) (S_api_Piece.cs v14)/\CellsAt h31 (a11.add ((0:Int).toNat * 5)) (S_api_Piece.cs v12)/\(∃ h34:Heap,WrsAt h31 (⟨b30,0,none⟩:Addr) 5/\h34=setsH h31 (⟨b30,0,none⟩:Addr) 0 (S_api_Piece.cs v12)/\(CellsAt h34 (a13.add ((IntKind.i64.wrap ((p0.len:Int) - 1)).toNat * 5)) (S_api_Piece.cs v14)/\(∃ h36:Heap,WrsAt h34 (⟨b26,0,none⟩:Addr) 5/\h36=setsH h34 (⟨b26,0,none⟩:Addr) 0 (S_api_Piece.cs v14)/\(query_rate_j1 (⟨b30,0,none⟩:Addr) (⟨b26,0,none⟩:Addr) k h36))))))))))))
/-- quaestor query.each -/
def query_each_j2 (t1_2:Int) (t11_2:Slc) (t12_2:Int) (t13_2:Int) (t5_2:Slc) (k:(Slc)->Heap->Prop) (nx1:(Slc × Int)->Heap->Prop) (h_2:Heap):Prop :=
  nx1 (t5_2,(IntKind.i64.wrap (t13_2 + 1))) h_2
def query_each_g3 (t1_3:Int) (t5_3:Slc) (t7_3:Addr) (t10_3:Int) (t11_3:Slc) (t12_3:Int) (t13_3:Int) (t40_3:Bool) (k:(Slc)->Heap->Prop) (nx1:(Slc × Int)->Heap->Prop) (h_3:Heap):Prop :=
  if t40_3 then (∃ a10:Addr,t5_3.a=some a10/\(0:Int)<=(IntKind.i64.wrap ((t5_3.len:Int) - 1))/\(IntKind.i64.wrap ((t5_3.len:Int) - 1)) < (t5_3.len:Int)/\(∃ v11:S_api_Wide,CellsAt h_3 ((a10.add ((IntKind.i64.wrap ((t5_3.len:Int) - 1)).toNat * 4)).add 2) (S_api_Wide.cs v11)/\(∃ v12:Int,cellH h_3 (t7_3.add 2)=some (.int .i64 v12)/\(num_Wide v12 (fun (r13:S_api_Wide) h14=>CellsAt h14 ((a10.add ((IntKind.i64.wrap ((t5_3.len:Int) - 1)).toNat * 4)).add 2) (S_api_Wide.cs v11)/\(num_Add v11 r13 (fun (r16:S_api_Wide × Int) h17=>∃ a18:Addr,t5_3.a=some a18/\(0:Int)<=(IntKind.i64.wrap ((t5_3.len:Int) - 1))/\(IntKind.i64.wrap ((t5_3.len:Int) - 1)) < (t5_3.len:Int)/\(∃ h19:Heap,WrsAt h17 ((a18.add ((IntKind.i64.wrap ((t5_3.len:Int) - 1)).toNat * 4)).add 2) 2/\h19=setsH h17 ((a18.add ((IntKind.i64.wrap ((t5_3.len:Int) - 1)).toNat * 4)).add 2) 0 (S_api_Wide.cs r16.1)/\(query_each_j2 t1_3 t11_3 t12_3 t13_3 t5_3 k nx1 h19))) h14)) h_3)))) else (∃ v20:ByteArray,cellH h_3 t7_3=some (.string v20)/\(∃ v21:Int,cellH h_3 (t7_3.add 2)=some (.int .i64 v21)/\(num_Wide v21 (fun (r22:S_api_Wide) h23=>cellH h23 t7_3=some (.string v20)/\(∃ (b25:Nat) (h26:Heap),b25=h23.size/\h26=h23.push (.cells ((S_api_Row.cs (⟨v20,t10_3,r22⟩:S_api_Row))).toArray 118)/\(App 118 4 40 [.string ByteArray.empty,.int .i64 0,.int .i64 0,.int .u64 0] h26 t5_3 1 ((S_api_Row.cs (⟨v20,t10_3,r22⟩:S_api_Row))) (fun s27 h28=>query_each_j2 t1_3 t11_3 t12_3 t13_3 s27 k nx1 h28)))) h_3)))
def query_each_l1b (t1_1:Int) (t11_1:Slc) (t12_1:Int) (t5_1:Slc) (t13_1:Int) (k:(Slc)->Heap->Prop) (nx1:(Slc × Int)->Heap->Prop) (h_1:Heap):Prop :=
  if (decide (t13_1 < t12_1)) then (∃ a1:Addr,t11_1.a=some a1/\(0:Int)<=t13_1/\t13_1 < (t11_1.len:Int)/\(∃ v2:S_api_Piece,CellsAt h_1 (a1.add (t13_1.toNat * 5)) (S_api_Piece.cs v2)/\(∃ (b3:Nat) (h4:Heap),b3=h_1.size/\h4=h_1.push (.cells (S_api_Piece.cs (⟨ByteArray.empty,0,0,(⟨0,0⟩:S_api_Id)⟩:S_api_Piece)).toArray 89)/\(∃ h5:Heap,WrsAt h4 (⟨b3,0,none⟩:Addr) 5/\h5=setsH h4 (⟨b3,0,none⟩:Addr) 0 (S_api_Piece.cs v2)/\(∃ v6:Int,cellH h5 ((⟨b3,0,none⟩:Addr).add 1)=some (.int .i64 v6)/\(num_Floor v6 t1_1 (fun (r7:Int × Int) h8=>∃ x9:Int,x9=(IntKind.i64.wrap (r7.1 * t1_1))/\(if (decide ((t5_1.len:Int) > 0)) then (∃ a29:Addr,t5_1.a=some a29/\(0:Int)<=(IntKind.i64.wrap ((t5_1.len:Int) - 1))/\(IntKind.i64.wrap ((t5_1.len:Int) - 1)) < (t5_1.len:Int)/\(∃ v30:Int,cellH h8 ((a29.add ((IntKind.i64.wrap ((t5_1.len:Int) - 1)).toNat * 4)).add 1)=some (.int .i64 v30)/\(query_each_g3 t1_1 t5_1 (⟨b3,0,none⟩:Addr) x9 t11_1 t12_1 t13_1 (v30 == x9) k nx1 h8))) else (query_each_g3 t1_1 t5_1 (⟨b3,0,none⟩:Addr) x9 t11_1 t12_1 t13_1 false k nx1 h8))) h5)))))) else (k t5_1 h_1)
def query_each_l1 (t1_1:Int) (t11_1:Slc) (t12_1:Int) (i5:Slc) (i13:Int) (k:(Slc)->Heap->Prop) (h:Heap):Prop :=
  ∃ (I:(Slc × Int)->Heap->Prop) (μ:(Slc × Int)->Heap->Nat),I (i5,i13) h/\∀ (t5_1:Slc) (t13_1:Int) (h:Heap),I (t5_1,t13_1) h->query_each_l1b t1_1 t11_1 t12_1 t5_1 t13_1 k (fun s h'=>I s h'/\μ s h' < μ (t5_1,t13_1) h) h
def query_each (p0:Slc) (p1:Int) (k:(Slc)->Heap->Prop) (h:Heap):Prop :=
  query_each_l1 p1 p0 (p0.len:Int) (⟨none,0,0⟩:Slc) 0 k h
/-- slices.MinFunc   quaestor api.Piece quaestor api.Piece  -/
def slices_MinFunc_api_Piece_api_Piece__query_less_j3 (t0_3:Slc) (t4_3:Addr) (t5_3:Addr) (t6_3:Int) (k:(S_api_Piece)->Heap->Prop) (nx2:(Int)->Heap->Prop) (h_3:Heap):Prop :=
  ∃ x8:Int,x8=(IntKind.i64.wrap (t6_3 + 1))/\(nx2 x8 h_3)
def slices_MinFunc_api_Piece_api_Piece__query_less_l2b (t0_2:Slc) (t4_2:Addr) (t5_2:Addr) (t6_2:Int) (k:(S_api_Piece)->Heap->Prop) (nx2:(Int)->Heap->Prop) (h_2:Heap):Prop :=
  if (decide (t6_2 < (t0_2.len:Int))) then (∃ a9:Addr,t0_2.a=some a9/\(0:Int)<=t6_2/\t6_2 < (t0_2.len:Int)/\(∃ v10:S_api_Piece,CellsAt h_2 (a9.add (t6_2.toNat * 5)) (S_api_Piece.cs v10)/\(∃ v11:S_api_Piece,CellsAt h_2 t5_2 (S_api_Piece.cs v11)/\(query_less v10 v11 (fun (r12:Int) h13=>if (decide (r12 < 0)) then (∃ a14:Addr,t0_2.a=some a14/\(0:Int)<=t6_2/\t6_2 < (t0_2.len:Int)/\(∃ v15:S_api_Piece,CellsAt h13 (a14.add (t6_2.toNat * 5)) (S_api_Piece.cs v15)/\(∃ h16:Heap,WrsAt h13 t5_2 5/\h16=setsH h13 t5_2 0 (S_api_Piece.cs v15)/\(slices_MinFunc_api_Piece_api_Piece__query_less_j3 t0_2 t4_2 t5_2 t6_2 k nx2 h16)))) else (slices_MinFunc_api_Piece_api_Piece__query_less_j3 t0_2 t4_2 t5_2 t6_2 k nx2 h13)) h_2)))) else (∃ v17:S_api_Piece,CellsAt h_2 t5_2 (S_api_Piece.cs v17)/\(∃ h18:Heap,WrsAt h_2 t4_2 5/\h18=setsH h_2 t4_2 0 (S_api_Piece.cs v17)/\(∃ v19:S_api_Piece,CellsAt h18 t4_2 (S_api_Piece.cs v19)/\k v19 h18)))
def slices_MinFunc_api_Piece_api_Piece__query_less_l2 (t0_2:Slc) (t4_2:Addr) (t5_2:Addr) (i6:Int) (k:(S_api_Piece)->Heap->Prop) (h:Heap):Prop :=
  ∃ (I:Int->Heap->Prop) (μ:Int->Heap->Nat),I i6 h/\∀ (t6_2:Int) (h:Heap),I t6_2 h->slices_MinFunc_api_Piece_api_Piece__query_less_l2b t0_2 t4_2 t5_2 t6_2 k (fun s h'=>I s h'/\μ s h' < μ t6_2 h) h
def slices_MinFunc_api_Piece_api_Piece__query_less_j1 (t0_1:Slc) (t4_1:Addr) (k:(S_api_Piece)->Heap->Prop) (h_1:Heap):Prop :=
  ∃ a3:Addr,t0_1.a=some a3/\(0:Int)<=0/\0 < (t0_1.len:Int)/\(∃ v4:S_api_Piece,CellsAt h_1 (a3.add ((0:Int).toNat * 5)) (S_api_Piece.cs v4)/\(∃ (b5:Nat) (h6:Heap),b5=h_1.size/\h6=h_1.push (.cells (S_api_Piece.cs (⟨ByteArray.empty,0,0,(⟨0,0⟩:S_api_Id)⟩:S_api_Piece)).toArray 89)/\(∃ h7:Heap,WrsAt h6 (⟨b5,0,none⟩:Addr) 5/\h7=setsH h6 (⟨b5,0,none⟩:Addr) 0 (S_api_Piece.cs v4)/\(slices_MinFunc_api_Piece_api_Piece__query_less_l2 t0_1 t4_1 (⟨b5,0,none⟩:Addr) 1 k h7))))
def slices_MinFunc_api_Piece_api_Piece__query_less (p0:Slc) (k:(S_api_Piece)->Heap->Prop) (h:Heap):Prop :=
  ∃ (b1:Nat) (h2:Heap),b1=h.size/\h2=h.push (.cells (S_api_Piece.cs (⟨ByteArray.empty,0,0,(⟨0,0⟩:S_api_Id)⟩:S_api_Piece)).toArray 89)/\(if (decide ((p0.len:Int) < 1)) then (False) else (slices_MinFunc_api_Piece_api_Piece__query_less_j1 p0 (⟨b1,0,none⟩:Addr) k h2))
/-- slices.MaxFunc   quaestor api.Piece quaestor api.Piece  -/
def slices_MaxFunc_api_Piece_api_Piece__query_less_j3 (t0_3:Slc) (t4_3:Addr) (t5_3:Addr) (t6_3:Int) (k:(S_api_Piece)->Heap->Prop) (nx2:(Int)->Heap->Prop) (h_3:Heap):Prop :=
  ∃ x8:Int,x8=(IntKind.i64.wrap (t6_3 + 1))/\(nx2 x8 h_3)
def slices_MaxFunc_api_Piece_api_Piece__query_less_l2b (t0_2:Slc) (t4_2:Addr) (t5_2:Addr) (t6_2:Int) (k:(S_api_Piece)->Heap->Prop) (nx2:(Int)->Heap->Prop) (h_2:Heap):Prop :=
  if (decide (t6_2 < (t0_2.len:Int))) then (∃ a9:Addr,t0_2.a=some a9/\(0:Int)<=t6_2/\t6_2 < (t0_2.len:Int)/\(∃ v10:S_api_Piece,CellsAt h_2 (a9.add (t6_2.toNat * 5)) (S_api_Piece.cs v10)/\(∃ v11:S_api_Piece,CellsAt h_2 t5_2 (S_api_Piece.cs v11)/\(query_less v10 v11 (fun (r12:Int) h13=>if (decide (r12 > 0)) then (∃ a14:Addr,t0_2.a=some a14/\(0:Int)<=t6_2/\t6_2 < (t0_2.len:Int)/\(∃ v15:S_api_Piece,CellsAt h13 (a14.add (t6_2.toNat * 5)) (S_api_Piece.cs v15)/\(∃ h16:Heap,WrsAt h13 t5_2 5/\h16=setsH h13 t5_2 0 (S_api_Piece.cs v15)/\(slices_MaxFunc_api_Piece_api_Piece__query_less_j3 t0_2 t4_2 t5_2 t6_2 k nx2 h16)))) else (slices_MaxFunc_api_Piece_api_Piece__query_less_j3 t0_2 t4_2 t5_2 t6_2 k nx2 h13)) h_2)))) else (∃ v17:S_api_Piece,CellsAt h_2 t5_2 (S_api_Piece.cs v17)/\(∃ h18:Heap,WrsAt h_2 t4_2 5/\h18=setsH h_2 t4_2 0 (S_api_Piece.cs v17)/\(∃ v19:S_api_Piece,CellsAt h18 t4_2 (S_api_Piece.cs v19)/\k v19 h18)))
def slices_MaxFunc_api_Piece_api_Piece__query_less_l2 (t0_2:Slc) (t4_2:Addr) (t5_2:Addr) (i6:Int) (k:(S_api_Piece)->Heap->Prop) (h:Heap):Prop :=
  ∃ (I:Int->Heap->Prop) (μ:Int->Heap->Nat),I i6 h/\∀ (t6_2:Int) (h:Heap),I t6_2 h->slices_MaxFunc_api_Piece_api_Piece__query_less_l2b t0_2 t4_2 t5_2 t6_2 k (fun s h'=>I s h'/\μ s h' < μ t6_2 h) h
def slices_MaxFunc_api_Piece_api_Piece__query_less_j1 (t0_1:Slc) (t4_1:Addr) (k:(S_api_Piece)->Heap->Prop) (h_1:Heap):Prop :=
  ∃ a3:Addr,t0_1.a=some a3/\(0:Int)<=0/\0 < (t0_1.len:Int)/\(∃ v4:S_api_Piece,CellsAt h_1 (a3.add ((0:Int).toNat * 5)) (S_api_Piece.cs v4)/\(∃ (b5:Nat) (h6:Heap),b5=h_1.size/\h6=h_1.push (.cells (S_api_Piece.cs (⟨ByteArray.empty,0,0,(⟨0,0⟩:S_api_Id)⟩:S_api_Piece)).toArray 89)/\(∃ h7:Heap,WrsAt h6 (⟨b5,0,none⟩:Addr) 5/\h7=setsH h6 (⟨b5,0,none⟩:Addr) 0 (S_api_Piece.cs v4)/\(slices_MaxFunc_api_Piece_api_Piece__query_less_l2 t0_1 t4_1 (⟨b5,0,none⟩:Addr) 1 k h7))))
def slices_MaxFunc_api_Piece_api_Piece__query_less (p0:Slc) (k:(S_api_Piece)->Heap->Prop) (h:Heap):Prop :=
  ∃ (b1:Nat) (h2:Heap),b1=h.size/\h2=h.push (.cells (S_api_Piece.cs (⟨ByteArray.empty,0,0,(⟨0,0⟩:S_api_Id)⟩:S_api_Piece)).toArray 89)/\(if (decide ((p0.len:Int) < 1)) then (False) else (slices_MaxFunc_api_Piece_api_Piece__query_less_j1 p0 (⟨b1,0,none⟩:Addr) k h2))
/-- quaestor query.rows -/
def query_rows_j1 (t6_1:Addr) (k:(Slc × Int)->Heap->Prop) (h_1:Heap):Prop :=
  ∃ v8:S_api_Row,CellsAt h_1 t6_1 (S_api_Row.cs v8)/\(∃ (b9:Nat) (h10:Heap),b9=h_1.size/\h10=h_1.push (.cells ((S_api_Row.cs v8)).toArray 118)/\(k ((⟨some ⟨b9,0,none⟩,1,1⟩:Slc),0) h10))
def query_rows_l2b (t25_2:Slc) (t26_2:Int) (t7_2:Slc) (t27_2:Int) (k:(Slc × Int)->Heap->Prop) (nx2:(Slc × Int)->Heap->Prop) (h_2:Heap):Prop :=
  if (decide (t27_2 < t26_2)) then (∃ a12:Addr,t25_2.a=some a12/\(0:Int)<=t27_2/\t27_2 < (t25_2.len:Int)/\(∃ v13:S_api_Piece,CellsAt h_2 (a12.add (t27_2.toNat * 5)) (S_api_Piece.cs v13)/\(∃ (b14:Nat) (h15:Heap),b14=h_2.size/\h15=h_2.push (.cells (S_api_Piece.cs (⟨ByteArray.empty,0,0,(⟨0,0⟩:S_api_Id)⟩:S_api_Piece)).toArray 89)/\(∃ h16:Heap,WrsAt h15 (⟨b14,0,none⟩:Addr) 5/\h16=setsH h15 (⟨b14,0,none⟩:Addr) 0 (S_api_Piece.cs v13)/\(∃ v17:ByteArray,cellH h16 (⟨b14,0,none⟩:Addr)=some (.string v17)/\(∃ v18:Int,cellH h16 ((⟨b14,0,none⟩:Addr).add 1)=some (.int .i64 v18)/\(∃ v19:Int,cellH h16 ((⟨b14,0,none⟩:Addr).add 2)=some (.int .i64 v19)/\(num_Wide v19 (fun (r20:S_api_Wide) h21=>cellH h21 ((⟨b14,0,none⟩:Addr).add 1)=some (.int .i64 v18)/\cellH h21 (⟨b14,0,none⟩:Addr)=some (.string v17)/\(∃ (b24:Nat) (h25:Heap),b24=h21.size/\h25=h21.push (.cells ((S_api_Row.cs (⟨v17,v18,r20⟩:S_api_Row))).toArray 118)/\(App 118 4 40 [.string ByteArray.empty,.int .i64 0,.int .i64 0,.int .u64 0] h25 t7_2 1 ((S_api_Row.cs (⟨v17,v18,r20⟩:S_api_Row))) (fun s26 h27=>nx2 (s26,(IntKind.i64.wrap (t27_2 + 1))) h27)))) h16)))))))) else (k (t7_2,0) h_2)
def query_rows_l2 (t25_2:Slc) (t26_2:Int) (i7:Slc) (i27:Int) (k:(Slc × Int)->Heap->Prop) (h:Heap):Prop :=
  ∃ (I:(Slc × Int)->Heap->Prop) (μ:(Slc × Int)->Heap->Nat),I (i7,i27) h/\∀ (t7_2:Slc) (t27_2:Int) (h:Heap),I (t7_2,t27_2) h->query_rows_l2b t25_2 t26_2 t7_2 t27_2 k (fun s h'=>I s h'/\μ s h' < μ (t7_2,t27_2) h) h
def query_rows (p0:S_api_Query) (p1:Slc) (k:(Slc × Int)->Heap->Prop) (h:Heap):Prop :=
  ∃ (b1:Nat) (h2:Heap),b1=h.size/\h2=h.push (.cells (S_api_Query.cs p0).toArray 28)/\(∃ a3:Addr,p1.a=some a3/\(0:Int)<=0/\0 < (p1.len:Int)/\(∃ v4:ByteArray,cellH h2 (a3.add ((0:Int).toNat * 5))=some (.string v4)/\(∃ (b5:Nat) (h6:Heap),b5=h2.size/\h6=h2.push (.cells (S_api_Row.cs (⟨ByteArray.empty,0,(⟨0,0⟩:S_api_Wide)⟩:S_api_Row)).toArray 118)/\(∃ h7:Heap,WrsAt h6 (⟨b5,0,none⟩:Addr) 4/\h7=setsH h6 (⟨b5,0,none⟩:Addr) 0 (S_api_Row.cs (⟨v4,0,(⟨0,0⟩:S_api_Wide)⟩:S_api_Row))/\(∃ v11:Int,cellH h7 ((⟨b1,0,none⟩:Addr).add 3)=some (.int .i64 v11)/\(if (v11 == 0) then (query_rows_l2 p1 (p1.len:Int) (⟨none,0,0⟩:Slc) 0 k h7) else (if (v11 == 1) then (num_Wide (p1.len:Int) (fun (r28:S_api_Wide) h29=>∃ h30:Heap,WrsAt h29 ((⟨b5,0,none⟩:Addr).add 2) 2/\h30=setsH h29 ((⟨b5,0,none⟩:Addr).add 2) 0 (S_api_Wide.cs r28)/\(query_rows_j1 (⟨b5,0,none⟩:Addr) k h30)) h7) else (if (v11 == 2) then (query_sum p1 (fun (r31:S_api_Wide) h32=>∃ h33:Heap,WrsAt h32 ((⟨b5,0,none⟩:Addr).add 2) 2/\h33=setsH h32 ((⟨b5,0,none⟩:Addr).add 2) 0 (S_api_Wide.cs r31)/\(query_rows_j1 (⟨b5,0,none⟩:Addr) k h33)) h7) else (if (v11 == 3) then (slices_MinFunc_api_Piece_api_Piece__query_less p1 (fun (r34:S_api_Piece) h35=>num_Wide r34.f_V (fun (r36:S_api_Wide) h37=>∃ h38:Heap,WrsAt h37 ((⟨b5,0,none⟩:Addr).add 2) 2/\h38=setsH h37 ((⟨b5,0,none⟩:Addr).add 2) 0 (S_api_Wide.cs r36)/\(query_rows_j1 (⟨b5,0,none⟩:Addr) k h38)) h35) h7) else (if (v11 == 4) then (slices_MaxFunc_api_Piece_api_Piece__query_less p1 (fun (r39:S_api_Piece) h40=>num_Wide r39.f_V (fun (r41:S_api_Wide) h42=>∃ h43:Heap,WrsAt h42 ((⟨b5,0,none⟩:Addr).add 2) 2/\h43=setsH h42 ((⟨b5,0,none⟩:Addr).add 2) 0 (S_api_Wide.cs r41)/\(query_rows_j1 (⟨b5,0,none⟩:Addr) k h43)) h40) h7) else (if (v11 == 5) then (if (decide ((p1.len:Int) < 2)) then (k ((⟨none,0,0⟩:Slc),0) h7) else (query_rate p1 (fun (r44:Int × Int) h45=>if (r44.2 != 0) then (k ((⟨none,0,0⟩:Slc),r44.2) h45) else (num_Wide r44.1 (fun (r46:S_api_Wide) h47=>∃ h48:Heap,WrsAt h47 ((⟨b5,0,none⟩:Addr).add 2) 2/\h48=setsH h47 ((⟨b5,0,none⟩:Addr).add 2) 0 (S_api_Wide.cs r46)/\(query_rows_j1 (⟨b5,0,none⟩:Addr) k h48)) h45)) h7)) else (∃ v49:Int,cellH h7 ((⟨b1,0,none⟩:Addr).add 4)=some (.int .i64 v49)/\(query_each p1 v49 (fun (r50:Slc) h51=>k (r50,0) h51) h7)))))))))))))
/-- quaestor query.Run -/
def query_Run_l1b (t3_1:Addr) (t26_1:Slc) (t27_1:Int) (t10_1:Slc) (t28_1:Int) (k:(Slc × Int)->Heap->Prop) (nx1:(Slc × Int)->Heap->Prop) (h_1:Heap):Prop :=
  if (decide (t28_1 < t27_1)) then (∃ a8:Addr,t26_1.a=some a8/\(0:Int)<=t28_1/\t28_1 < (t26_1.len:Int)/\(∃ v9:Slc,cellH h_1 (a8.add (t28_1.toNat * 1))=some (Slc.v v9)/\(∃ v10:S_api_Query,CellsAt h_1 t3_1 (S_api_Query.cs v10)/\(query_rows v10 v9 (fun (r11:Slc × Int) h12=>if (r11.2 != 0) then (k ((⟨none,0,0⟩:Slc),r11.2) h12) else (∃ l15:List Value,SlcAt h12 r11.1 l15/\App 118 4 40 [.string ByteArray.empty,.int .i64 0,.int .i64 0,.int .u64 0] h12 t10_1 r11.1.len l15 (fun s13 h14=>nx1 (s13,(IntKind.i64.wrap (t28_1 + 1))) h14))) h_1)))) else (k (t10_1,0) h_1)
def query_Run_l1 (t3_1:Addr) (t26_1:Slc) (t27_1:Int) (i10:Slc) (i28:Int) (k:(Slc × Int)->Heap->Prop) (h:Heap):Prop :=
  ∃ (I:(Slc × Int)->Heap->Prop) (μ:(Slc × Int)->Heap->Nat),I (i10,i28) h/\∀ (t10_1:Slc) (t28_1:Int) (h:Heap),I (t10_1,t28_1) h->query_Run_l1b t3_1 t26_1 t27_1 t10_1 t28_1 k (fun s h'=>I s h'/\μ s h' < μ (t10_1,t28_1) h) h
def query_Run (p0:S_api_Query) (p1:Slc) (p2:Int) (k:(Slc × Int)->Heap->Prop) (h:Heap):Prop :=
  ∃ (b1:Nat) (h2:Heap),b1=h.size/\h2=h.push (.cells (S_api_Query.cs p0).toArray 28)/\(∃ v3:S_api_Query,CellsAt h2 (⟨b1,0,none⟩:Addr) (S_api_Query.cs v3)/\(query_Ask v3 p1 p2 (fun (r4:Slc × Int) h5=>if (r4.2 != 0) then (k ((⟨none,0,0⟩:Slc),r4.2) h5) else (query_groups r4.1 (fun (r6:Slc) h7=>query_Run_l1 (⟨b1,0,none⟩:Addr) r6 (r6.len:Int) (⟨none,0,0⟩:Slc) 0 k h7) h5)) h2))
theorem O47:CallOk prog 47:=ck func47
theorem R47 (p0 k h) (H:maps_Values_map_piece_place_api_Piece_piece_place_api_Piece p0 k h):CallsH prog 47 #[.map p0] h (fun v h'=>∃ r:Value,v=r/\k r h'):=by
 refine fE func47 fun w0=>?_
 refine zF [0] (zQ ?_)
 refine wX H fun b1 h2 H=>?_
 refine w1 tok (zE (zQ ?_))
 refine wY (y_mkf rfl rfl) ?_
 refine w1 tok (zE (zT ?_))
 exact x_ret _ rfl _ rfl ⟨(Value.func (.func 71) #[] #[pt b1]),rfl,H⟩
theorem O75:CallOk prog 75:=ck func75
theorem R75 (p0 p1 p2 k h) (H:piece_Between p0 p1 p2 k h):CallsH prog 75 #[Slc.v p0,.int .i64 p1,.int .i64 p2] h (fun v h'=>∃ r:Slc,v=Slc.v r/\k r h'):=by
 refine fE func75 fun w0=>?_
 refine zF [0,1,2] (zQ ?_)
 refine w1 tok (zE (zQ ?_))
 refine w1 tok (zE (zS (zQ ?_)))
 refine w3 tok (zE (zB ?_))
 obtain ⟨I1,μ1,H0,HI⟩:=H
 refine zO (σ:=Slc × Int) [1,2,10,11] (fun (s:Slc × Int)=>[(7,Slc.v s.1),(12,.int .i64 s.2)]) I1 μ1 ((⟨none,0,0⟩:Slc),0) H0 ?_
 rintro ⟨t7_1,t12_1⟩ h_1 H
 replace H:=HI t7_1 t12_1 h_1 H
 refine zF [7,12,1,2,10,11] (zQ ?_)
 refine w1 tok (zE (zS ?_))
 refine zI H ?_ ?_ <;> intro H
 refine zK (zX ?_)
 refine zJ (α:=Slc) [1,2,10,11,12] (fun (s:Slc)=>[(7,Slc.v s)]) (fun (s:Slc) h=>piece_Between_j2 p1 p2 p0 (p0.len:Int) t12_1 s k (fun s h'=>I1 s h'/\μ1 s h' < μ1 (t7_1,t12_1) h_1) h) ?_ ?_
 rintro t7_2 h_2 H
 refine zF [7,1,2,10,11,12] (zR ?_)
 refine w2 tok (zW ?_)
 exact xJ (t7_2,(IntKind.i64.wrap (t12_1 + 1))) H
 refine zB (zQ ?_)
 refine wD tok H fun a1 _ H=>?_
 refine wLa tok H fun v2 H=>?_
 refine wB tok H fun b3 h4 H=>?_
 refine wTa tok H fun h5 H=>?_
 refine zE (zQ (w1 tok ?_))
 refine wL tok H fun v6 H=>?_
 refine w3 tok ?_
 refine vJ 5 (α:=Bool) [1,2,7,9,10,11,12] (fun (s:Bool)=>[(25,.bool s)]) (fun (s:Bool) h=>piece_Between_g3 p1 p2 t7_1 (ad b3) p0 (p0.len:Int) t12_1 s k (fun s h'=>I1 s h'/\μ1 s h' < μ1 (t7_1,t12_1) h_1) h) ?_ ?_
 rintro t25_3 h_3 H
 refine vF [25,1,2,7,9,10,11,12] (zE ?_)
 refine zI H ?_ ?_ <;> intro H
 refine zR (w1 tok ?_)
 refine wLa tok H fun v7 H=>?_
 obtain ⟨b8,h9,eb8,eh9,H⟩:=H
 refine wH (h_bs tok rfl rfl rfl rfl rfl rfl rfl eb8 eh9) ?_
 refine wA (a_app (s:=t7_1) (r:=(⟨some ⟨b8,0,none⟩,1,1⟩:Slc)) tok rfl rfl rfl rfl rfl (slcAt_push eb8 eh9) H) ?_
 rintro _ h11 ⟨s10,rfl,H⟩
 refine w1 tok (zL ?_)
 exact xJ s10 H
 refine zK (yL ?_)
 exact xJ t7_1 H
 refine vI 20 H ?_ ?_ <;> intro H
 refine w1 tok ?_
 refine wL tok H fun v12 H=>?_
 refine w3 tok ?_
 exact wJ (decide (v12<=p2)) H
 refine wS (wS (wS (wS (w1 tok ?_))))
 exact wJ false H
 refine zY (yE (yE (yH (zX (zQ (w2 tok (zE (zF [6] (zT ?_)))))))))
 exact x_ret _ rfl _ rfl ⟨t7_1,rfl,H⟩
theorem O78:CallOk prog 78:=ck func78
theorem R78 (p0 k h) (H:num_Wide p0 k h):CallsH prog 78 #[.int .i64 p0] h (fun v h'=>∃ r:S_api_Wide,v = .agg (S_api_Wide.cs r).toArray/\k r h'):=by
 refine fE func78 fun w0=>?_
 refine zF [0] (zQ ?_)
 refine wB tok H fun b1 h2 H=>?_
 refine zE (zQ (w4 tok ?_))
 refine wY (y_build tok rfl rfl rfl rfl rfl) ?_
 refine wTa tok H fun h3 H=>?_
 refine zE (zT ?_)
 obtain ⟨v4,hv4,H⟩:=H
 exact x_retc tok _ rfl [.agg (S_api_Wide.cs v4).toArray] ⟨⟨_,_,rfl,rfl,.inr ⟨rfl,_,rfl,rfl,hv4⟩⟩,trivial⟩ ⟨v4,rfl,H⟩
theorem O106:CallOk prog 106:=ck func106
theorem R106 (p0 p1 k h) (H:num_Add p0 p1 k h):CallsH prog 106 #[.agg (S_api_Wide.cs p0).toArray,.agg (S_api_Wide.cs p1).toArray] h (fun v h'=>∃ r:S_api_Wide × Int,v = .tuple #[.agg (S_api_Wide.cs r.1).toArray,.int .i64 r.2]/\k r h'):=by
 refine fE func106 fun w0=>?_
 refine zF [0,1] (zQ ?_)
 refine wX H fun b1 h2 H=>?_
 refine wX H fun b3 h4 H=>?_
 refine wB tok H fun b5 h6 H=>?_
 refine w1 tok (zE (zQ ?_))
 refine w1 tok ?_
 refine wL tok H fun v7 H=>?_
 refine w1 tok ?_
 refine wL tok H fun v8 H=>?_
 obtain ⟨hc9,H⟩:=H
 refine wY (y_ext (add_run v7 v8 0 func134 (by kernel_rfl) (by kernel_rfl) (by kernel_rfl) (by kernel_rfl) hc9) rfl rfl) ?_
 refine w3 tok ?_
 obtain ⟨x10,ex10,H⟩:=H
 refine w_pe tok rfl (congrArg (fun z=>(.int .u64 z:Value)) ex10) rfl rfl ?_
 obtain ⟨x11,ex11,H⟩:=H
 refine w_pe tok rfl (congrArg (fun z=>(.int .u64 z:Value)) ex11) rfl rfl ?_
 refine zE (zF [2,3,4,6,7] (zQ ?_))
 refine w1 tok ?_
 refine wL tok H fun v12 H=>?_
 refine w2 tok ?_
 refine wL tok H fun v13 H=>?_
 refine w2 tok ?_
 obtain ⟨hc14,H⟩:=H
 refine wY (y_ext (add_run (IntKind.u64.wrap v12) (IntKind.u64.wrap v13) x11 func134 (by kernel_rfl) (by kernel_rfl) (by kernel_rfl) (by kernel_rfl) hc14) rfl rfl) ?_
 refine w3 tok ?_
 obtain ⟨x15,ex15,H⟩:=H
 refine w_pe tok rfl (congrArg (fun z=>(.int .u64 z:Value)) ex15) rfl rfl ?_
 obtain ⟨x16,ex16,H⟩:=H
 refine w_pe tok rfl (congrArg (fun z=>(.int .u64 z:Value)) ex16) rfl rfl ?_
 refine zE (zF [2,3,4,6,8] (zQ ?_))
 refine w3 tok ?_
 refine wY (y_build tok rfl rfl rfl rfl rfl) ?_
 refine wB tok H fun b17 h18 H=>?_
 refine wTa tok H fun h19 H=>?_
 refine zE (zS (zQ (w1 tok ?_)))
 refine wL tok H fun v20 H=>?_
 refine w2 tok ?_
 refine wL tok H fun v21 H=>?_
 refine w3 tok ?_
 refine vJ 8 (α:=Bool) [4,10] (fun (s:Bool)=>[(49,.bool s)]) (fun (s:Bool) h=>num_Add_g1 (ad b5) (ad b17) s k h) ?_ ?_
 rintro t49_1 h_1 H
 refine vF [49,4,10] (zE ?_)
 refine zI H ?_ ?_ <;> intro H
 refine zQ ?_
 refine wY (y_build tok rfl rfl rfl rfl rfl) ?_
 refine wTa tok H fun h22 H=>?_
 refine w1 tok (zE (zT (yT ?_)))
 obtain ⟨v23,hv23,H⟩:=H
 exact x_retc tok _ rfl [.agg (S_api_Wide.cs v23).toArray,.int .i64 19] ⟨⟨_,_,rfl,rfl,.inr ⟨rfl,_,rfl,rfl,hv23⟩⟩,rfl,trivial⟩ ⟨(v23,19),rfl,H⟩
 refine zK (zX (zQ ?_))
 refine wLa tok H fun v24 H=>?_
 refine wTa tok H fun h25 H=>?_
 refine w1 tok (zE (zT ?_))
 obtain ⟨v26,hv26,H⟩:=H
 exact x_retc tok _ rfl [.agg (S_api_Wide.cs v26).toArray,.int .i64 0] ⟨⟨_,_,rfl,rfl,.inr ⟨rfl,_,rfl,rfl,hv26⟩⟩,rfl,trivial⟩ ⟨(v26,0),rfl,H⟩
 refine vI 41 H ?_ ?_ <;> intro H
 refine w1 tok ?_
 refine wL tok H fun v27 H=>?_
 refine w2 tok ?_
 refine wL tok H fun v28 H=>?_
 refine w3 tok ?_
 exact wJ ((shr .i64 v27 (63:Int).toNat) != (shr .i64 v28 (63:Int).toNat)) H
 refine wS (wS (wS (wS (wS (wS (wS (w1 tok ?_)))))))
 exact wJ false H
theorem O108:CallOk prog 108:=ck func108
theorem R108 (p0 p1 k h) (H:num_Floor p0 p1 k h):CallsH prog 108 #[.int .i64 p0,.int .i64 p1] h (fun v h'=>∃ r:Int × Int,v = .tuple #[.int .i64 r.1,.int .i64 r.2]/\k r h'):=by
 refine fE func108 fun w0=>?_
 refine zF [0,1] (zQ ?_)
 refine w2 tok (zE (zS (zB (zQ ?_))))
 refine w3 tok (zE ?_)
 refine zI H ?_ ?_ <;> intro H
 refine zQ (w2 tok (zE (zT (yB (yT ?_)))))
 exact x_ret _ rfl _ rfl ⟨(0,1),rfl,H⟩
 refine zQ (w3 tok ?_)
 refine vU 3 [0,1] [(16,.bool ((p0 == (-9223372036854775808)) && (p1 == (-1))))] ?_ ?_
 refine w1 tok (zE ?_)
 refine zI H ?_ ?_ <;> intro H
 refine zQ (w2 tok (zE (zT (yB (yT ?_)))))
 exact x_ret _ rfl _ rfl ⟨(0,19),rfl,H⟩
 refine zK (yL (zX (zQ (w2 tok ?_))))
 obtain ⟨z1,H⟩:=H
 refine wY (y_quo rfl rfl rfl z1) ?_
 obtain ⟨x2,ex2,H⟩:=H
 refine w_pe tok rfl (congrArg (fun z=>(.int .i64 z:Value)) ex2) rfl rfl ?_
 refine zE ?_
 refine zJ (α:=Int) [] (fun (s:Int)=>[(6,.int .i64 s)]) (fun (s:Int) h=>num_Floor_j1 s k h) ?_ ?_
 rintro t6_1 h_1 H
 refine zF [6] (zQ ?_)
 refine w3 tok (zE (zT ?_))
 exact x_ret _ rfl _ rfl ⟨(t6_1,0),rfl,H⟩
 refine zQ (w2 tok ?_)
 obtain ⟨z3,H⟩:=H
 refine wY (y_rem rfl rfl rfl z3) ?_
 refine w2 tok ?_
 refine vU 6 [6] [(30,.bool (((Int.tmod p0 p1) != 0) && ((shr .i64 p0 (63:Int).toNat) != (shr .i64 p1 (63:Int).toNat))))] ?_ ?_
 refine zE ?_
 refine zI H ?_ ?_ <;> intro H
 refine zR (w2 tok ?_)
 obtain ⟨x4,ex4,H⟩:=H
 refine w_pe tok rfl (congrArg (fun z=>(.int .i64 z:Value)) ex4) rfl rfl ?_
 refine zW ?_
 exact xJ x4 H
 refine zK ?_
 exact xJ x2 H
 refine vG (d:=24) (fun hb=>?_) (fun hb=>?_)
 refine w6 tok ?_
 refine vK ?_
 exact congrArg (fun b=>some (Value.bool b)) (and_t hb)
 refine wS (wS (wS (wS (wS (w1 tok ?_)))))
 refine vK ?_
 exact congrArg (fun b=>some (Value.bool b)) (and_f hb)
 refine vG (d:=13) (fun hb=>?_) (fun hb=>?_)
 refine w3 tok ?_
 refine vK ?_
 exact congrArg (fun b=>some (Value.bool b)) (and_t hb)
 refine wS (wS (w1 tok ?_))
 refine vK ?_
 exact congrArg (fun b=>some (Value.bool b)) (and_f hb)
theorem O73:CallOk prog 73:=ck func73
theorem R73 (p0 k h) (H:query_Check p0 k h):CallsH prog 73 #[.agg (S_api_Query.cs p0).toArray] h (fun v h'=>∃ r:Int,v = .int .i64 r/\k r h'):=by
 refine fE func73 fun w0=>?_
 refine zF [0] (zQ ?_)
 refine wX H fun b1 h2 H=>?_
 refine w1 tok (zE (zS (zQ ?_)))
 refine w1 tok ?_
 refine wL tok H fun v3 H=>?_
 refine wC O74 (R74 _ _ _ H) fun r4 h5 H=>?_
 refine w3 tok ?_
 refine wB tok H fun b6 h7 H=>?_
 refine wTa tok H fun h8 H=>?_
 refine w1 tok (zE (zF [1,4] (zQ ?_)))
 refine w2 tok (zE ?_)
 refine zI H ?_ ?_ <;> intro H
 refine zQ (w2 tok (zE (zT (yT ?_))))
 exact x_ret _ rfl _ rfl ⟨r4.2,rfl,H⟩
 refine zK (zX (zS (zQ (w1 tok ?_))))
 refine wL tok H fun v9 H=>?_
 refine w2 tok ?_
 refine vJ 4 (α:=Bool) [1] (fun (s:Bool)=>[(21,.bool s)]) (fun (s:Bool) h=>query_Check_g1 (ad b1) s k h) ?_ ?_
 rintro t21_1 h_1 H
 refine vF [21,1] ?_
 refine w1 tok ?_
 refine vJ 9 (α:=Bool) [] (fun (s:Bool)=>[(31,.bool s)]) (fun (s:Bool) h=>query_Check_g2 s k h) ?_ ?_
 rintro t31_2 h_2 H
 refine vF [31] (zE ?_)
 refine zI H ?_ ?_ <;> intro H
 refine zQ (w1 tok (zE (zT (yT ?_))))
 exact x_ret _ rfl _ rfl ⟨1,rfl,H⟩
 refine zK (zX (zQ (w1 tok (zE (zT ?_)))))
 exact x_ret _ rfl _ rfl ⟨0,rfl,H⟩
 refine vI 22 H ?_ ?_ <;> intro H
 refine wS (wS (wS (wS (wS (wS (wS (wS (w1 tok ?_))))))))
 exact wJ true H
 refine w1 tok ?_
 refine wL tok H fun v10 H=>?_
 refine w2 tok ?_
 refine vJ 4 (α:=Bool) [22] (fun (s:Bool)=>[(30,.bool s)]) (fun (s:Bool) h=>query_Check_g3 false s k h) ?_ ?_
 rintro t30_3 h_3 H
 refine vF [30,22] ?_
 refine w1 tok ?_
 exact wJ t30_3 H
 refine vI 26 H ?_ ?_ <;> intro H
 refine w1 tok ?_
 refine wL tok H fun v11 H=>?_
 refine w2 tok ?_
 exact wJ (decide (v11 < 1)) H
 refine wS (wS (wS (w1 tok ?_)))
 exact wJ false H
 refine vI 17 H ?_ ?_ <;> intro H
 refine wS (wS (wS (w1 tok ?_)))
 exact wJ true H
 refine w1 tok ?_
 refine wL tok H fun v12 H=>?_
 refine w2 tok ?_
 exact wJ (decide (v12 > 6)) H
theorem O46_1_48:CallOk prog 46:=ck func46
theorem R46_1_48 (p0 k h) (H:slices_SortedFunc_api_Piece__piece_compare p0 k h):CallsH prog 46 #[p0,(Value.func (.func 48) #[] #[])] h (fun v h'=>∃ r:Slc,v=Slc.v r/\k r h'):=by
 refine fE func46 fun w0=>?_
 refine zF [0,1] (zQ ?_)
 refine w1 tok (zE (zQ ?_))
 refine w1 tok ?_
 refine wC slices_Collect_api_Piece_ok (slices_Collect_api_Piece_ref _ _ _ H) fun r1 h2 H=>?_
 refine w1 tok (zE (zQ ?_))
 refine w2 tok ?_
 refine wC slices_SortFunc_api_Piece_api_Piece__piece_compare_ok (slices_SortFunc_api_Piece_api_Piece__piece_compare_ref _ _ _ H) fun r3 h4 H=>?_
 refine zE (zF [5] (zQ ?_))
 refine w2 tok (zE (zT ?_))
 exact x_ret _ rfl _ rfl ⟨r1,rfl,H⟩
theorem O29:CallOk prog 29:=ck func29
theorem R29 (p0 k h) (H:piece_Merge p0 k h):CallsH prog 29 #[Slc.v p0] h (fun v h'=>∃ r:Slc,v=Slc.v r/\k r h'):=by
 refine fE func29 fun w0=>?_
 refine zF [0] (zQ ?_)
 refine w1 tok (zE (zQ ?_))
 obtain ⟨b1,h2,eb1,eh2,H⟩:=H
 refine wH (h_mkm rfl eb1 eh2) ?_
 refine w1 tok (zE (zS (zQ ?_)))
 refine w3 tok (zE (zB ?_))
 obtain ⟨I1,μ1,H0,HI⟩:=H
 refine zO (σ:=Int) [3,12,13] (fun (s:Int)=>[(14,.int .i64 s)]) I1 μ1 0 H0 ?_
 rintro t14_1 h_1 H
 replace H:=HI t14_1 h_1 H
 refine zF [14,3,12,13] (zQ ?_)
 refine w1 tok (zE (zS ?_))
 refine zI H ?_ ?_ <;> intro H
 refine zK (zX (zS (zB (zQ ?_))))
 refine wD tok H fun a3 _ H=>?_
 refine wL tok H fun v4 H=>?_
 refine w1 tok (zE (zC (zS (zA (zX (zQ ?_))))))
 refine w3 tok (zE (zB ?_))
 obtain ⟨I2,μ2,H0,HI⟩:=H
 refine zO (σ:=Int) [3,12,13,14,18,19] (fun (s:Int)=>[(20,.int .i64 s)]) I2 μ2 0 H0 ?_
 rintro t20_2 h_2 H
 replace H:=HI t20_2 h_2 H
 refine zF [20,3,12,13,14,18,19] (zQ ?_)
 refine w1 tok (zE (zS ?_))
 refine zI H ?_ ?_ <;> intro H
 refine zK (zX ?_)
 refine zJ (α:=Unit) [3,12,13,14,18,19,20] (fun (s:Unit)=>[]) (fun (s:Unit) h=>piece_Merge_j3 (some b1) p0 (p0.len:Int) t14_1 v4 (v4.len:Int) t20_2 k (fun s h'=>I1 s h'/\μ1 s h' < μ1 t14_1 h_1) (fun s h'=>I2 s h'/\μ2 s h' < μ2 t20_2 h_2) h) ?_ ?_
 rintro _ h_3 H
 refine zF [3,12,13,14,18,19,20] (zR ?_)
 refine w2 tok (zW ?_)
 exact xJ (IntKind.i64.wrap (t20_2 + 1)) H
 refine zB (zQ ?_)
 refine wD tok H fun a5 _ H=>?_
 refine wLa tok H fun v6 H=>?_
 refine wB tok H fun b7 h8 H=>?_
 refine wTa tok H fun h9 H=>?_
 refine zE (zS (zQ ?_))
 refine wLa tok H fun v10 H=>?_
 refine wC piece_Check_ok (piece_Check_ref _ _ _ H) fun r11 h12 H=>?_
 refine w1 tok (zE ?_)
 refine zI H ?_ ?_ <;> intro H
 refine zY (yE (yH ?_))
 exact xJ () H
 refine zK (zX (zQ (w1 tok ?_)))
 refine wL tok H fun v13 H=>?_
 refine w1 tok ?_
 refine wL tok H fun v14 H=>?_
 refine wY (y_build tok rfl rfl rfl rfl rfl) ?_
 refine wB tok H fun b15 h16 H=>?_
 refine wTa tok H fun h17 H=>?_
 refine zE (zF [20,3,12,13,14,18,19,7,8] (zS (zQ ?_)))
 refine w1 tok ?_
 refine wLa tok H fun v18 H=>?_
 obtain ⟨l19,hl19,H⟩:=H
 refine wY (y_lk2a (K:=S_piece_place) (V:=S_api_Piece) (kf:=(fun v:S_piece_place=>Value.agg (S_piece_place.cs v).toArray)) (vf:=(fun v:S_api_Piece=>Value.agg (S_api_Piece.cs v).toArray)) (kt:=95) (et:=89) (k:=v18) (z:=(⟨ByteArray.empty,0,0,(⟨0,0⟩:S_api_Id)⟩:S_api_Piece)) (m:=(some b1)) (l:=l19) rfl rfl rfl (by kernel_rfl) keyS_S_piece_place (zero_a tok (T:=tab) rfl rfl rfl) hl19) ?_
 refine w3 tok ?_
 refine wB tok H fun b20 h21 H=>?_
 refine wTa tok H fun h22 H=>?_
 refine w1 tok (zE ?_)
 refine zJ (α:=Bool) [3,7,8,12,13,14,18,19,20] (fun (s:Bool)=>[(53,.bool s)]) (fun (s:Bool) h=>piece_Merge_j4 (some b1) (ad b7) (ad b15) p0 (p0.len:Int) t14_1 v4 (v4.len:Int) t20_2 s k (fun s h'=>I1 s h'/\μ1 s h' < μ1 t14_1 h_1) (fun s h'=>I2 s h'/\μ2 s h' < μ2 t20_2 h_2) h) ?_ ?_
 rintro t53_4 h_4 H
 refine zF [53,3,7,8,12,13,14,18,19,20] ?_
 refine zI H ?_ ?_ <;> intro H
 refine zY (yE (yH ?_))
 exact xJ () H
 refine zK (zX (zR (w1 tok ?_)))
 refine wLa tok H fun v23 H=>?_
 refine wLa tok H fun v24 H=>?_
 obtain ⟨r25,l26,h27,er25,hl26,eh27,H⟩:=H
 refine wH (h_mus (K:=S_piece_place) (V:=S_api_Piece) (kf:=(fun v:S_piece_place=>Value.agg (S_piece_place.cs v).toArray)) (vf:=(fun v:S_api_Piece=>Value.agg (S_api_Piece.cs v).toArray)) (kt:=95) (et:=89) (k:=v23) (v:=v24) (m:=(some b1)) (l:=l26) rfl rfl rfl rfl (by kernel_rfl) keyS_S_piece_place er25 hl26 eh27) ?_
 refine zL ?_
 exact xJ () H
 refine gB [3,7,8,9,10,12,13,14,18,19,20] ?_
 refine gT 0 [10] tok ?_
 refine gT 1 [38] tok ?_
 refine gI 39 H (fun hb H=>?_) (fun hb H=>?_)
 refine gT 2 [9,39] tok ?_
 obtain ⟨v28,hv28,H⟩:=H
 refine gL 3 [39,40] rfl (y_lda tok rfl rfl rfl rfl rfl hv28) ?_
 refine gT 4 [7,39] tok ?_
 obtain ⟨v29,hv29,H⟩:=H
 refine gL 5 [39,42] rfl (y_lda tok rfl rfl rfl rfl rfl hv29) ?_
 refine gT 7 [9,39] tok ?_
 obtain ⟨v30,hv30,H⟩:=H
 refine gL 8 [39,45] rfl (y_ld tok rfl rfl rfl rfl hv30) ?_
 refine gT 9 [7,39] tok ?_
 obtain ⟨v31,hv31,H⟩:=H
 refine gL 10 [39,47] rfl (y_ld tok rfl rfl rfl rfl hv31) ?_
 refine gCr 6 [39,41,43] piece_ids_ok (piece_ids_ref _ _ _ _ H) fun r32 h33 H=>?_
 obtain ⟨hy34,hy35,H⟩:=H
 refine gR rfl (y_ld tok rfl rfl rfl rfl hy34) ?_
 refine gR rfl (y_ld tok rfl rfl rfl rfl hy35) ?_
 refine gZ0 ?_
 refine gC 11 [39,46,48] cmp_Compare_int64_ok (cmp_Compare_int64_ref _ _ _ _ H) fun r36 h37 H=>?_
 obtain ⟨b38,h39,eb38,eh39,H⟩:=H
 refine gH 12 [39,44,49] rfl (h_bs tok rfl rfl rfl rfl rfl rfl rfl eb38 eh39) ?_
 refine gC 13 [39,50] cmp_Or_int_ok (cmp_Or_int_ref _ _ _ H) fun r40 h41 H=>?_
 refine gT 14 [39,51] tok ?_
 refine gT 15 [39,52] tok ?_
 refine gZ ?_
 exact xJ (decide (r40>=0)) H
 refine gS 2 [9,39] ?_
 refine gS 3 [39,40] ?_
 refine gS 4 [7,39] ?_
 refine gS 5 [39,42] ?_
 refine gS 6 [39,41,43] ?_
 refine gS 7 [9,39] ?_
 refine gS 8 [39,45] ?_
 refine gS 9 [7,39] ?_
 refine gS 10 [39,47] ?_
 refine gS 11 [39,46,48] ?_
 refine gS 12 [39,44,49] ?_
 refine gS 13 [39,50] ?_
 refine gS 14 [39,51] ?_
 refine gT 15 [39,52] tok ?_
 refine gZ ?_
 exact xJ false H
 refine zY (yE (yE (yH (yN (yL (zX (zR (w2 tok (zW ?_)))))))))
 exact xJ (IntKind.i64.wrap (t14_1 + 1)) H
 refine zY (yE (yE (yH (zX (zQ (w1 tok ?_))))))
 refine wC O47 (R47 _ _ _ H) fun r42 h43 H=>?_
 refine wC O46_1_48 (R46_1_48 _ _ _ H) fun r44 h45 H=>?_
 refine w1 tok (zE (zF [2] (zT ?_)))
 exact x_ret _ rfl _ rfl ⟨r44,rfl,H⟩
theorem O49:CallOk prog 49:=ck func49
theorem R49 (p0 p1 p2 k h) (H:query_Ask p0 p1 p2 k h):CallsH prog 49 #[.agg (S_api_Query.cs p0).toArray,Slc.v p1,.int .i64 p2] h (fun v h'=>∃ r:Slc × Int,v = .tuple #[Slc.v r.1,.int .i64 r.2]/\k r h'):=by
 refine fE func49 fun w0=>?_
 refine zF [0,1,2] (zQ ?_)
 refine wX H fun b1 h2 H=>?_
 refine w2 tok (zE (zS (zQ ?_)))
 refine wLa tok H fun v3 H=>?_
 refine wC O73 (R73 _ _ _ H) fun r4 h5 H=>?_
 refine w1 tok (zE (zQ ?_))
 refine w2 tok (zE ?_)
 refine zI H ?_ ?_ <;> intro H
 refine zQ (w3 tok (zE (zF [6,7] (zT (yT ?_)))))
 exact x_ret _ rfl _ rfl ⟨((⟨none,0,0⟩:Slc),r4),rfl,H⟩
 refine zK (zX (zF [1,2,3] (zQ ?_)))
 refine w1 tok ?_
 refine wL tok H fun v6 H=>?_
 refine wC O74 (R74 _ _ _ H) fun r7 h8 H=>?_
 refine w3 tok ?_
 refine wB tok H fun b9 h10 H=>?_
 refine wTa tok H fun h11 H=>?_
 refine w1 tok (zE (zF [1,2,3,9] (zQ ?_)))
 obtain ⟨b12,h13,eb12,eh13,H⟩:=H
 refine wH (h_mkm rfl eb12 eh13) ?_
 refine w1 tok (zE (zQ ?_))
 refine w1 tok (zE (zS (zS ?_)))
 refine gB [1,2,3,9,11,12] ?_
 refine gT 0 [1] tok ?_
 refine gT 3 [3] tok ?_
 obtain ⟨v14,hv14,H⟩:=H
 refine gL 4 [34] rfl (y_ld tok rfl rfl rfl rfl hv14) ?_
 refine gT 5 [2] tok ?_
 refine gT 6 [35,36] tok ?_
 refine gT 7 [3] tok ?_
 obtain ⟨v15,hv15,H⟩:=H
 refine gL 8 [38] rfl (y_ld tok rfl rfl rfl rfl hv15) ?_
 refine gT 11 [] tok ?_
 obtain ⟨b16,h17,eb16,eh17,H⟩:=H
 refine gHr 1 [31] rfl (h_bs tok rfl rfl rfl rfl rfl rfl rfl eb16 eh17) ?_
 obtain ⟨hy18,hy19,H⟩:=H
 refine gR rfl (y_ld tok rfl rfl rfl rfl hy18) ?_
 refine gR rfl (y_ld tok rfl rfl rfl rfl hy19) ?_
 refine gZ0 ?_
 refine gCr 2 [32] O29 (R29 _ _ _ H) fun r20 h21 H=>?_
 obtain ⟨hy22,hy23,H⟩:=H
 refine gR rfl (y_ld tok rfl rfl rfl rfl hy22) ?_
 refine gR rfl (y_ld tok rfl rfl rfl rfl hy23) ?_
 refine gZ0 ?_
 refine gC 9 [33,37,39] O75 (R75 _ _ _ _ _ H) fun r24 h25 H=>?_
 refine gT 10 [40] tok ?_
 refine gZ ?_
 refine zX (zF [9,11,12,42,40,41] (zB ?_))
 obtain ⟨I1,μ1,H0,HI⟩:=H
 refine zO (σ:=Slc × Int) [9,11,40,41] (fun (s:Slc × Int)=>[(12,Slc.v s.1),(42,.int .i64 s.2)]) I1 μ1 ((⟨none,0,0⟩:Slc),0) H0 ?_
 rintro ⟨t12_1,t42_1⟩ h_1 H
 replace H:=HI t12_1 t42_1 h_1 H
 refine zF [12,42,9,11,40,41] (zQ ?_)
 refine w1 tok (zE (zS ?_))
 refine zI H ?_ ?_ <;> intro H
 refine zK (zX ?_)
 refine zJ (α:=Slc) [9,11,40,41,42] (fun (s:Slc)=>[(12,Slc.v s)]) (fun (s:Slc) h=>query_Ask_j2 (ad b9) (some b12) r24 (r24.len:Int) t42_1 s k (fun s h'=>I1 s h'/\μ1 s h' < μ1 (t12_1,t42_1) h_1) h) ?_ ?_
 rintro t12_2 h_2 H
 refine zF [12,9,11,40,41,42] (zR ?_)
 refine w2 tok (zW ?_)
 exact xJ (t12_2,(IntKind.i64.wrap (t42_1 + 1))) H
 refine zB (zQ ?_)
 refine wD tok H fun a26 _ H=>?_
 refine wLa tok H fun v27 H=>?_
 refine wB tok H fun b28 h29 H=>?_
 refine wTa tok H fun h30 H=>?_
 refine zE (zQ (w2 tok ?_))
 refine wL tok H fun v31 H=>?_
 obtain ⟨l32,hl32,H⟩:=H
 refine wY (y_lk2 (K:=ByteArray) (V:=Bool) (d:=.string) (kf:=Value.string) (vf:=Value.bool) (kt:=9) (et:=4) (k:=v31) (z:=false) (m:=(some b12)) (l:=l32) rfl rfl rfl (by kernel_rfl) (by kernel_rfl) kStr (zero_1 tok (T:=tab) rfl rfl rfl) hl32) ?_
 refine w5 tok (zE (zF [12,42,9,11,40,41,14,15,16] ?_))
 refine zJ (α:=Bool) [9,11,12,14,40,41,42] (fun (s:Bool)=>[(15,.bool s)]) (fun (s:Bool) h=>query_Ask_j3 (ad b9) (some b12) t12_1 (ad b28) r24 (r24.len:Int) t42_1 s k (fun s h'=>I1 s h'/\μ1 s h' < μ1 (t12_1,t42_1) h_1) h) ?_ ?_
 rintro t15_3 h_3 H
 refine zF [15,9,11,12,14,40,41,42] (zQ ?_)
 refine w1 tok (zE ?_)
 refine zI H ?_ ?_ <;> intro H
 refine zR (w1 tok ?_)
 refine wLa tok H fun v33 H=>?_
 obtain ⟨b34,h35,eb34,eh35,H⟩:=H
 refine wH (h_bs tok rfl rfl rfl rfl rfl rfl rfl eb34 eh35) ?_
 refine wA (a_app (s:=t12_1) (r:=(⟨some ⟨b34,0,none⟩,1,1⟩:Slc)) tok rfl rfl rfl rfl rfl (slcAt_push eb34 eh35) H) ?_
 rintro _ h37 ⟨s36,rfl,H⟩
 refine w1 tok (zL ?_)
 exact xJ s36 H
 refine zK (yL ?_)
 exact xJ t12_1 H
 refine zQ (w2 tok (zE ?_))
 refine zI H ?_ ?_ <;> intro H
 refine zQ (w1 tok ?_)
 refine wL tok H fun v38 H=>?_
 refine wC O76 (R76 _ _ _ H) fun r39 h40 H=>?_
 refine w3 tok ?_
 refine wB tok H fun b41 h42 H=>?_
 refine wTa tok H fun h43 H=>?_
 refine w1 tok (zE (zF [12,42,9,11,40,41,14,17,18] (zQ ?_)))
 refine w3 tok ?_
 refine vJ 4 (α:=Bool) [9,11,12,14,40,41,42] (fun (s:Bool)=>[(67,.bool s)]) (fun (s:Bool) h=>query_Ask_g4 (ad b9) (some b12) t12_1 (ad b28) r24 (r24.len:Int) t42_1 s k (fun s h'=>I1 s h'/\μ1 s h' < μ1 (t12_1,t42_1) h_1) h) ?_ ?_
 rintro t67_4 h_4 H
 refine vF [67,9,11,12,14,40,41,42] ?_
 refine w1 tok (zE (zR ?_))
 refine w2 tok ?_
 refine wL tok H fun v44 H=>?_
 refine w1 tok ?_
 obtain ⟨r45,l46,h47,er45,hl46,eh47,H⟩:=H
 refine wH (h_mu (K:=ByteArray) (V:=Bool) (d:=.string) (kf:=Value.string) (vf:=Value.bool) (kt:=9) (et:=4) (k:=v44) (v:=t67_4) (m:=(some b12)) (l:=l46) rfl rfl rfl rfl (by kernel_rfl) (by kernel_rfl) kStr er45 hl46 eh47) ?_
 refine zW ?_
 exact xJ t67_4 H
 refine vI 63 H ?_ ?_ <;> intro H
 refine wLa tok H fun v48 H=>?_
 refine wLa tok H fun v49 H=>?_
 refine wC O77 (R77 _ _ _ _ H) fun r50 h51 H=>?_
 refine w1 tok ?_
 exact wJ r50 H
 refine wS (wS (wS (w1 tok ?_)))
 exact wJ false H
 refine zK ?_
 exact xJ ((mget l32 v31).getD false) H
 refine zY (yE (yE (yH (zX (zQ (w3 tok (zE (zF [6,7] (zT ?_)))))))))
 exact x_ret _ rfl _ rfl ⟨(t12_1,0),rfl,H⟩
theorem O50:CallOk prog 50:=ck func50
theorem R50 (p0 k h) (H:query_groups p0 k h):CallsH prog 50 #[Slc.v p0] h (fun v h'=>∃ r:Slc,v=Slc.v r/\k r h'):=by
 refine fE func50 fun w0=>?_
 refine zF [0] (zQ ?_)
 refine w1 tok (zE (zC (zQ ?_)))
 refine w1 tok (zE (zS (zA (zX (zS (zB ?_))))))
 obtain ⟨I1,μ1,H0,HI⟩:=H
 refine zO (σ:=Slc × Slc) [] (fun (s:Slc × Slc)=>[(0,Slc.v s.1),(3,Slc.v s.2)]) I1 μ1 (p0,(⟨none,0,0⟩:Slc)) H0 ?_
 rintro ⟨t0_1,t3_1⟩ h_1 H
 replace H:=HI t0_1 t3_1 h_1 H
 refine zF [0,3] (zS (zQ ?_))
 refine w3 tok (zE ?_)
 refine zI H ?_ ?_ <;> intro H
 refine zK (zX (zB (zS (zQ (w3 tok (zE (zB ?_)))))))
 obtain ⟨I2,μ2,H0,HI⟩:=H
 refine zO (σ:=Slc × Slc × Int) [9,10] (fun (s:Slc × Slc × Int)=>[(0,Slc.v s.1),(3,Slc.v s.2.1),(11,.int .i64 s.2.2)]) I2 μ2 (t0_1,t3_1,0) H0 ?_
 rintro ⟨t0_2,t3_2,t11_2⟩ h_2 H
 replace H:=HI t0_2 t3_2 t11_2 h_2 H
 refine zF [0,3,11,9,10] (zQ ?_)
 refine w1 tok (zE (zS ?_))
 refine zI H ?_ ?_ <;> intro H
 refine zK (zX (zS (zB (zQ (w1 tok ?_)))))
 refine wD tok H fun a1 _ H=>?_
 refine wLa tok H fun v2 H=>?_
 refine wB tok H fun b3 h4 H=>?_
 refine w1 tok ?_
 refine wTa tok H fun h5 H=>?_
 refine zE (zS ?_)
 refine c_draw (by kernel_rfl) (by kernel_rfl) ?_
 refine q_p tok rfl rfl rfl ?_
 obtain ⟨v6,hv6,H⟩:=H
 refine q_y (y_ld tok rfl rfl rfl rfl hv6) rfl rfl ?_
 refine q_p tok rfl rfl rfl ?_
 obtain ⟨a7,ha7,la7,ua7,H⟩:=H
 refine q_y (y_ixa' tok rfl rfl ha7 rfl rfl rfl la7 ua7) rfl rfl ?_
 refine q_p tok rfl rfl rfl ?_
 obtain ⟨v8,hv8,H⟩:=H
 refine q_y (y_ld tok rfl rfl rfl rfl hv8) rfl rfl ?_
 refine q_p tok rfl rfl rfl ?_
 refine q_end ?_
 refine zX (zF [0,3,11,9,10,4,22] ?_)
 refine zI H ?_ ?_ <;> intro H
 refine zQ (w3 tok ?_)
 obtain ⟨s9,ps9,qs9,rs9,ts9,es9,H⟩:=H
 refine wYe (y_sl (s:=t0_2) (L:=0) (H:=t11_2) (M:=(t0_2.cap:Int)) tok rfl rfl rfl rfl rfl rfl rfl (by simp) ps9 qs9 rs9 ts9) (congrArg Slc.v es9) ?_
 obtain ⟨b10,h11,eb10,eh11,H⟩:=H
 refine wH (h_bs tok rfl rfl rfl rfl rfl rfl rfl eb10 eh11) ?_
 refine wA (a_app (s:=t3_2) (r:=(⟨some ⟨b10,0,none⟩,1,1⟩:Slc)) tok rfl rfl rfl rfl rfl (slcAt_push eb10 eh11) H) ?_
 rintro _ h13 ⟨s12,rfl,H⟩
 refine w1 tok (zE (zF [0,3,4] (zQ ?_)))
 refine w2 tok ?_
 obtain ⟨s14,ps14,qs14,rs14,ts14,es14,H⟩:=H
 refine wYe (y_sl (s:=t0_2) (L:=t11_2) (H:=(t0_2.len:Int)) (M:=(t0_2.cap:Int)) tok rfl rfl rfl rfl rfl rfl rfl (by simp) ps14 qs14 rs14 ts14) (congrArg Slc.v es14) ?_
 refine w1 tok (zE (zY (zM (yE (yE (zM (yE (yH ?_))))))))
 exact xJ (s14,s12) H
 refine zK (yL (zX (zR (w2 tok (zW ?_)))))
 exact xJ (t0_2,t3_2,(IntKind.i64.wrap (t11_2 + 1))) H
 refine zY (yE (yE (yH (zX (zQ (w2 tok ?_))))))
 obtain ⟨b15,h16,eb15,eh16,H⟩:=H
 refine wH (h_bs tok rfl rfl rfl rfl rfl rfl rfl eb15 eh16) ?_
 refine wA (a_app (s:=t3_2) (r:=(⟨some ⟨b15,0,none⟩,1,1⟩:Slc)) tok rfl rfl rfl rfl rfl (slcAt_push eb15 eh16) H) ?_
 rintro _ h18 ⟨s17,rfl,H⟩
 refine w1 tok (zE (zF [2] (zT (yB (yT (yB (yT (yR ?_))))))))
 exact x_ret _ rfl _ rfl ⟨s17,rfl,H⟩
 refine zY (yE (yE (yH (zX (zQ (w2 tok (zE (zT (yR ?_)))))))))
 exact x_ret _ rfl _ rfl ⟨t3_1,rfl,H⟩
theorem O79:CallOk prog 79:=ck func79
theorem R79 (p0 k h) (H:query_sum p0 k h):CallsH prog 79 #[Slc.v p0] h (fun v h'=>∃ r:S_api_Wide,v = .agg (S_api_Wide.cs r).toArray/\k r h'):=by
 refine fE func79 fun w0=>?_
 refine zF [0] (zQ ?_)
 refine wB tok H fun b1 h2 H=>?_
 refine zE (zQ ?_)
 refine wB tok H fun b3 h4 H=>?_
 refine zE (zS (zQ (w3 tok (zE (zB ?_)))))
 obtain ⟨I1,μ1,H0,HI⟩:=H
 refine zO (σ:=Int) [2,3,6,7] (fun (s:Int)=>[(8,.int .i64 s)]) I1 μ1 0 H0 ?_
 rintro t8_1 h_1 H
 replace H:=HI t8_1 h_1 H
 refine zF [8,2,3,6,7] (zQ ?_)
 refine w1 tok (zE (zS ?_))
 refine zI H ?_ ?_ <;> intro H
 refine zK (zX (zS (zB (zQ ?_))))
 refine wD tok H fun a5 _ H=>?_
 refine wLa tok H fun v6 H=>?_
 refine wB tok H fun b7 h8 H=>?_
 refine wTa tok H fun h9 H=>?_
 refine zE ?_
 refine gB [2,3,5,6,7,8] ?_
 obtain ⟨v10,hv10,H⟩:=H
 refine gL 0 [3] rfl (y_lda tok rfl rfl rfl rfl rfl hv10) ?_
 refine gT 1 [5] tok ?_
 obtain ⟨v11,hv11,H⟩:=H
 refine gL 2 [14] rfl (y_ld tok rfl rfl rfl rfl hv11) ?_
 refine gCr 3 [15] O78 (R78 _ _ _ H) fun r12 h13 H=>?_
 obtain ⟨hy14,H⟩:=H
 refine gR rfl (y_lda tok rfl rfl rfl rfl rfl hy14) ?_
 refine gZ0 ?_
 refine gC 4 [13,16] O106 (R106 _ _ _ _ H) fun r15 h16 H=>?_
 refine gT 5 [17] tok ?_
 refine gT 6 [12] tok ?_
 refine gT 7 [12] tok ?_
 obtain ⟨h17,wh17,eh17,H⟩:=H
 refine gH 8 [3,18] rfl (h_sts tok rfl rfl rfl rfl rfl (oneC (by kernel_rfl)) wh17 eh17) ?_
 refine gZ ?_
 refine yL (zX (zF [2,3,6,7,8] (zR ?_)))
 refine w2 tok (zW ?_)
 exact xJ (IntKind.i64.wrap (t8_1 + 1)) H
 refine zY (yE (yE (yH (zX (zQ ?_)))))
 refine wLa tok H fun v18 H=>?_
 refine wTa tok H fun h19 H=>?_
 refine zE (zT ?_)
 obtain ⟨v20,hv20,H⟩:=H
 exact x_retc tok _ rfl [.agg (S_api_Wide.cs v20).toArray] ⟨⟨_,_,rfl,rfl,.inr ⟨rfl,_,rfl,rfl,hv20⟩⟩,trivial⟩ ⟨v20,rfl,H⟩
theorem O107:CallOk prog 107:=ck func107
theorem R107 (p0 p1 k h) (H:query_minus p0 p1 k h):CallsH prog 107 #[.int .i64 p0,.int .i64 p1] h (fun v h'=>∃ r:Int × Bool,v = .tuple #[.int .i64 r.1,.bool r.2]/\k r h'):=by
 refine fE func107 fun w0=>?_
 refine zF [0,1] (zQ ?_)
 refine w2 tok (zE (zQ ?_))
 refine w3 tok ?_
 obtain ⟨x1,ex1,H⟩:=H
 refine w_pe tok rfl (congrArg (fun z=>(.int .i64 z:Value)) ex1) rfl rfl ?_
 refine zE (zQ (w6 tok ?_))
 refine w3 tok (zE (zF [4,5] (zT ?_)))
 exact x_ret _ rfl _ rfl ⟨(x1,(((decide (x1 < p0)) == (decide (p1 > 0))))),rfl,H⟩
theorem O83:CallOk prog 83:=ck func83
theorem R83 (p0 k h) (H:query_rate p0 k h):CallsH prog 83 #[Slc.v p0] h (fun v h'=>∃ r:Int × Int,v = .tuple #[.int .i64 r.1,.int .i64 r.2]/\k r h'):=by
 refine fE func83 fun w0=>?_
 refine zF [0] (zQ ?_)
 refine w2 tok (zE ?_)
 refine zJ (α:=Addr × Addr) [] (fun (s:Addr × Addr)=>[(4,.pointer (some s.1)),(5,.pointer (some s.2))]) (fun (s:Addr × Addr) h=>query_rate_j1 s.1 s.2 k h) ?_ ?_
 rintro ⟨t4_1,t5_1⟩ h_1 H
 refine zF [4,5] (zQ ?_)
 refine w1 tok ?_
 refine wL tok H fun v1 H=>?_
 refine w1 tok ?_
 refine wL tok H fun v2 H=>?_
 refine wC O107 (R107 _ _ _ _ H) fun r3 h4 H=>?_
 refine w5 tok (zE (zF [4,5,6,7] (zQ ?_)))
 refine w1 tok ?_
 refine wL tok H fun v5 H=>?_
 refine w1 tok ?_
 refine wL tok H fun v6 H=>?_
 refine wC O107 (R107 _ _ _ _ H) fun r7 h8 H=>?_
 refine w5 tok (zE (zF [6,7,8,9] (zS (zQ ?_))))
 refine w3 tok ?_
 refine vU 3 [6,8] [(40,.bool ((!r3.2) || (!r7.2)))] ?_ ?_
 refine zE ?_
 refine zI H ?_ ?_ <;> intro H
 refine zQ (w2 tok (zE (zT (yT ?_))))
 exact x_ret _ rfl _ rfl ⟨(0,19),rfl,H⟩
 refine zK (zX (zQ (w2 tok ?_)))
 refine wC O108 (R108 _ _ _ _ H) fun r9 h10 H=>?_
 refine w4 tok (zE (zF [2,3] (zT ?_)))
 exact x_ret _ rfl _ rfl ⟨(r9.1,r9.2),rfl,H⟩
 refine vG (d:=37) (fun hb=>?_) (fun hb=>?_)
 refine wS (wS (w1 tok ?_))
 refine vK ?_
 exact congrArg (fun b=>some (Value.bool b)) (or_t hb)
 refine w3 tok ?_
 refine vK ?_
 exact congrArg (fun b=>some (Value.bool b)) (or_f hb)
 refine gB [0] ?_
 refine gT 0 [0] tok ?_
 obtain ⟨a11,ha11,la11,ua11,H⟩:=H
 refine gY 1 [10] rfl (fun _=>y_ixa' tok rfl rfl ha11 rfl rfl rfl la11 ua11) ?_
 obtain ⟨v12,hv12,H⟩:=H
 refine gL 2 [11] rfl (y_lda tok rfl rfl rfl rfl rfl hv12) ?_
 refine gT 3 [0] tok ?_
 refine gT 4 [0] tok ?_
 refine gT 5 [14] tok ?_
 refine gT 6 [15] tok ?_
 obtain ⟨a13,ha13,la13,ua13,H⟩:=H
 refine gY 7 [13,16] rfl (fun _=>y_ixa' tok rfl rfl ha13 rfl rfl rfl la13 ua13) ?_
 obtain ⟨v14,hv14,H⟩:=H
 refine gL 8 [17] rfl (y_lda tok rfl rfl rfl rfl rfl hv14) ?_
 refine gO 9 10 H (fun H=>?_) (fun H=>?_)
 obtain ⟨b15,h16,eb15,eh16,H⟩:=H
 refine gHrI 9 [] rfl (h_alloc tok rfl rfl eb15 eh16) ?_
 obtain ⟨hy17,hy18,H⟩:=H
 refine gR rfl (y_lda tok rfl rfl rfl rfl rfl hy17) ?_
 refine gR rfl (y_lda tok rfl rfl rfl rfl rfl hy18) ?_
 refine gZ0 ?_
 obtain ⟨b19,h20,eb19,eh20,H⟩:=H
 refine gHr 10 [] rfl (h_alloc tok rfl rfl eb19 eh20) ?_
 obtain ⟨hy21,hy22,H⟩:=H
 refine gR rfl (y_lda tok rfl rfl rfl rfl rfl hy21) ?_
 refine gR rfl (y_lda tok rfl rfl rfl rfl rfl hy22) ?_
 refine gZ0 ?_
 obtain ⟨h23,wh23,eh23,H⟩:=H
 refine gHr 11 [4,12] rfl (h_sts tok rfl rfl rfl rfl rfl (oneC (by kernel_rfl)) wh23 eh23) ?_
 obtain ⟨hy24,H⟩:=H
 refine gR rfl (y_lda tok rfl rfl rfl rfl rfl hy24) ?_
 refine gZ0 ?_
 obtain ⟨h25,wh25,eh25,H⟩:=H
 refine gH 12 [5,18] rfl (h_sts tok rfl rfl rfl rfl rfl (oneC (by kernel_rfl)) wh25 eh25) ?_
 refine gZ ?_
 exact xJ ((ad b15),(ad b19)) H
 obtain ⟨b26,h27,eb26,eh27,H⟩:=H
 refine gHrI 10 [] rfl (h_alloc tok rfl rfl eb26 eh27) ?_
 obtain ⟨hy28,hy29,H⟩:=H
 refine gR rfl (y_lda tok rfl rfl rfl rfl rfl hy28) ?_
 refine gR rfl (y_lda tok rfl rfl rfl rfl rfl hy29) ?_
 refine gZ0 ?_
 obtain ⟨b30,h31,eb30,eh31,H⟩:=H
 refine gHr 9 [] rfl (h_alloc tok rfl rfl eb30 eh31) ?_
 obtain ⟨hy32,hy33,H⟩:=H
 refine gR rfl (y_lda tok rfl rfl rfl rfl rfl hy32) ?_
 refine gR rfl (y_lda tok rfl rfl rfl rfl rfl hy33) ?_
 refine gZ0 ?_
 obtain ⟨h34,wh34,eh34,H⟩:=H
 refine gHr 11 [4,12] rfl (h_sts tok rfl rfl rfl rfl rfl (oneC (by kernel_rfl)) wh34 eh34) ?_
 obtain ⟨hy35,H⟩:=H
 refine gR rfl (y_lda tok rfl rfl rfl rfl rfl hy35) ?_
 refine gZ0 ?_
 obtain ⟨h36,wh36,eh36,H⟩:=H
 refine gH 12 [5,18] rfl (h_sts tok rfl rfl rfl rfl rfl (oneC (by kernel_rfl)) wh36 eh36) ?_
 refine gZ ?_
 exact xJ ((ad b30),(ad b26)) H
theorem O84:CallOk prog 84:=ck func84
theorem R84 (p0 p1 k h) (H:query_each p0 p1 k h):CallsH prog 84 #[Slc.v p0,.int .i64 p1] h (fun v h'=>∃ r:Slc,v=Slc.v r/\k r h'):=by
 refine fE func84 fun w0=>?_
 refine zF [0,1] (zQ ?_)
 refine w1 tok (zE (zQ ?_))
 refine w1 tok (zE (zS (zQ ?_)))
 refine w3 tok (zE (zB ?_))
 obtain ⟨I1,μ1,H0,HI⟩:=H
 refine zO (σ:=Slc × Int) [1,11,12] (fun (s:Slc × Int)=>[(5,Slc.v s.1),(13,.int .i64 s.2)]) I1 μ1 ((⟨none,0,0⟩:Slc),0) H0 ?_
 rintro ⟨t5_1,t13_1⟩ h_1 H
 replace H:=HI t5_1 t13_1 h_1 H
 refine zF [5,13,1,11,12] (zQ ?_)
 refine w1 tok (zE (zS ?_))
 refine zI H ?_ ?_ <;> intro H
 refine zK (zX ?_)
 refine zJ (α:=Slc) [1,11,12,13] (fun (s:Slc)=>[(5,Slc.v s)]) (fun (s:Slc) h=>query_each_j2 p1 p0 (p0.len:Int) t13_1 s k (fun s h'=>I1 s h'/\μ1 s h' < μ1 (t5_1,t13_1) h_1) h) ?_ ?_
 rintro t5_2 h_2 H
 refine zF [5,1,11,12,13] (zR ?_)
 refine w2 tok (zW ?_)
 exact xJ (t5_2,(IntKind.i64.wrap (t13_1 + 1))) H
 refine zB (zQ ?_)
 refine wD tok H fun a1 _ H=>?_
 refine wLa tok H fun v2 H=>?_
 refine wB tok H fun b3 h4 H=>?_
 refine wTa tok H fun h5 H=>?_
 refine zE (zQ (w1 tok ?_))
 refine wL tok H fun v6 H=>?_
 refine w1 tok ?_
 refine wC O108 (R108 _ _ _ _ H) fun r7 h8 H=>?_
 refine w5 tok (zE (zF [5,13,1,11,12,7,8] (zQ ?_)))
 refine w3 tok ?_
 obtain ⟨x9,ex9,H⟩:=H
 refine w_pe tok rfl (congrArg (fun z=>(.int .i64 z:Value)) ex9) rfl rfl ?_
 refine zE (zQ (w4 tok ?_))
 refine vJ 10 (α:=Bool) [1,5,7,10,11,12,13] (fun (s:Bool)=>[(40,.bool s)]) (fun (s:Bool) h=>query_each_g3 p1 t5_1 (ad b3) x9 p0 (p0.len:Int) t13_1 s k (fun s h'=>I1 s h'/\μ1 s h' < μ1 (t5_1,t13_1) h_1) h) ?_ ?_
 rintro t40_3 h_3 H
 refine vF [40,1,5,7,10,11,12,13] (zE ?_)
 refine zI H ?_ ?_ <;> intro H
 refine gB [1,5,7,11,12,13] ?_
 refine gT 0 [5] tok ?_
 refine gT 1 [5] tok ?_
 refine gT 2 [43] tok ?_
 refine gT 3 [44] tok ?_
 refine gT 4 [5] tok ?_
 refine gT 5 [5] tok ?_
 refine gT 6 [47] tok ?_
 refine gT 7 [48] tok ?_
 obtain ⟨a10,ha10,la10,ua10,H⟩:=H
 refine gY 8 [46,49] rfl (fun _=>y_ixa' tok rfl rfl ha10 rfl rfl rfl la10 ua10) ?_
 refine gT 9 [50] tok ?_
 obtain ⟨v11,hv11,H⟩:=H
 refine gL 10 [51] rfl (y_lda tok rfl rfl rfl rfl rfl hv11) ?_
 refine gT 11 [7] tok ?_
 obtain ⟨v12,hv12,H⟩:=H
 refine gL 12 [53] rfl (y_ld tok rfl rfl rfl rfl hv12) ?_
 refine gCr 13 [54] O78 (R78 _ _ _ H) fun r13 h14 H=>?_
 obtain ⟨hy15,H⟩:=H
 refine gR rfl (y_lda tok rfl rfl rfl rfl rfl hy15) ?_
 refine gZ0 ?_
 refine gC 14 [52,55] O106 (R106 _ _ _ _ H) fun r16 h17 H=>?_
 refine gT 15 [56] tok ?_
 refine gT 16 [41] tok ?_
 refine gT 17 [41] tok ?_
 obtain ⟨a18,ha18,la18,ua18,H⟩:=H
 refine gY 18 [42,45] rfl (fun _=>y_ixa' tok rfl rfl ha18 rfl rfl rfl la18 ua18) ?_
 refine gT 19 [59] tok ?_
 obtain ⟨h19,wh19,eh19,H⟩:=H
 refine gH 20 [57,60] rfl (h_sts tok rfl rfl rfl rfl rfl (oneC (by kernel_rfl)) wh19 eh19) ?_
 refine gZ ?_
 refine yL ?_
 exact xJ t5_1 H
 refine gB [1,5,7,10,11,12,13] ?_
 refine gT 0 [5] tok ?_
 refine gT 1 [7] tok ?_
 obtain ⟨v20,hv20,H⟩:=H
 refine gL 2 [62] rfl (y_ld tok rfl rfl rfl rfl hv20) ?_
 refine gT 3 [10] tok ?_
 refine gT 4 [7] tok ?_
 obtain ⟨v21,hv21,H⟩:=H
 refine gL 5 [65] rfl (y_ld tok rfl rfl rfl rfl hv21) ?_
 refine gCr 6 [66] O78 (R78 _ _ _ H) fun r22 h23 H=>?_
 obtain ⟨hy24,H⟩:=H
 refine gR rfl (y_ld tok rfl rfl rfl rfl hy24) ?_
 refine gZ0 ?_
 refine gY 7 [63,64,67] rfl (fun _=>y_build tok rfl rfl rfl rfl rfl) ?_
 obtain ⟨b25,h26,eb25,eh26,H⟩:=H
 refine gH 8 [68] rfl (h_bs tok rfl rfl rfl rfl rfl rfl rfl eb25 eh26) ?_
 refine gA 9 [61,69] rfl (a_app (s:=t5_1) (r:=(⟨some ⟨b25,0,none⟩,1,1⟩:Slc)) tok rfl rfl rfl rfl rfl (slcAt_push eb25 eh26) H) ?_
 rintro _ h28 ⟨s27,rfl,H⟩
 refine gT 10 [70] tok ?_
 refine gZ ?_
 refine yL ?_
 exact xJ s27 H
 refine vI 30 H ?_ ?_ <;> intro H
 refine w4 tok ?_
 refine wD tok H fun a29 _ H=>?_
 refine w1 tok ?_
 refine wL tok H fun v30 H=>?_
 refine w3 tok ?_
 exact wJ (v30 == x9) H
 refine wS (wS (wS (wS (wS (wS (wS (wS (wS (w1 tok ?_)))))))))
 exact wJ false H
 refine zY (yE (yE (yH (zX (zQ (w2 tok (zE (zF [4] (zT ?_)))))))))
 exact x_ret _ rfl _ rfl ⟨t5_1,rfl,H⟩
theorem O80_1_81:CallOk prog 80:=ck func80
theorem R80_1_81 (p0 k h) (H:slices_MinFunc_api_Piece_api_Piece__query_less p0 k h):CallsH prog 80 #[Slc.v p0,(Value.func (.func 81) #[] #[])] h (fun v h'=>∃ r:S_api_Piece,v = .agg (S_api_Piece.cs r).toArray/\k r h'):=by
 refine fE func80 fun w0=>?_
 refine zF [0,1] (zQ ?_)
 refine wB tok H fun b1 h2 H=>?_
 refine zE ?_
 refine zJ (α:=Unit) [0,1,4] (fun (s:Unit)=>[]) (fun (s:Unit) h=>slices_MinFunc_api_Piece_api_Piece__query_less_j1 p0 (ad b1) k h) ?_ ?_
 rintro _ h_1 H
 refine zF [0,1,4] (zQ ?_)
 refine w1 tok ?_
 refine wD tok H fun a3 _ H=>?_
 refine wLa tok H fun v4 H=>?_
 refine wB tok H fun b5 h6 H=>?_
 refine wTa tok H fun h7 H=>?_
 refine zE (zS (zQ (w1 tok (zE (zB ?_)))))
 obtain ⟨I2,μ2,H0,HI⟩:=H
 refine zO (σ:=Int) [0,1,4,5] (fun (s:Int)=>[(6,.int .i64 s)]) I2 μ2 1 H0 ?_
 rintro t6_2 h_2 H
 replace H:=HI t6_2 h_2 H
 refine zF [6,0,1,4,5] (zS (zQ ?_))
 refine w4 tok (zE ?_)
 refine zI H ?_ ?_ <;> intro H
 refine zK (zX ?_)
 refine zJ (α:=Unit) [0,1,4,5,6] (fun (s:Unit)=>[]) (fun (s:Unit) h=>slices_MinFunc_api_Piece_api_Piece__query_less_j3 p0 (ad b1) (ad b5) t6_2 k (fun s h'=>I2 s h'/\μ2 s h' < μ2 t6_2 h_2) h) ?_ ?_
 rintro _ h_3 H
 refine zF [0,1,4,5,6] (zR ?_)
 refine w2 tok ?_
 obtain ⟨x8,ex8,H⟩:=H
 refine w_pe tok rfl (congrArg (fun z=>(.int .i64 z:Value)) ex8) rfl rfl ?_
 refine zW ?_
 exact xJ x8 H
 refine zB (zS ?_)
 refine gB [0,1,4,5,6] ?_
 refine gT 0 [1] tok ?_
 refine gT 1 [0] tok ?_
 refine gT 2 [6] tok ?_
 obtain ⟨a9,ha9,la9,ua9,H⟩:=H
 refine gY 3 [21,22] rfl (fun _=>y_ixa' tok rfl rfl ha9 rfl rfl rfl la9 ua9) ?_
 obtain ⟨v10,hv10,H⟩:=H
 refine gL 4 [23] rfl (y_lda tok rfl rfl rfl rfl rfl hv10) ?_
 obtain ⟨v11,hv11,H⟩:=H
 refine gL 5 [5] rfl (y_lda tok rfl rfl rfl rfl rfl hv11) ?_
 refine gV 6 [20,24,25] query_less_ok (query_less_ref _ _ _ _ H) fun r12 h13 H=>?_
 refine gT 7 [26] tok ?_
 refine gZ ?_
 refine zX (zF [0,1,4,5,6,27] ?_)
 refine zI H ?_ ?_ <;> intro H
 refine zR (w2 tok ?_)
 refine wD tok H fun a14 _ H=>?_
 refine wLa tok H fun v15 H=>?_
 refine wTa tok H fun h16 H=>?_
 refine zL ?_
 exact xJ () H
 refine zK (yL ?_)
 exact xJ () H
 refine zY (yE (yE (yH (zX (zF [4,5] (zQ ?_))))))
 refine wLa tok H fun v17 H=>?_
 refine wTa tok H fun h18 H=>?_
 refine zE (zT ?_)
 obtain ⟨v19,hv19,H⟩:=H
 exact x_retc tok _ rfl [.agg (S_api_Piece.cs v19).toArray] ⟨⟨_,_,rfl,rfl,.inr ⟨rfl,_,rfl,rfl,hv19⟩⟩,trivial⟩ ⟨v19,rfl,H⟩
 refine zQ (w3 tok (zE ?_))
 refine zI H ?_ ?_ <;> intro H
 refine zR ?_
 exact H.elim
 refine zK ?_
 exact xJ () H
theorem O82_1_81:CallOk prog 82:=ck func82
theorem R82_1_81 (p0 k h) (H:slices_MaxFunc_api_Piece_api_Piece__query_less p0 k h):CallsH prog 82 #[Slc.v p0,(Value.func (.func 81) #[] #[])] h (fun v h'=>∃ r:S_api_Piece,v = .agg (S_api_Piece.cs r).toArray/\k r h'):=by
 refine fE func82 fun w0=>?_
 refine zF [0,1] (zQ ?_)
 refine wB tok H fun b1 h2 H=>?_
 refine zE ?_
 refine zJ (α:=Unit) [0,1,4] (fun (s:Unit)=>[]) (fun (s:Unit) h=>slices_MaxFunc_api_Piece_api_Piece__query_less_j1 p0 (ad b1) k h) ?_ ?_
 rintro _ h_1 H
 refine zF [0,1,4] (zQ ?_)
 refine w1 tok ?_
 refine wD tok H fun a3 _ H=>?_
 refine wLa tok H fun v4 H=>?_
 refine wB tok H fun b5 h6 H=>?_
 refine wTa tok H fun h7 H=>?_
 refine zE (zS (zQ (w1 tok (zE (zB ?_)))))
 obtain ⟨I2,μ2,H0,HI⟩:=H
 refine zO (σ:=Int) [0,1,4,5] (fun (s:Int)=>[(6,.int .i64 s)]) I2 μ2 1 H0 ?_
 rintro t6_2 h_2 H
 replace H:=HI t6_2 h_2 H
 refine zF [6,0,1,4,5] (zS (zQ ?_))
 refine w4 tok (zE ?_)
 refine zI H ?_ ?_ <;> intro H
 refine zK (zX ?_)
 refine zJ (α:=Unit) [0,1,4,5,6] (fun (s:Unit)=>[]) (fun (s:Unit) h=>slices_MaxFunc_api_Piece_api_Piece__query_less_j3 p0 (ad b1) (ad b5) t6_2 k (fun s h'=>I2 s h'/\μ2 s h' < μ2 t6_2 h_2) h) ?_ ?_
 rintro _ h_3 H
 refine zF [0,1,4,5,6] (zR ?_)
 refine w2 tok ?_
 obtain ⟨x8,ex8,H⟩:=H
 refine w_pe tok rfl (congrArg (fun z=>(.int .i64 z:Value)) ex8) rfl rfl ?_
 refine zW ?_
 exact xJ x8 H
 refine zB (zS ?_)
 refine gB [0,1,4,5,6] ?_
 refine gT 0 [1] tok ?_
 refine gT 1 [0] tok ?_
 refine gT 2 [6] tok ?_
 obtain ⟨a9,ha9,la9,ua9,H⟩:=H
 refine gY 3 [21,22] rfl (fun _=>y_ixa' tok rfl rfl ha9 rfl rfl rfl la9 ua9) ?_
 obtain ⟨v10,hv10,H⟩:=H
 refine gL 4 [23] rfl (y_lda tok rfl rfl rfl rfl rfl hv10) ?_
 obtain ⟨v11,hv11,H⟩:=H
 refine gL 5 [5] rfl (y_lda tok rfl rfl rfl rfl rfl hv11) ?_
 refine gV 6 [20,24,25] query_less_ok (query_less_ref _ _ _ _ H) fun r12 h13 H=>?_
 refine gT 7 [26] tok ?_
 refine gZ ?_
 refine zX (zF [0,1,4,5,6,27] ?_)
 refine zI H ?_ ?_ <;> intro H
 refine zR (w2 tok ?_)
 refine wD tok H fun a14 _ H=>?_
 refine wLa tok H fun v15 H=>?_
 refine wTa tok H fun h16 H=>?_
 refine zL ?_
 exact xJ () H
 refine zK (yL ?_)
 exact xJ () H
 refine zY (yE (yE (yH (zX (zF [4,5] (zQ ?_))))))
 refine wLa tok H fun v17 H=>?_
 refine wTa tok H fun h18 H=>?_
 refine zE (zT ?_)
 obtain ⟨v19,hv19,H⟩:=H
 exact x_retc tok _ rfl [.agg (S_api_Piece.cs v19).toArray] ⟨⟨_,_,rfl,rfl,.inr ⟨rfl,_,rfl,rfl,hv19⟩⟩,trivial⟩ ⟨v19,rfl,H⟩
 refine zQ (w3 tok (zE ?_))
 refine zI H ?_ ?_ <;> intro H
 refine zR ?_
 exact H.elim
 refine zK ?_
 exact xJ () H
theorem O51:CallOk prog 51:=ck func51
theorem R51 (p0 p1 k h) (H:query_rows p0 p1 k h):CallsH prog 51 #[.agg (S_api_Query.cs p0).toArray,Slc.v p1] h (fun v h'=>∃ r:Slc × Int,v = .tuple #[Slc.v r.1,.int .i64 r.2]/\k r h'):=by
 refine fE func51 fun w0=>?_
 refine zF [0,1] (zQ ?_)
 refine wX H fun b1 h2 H=>?_
 refine w2 tok (zE (zQ ?_))
 refine w1 tok ?_
 refine wD tok H fun a3 _ H=>?_
 refine w1 tok ?_
 refine wL tok H fun v4 H=>?_
 refine wY (y_build tok rfl rfl rfl rfl rfl) ?_
 refine wB tok H fun b5 h6 H=>?_
 refine wTa tok H fun h7 H=>?_
 refine zE (zF [1,2,6] ?_)
 refine zJ (α:=Unit) [6] (fun (s:Unit)=>[]) (fun (s:Unit) h=>query_rows_j1 (ad b5) k h) ?_ ?_
 rintro _ h_1 H
 refine zF [6] (zQ ?_)
 refine wLa tok H fun v8 H=>?_
 obtain ⟨b9,h10,eb9,eh10,H⟩:=H
 refine wH (h_bs tok rfl rfl rfl rfl rfl rfl rfl eb9 eh10) ?_
 refine w2 tok (zE (zT ?_))
 exact x_ret _ rfl _ rfl ⟨((⟨some ⟨b9,0,none⟩,1,1⟩:Slc),0),rfl,H⟩
 refine zQ (w1 tok ?_)
 refine wL tok H fun v11 H=>?_
 refine zE (zB (zQ (w2 tok (zE ?_))))
 refine zI H ?_ ?_ <;> intro H
 refine zQ (w1 tok (zE (zS (zQ ?_))))
 refine w3 tok (zE (zF [7,25,26,27] (zB ?_)))
 obtain ⟨I2,μ2,H0,HI⟩:=H
 refine zO (σ:=Slc × Int) [25,26] (fun (s:Slc × Int)=>[(7,Slc.v s.1),(27,.int .i64 s.2)]) I2 μ2 ((⟨none,0,0⟩:Slc),0) H0 ?_
 rintro ⟨t7_2,t27_2⟩ h_2 H
 replace H:=HI t7_2 t27_2 h_2 H
 refine zF [7,27,25,26] (zQ ?_)
 refine w1 tok (zE (zS ?_))
 refine zI H ?_ ?_ <;> intro H
 refine zK (zX (zS (zB (zQ ?_))))
 refine wD tok H fun a12 _ H=>?_
 refine wLa tok H fun v13 H=>?_
 refine wB tok H fun b14 h15 H=>?_
 refine wTa tok H fun h16 H=>?_
 refine zE ?_
 refine gB [7,9,25,26,27] ?_
 refine gT 0 [7] tok ?_
 refine gT 1 [9] tok ?_
 obtain ⟨v17,hv17,H⟩:=H
 refine gL 2 [32] rfl (y_ld tok rfl rfl rfl rfl hv17) ?_
 refine gT 3 [9] tok ?_
 obtain ⟨v18,hv18,H⟩:=H
 refine gL 4 [34] rfl (y_ld tok rfl rfl rfl rfl hv18) ?_
 refine gT 5 [9] tok ?_
 obtain ⟨v19,hv19,H⟩:=H
 refine gL 6 [36] rfl (y_ld tok rfl rfl rfl rfl hv19) ?_
 refine gCr 7 [37] O78 (R78 _ _ _ H) fun r20 h21 H=>?_
 obtain ⟨hy22,hy23,H⟩:=H
 refine gR rfl (y_ld tok rfl rfl rfl rfl hy22) ?_
 refine gR rfl (y_ld tok rfl rfl rfl rfl hy23) ?_
 refine gZ0 ?_
 refine gY 8 [33,35,38] rfl (fun _=>y_build tok rfl rfl rfl rfl rfl) ?_
 obtain ⟨b24,h25,eb24,eh25,H⟩:=H
 refine gH 9 [39] rfl (h_bs tok rfl rfl rfl rfl rfl rfl rfl eb24 eh25) ?_
 refine gA 10 [31,40] rfl (a_app (s:=t7_2) (r:=(⟨some ⟨b24,0,none⟩,1,1⟩:Slc)) tok rfl rfl rfl rfl rfl (slcAt_push eb24 eh25) H) ?_
 rintro _ h27 ⟨s26,rfl,H⟩
 refine gT 11 [41] tok ?_
 refine gZ ?_
 refine yL (zX (zF [7,25,26,27] (zR ?_)))
 refine w2 tok (zW ?_)
 exact xJ (s26,(IntKind.i64.wrap (t27_2 + 1))) H
 refine zY (yE (yE (yH (zX (zQ (w3 tok (zE (zT (yB (yT ?_))))))))))
 exact x_ret _ rfl _ rfl ⟨(t7_2,0),rfl,H⟩
 refine zQ (w2 tok (zE ?_))
 refine zI H ?_ ?_ <;> intro H
 refine zR (w2 tok ?_)
 refine wC O78 (R78 _ _ _ H) fun r28 h29 H=>?_
 refine w1 tok ?_
 refine wTa tok H fun h30 H=>?_
 refine zL ?_
 exact xJ () H
 refine zQ (w2 tok (zE ?_))
 refine zI H ?_ ?_ <;> intro H
 refine zR (w1 tok ?_)
 refine wC O79 (R79 _ _ _ H) fun r31 h32 H=>?_
 refine w1 tok ?_
 refine wTa tok H fun h33 H=>?_
 refine zL ?_
 exact xJ () H
 refine zQ (w2 tok (zE (zF [1,2,6,18,55] ?_)))
 refine zI H ?_ ?_ <;> intro H
 refine zR (w1 tok ?_)
 refine wC O80_1_81 (R80_1_81 _ _ _ H) fun r34 h35 H=>?_
 refine w1 tok ?_
 refine wC O78 (R78 _ _ _ H) fun r36 h37 H=>?_
 refine w1 tok ?_
 refine wTa tok H fun h38 H=>?_
 refine zL ?_
 exact xJ () H
 refine zQ (w2 tok (zE ?_))
 refine zI H ?_ ?_ <;> intro H
 refine zR (w1 tok ?_)
 refine wC O82_1_81 (R82_1_81 _ _ _ H) fun r39 h40 H=>?_
 refine w1 tok ?_
 refine wC O78 (R78 _ _ _ H) fun r41 h42 H=>?_
 refine w1 tok ?_
 refine wTa tok H fun h43 H=>?_
 refine zL ?_
 exact xJ () H
 refine zQ (w2 tok (zE ?_))
 refine zI H ?_ ?_ <;> intro H
 refine zS (zQ (w3 tok (zE (zF [1,6,73] ?_))))
 refine zI H ?_ ?_ <;> intro H
 refine zQ (w2 tok (zE (zT (yT (yB (yT ?_))))))
 exact x_ret _ rfl _ rfl ⟨((⟨none,0,0⟩:Slc),0),rfl,H⟩
 refine zK (zX (zQ (w1 tok ?_)))
 refine wC O83 (R83 _ _ _ H) fun r44 h45 H=>?_
 refine w5 tok (zE (zF [6,10,11] (zS (zQ ?_))))
 refine w2 tok (zE ?_)
 refine zI H ?_ ?_ <;> intro H
 refine zQ (w3 tok (zE (zT (yT (yB (yT ?_))))))
 exact x_ret _ rfl _ rfl ⟨((⟨none,0,0⟩:Slc),r44.2),rfl,H⟩
 refine zK (zX (zR (w1 tok ?_)))
 refine wC O78 (R78 _ _ _ H) fun r46 h47 H=>?_
 refine w1 tok ?_
 refine wTa tok H fun h48 H=>?_
 refine zL ?_
 exact xJ () H
 refine zQ (w2 tok ?_)
 refine wL tok H fun v49 H=>?_
 refine wC O84 (R84 _ _ _ _ H) fun r50 h51 H=>?_
 refine w2 tok (zE (zF [4,5] (zT (yB (yT ?_)))))
 exact x_ret _ rfl _ rfl ⟨(r50,0),rfl,H⟩
theorem O30:CallOk prog 30:=ck func30
theorem R30 (p0 p1 p2 k h) (H:query_Run p0 p1 p2 k h):CallsH prog 30 #[.agg (S_api_Query.cs p0).toArray,Slc.v p1,.int .i64 p2] h (fun v h'=>∃ r:Slc × Int,v = .tuple #[Slc.v r.1,.int .i64 r.2]/\k r h'):=by
 refine fE func30 fun w0=>?_
 refine zF [0,1,2] (zQ ?_)
 refine wX H fun b1 h2 H=>?_
 refine w2 tok (zE (zQ ?_))
 refine wLa tok H fun v3 H=>?_
 refine w2 tok ?_
 refine wC O49 (R49 _ _ _ _ _ H) fun r4 h5 H=>?_
 refine w5 tok (zE (zF [3,8,9] (zS (zQ ?_))))
 refine w2 tok (zE ?_)
 refine zI H ?_ ?_ <;> intro H
 refine zQ (w3 tok (zE (zT (yT ?_))))
 exact x_ret _ rfl _ rfl ⟨((⟨none,0,0⟩:Slc),r4.2),rfl,H⟩
 refine zK (zX (zQ (w1 tok (zE (zS (zQ ?_))))))
 refine w1 tok ?_
 refine wC O50 (R50 _ _ _ H) fun r6 h7 H=>?_
 refine w2 tok (zE (zB ?_))
 obtain ⟨I1,μ1,H0,HI⟩:=H
 refine zO (σ:=Slc × Int) [3,26,27] (fun (s:Slc × Int)=>[(10,Slc.v s.1),(28,.int .i64 s.2)]) I1 μ1 ((⟨none,0,0⟩:Slc),0) H0 ?_
 rintro ⟨t10_1,t28_1⟩ h_1 H
 replace H:=HI t10_1 t28_1 h_1 H
 refine zF [10,28,3,26,27] (zQ ?_)
 refine w1 tok (zE (zS ?_))
 refine zI H ?_ ?_ <;> intro H
 refine zK (zX (zS (zB (zQ ?_))))
 refine wD tok H fun a8 _ H=>?_
 refine wL tok H fun v9 H=>?_
 refine w1 tok (zE (zQ ?_))
 refine wLa tok H fun v10 H=>?_
 refine w1 tok ?_
 refine wC O51 (R51 _ _ _ _ H) fun r11 h12 H=>?_
 refine w5 tok (zE (zF [10,28,3,26,27,13,14] (zS (zQ ?_))))
 refine w2 tok (zE ?_)
 refine zI H ?_ ?_ <;> intro H
 refine zQ (w3 tok (zE (zF [6,7] (zT (yT (yB (yT (yT (yB (yT ?_))))))))))
 exact x_ret _ rfl _ rfl ⟨((⟨none,0,0⟩:Slc),r11.2),rfl,H⟩
 refine zK (zX (zR (w2 tok ?_)))
 obtain ⟨l15,hl15,H⟩:=H
 refine wA (a_app (s:=t10_1) (r:=r11.1) tok rfl rfl rfl rfl rfl hl15 H) ?_
 rintro _ h14 ⟨s13,rfl,H⟩
 refine w1 tok (zL (zX (zF [10,28,3,26,27] (zR ?_))))
 refine w2 tok (zW ?_)
 exact xJ (s13,(IntKind.i64.wrap (t28_1 + 1))) H
 refine zY (yE (yE (yH (zX (zQ (w3 tok (zE (zF [6,7] (zT ?_)))))))))
 exact x_ret _ rfl _ rfl ⟨(t10_1,0),rfl,H⟩
end Go.Q.Yq
end

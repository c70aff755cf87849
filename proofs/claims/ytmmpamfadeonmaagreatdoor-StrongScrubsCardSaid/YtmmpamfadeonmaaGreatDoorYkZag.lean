/- A part of the proof of statements of this seat: lemmas, no statement of their own. -/
import Derived.Test.YtmmpamfadeonmaaGreatDoorYkZae
import Derived.Test.YtmmpamfadeonmaaGreatDoorYkZaf
set_option linter.unusedVariables false
set_option linter.unusedSimpArgs false
section
set_option maxRecDepth 100000
set_option maxHeartbeats 1000000
namespace Go.Q.Yk
open Go.Proofs.Tryz
/-- math bits.RotateLeft32 -/
def math_bits_RotateLeft32 (p0:Int) (p1:Int) (k:(Int)->Heap->Prop) (h:Heap):Prop :=
  ∃ x1:Int,x1=(bwAnd .u64 (IntKind.u64.wrap p1) 31)/\((0:Int)<=x1/\((0:Int)<=(IntKind.u64.wrap (32 - x1))/\(∃ x4:Int,x4=(bwOr .u32 (shl .u32 p0 x1.toNat) (shr .u32 p0 (IntKind.u64.wrap (32 - x1)).toNat))/\(k x4 h))))
/-- quaestor sha.turned -/
def sha_turned_j1 (t0_1:Int) (t1_1:Int) (t2_1:Int) (t11_1:Int) (k:(Int)->Heap->Prop) (h_1:Heap):Prop :=
  math_bits_RotateLeft32 t0_1 (IntKind.i64.wrap (0 - t1_1)) (fun (r3:Int) h4=>math_bits_RotateLeft32 t0_1 (IntKind.i64.wrap (0 - t2_1)) (fun (r5:Int) h6=>∃ x7:Int,x7=(bwXor .u32 (bwXor .u32 r3 r5) t11_1)/\(k x7 h6)) h4) h_1
def sha_turned (p0:Int) (p1:Int) (p2:Int) (p3:Int) (p4:Bool) (k:(Int)->Heap->Prop) (h:Heap):Prop :=
  math_bits_RotateLeft32 p0 (IntKind.i64.wrap (0 - p3)) (fun (r1:Int) h2=>if p4 then ((0:Int)<=(IntKind.u64.wrap p3)/\(∃ x9:Int,x9=(shr .u32 p0 (IntKind.u64.wrap p3).toNat)/\(sha_turned_j1 p0 p1 p2 x9 k h2))) else (sha_turned_j1 p0 p1 p2 r1 k h2)) h
/-- quaestor sha.schedule -/
def sha_schedule_j2 (t0_2:Slc) (t2_2:Addr) (t3_2:Addr) (t6_2:Int) (k:(List Int)->Heap->Prop) (nx1:(Int)->Heap->Prop) (h_2:Heap):Prop :=
  nx1 (IntKind.i64.wrap (t6_2 + 1)) h_2
def sha_schedule_l1b (t0_1:Slc) (t2_1:Addr) (t3_1:Addr) (t6_1:Int) (k:(List Int)->Heap->Prop) (nx1:(Int)->Heap->Prop) (h_1:Heap):Prop :=
  if (decide (t6_1 < 64)) then (if (decide (t6_1 < 16)) then (∃ s5:Slc,(0:Int)<=(IntKind.i64.wrap (4 * t6_1))/\((IntKind.i64.wrap (4 * t6_1)):Int)<=(t0_1.len:Int)/\((t0_1.len:Int):Int)<=(t0_1.cap:Int)/\(t0_1.cap:Int)<=(t0_1.cap:Int)/\s5=subS t0_1 1 (IntKind.i64.wrap (4 * t6_1)).toNat (t0_1.len:Int).toNat (t0_1.cap:Int).toNat/\(∃ a6:Addr,s5.a=some a6/\(0:Int)<=0/\0 < (s5.len:Int)/\(∃ v7:Int,cellH h_1 (a6.add ((0:Int).toNat * 1))=some (.int .u8 v7)/\(∃ a8:Addr,s5.a=some a8/\(0:Int)<=1/\1 < (s5.len:Int)/\(∃ v9:Int,cellH h_1 (a8.add ((1:Int).toNat * 1))=some (.int .u8 v9)/\(∃ a10:Addr,s5.a=some a10/\(0:Int)<=2/\2 < (s5.len:Int)/\(∃ v11:Int,cellH h_1 (a10.add ((2:Int).toNat * 1))=some (.int .u8 v11)/\(∃ a12:Addr,s5.a=some a12/\(0:Int)<=3/\3 < (s5.len:Int)/\(∃ v13:Int,cellH h_1 (a12.add ((3:Int).toNat * 1))=some (.int .u8 v13)/\((0:Int)<=t6_1/\t6_1 < (64:Int)/\(∃ h15:Heap,WrH h_1 (t3_1.add (t6_1.toNat * 1))/\h15=setH h_1 (t3_1.add (t6_1.toNat * 1)) (.int .u32 (bwOr .u32 (bwOr .u32 (bwOr .u32 (shl .u32 (IntKind.u32.wrap v7) (24:Int).toNat) (shl .u32 (IntKind.u32.wrap v9) (16:Int).toNat)) (shl .u32 (IntKind.u32.wrap v11) (8:Int).toNat)) (IntKind.u32.wrap v13)))/\(sha_schedule_j2 t0_1 t2_1 t3_1 t6_1 k nx1 h15)))))))))))) else ((0:Int)<=(IntKind.i64.wrap (t6_1 - 16))/\(IntKind.i64.wrap (t6_1 - 16)) < (64:Int)/\(∃ v17:Int,cellH h_1 (t3_1.add ((IntKind.i64.wrap (t6_1 - 16)).toNat * 1))=some (.int .u32 v17)/\((0:Int)<=(IntKind.i64.wrap (t6_1 - 15))/\(IntKind.i64.wrap (t6_1 - 15)) < (64:Int)/\(∃ v19:Int,cellH h_1 (t3_1.add ((IntKind.i64.wrap (t6_1 - 15)).toNat * 1))=some (.int .u32 v19)/\((0:Int)<=(IntKind.i64.wrap (t6_1 - 7))/\(IntKind.i64.wrap (t6_1 - 7)) < (64:Int)/\(∃ v21:Int,cellH h_1 (t3_1.add ((IntKind.i64.wrap (t6_1 - 7)).toNat * 1))=some (.int .u32 v21)/\((0:Int)<=(IntKind.i64.wrap (t6_1 - 2))/\(IntKind.i64.wrap (t6_1 - 2)) < (64:Int)/\(∃ v23:Int,cellH h_1 (t3_1.add ((IntKind.i64.wrap (t6_1 - 2)).toNat * 1))=some (.int .u32 v23)/\(sha_turned v19 7 18 3 true (fun (r24:Int) h25=>cellH h25 (t3_1.add ((IntKind.i64.wrap (t6_1 - 2)).toNat * 1))=some (.int .u32 v23)/\cellH h25 (t3_1.add ((IntKind.i64.wrap (t6_1 - 7)).toNat * 1))=some (.int .u32 v21)/\cellH h25 (t3_1.add ((IntKind.i64.wrap (t6_1 - 16)).toNat * 1))=some (.int .u32 v17)/\(sha_turned v23 17 19 10 true (fun (r29:Int) h30=>cellH h30 (t3_1.add ((IntKind.i64.wrap (t6_1 - 7)).toNat * 1))=some (.int .u32 v21)/\cellH h30 (t3_1.add ((IntKind.i64.wrap (t6_1 - 16)).toNat * 1))=some (.int .u32 v17)/\((0:Int)<=t6_1/\t6_1 < (64:Int)/\(∃ h34:Heap,WrH h30 (t3_1.add (t6_1.toNat * 1))/\h34=setH h30 (t3_1.add (t6_1.toNat * 1)) (.int .u32 (IntKind.u32.wrap ((IntKind.u32.wrap ((IntKind.u32.wrap (v17 + r24)) + v21)) + r29)))/\(sha_schedule_j2 t0_1 t2_1 t3_1 t6_1 k nx1 h34)))) h25)) h_1)))))))))) else (∃ v35:List Int,CellsAt h_1 t3_1 (arr 64 .u32 v35)/\(∃ h36:Heap,WrsAt h_1 t2_1 64/\h36=setsH h_1 t2_1 0 (arr 64 .u32 v35)/\(∃ v37:List Int,CellsAt h36 t2_1 (arr 64 .u32 v37)/\k v37 h36)))
def sha_schedule_l1 (t0_1:Slc) (t2_1:Addr) (t3_1:Addr) (i6:Int) (k:(List Int)->Heap->Prop) (h:Heap):Prop :=
  ∃ (I:Int->Heap->Prop) (μ:Int->Heap->Nat),I i6 h/\∀ (t6_1:Int) (h:Heap),I t6_1 h->sha_schedule_l1b t0_1 t2_1 t3_1 t6_1 k (fun s h'=>I s h'/\μ s h' < μ t6_1 h) h
def sha_schedule (p0:Slc) (k:(List Int)->Heap->Prop) (h:Heap):Prop :=
  ∃ (b1:Nat) (h2:Heap),b1=h.size/\h2=h.push (.cells (arr 64 .u32 ([]:List Int)).toArray 229)/\(∃ (b3:Nat) (h4:Heap),b3=h2.size/\h4=h2.push (.cells (arr 64 .u32 ([]:List Int)).toArray 229)/\(sha_schedule_l1 p0 (⟨b1,0,none⟩:Addr) (⟨b3,0,none⟩:Addr) 0 k h4))
/-- quaestor sha.start -/
def sha_start (k:(List Int)->Heap->Prop) (h:Heap):Prop :=
  ∃ (b1:Nat) (h2:Heap),b1=h.size/\h2=h.push (.cells (arr 8 .u32 ([]:List Int)).toArray 218)/\(∃ h3:Heap,WrsAt h2 (⟨b1,0,none⟩:Addr) 8/\h3=setsH h2 (⟨b1,0,none⟩:Addr) 0 (arr 8 .u32 ([1779033703,3144134277,1013904242,2773480762,1359893119,2600822924,528734635,1541459225]:List Int))/\(∃ v4:List Int,CellsAt h3 (⟨b1,0,none⟩:Addr) (arr 8 .u32 v4)/\k v4 h3))
/-- (quaestor sha.words).step -/
def sha_words_step_l2b (t2_2:Addr) (t4_2:Addr) (t5_2:Addr) (t77_2:Int) (k:(List Int)->Heap->Prop) (nx1:(Int)->Heap->Prop) (nx2:(Int)->Heap->Prop) (h_2:Heap):Prop :=
  if (decide (t77_2 < 8)) then ((0:Int)<=t77_2/\t77_2 < (8:Int)/\(∃ v56:Int,cellH h_2 (t2_2.add (t77_2.toNat * 1))=some (.int .u32 v56)/\((0:Int)<=t77_2/\t77_2 < (8:Int)/\(∃ v58:Int,cellH h_2 (t5_2.add (t77_2.toNat * 1))=some (.int .u32 v58)/\((0:Int)<=t77_2/\t77_2 < (8:Int)/\(∃ h60:Heap,WrH h_2 (t2_2.add (t77_2.toNat * 1))/\h60=setH h_2 (t2_2.add (t77_2.toNat * 1)) (.int .u32 (IntKind.u32.wrap (v56 + v58)))/\(nx2 (IntKind.i64.wrap (t77_2 + 1)) h60))))))) else (∃ v61:List Int,CellsAt h_2 t2_2 (arr 8 .u32 v61)/\(∃ h62:Heap,WrsAt h_2 t4_2 8/\h62=setsH h_2 t4_2 0 (arr 8 .u32 v61)/\(∃ v63:List Int,CellsAt h62 t4_2 (arr 8 .u32 v63)/\k v63 h62)))
def sha_words_step_l2 (t2_2:Addr) (t4_2:Addr) (t5_2:Addr) (i77:Int) (k:(List Int)->Heap->Prop) (nx1:(Int)->Heap->Prop) (h:Heap):Prop :=
  ∃ (I:Int->Heap->Prop) (μ:Int->Heap->Nat),I i77 h/\∀ (t77_2:Int) (h:Heap),I t77_2 h->sha_words_step_l2b t2_2 t4_2 t5_2 t77_2 k nx1 (fun s h'=>I s h'/\μ s h' < μ t77_2 h) h
def sha_words_step_l1b (t2_1:Addr) (t4_1:Addr) (t5_1:Addr) (t15_1:List Int) (t16_1:Int) (k:(List Int)->Heap->Prop) (nx1:(Int)->Heap->Prop) (h_1:Heap):Prop :=
  if (decide (t16_1 < 64)) then ((0:Int)<=t16_1/\t16_1 < (64:Int)/\(∃ x12:Int,x12=(t15_1.getD t16_1.toNat 0)/\((0:Int)<=0/\0 < (8:Int)/\(∃ v14:Int,cellH h_1 (t5_1.add ((0:Int).toNat * 1))=some (.int .u32 v14)/\((0:Int)<=4/\4 < (8:Int)/\(∃ v16:Int,cellH h_1 (t5_1.add ((4:Int).toNat * 1))=some (.int .u32 v16)/\((0:Int)<=7/\7 < (8:Int)/\(∃ v18:Int,cellH h_1 (t5_1.add ((7:Int).toNat * 1))=some (.int .u32 v18)/\((0:Int)<=5/\5 < (8:Int)/\(∃ v20:Int,cellH h_1 (t5_1.add ((5:Int).toNat * 1))=some (.int .u32 v20)/\((0:Int)<=6/\6 < (8:Int)/\(∃ v22:Int,cellH h_1 (t5_1.add ((6:Int).toNat * 1))=some (.int .u32 v22)/\((0:Int)<=t16_1/\t16_1 < (64:Int)/\(∃ v24:Int,cellH h_1 ((⟨0,0,none⟩:Addr).add (t16_1.toNat * 1))=some (.int .u32 v24)/\(sha_turned v16 6 11 25 false (fun (r25:Int) h26=>cellH h26 ((⟨0,0,none⟩:Addr).add (t16_1.toNat * 1))=some (.int .u32 v24)/\cellH h26 (t5_1.add ((6:Int).toNat * 1))=some (.int .u32 v22)/\cellH h26 (t5_1.add ((5:Int).toNat * 1))=some (.int .u32 v20)/\cellH h26 (t5_1.add ((7:Int).toNat * 1))=some (.int .u32 v18)/\((0:Int)<=1/\1 < (8:Int)/\(∃ v32:Int,cellH h26 (t5_1.add ((1:Int).toNat * 1))=some (.int .u32 v32)/\((0:Int)<=2/\2 < (8:Int)/\(∃ v34:Int,cellH h26 (t5_1.add ((2:Int).toNat * 1))=some (.int .u32 v34)/\((0:Int)<=1/\1 < (8:Int)/\(∃ v36:Int,cellH h26 (t5_1.add ((1:Int).toNat * 1))=some (.int .u32 v36)/\((0:Int)<=2/\2 < (8:Int)/\(∃ v38:Int,cellH h26 (t5_1.add ((2:Int).toNat * 1))=some (.int .u32 v38)/\(sha_turned v14 2 13 22 false (fun (r39:Int) h40=>cellH h40 (t5_1.add ((2:Int).toNat * 1))=some (.int .u32 v38)/\cellH h40 (t5_1.add ((1:Int).toNat * 1))=some (.int .u32 v36)/\cellH h40 (t5_1.add ((2:Int).toNat * 1))=some (.int .u32 v34)/\cellH h40 (t5_1.add ((1:Int).toNat * 1))=some (.int .u32 v32)/\(∃ s45:Slc,(0:Int)<=1/\1<=(8:Int)/\8<=(8:Int)/\s45=subS ⟨some t5_1,8,8⟩ 1 (1:Int).toNat (8:Int).toNat 8/\(∃ s46:Slc,(0:Int)<=0/\0<=(7:Int)/\7<=(8:Int)/\s46=subS ⟨some t5_1,8,8⟩ 1 (0:Int).toNat (7:Int).toNat 8/\(∃ l47:List Value,Cpy 1 h40 s45 s46 l47 (fun h48=>(0:Int)<=4/\4 < (8:Int)/\(∃ v50:Int,cellH h48 (t5_1.add ((4:Int).toNat * 1))=some (.int .u32 v50)/\((0:Int)<=0/\0 < (8:Int)/\(∃ h52:Heap,WrH h48 (t5_1.add ((0:Int).toNat * 1))/\h52=setH h48 (t5_1.add ((0:Int).toNat * 1)) (.int .u32 (IntKind.u32.wrap ((IntKind.u32.wrap ((IntKind.u32.wrap ((IntKind.u32.wrap ((IntKind.u32.wrap (v18 + r25)) + (bwXor .u32 (bwAnd .u32 v16 v20) (bwAnd .u32 (bwXor .u32 4294967295 v16) v22)))) + v24)) + x12)) + (IntKind.u32.wrap (r39 + (bwXor .u32 (bwXor .u32 (bwAnd .u32 v14 v32) (bwAnd .u32 v14 v34)) (bwAnd .u32 v36 v38)))))))/\((0:Int)<=4/\4 < (8:Int)/\(∃ h54:Heap,WrH h52 (t5_1.add ((4:Int).toNat * 1))/\h54=setH h52 (t5_1.add ((4:Int).toNat * 1)) (.int .u32 (IntKind.u32.wrap (v50 + (IntKind.u32.wrap ((IntKind.u32.wrap ((IntKind.u32.wrap ((IntKind.u32.wrap (v18 + r25)) + (bwXor .u32 (bwAnd .u32 v16 v20) (bwAnd .u32 (bwXor .u32 4294967295 v16) v22)))) + v24)) + x12)))))/\(nx1 (IntKind.i64.wrap (t16_1 + 1)) h54))))))))))) h26)))))))))) h_1))))))))))))))) else (sha_words_step_l2 t2_1 t4_1 t5_1 0 k nx1 h_1)
def sha_words_step_l1 (t2_1:Addr) (t4_1:Addr) (t5_1:Addr) (t15_1:List Int) (i16:Int) (k:(List Int)->Heap->Prop) (h:Heap):Prop :=
  ∃ (I:Int->Heap->Prop) (μ:Int->Heap->Nat),I i16 h/\∀ (t16_1:Int) (h:Heap),I t16_1 h->sha_words_step_l1b t2_1 t4_1 t5_1 t15_1 t16_1 k (fun s h'=>I s h'/\μ s h' < μ t16_1 h) h
def sha_words_step (p0:List Int) (p1:Slc) (k:(List Int)->Heap->Prop) (h:Heap):Prop :=
  ∃ (b1:Nat) (h2:Heap),b1=h.size/\h2=h.push (.cells (arr 8 .u32 p0).toArray 218)/\(∃ (b3:Nat) (h4:Heap),b3=h2.size/\h4=h2.push (.cells (arr 8 .u32 ([]:List Int)).toArray 218)/\(∃ v5:List Int,CellsAt h4 (⟨b1,0,none⟩:Addr) (arr 8 .u32 v5)/\(∃ (b6:Nat) (h7:Heap),b6=h4.size/\h7=h4.push (.cells (arr 8 .u32 ([]:List Int)).toArray 218)/\(∃ h8:Heap,WrsAt h7 (⟨b6,0,none⟩:Addr) 8/\h8=setsH h7 (⟨b6,0,none⟩:Addr) 0 (arr 8 .u32 v5)/\(sha_schedule p1 (fun (r9:List Int) h10=>sha_words_step_l1 (⟨b1,0,none⟩:Addr) (⟨b3,0,none⟩:Addr) (⟨b6,0,none⟩:Addr) r9 0 k h10) h8)))))
/-- slices.Grow   byte byte  -/
def slices_Grow_byte_byte_j2 (t0_2:Slc) (k:(Slc)->Heap->Prop) (h_2:Heap):Prop :=
  k t0_2 h_2
def slices_Grow_byte_byte_j1 (t0_1:Slc) (t1_1:Int) (k:(Slc)->Heap->Prop) (h_1:Heap):Prop :=
  ∃ x1:Int,x1=(IntKind.i64.wrap (t1_1 - (IntKind.i64.wrap ((t0_1.cap:Int) - (t0_1.len:Int)))))/\(if (decide (x1 > 0)) then (∃ s2:Slc,(0:Int)<=0/\(0:Int)<=(t0_1.cap:Int)/\((t0_1.cap:Int):Int)<=(t0_1.cap:Int)/\(t0_1.cap:Int)<=(t0_1.cap:Int)/\s2=subS t0_1 1 (0:Int).toNat (t0_1.cap:Int).toNat (t0_1.cap:Int).toNat/\((0:Int)<=x1/\s2.cap < s2.len + x1.toNat/\0 < x1.toNat * 1/\App 5 1 1 [.int .u8 0] h_1 s2 x1.toNat (Builtin.zeroCells ([.int .u8 0]:List Value).toArray x1.toNat).toList (fun s3 h4=>∃ s5:Slc,(0:Int)<=0/\(0:Int)<=(t0_1.len:Int)/\((t0_1.len:Int):Int)<=(s3.cap:Int)/\(s3.cap:Int)<=(s3.cap:Int)/\s5=subS s3 1 (0:Int).toNat (t0_1.len:Int).toNat (s3.cap:Int).toNat/\(slices_Grow_byte_byte_j2 s5 k h4)))) else (slices_Grow_byte_byte_j2 t0_1 k h_1))
def slices_Grow_byte_byte (p0:Slc) (p1:Int) (k:(Slc)->Heap->Prop) (h:Heap):Prop :=
  if (decide (p1 < 0)) then (False) else (slices_Grow_byte_byte_j1 p0 p1 k h)
/-- slices.Concat   byte byte  -/
def slices_Concat_byte_byte_j2 (t0_2:Slc) (t9_2:Slc) (t10_2:Int) (t11_2:Int) (t3_2:Int) (k:(Slc)->Heap->Prop) (nx1:(Int × Int)->Heap->Prop) (h_2:Heap):Prop :=
  nx1 (t3_2,(IntKind.i64.wrap (t11_2 + 1))) h_2
def slices_Concat_byte_byte_l3b (t25_3:Slc) (t26_3:Int) (t6_3:Slc) (t27_3:Int) (k:(Slc)->Heap->Prop) (nx1:(Int × Int)->Heap->Prop) (nx3:(Slc × Int)->Heap->Prop) (h_3:Heap):Prop :=
  if (decide (t27_3 < t26_3)) then (∃ a6:Addr,t25_3.a=some a6/\(0:Int)<=t27_3/\t27_3 < (t25_3.len:Int)/\(∃ v7:Slc,cellH h_3 (a6.add (t27_3.toNat * 1))=some (Slc.v v7)/\(∃ l10:List Value,SlcAt h_3 v7 l10/\App 5 1 1 [.int .u8 0] h_3 t6_3 v7.len l10 (fun s8 h9=>nx3 (s8,(IntKind.i64.wrap (t27_3 + 1))) h9)))) else (k t6_3 h_3)
def slices_Concat_byte_byte_l3 (t25_3:Slc) (t26_3:Int) (i6:Slc) (i27:Int) (k:(Slc)->Heap->Prop) (nx1:(Int × Int)->Heap->Prop) (h:Heap):Prop :=
  ∃ (I:(Slc × Int)->Heap->Prop) (μ:(Slc × Int)->Heap->Nat),I (i6,i27) h/\∀ (t6_3:Slc) (t27_3:Int) (h:Heap),I (t6_3,t27_3) h->slices_Concat_byte_byte_l3b t25_3 t26_3 t6_3 t27_3 k nx1 (fun s h'=>I s h'/\μ s h' < μ (t6_3,t27_3) h) h
def slices_Concat_byte_byte_l1b (t0_1:Slc) (t9_1:Slc) (t10_1:Int) (t3_1:Int) (t11_1:Int) (k:(Slc)->Heap->Prop) (nx1:(Int × Int)->Heap->Prop) (h_1:Heap):Prop :=
  if (decide (t11_1 < t10_1)) then (∃ a1:Addr,t9_1.a=some a1/\(0:Int)<=t11_1/\t11_1 < (t9_1.len:Int)/\(∃ v2:Slc,cellH h_1 (a1.add (t11_1.toNat * 1))=some (Slc.v v2)/\(∃ x3:Int,x3=(IntKind.i64.wrap (t3_1 + (v2.len:Int)))/\(if (decide (x3 < 0)) then (False) else (slices_Concat_byte_byte_j2 t0_1 t9_1 t10_1 t11_1 x3 k nx1 h_1))))) else (slices_Grow_byte_byte (⟨none,0,0⟩:Slc) t3_1 (fun (r4:Slc) h5=>slices_Concat_byte_byte_l3 t0_1 (t0_1.len:Int) r4 0 k nx1 h5) h_1)
def slices_Concat_byte_byte_l1 (t0_1:Slc) (t9_1:Slc) (t10_1:Int) (i3:Int) (i11:Int) (k:(Slc)->Heap->Prop) (h:Heap):Prop :=
  ∃ (I:(Int × Int)->Heap->Prop) (μ:(Int × Int)->Heap->Nat),I (i3,i11) h/\∀ (t3_1:Int) (t11_1:Int) (h:Heap),I (t3_1,t11_1) h->slices_Concat_byte_byte_l1b t0_1 t9_1 t10_1 t3_1 t11_1 k (fun s h'=>I s h'/\μ s h' < μ (t3_1,t11_1) h) h
def slices_Concat_byte_byte (p0:Slc) (k:(Slc)->Heap->Prop) (h:Heap):Prop :=
  slices_Concat_byte_byte_l1 p0 p0 (p0.len:Int) 0 0 k h
/-- quaestor sha.Of -/
def sha_Of_l4b (t2_4:Addr) (t6_4:Addr) (t7_4:Addr) (t47_4:Int) (k:(List Int)->Heap->Prop) (nx1:(Slc)->Heap->Prop) (nx2:(Slc × Int)->Heap->Prop) (nx3:(Slc)->Heap->Prop) (nx4:(Int)->Heap->Prop) (h_4:Heap):Prop :=
  if (decide (t47_4 < 32)) then ((0:Int)<=(shr .i64 t47_4 (2:Int).toNat)/\(shr .i64 t47_4 (2:Int).toNat) < (8:Int)/\(∃ v34:Int,cellH h_4 (t6_4.add ((shr .i64 t47_4 (2:Int).toNat).toNat * 1))=some (.int .u32 v34)/\((0:Int)<=(IntKind.u64.wrap (24 - (IntKind.u64.wrap (8 * (bwAnd .u64 (IntKind.u64.wrap t47_4) 3)))))/\((0:Int)<=t47_4/\t47_4 < (32:Int)/\(∃ h37:Heap,WrH h_4 (t7_4.add (t47_4.toNat * 1))/\h37=setH h_4 (t7_4.add (t47_4.toNat * 1)) (.int .u8 (IntKind.u8.wrap (shr .u32 v34 (IntKind.u64.wrap (24 - (IntKind.u64.wrap (8 * (bwAnd .u64 (IntKind.u64.wrap t47_4) 3))))).toNat)))/\(nx4 (IntKind.i64.wrap (t47_4 + 1)) h37)))))) else (∃ v38:List Int,CellsAt h_4 t7_4 (arr 32 .u8 v38)/\(∃ h39:Heap,WrsAt h_4 t2_4 32/\h39=setsH h_4 t2_4 0 (arr 32 .u8 v38)/\(∃ v40:List Int,CellsAt h39 t2_4 (arr 32 .u8 v40)/\k v40 h39)))
def sha_Of_l4 (t2_4:Addr) (t6_4:Addr) (t7_4:Addr) (i47:Int) (k:(List Int)->Heap->Prop) (nx1:(Slc)->Heap->Prop) (nx2:(Slc × Int)->Heap->Prop) (nx3:(Slc)->Heap->Prop) (h:Heap):Prop :=
  ∃ (I:Int->Heap->Prop) (μ:Int->Heap->Nat),I i47 h/\∀ (t47_4:Int) (h:Heap),I t47_4 h->sha_Of_l4b t2_4 t6_4 t7_4 t47_4 k nx1 nx2 nx3 (fun s h'=>I s h'/\μ s h' < μ t47_4 h) h
def sha_Of_l3b (t2_3:Addr) (t6_3:Addr) (t3_3:Slc) (k:(List Int)->Heap->Prop) (nx1:(Slc)->Heap->Prop) (nx2:(Slc × Int)->Heap->Prop) (nx3:(Slc)->Heap->Prop) (h_3:Heap):Prop :=
  ∃ v25:List Int,CellsAt h_3 t6_3 (arr 8 .u32 v25)/\(∃ s26:Slc,(0:Int)<=0/\(0:Int)<=64/\(64:Int)<=(t3_3.cap:Int)/\(t3_3.cap:Int)<=(t3_3.cap:Int)/\s26=subS t3_3 1 (0:Int).toNat (64:Int).toNat (t3_3.cap:Int).toNat/\(sha_words_step v25 s26 (fun (r27:List Int) h28=>∃ h29:Heap,WrsAt h28 t6_3 8/\h29=setsH h28 t6_3 0 (arr 8 .u32 r27)/\(∃ s30:Slc,(0:Int)<=64/\(64:Int)<=(t3_3.len:Int)/\((t3_3.len:Int):Int)<=(t3_3.cap:Int)/\(t3_3.cap:Int)<=(t3_3.cap:Int)/\s30=subS t3_3 1 (64:Int).toNat (t3_3.len:Int).toNat (t3_3.cap:Int).toNat/\(if ((s30.len:Int) == 0) then (∃ (b31:Nat) (h32:Heap),b31=h29.size/\h32=h29.push (.cells (arr 32 .u8 ([]:List Int)).toArray 27)/\(sha_Of_l4 t2_3 t6_3 (⟨b31,0,none⟩:Addr) 0 k nx1 nx2 nx3 h32)) else (nx3 s30 h29)))) h_3))
def sha_Of_l3 (t2_3:Addr) (t6_3:Addr) (i3:Slc) (k:(List Int)->Heap->Prop) (nx1:(Slc)->Heap->Prop) (nx2:(Slc × Int)->Heap->Prop) (h:Heap):Prop :=
  ∃ (I:Slc->Heap->Prop) (μ:Slc->Heap->Nat),I i3 h/\∀ (t3_3:Slc) (h:Heap),I t3_3 h->sha_Of_l3b t2_3 t6_3 t3_3 k nx1 nx2 (fun s h'=>I s h'/\μ s h' < μ t3_3 h) h
def sha_Of_l2b (t2_2:Addr) (t4_2:Int) (t3_2:Slc) (t5_2:Int) (k:(List Int)->Heap->Prop) (nx1:(Slc)->Heap->Prop) (nx2:(Slc × Int)->Heap->Prop) (h_2:Heap):Prop :=
  if (decide (t5_2>=0)) then ((0:Int)<=(IntKind.u64.wrap t5_2)/\(∃ (b15:Nat) (h16:Heap),b15=h_2.size/\h16=h_2.push (.cells ([.int .u8 (IntKind.u8.wrap (shr .u64 t4_2 (IntKind.u64.wrap t5_2).toNat))]).toArray 5)/\(App 5 1 1 [.int .u8 0] h16 t3_2 1 ([.int .u8 (IntKind.u8.wrap (shr .u64 t4_2 (IntKind.u64.wrap t5_2).toNat))]) (fun s17 h18=>∃ x19:Int,x19=(IntKind.i64.wrap (t5_2 - 8))/\(nx2 (s17,x19) h18))))) else (sha_start  (fun (r20:List Int) h21=>∃ (b22:Nat) (h23:Heap),b22=h21.size/\h23=h21.push (.cells (arr 8 .u32 ([]:List Int)).toArray 218)/\(∃ h24:Heap,WrsAt h23 (⟨b22,0,none⟩:Addr) 8/\h24=setsH h23 (⟨b22,0,none⟩:Addr) 0 (arr 8 .u32 r20)/\(sha_Of_l3 t2_2 (⟨b22,0,none⟩:Addr) t3_2 k nx1 nx2 h24))) h_2)
def sha_Of_l2 (t2_2:Addr) (t4_2:Int) (i3:Slc) (i5:Int) (k:(List Int)->Heap->Prop) (nx1:(Slc)->Heap->Prop) (h:Heap):Prop :=
  ∃ (I:(Slc × Int)->Heap->Prop) (μ:(Slc × Int)->Heap->Nat),I (i3,i5) h/\∀ (t3_2:Slc) (t5_2:Int) (h:Heap),I (t3_2,t5_2) h->sha_Of_l2b t2_2 t4_2 t3_2 t5_2 k nx1 (fun s h'=>I s h'/\μ s h' < μ (t3_2,t5_2) h) h
def sha_Of_l1b (t2_1:Addr) (t4_1:Int) (t3_1:Slc) (k:(List Int)->Heap->Prop) (nx1:(Slc)->Heap->Prop) (h_1:Heap):Prop :=
  if ((bwAnd .i64 (t3_1.len:Int) 63) != 56) then (∃ (b10:Nat) (h11:Heap),b10=h_1.size/\h11=h_1.push (.cells ([.int .u8 0]).toArray 5)/\(App 5 1 1 [.int .u8 0] h11 t3_1 1 ([.int .u8 0]) (fun s12 h13=>nx1 s12 h13))) else (sha_Of_l2 t2_1 t4_1 t3_1 56 k nx1 h_1)
def sha_Of_l1 (t2_1:Addr) (t4_1:Int) (i3:Slc) (k:(List Int)->Heap->Prop) (h:Heap):Prop :=
  ∃ (I:Slc->Heap->Prop) (μ:Slc->Heap->Nat),I i3 h/\∀ (t3_1:Slc) (h:Heap),I t3_1 h->sha_Of_l1b t2_1 t4_1 t3_1 k (fun s h'=>I s h'/\μ s h' < μ t3_1 h) h
def sha_Of (p0:Slc) (k:(List Int)->Heap->Prop) (h:Heap):Prop :=
  ∃ (b1:Nat) (h2:Heap),b1=h.size/\h2=h.push (.cells (arr 32 .u8 ([]:List Int)).toArray 27)/\(slices_Concat_byte_byte p0 (fun (r3:Slc) h4=>∃ x5:Int,x5=(shl .u64 (IntKind.u64.wrap (r3.len:Int)) (3:Int).toNat)/\(∃ (b6:Nat) (h7:Heap),b6=h4.size/\h7=h4.push (.cells ([.int .u8 128]).toArray 5)/\(App 5 1 1 [.int .u8 0] h7 r3 1 ([.int .u8 128]) (fun s8 h9=>sha_Of_l1 (⟨b1,0,none⟩:Addr) x5 s8 k h9)))) h2)
/-- quaestor num.Get -/
def num_Get_l1b (t0_1:Slc) (t6_1:Int) (t7_1:Int) (k:(Int × Int)->Heap->Prop) (nx1:(Int × Int)->Heap->Prop) (h_1:Heap):Prop :=
  if (decide (t7_1>=0)) then (∃ a2:Addr,t0_1.a=some a2/\(0:Int)<=t7_1/\t7_1 < (t0_1.len:Int)/\(∃ v3:Int,cellH h_1 (a2.add (t7_1.toNat * 1))=some (.int .u8 v3)/\(∃ x4:Int,x4=(bwOr .u64 (shl .u64 t6_1 (8:Int).toNat) (IntKind.u64.wrap v3))/\(∃ x5:Int,x5=(IntKind.i64.wrap (t7_1 - 1))/\(nx1 (x4,x5) h_1))))) else (k (t6_1,0) h_1)
def num_Get_l1 (t0_1:Slc) (i6:Int) (i7:Int) (k:(Int × Int)->Heap->Prop) (h:Heap):Prop :=
  ∃ (I:(Int × Int)->Heap->Prop) (μ:(Int × Int)->Heap->Nat),I (i6,i7) h/\∀ (t6_1:Int) (t7_1:Int) (h:Heap),I (t6_1,t7_1) h->num_Get_l1b t0_1 t6_1 t7_1 k (fun s h'=>I s h'/\μ s h' < μ (t6_1,t7_1) h) h
def num_Get (p0:Slc) (p1:Int) (k:(Int × Int)->Heap->Prop) (h:Heap):Prop :=
  if ((decide (p1 < 1)) || (decide (p1 > 8))) then (k (0,1) h) else (if (decide ((p0.len:Int) < p1)) then (k (0,2) h) else (∃ x1:Int,x1=(IntKind.i64.wrap (p1 - 1))/\(num_Get_l1 p0 0 x1 k h)))
/-- quaestor sha.Short -/
def sha_Short (p0:List Int) (k:(Int)->Heap->Prop) (h:Heap):Prop :=
  ∃ (b1:Nat) (h2:Heap),b1=h.size/\h2=h.push (.cells (arr 32 .u8 p0).toArray 27)/\(∃ s3:Slc,(0:Int)<=0/\0<=(32:Int)/\32<=(32:Int)/\s3=subS ⟨some (⟨b1,0,none⟩:Addr),32,32⟩ 1 (0:Int).toNat (32:Int).toNat 32/\(num_Get s3 8 (fun (r4:Int × Int) h5=>k r4.1 h5) h2))
/-- slices.Clone   byte byte  -/
def slices_Clone_byte_byte (p0:Slc) (k:(Slc)->Heap->Prop) (h:Heap):Prop :=
  if (p0.a.isNone) then (k (⟨none,0,0⟩:Slc) h) else (∃ (b1:Nat) (h2:Heap),b1=h.size/\h2=h.push (.cells ([]).toArray 5)/\(∃ l5:List Value,SlcAt h2 p0 l5/\App 5 1 1 [.int .u8 0] h2 (⟨some ⟨b1,0,none⟩,0,0⟩:Slc) p0.len l5 (fun s3 h4=>k s3 h4)))
/-- quaestor num.Put -/
def num_Put_l1b (t13_1:Int) (t1_1:Int) (t7_1:Slc) (t14_1:Int) (k:(Slc)->Heap->Prop) (nx1:(Int × Slc × Int)->Heap->Prop) (h_1:Heap):Prop :=
  if (decide (t14_1 < t13_1)) then (∃ (b3:Nat) (h4:Heap),b3=h_1.size/\h4=h_1.push (.cells ([.int .u8 (IntKind.u8.wrap t1_1)]).toArray 5)/\(App 5 1 1 [.int .u8 0] h4 t7_1 1 ([.int .u8 (IntKind.u8.wrap t1_1)]) (fun s5 h6=>∃ x7:Int,x7=(shr .u64 t1_1 (8:Int).toNat)/\(nx1 (x7,s5,(IntKind.i64.wrap (t14_1 + 1))) h6)))) else (k t7_1 h_1)
def num_Put_l1 (t13_1:Int) (i1:Int) (i7:Slc) (i14:Int) (k:(Slc)->Heap->Prop) (h:Heap):Prop :=
  ∃ (I:(Int × Slc × Int)->Heap->Prop) (μ:(Int × Slc × Int)->Heap->Nat),I (i1,i7,i14) h/\∀ (t1_1:Int) (t7_1:Slc) (t14_1:Int) (h:Heap),I (t1_1,t7_1,t14_1) h->num_Put_l1b t13_1 t1_1 t7_1 t14_1 k (fun s h'=>I s h'/\μ s h' < μ (t1_1,t7_1,t14_1) h) h
def num_Put (p0:Slc) (p1:Int) (p2:Int) (k:(Slc)->Heap->Prop) (h:Heap):Prop :=
  slices_Clone_byte_byte p0 (fun (r1:Slc) h2=>if (decide (p2 > 8)) then (k r1 h2) else (num_Put_l1 p2 p1 r1 0 k h2)) h
/-- bytes.Clone -/
def bytes_Clone (p0:Slc) (k:(Slc)->Heap->Prop) (h:Heap):Prop :=
  if (p0.a.isNone) then (k (⟨none,0,0⟩:Slc) h) else (∃ (b1:Nat) (h2:Heap),b1=h.size/\h2=h.push (.cells ([]).toArray 5)/\(∃ l5:List Value,SlcAt h2 p0 l5/\App 5 1 1 [.int .u8 0] h2 (⟨some ⟨b1,0,none⟩,0,0⟩:Slc) p0.len l5 (fun s3 h4=>k s3 h4)))
theorem O162:CallOk prog 162:=ck func162
theorem R162 (p0 p1 k h) (H:math_bits_RotateLeft32 p0 p1 k h):CallsH prog 162 #[.int .u32 p0,.int .i64 p1] h (fun v h'=>∃ r:Int,v = .int .u32 r/\k r h'):=by
 refine fE func162 fun w0=>?_
 refine zF [0,1] (zQ ?_)
 refine w1 tok (zE (zQ ?_))
 refine w3 tok ?_
 obtain ⟨x1,ex1,H⟩:=H
 refine w_pe tok rfl (congrArg (fun z=>(.int .u64 z:Value)) ex1) rfl rfl ?_
 refine zE (zQ (w2 tok ?_))
 obtain ⟨z2,H⟩:=H
 refine wY (y_shl rfl rfl rfl z2) ?_
 refine w3 tok ?_
 obtain ⟨z3,H⟩:=H
 refine wY (y_shr rfl rfl rfl z3) ?_
 refine w1 tok ?_
 obtain ⟨x4,ex4,H⟩:=H
 refine w_pe tok rfl (congrArg (fun z=>(.int .u32 z:Value)) ex4) rfl rfl ?_
 refine zE (zF [4] (zT ?_))
 exact x_ret _ rfl _ rfl ⟨x4,rfl,H⟩
theorem O160:CallOk prog 160:=ck func160
theorem R160 (p0 p1 p2 p3 p4 k h) (H:sha_turned p0 p1 p2 p3 p4 k h):CallsH prog 160 #[.int .u32 p0,.int .i64 p1,.int .i64 p2,.int .i64 p3,.bool p4] h (fun v h'=>∃ r:Int,v = .int .u32 r/\k r h'):=by
 refine fE func160 fun w0=>?_
 refine zF [0,1,2,3,4] (zQ ?_)
 refine w1 tok (zE (zQ ?_))
 refine w3 tok ?_
 refine wC O162 (R162 _ _ _ _ H) fun r1 h2 H=>?_
 refine w1 tok (zE ?_)
 refine zJ (α:=Int) [0,1,2] (fun (s:Int)=>[(11,.int .u32 s)]) (fun (s:Int) h=>sha_turned_j1 p0 p1 p2 s k h) ?_ ?_
 rintro t11_1 h_1 H
 refine zF [11,0,1,2] (zQ ?_)
 refine w3 tok ?_
 refine wC O162 (R162 _ _ _ _ H) fun r3 h4 H=>?_
 refine w3 tok ?_
 refine wC O162 (R162 _ _ _ _ H) fun r5 h6 H=>?_
 refine w3 tok ?_
 obtain ⟨x7,ex7,H⟩:=H
 refine w_pe tok rfl (congrArg (fun z=>(.int .u32 z:Value)) ex7) rfl rfl ?_
 refine zE (zF [10] (zT ?_))
 exact x_ret _ rfl _ rfl ⟨x7,rfl,H⟩
 refine zQ (w1 tok (zE ?_))
 refine zI H ?_ ?_ <;> intro H
 refine zR (w3 tok ?_)
 obtain ⟨z8,H⟩:=H
 refine wY (y_shr rfl rfl rfl z8) ?_
 obtain ⟨x9,ex9,H⟩:=H
 refine w_pe tok rfl (congrArg (fun z=>(.int .u32 z:Value)) ex9) rfl rfl ?_
 refine zW ?_
 exact xJ x9 H
 refine zK ?_
 exact xJ r1 H
theorem O159:CallOk prog 159:=ck func159
theorem R159 (p0 k h) (H:sha_schedule p0 k h):CallsH prog 159 #[Slc.v p0] h (fun v h'=>∃ r:List Int,v = .agg (arr 64 .u32 r).toArray/\k r h'):=by
 refine fE func159 fun w0=>?_
 refine zF [0] (zQ ?_)
 refine wB tok H fun b1 h2 H=>?_
 refine zE (zQ ?_)
 refine wB tok H fun b3 h4 H=>?_
 refine zE (zS (zQ (w1 tok (zE (zB ?_)))))
 obtain ⟨I1,μ1,H0,HI⟩:=H
 refine zO (σ:=Int) [0,2,3] (fun (s:Int)=>[(6,.int .i64 s)]) I1 μ1 0 H0 ?_
 rintro t6_1 h_1 H
 replace H:=HI t6_1 h_1 H
 refine zF [6,0,2,3] (zQ ?_)
 refine w1 tok (zE (zS ?_))
 refine zI H ?_ ?_ <;> intro H
 refine zK (zX ?_)
 refine zJ (α:=Unit) [0,2,3,6] (fun (s:Unit)=>[]) (fun (s:Unit) h=>sha_schedule_j2 p0 (ad b1) (ad b3) t6_1 k (fun s h'=>I1 s h'/\μ1 s h' < μ1 t6_1 h_1) h) ?_ ?_
 rintro _ h_2 H
 refine zF [0,2,3,6] (zR ?_)
 refine w2 tok (zW ?_)
 exact xJ (IntKind.i64.wrap (t6_1 + 1)) H
 refine zB (zQ (w2 tok (zE (zS (zQ ?_)))))
 refine w2 tok (zE ?_)
 refine zI H ?_ ?_ <;> intro H
 refine zQ (w3 tok ?_)
 obtain ⟨s5,ps5,qs5,rs5,ts5,es5,H⟩:=H
 refine wYe (y_sl (s:=p0) (L:=(IntKind.i64.wrap (4 * t6_1))) (H:=(p0.len:Int)) (M:=(p0.cap:Int)) tok rfl rfl rfl rfl rfl rfl rfl (by simp) ps5 qs5 rs5 ts5) (congrArg Slc.v es5) ?_
 refine w1 tok (zE (zF [6,0,2,3,4,5] (zS ?_)))
 refine gB [0,2,3,4,5,6] ?_
 refine gT 0 [4] tok ?_
 refine gT 1 [5] tok ?_
 obtain ⟨a6,ha6,la6,ua6,H⟩:=H
 refine gY 2 [16] rfl (fun _=>y_ixa' tok rfl rfl ha6 rfl rfl rfl la6 ua6) ?_
 obtain ⟨v7,hv7,H⟩:=H
 refine gL 3 [17] rfl (y_ld tok rfl rfl rfl rfl hv7) ?_
 refine gT 4 [18] tok ?_
 refine gT 5 [19] tok ?_
 refine gT 6 [5] tok ?_
 obtain ⟨a8,ha8,la8,ua8,H⟩:=H
 refine gY 7 [21] rfl (fun _=>y_ixa' tok rfl rfl ha8 rfl rfl rfl la8 ua8) ?_
 obtain ⟨v9,hv9,H⟩:=H
 refine gL 8 [22] rfl (y_ld tok rfl rfl rfl rfl hv9) ?_
 refine gT 9 [23] tok ?_
 refine gT 10 [24] tok ?_
 refine gT 11 [20,25] tok ?_
 refine gT 12 [5] tok ?_
 obtain ⟨a10,ha10,la10,ua10,H⟩:=H
 refine gY 13 [27] rfl (fun _=>y_ixa' tok rfl rfl ha10 rfl rfl rfl la10 ua10) ?_
 obtain ⟨v11,hv11,H⟩:=H
 refine gL 14 [28] rfl (y_ld tok rfl rfl rfl rfl hv11) ?_
 refine gT 15 [29] tok ?_
 refine gT 16 [30] tok ?_
 refine gT 17 [26,31] tok ?_
 refine gT 18 [5] tok ?_
 obtain ⟨a12,ha12,la12,ua12,H⟩:=H
 refine gY 19 [33] rfl (fun _=>y_ixa' tok rfl rfl ha12 rfl rfl rfl la12 ua12) ?_
 obtain ⟨v13,hv13,H⟩:=H
 refine gL 20 [34] rfl (y_ld tok rfl rfl rfl rfl hv13) ?_
 refine gT 21 [35] tok ?_
 refine gT 22 [32,36] tok ?_
 obtain ⟨lb14,ub14,H⟩:=H
 refine gY 23 [3,15] rfl (fun _=>y_ixp tok rfl rfl rfl rfl rfl lb14 ub14) ?_
 obtain ⟨h15,wh15,eh15,H⟩:=H
 refine gH 24 [37,38] rfl (h_st tok rfl rfl rfl rfl rfl rfl wh15 eh15) ?_
 refine gZ ?_
 refine zX (zF [0,2,3,6] (zY (yE (yH ?_))))
 exact xJ () H
 refine zK (zX ?_)
 refine gB [0,2,3,4,6] ?_
 refine gT 0 [4] tok ?_
 refine gT 1 [4] tok ?_
 refine gT 2 [40] tok ?_
 obtain ⟨lb16,ub16,H⟩:=H
 refine gY 3 [3,41] rfl (fun _=>y_ixp tok rfl rfl rfl rfl rfl lb16 ub16) ?_
 obtain ⟨v17,hv17,H⟩:=H
 refine gL 4 [42] rfl (y_ld tok rfl rfl rfl rfl hv17) ?_
 refine gT 5 [4] tok ?_
 refine gT 6 [44] tok ?_
 obtain ⟨lb18,ub18,H⟩:=H
 refine gY 7 [3,45] rfl (fun _=>y_ixp tok rfl rfl rfl rfl rfl lb18 ub18) ?_
 obtain ⟨v19,hv19,H⟩:=H
 refine gL 8 [46] rfl (y_ld tok rfl rfl rfl rfl hv19) ?_
 refine gT 11 [4] tok ?_
 refine gT 12 [50] tok ?_
 obtain ⟨lb20,ub20,H⟩:=H
 refine gY 13 [3,51] rfl (fun _=>y_ixp tok rfl rfl rfl rfl rfl lb20 ub20) ?_
 obtain ⟨v21,hv21,H⟩:=H
 refine gL 14 [52] rfl (y_ld tok rfl rfl rfl rfl hv21) ?_
 refine gT 16 [4] tok ?_
 refine gT 17 [55] tok ?_
 obtain ⟨lb22,ub22,H⟩:=H
 refine gY 18 [3,56] rfl (fun _=>y_ixp tok rfl rfl rfl rfl rfl lb22 ub22) ?_
 obtain ⟨v23,hv23,H⟩:=H
 refine gL 19 [57] rfl (y_ld tok rfl rfl rfl rfl hv23) ?_
 refine gCr 9 [47] O160 (R160 _ _ _ _ _ _ _ H) fun r24 h25 H=>?_
 obtain ⟨hy26,hy27,hy28,H⟩:=H
 refine gR rfl (y_ld tok rfl rfl rfl rfl hy26) ?_
 refine gR rfl (y_ld tok rfl rfl rfl rfl hy27) ?_
 refine gR rfl (y_ld tok rfl rfl rfl rfl hy28) ?_
 refine gZ0 ?_
 refine gT 10 [43,48] tok ?_
 refine gT 15 [49,53] tok ?_
 refine gCr 20 [58] O160 (R160 _ _ _ _ _ _ _ H) fun r29 h30 H=>?_
 obtain ⟨hy31,hy32,H⟩:=H
 refine gR rfl (y_ld tok rfl rfl rfl rfl hy31) ?_
 refine gR rfl (y_ld tok rfl rfl rfl rfl hy32) ?_
 refine gZ0 ?_
 refine gT 21 [54,59] tok ?_
 obtain ⟨lb33,ub33,H⟩:=H
 refine gY 22 [3,39] rfl (fun _=>y_ixp tok rfl rfl rfl rfl rfl lb33 ub33) ?_
 obtain ⟨h34,wh34,eh34,H⟩:=H
 refine gH 23 [60,61] rfl (h_st tok rfl rfl rfl rfl rfl rfl wh34 eh34) ?_
 refine gZ ?_
 refine yL ?_
 exact xJ () H
 refine zY (yE (yE (yH (zX (zQ ?_)))))
 refine wLa tok H fun v35 H=>?_
 refine wTa tok H fun h36 H=>?_
 refine zE (zT ?_)
 obtain ⟨v37,hv37,H⟩:=H
 exact x_retc tok _ rfl [.agg (arr 64 .u32 v37).toArray] ⟨⟨_,_,rfl,rfl,.inr ⟨rfl,_,rfl,rfl,hv37⟩⟩,trivial⟩ ⟨v37,rfl,H⟩
theorem O148:CallOk prog 148:=ck func148
theorem R148 ( k h) (H:sha_start k h):CallsH prog 148 #[] h (fun v h'=>∃ r:List Int,v = .agg (arr 8 .u32 r).toArray/\k r h'):=by
 refine fE func148 fun w0=>?_
 refine zQ ?_
 refine wB tok H fun b1 h2 H=>?_
 refine zE (zQ ?_)
 refine wY (y_builda tok rfl rfl rfl rfl rfl) ?_
 refine wTa tok H fun h3 H=>?_
 refine zE (zT ?_)
 obtain ⟨v4,hv4,H⟩:=H
 exact x_retc tok _ rfl [.agg (arr 8 .u32 v4).toArray] ⟨⟨_,_,rfl,rfl,.inr ⟨rfl,_,rfl,rfl,hv4⟩⟩,trivial⟩ ⟨v4,rfl,H⟩
theorem O149:CallOk prog 149:=ck func149
theorem R149 (p0 p1 k h) (H:sha_words_step p0 p1 k h):CallsH prog 149 #[.agg (arr 8 .u32 p0).toArray,Slc.v p1] h (fun v h'=>∃ r:List Int,v = .agg (arr 8 .u32 r).toArray/\k r h'):=by
 refine fE func149 fun w0=>?_
 refine zF [0,1] (zQ ?_)
 refine wX H fun b1 h2 H=>?_
 refine wB tok H fun b3 h4 H=>?_
 refine zE (zQ ?_)
 refine wLa tok H fun v5 H=>?_
 refine wB tok H fun b6 h7 H=>?_
 refine wTa tok H fun h8 H=>?_
 refine zE (zS (zQ (w1 tok ?_)))
 refine wC O159 (R159 _ _ _ H) fun r9 h10 H=>?_
 refine w1 tok (zE (zB ?_))
 obtain ⟨I1,μ1,H0,HI⟩:=H
 refine zO (σ:=Int) [2,4,5,15] (fun (s:Int)=>[(16,.int .i64 s)]) I1 μ1 0 H0 ?_
 rintro t16_1 h_1 H
 replace H:=HI t16_1 h_1 H
 refine zF [16,2,4,5,15] (zQ ?_)
 refine w1 tok (zE (zS ?_))
 refine zI H ?_ ?_ <;> intro H
 refine zK (zX (zS (zB (zQ (w1 tok ?_)))))
 obtain ⟨lv11,uv11,H⟩:=H
 refine wY (y_ixr tok rfl rfl rfl rfl rfl rfl lv11 uv11) ?_
 refine w1 tok ?_
 obtain ⟨x12,ex12,H⟩:=H
 refine w_pe tok rfl (congrArg (fun z=>(.int .u32 z:Value)) ex12) rfl rfl ?_
 refine zE (zS ?_)
 refine c_draw (by kernel_rfl) (by kernel_rfl) ?_
 obtain ⟨lb13,ub13,H⟩:=H
 refine q_y (y_ixp tok rfl rfl rfl rfl rfl lb13 ub13) rfl rfl ?_
 obtain ⟨v14,hv14,H⟩:=H
 refine q_y (y_ld tok rfl rfl rfl rfl hv14) rfl rfl ?_
 obtain ⟨lb15,ub15,H⟩:=H
 refine q_y (y_ixp tok rfl rfl rfl rfl rfl lb15 ub15) rfl rfl ?_
 obtain ⟨v16,hv16,H⟩:=H
 refine q_y (y_ld tok rfl rfl rfl rfl hv16) rfl rfl ?_
 refine q_p tok rfl rfl rfl ?_
 refine q_p tok rfl rfl rfl ?_
 refine q_end ?_
 refine zX (zF [16,2,4,5,15,6,7,8,9] (zS ?_))
 refine gB [2,4,5,6,7,8,9,15,16] ?_
 obtain ⟨lb17,ub17,H⟩:=H
 refine gY 0 [5] rfl (fun _=>y_ixp tok rfl rfl rfl rfl rfl lb17 ub17) ?_
 obtain ⟨v18,hv18,H⟩:=H
 refine gL 1 [24] rfl (y_ld tok rfl rfl rfl rfl hv18) ?_
 refine gT 2 [9] tok ?_
 refine gT 5 [9] tok ?_
 obtain ⟨lb19,ub19,H⟩:=H
 refine gY 6 [5] rfl (fun _=>y_ixp tok rfl rfl rfl rfl rfl lb19 ub19) ?_
 obtain ⟨v20,hv20,H⟩:=H
 refine gL 7 [30] rfl (y_ld tok rfl rfl rfl rfl hv20) ?_
 refine gT 8 [29,31] tok ?_
 refine gT 9 [9] tok ?_
 refine gY 10 [33] rfl (fun _=>y_cpl rfl rfl) ?_
 obtain ⟨lb21,ub21,H⟩:=H
 refine gY 11 [5] rfl (fun _=>y_ixp tok rfl rfl rfl rfl rfl lb21 ub21) ?_
 obtain ⟨v22,hv22,H⟩:=H
 refine gL 12 [35] rfl (y_ld tok rfl rfl rfl rfl hv22) ?_
 refine gT 13 [34,36] tok ?_
 refine gT 14 [32,37] tok ?_
 refine gT 16 [6] tok ?_
 obtain ⟨lb23,ub23,H⟩:=H
 refine gY 17 [40] rfl (fun _=>y_ixp tok rfl rfl rfl rfl rfl lb23 ub23) ?_
 obtain ⟨v24,hv24,H⟩:=H
 refine gL 18 [41] rfl (y_ld tok rfl rfl rfl rfl hv24) ?_
 refine gT 20 [7] tok ?_
 refine gCr 3 [26] O160 (R160 _ _ _ _ _ _ _ H) fun r25 h26 H=>?_
 obtain ⟨hy27,hy28,hy29,hy30,H⟩:=H
 refine gR rfl (y_ld tok rfl rfl rfl rfl hy27) ?_
 refine gR rfl (y_ld tok rfl rfl rfl rfl hy28) ?_
 refine gR rfl (y_ld tok rfl rfl rfl rfl hy29) ?_
 refine gR rfl (y_ld tok rfl rfl rfl rfl hy30) ?_
 refine gZ0 ?_
 refine gT 4 [25,27] tok ?_
 refine gT 15 [28,38] tok ?_
 refine gT 19 [39,42] tok ?_
 refine gT 21 [43,44] tok ?_
 refine gT 22 [45] tok ?_
 refine gZ ?_
 refine zX (zF [2,4,5,8,15,16,10] (zS ?_))
 refine gB [2,4,5,8,10,15,16] ?_
 refine gT 0 [8] tok ?_
 refine gT 2 [8] tok ?_
 obtain ⟨lb31,ub31,H⟩:=H
 refine gY 3 [5] rfl (fun _=>y_ixp tok rfl rfl rfl rfl rfl lb31 ub31) ?_
 obtain ⟨v32,hv32,H⟩:=H
 refine gL 4 [49] rfl (y_ld tok rfl rfl rfl rfl hv32) ?_
 refine gT 5 [48,50] tok ?_
 refine gT 6 [8] tok ?_
 obtain ⟨lb33,ub33,H⟩:=H
 refine gY 7 [5] rfl (fun _=>y_ixp tok rfl rfl rfl rfl rfl lb33 ub33) ?_
 obtain ⟨v34,hv34,H⟩:=H
 refine gL 8 [53] rfl (y_ld tok rfl rfl rfl rfl hv34) ?_
 refine gT 9 [52,54] tok ?_
 refine gT 10 [51,55] tok ?_
 obtain ⟨lb35,ub35,H⟩:=H
 refine gY 11 [5] rfl (fun _=>y_ixp tok rfl rfl rfl rfl rfl lb35 ub35) ?_
 obtain ⟨v36,hv36,H⟩:=H
 refine gL 12 [57] rfl (y_ld tok rfl rfl rfl rfl hv36) ?_
 obtain ⟨lb37,ub37,H⟩:=H
 refine gY 13 [5] rfl (fun _=>y_ixp tok rfl rfl rfl rfl rfl lb37 ub37) ?_
 obtain ⟨v38,hv38,H⟩:=H
 refine gL 14 [59] rfl (y_ld tok rfl rfl rfl rfl hv38) ?_
 refine gT 15 [58,60] tok ?_
 refine gT 16 [56,61] tok ?_
 refine gCr 1 [46] O160 (R160 _ _ _ _ _ _ _ H) fun r39 h40 H=>?_
 obtain ⟨hy41,hy42,hy43,hy44,H⟩:=H
 refine gR rfl (y_ld tok rfl rfl rfl rfl hy41) ?_
 refine gR rfl (y_ld tok rfl rfl rfl rfl hy42) ?_
 refine gR rfl (y_ld tok rfl rfl rfl rfl hy43) ?_
 refine gR rfl (y_ld tok rfl rfl rfl rfl hy44) ?_
 refine gZ0 ?_
 refine gT 17 [47,62] tok ?_
 refine gT 18 [63] tok ?_
 refine gZ ?_
 refine zX (zF [2,4,5,10,15,16,11] (zS ?_))
 refine gB [2,4,5,10,11,15,16] ?_
 obtain ⟨s45,ps45,qs45,rs45,es45,H⟩:=H
 refine gYe 0 [5] rfl (fun _=>y_sla (L:=1) (H:=8) tok rfl rfl rfl rfl rfl rfl ps45 qs45 rs45) (congrArg Slc.v es45) ?_
 obtain ⟨s46,ps46,qs46,rs46,es46,H⟩:=H
 refine gYe 1 [5] rfl (fun _=>y_sla (L:=0) (H:=7) tok rfl rfl rfl rfl rfl rfl ps46 qs46 rs46) (congrArg Slc.v es46) ?_
 obtain ⟨l47,H⟩:=H
 refine gA 2 [64,65] rfl (a_cpy (d:=s45) (s:=s46) tok rfl rfl rfl rfl rfl H) ?_
 rintro _ h48 ⟨rfl,H⟩
 refine gZ ?_
 refine zX (zR (w3 tok ?_))
 obtain ⟨lb49,ub49,H⟩:=H
 refine wY (y_ixp tok rfl rfl rfl rfl rfl lb49 ub49) ?_
 refine wL tok H fun v50 H=>?_
 refine w2 tok ?_
 obtain ⟨lb51,ub51,H⟩:=H
 refine wY (y_ixp tok rfl rfl rfl rfl rfl lb51 ub51) ?_
 refine wT tok H fun h52 H=>?_
 obtain ⟨lb53,ub53,H⟩:=H
 refine wY (y_ixp tok rfl rfl rfl rfl rfl lb53 ub53) ?_
 refine wT tok H fun h54 H=>?_
 refine zL (zX (zF [2,4,5,15,16] (zR ?_)))
 refine w2 tok (zW ?_)
 exact xJ (IntKind.i64.wrap (t16_1 + 1)) H
 refine zY (yE (yE (yH (zX (zS (zQ (w1 tok (zE (zB ?_)))))))))
 obtain ⟨I2,μ2,H0,HI⟩:=H
 refine zO (σ:=Int) [2,4,5] (fun (s:Int)=>[(77,.int .i64 s)]) I2 μ2 0 H0 ?_
 rintro t77_2 h_2 H
 replace H:=HI t77_2 h_2 H
 refine zF [77,2,4,5] (zQ ?_)
 refine w1 tok (zE (zS ?_))
 refine zI H ?_ ?_ <;> intro H
 refine zK (zX (zS (zB (zQ (w2 tok (zE ?_))))))
 refine gB [2,4,5,12,77] ?_
 refine gT 0 [12] tok ?_
 obtain ⟨lb55,ub55,H⟩:=H
 refine gY 1 [2,80] rfl (fun _=>y_ixp tok rfl rfl rfl rfl rfl lb55 ub55) ?_
 obtain ⟨v56,hv56,H⟩:=H
 refine gL 2 [81] rfl (y_ld tok rfl rfl rfl rfl hv56) ?_
 refine gT 3 [12] tok ?_
 obtain ⟨lb57,ub57,H⟩:=H
 refine gY 4 [5,83] rfl (fun _=>y_ixp tok rfl rfl rfl rfl rfl lb57 ub57) ?_
 obtain ⟨v58,hv58,H⟩:=H
 refine gL 5 [84] rfl (y_ld tok rfl rfl rfl rfl hv58) ?_
 refine gT 6 [82,85] tok ?_
 obtain ⟨lb59,ub59,H⟩:=H
 refine gY 7 [2,80] rfl (fun _=>y_ixp tok rfl rfl rfl rfl rfl lb59 ub59) ?_
 obtain ⟨h60,wh60,eh60,H⟩:=H
 refine gH 8 [86,87] rfl (h_st tok rfl rfl rfl rfl rfl rfl wh60 eh60) ?_
 refine gZ ?_
 refine yL (zX (zF [2,4,5,77] (zR ?_)))
 refine w2 tok (zW ?_)
 exact xJ (IntKind.i64.wrap (t77_2 + 1)) H
 refine zY (yE (yE (yH (zX (zQ ?_)))))
 refine wLa tok H fun v61 H=>?_
 refine wTa tok H fun h62 H=>?_
 refine zE (zT ?_)
 obtain ⟨v63,hv63,H⟩:=H
 exact x_retc tok _ rfl [.agg (arr 8 .u32 v63).toArray] ⟨⟨_,_,rfl,rfl,.inr ⟨rfl,_,rfl,rfl,hv63⟩⟩,trivial⟩ ⟨v63,rfl,H⟩
theorem O116:CallOk prog 116:=ck func116
theorem R116 (p0 p1 k h) (H:slices_Grow_byte_byte p0 p1 k h):CallsH prog 116 #[Slc.v p0,.int .i64 p1] h (fun v h'=>∃ r:Slc,v=Slc.v r/\k r h'):=by
 refine fE func116 fun w0=>?_
 refine zF [0,1] (zQ ?_)
 refine w1 tok (zE ?_)
 refine zJ (α:=Unit) [0,1] (fun (s:Unit)=>[]) (fun (s:Unit) h=>slices_Grow_byte_byte_j1 p0 p1 k h) ?_ ?_
 rintro _ h_1 H
 refine zF [0,1] ?_
 refine zJ (α:=Slc) [] (fun (s:Slc)=>[(0,Slc.v s)]) (fun (s:Slc) h=>slices_Grow_byte_byte_j2 s k h) ?_ ?_
 rintro t0_2 h_2 H
 refine zF [0] (zQ ?_)
 refine w2 tok (zE (zT ?_))
 exact x_ret _ rfl _ rfl ⟨t0_2,rfl,H⟩
 refine zQ (w2 tok ?_)
 refine wY (y_cap (s:=p0) tok rfl rfl rfl) ?_
 refine w4 tok ?_
 obtain ⟨x1,ex1,H⟩:=H
 refine w_pe tok rfl (congrArg (fun z=>(.int .i64 z:Value)) ex1) rfl rfl ?_
 refine zE (zF [0,1] (zQ ?_))
 refine w2 tok (zE ?_)
 refine zI H ?_ ?_ <;> intro H
 refine zR (w2 tok ?_)
 refine wY (y_cap (s:=p0) tok rfl rfl rfl) ?_
 obtain ⟨s2,ps2,qs2,rs2,ts2,es2,H⟩:=H
 refine wYe (y_sl (s:=p0) (L:=0) (H:=(p0.cap:Int)) (M:=(p0.cap:Int)) tok rfl rfl rfl rfl rfl rfl rfl (by simp) ps2 qs2 rs2 ts2) (congrArg Slc.v es2) ?_
 refine w1 tok ?_
 obtain ⟨ns3,gs3,zs3,H⟩:=H
 refine wA (a_appm (s:=s2) (n:=x1) tok rfl rfl rfl rfl rfl rfl ns3 gs3 zs3 H) ?_
 rintro _ h4 ⟨s3,rfl,H⟩
 refine w2 tok ?_
 obtain ⟨s5,ps5,qs5,rs5,ts5,es5,H⟩:=H
 refine wYe (y_sl (s:=s3) (L:=0) (H:=(p0.len:Int)) (M:=(s3.cap:Int)) tok rfl rfl rfl rfl rfl rfl rfl (by simp) ps5 qs5 rs5 ts5) (congrArg Slc.v es5) ?_
 refine w1 tok (zW ?_)
 exact xJ s5 H
 refine zK ?_
 exact xJ p0 H
 refine zQ (w2 tok (zE ?_))
 refine zI H ?_ ?_ <;> intro H
 refine zR ?_
 exact H.elim
 refine zK ?_
 exact xJ () H
theorem O86:CallOk prog 86:=ck func86
theorem R86 (p0 k h) (H:slices_Concat_byte_byte p0 k h):CallsH prog 86 #[Slc.v p0] h (fun v h'=>∃ r:Slc,v=Slc.v r/\k r h'):=by
 refine fE func86 fun w0=>?_
 refine zF [0] (zQ ?_)
 refine w1 tok (zE (zQ ?_))
 refine w1 tok (zE (zS (zQ ?_)))
 refine w3 tok (zE (zB ?_))
 obtain ⟨I1,μ1,H0,HI⟩:=H
 refine zO (σ:=Int × Int) [0,9,10] (fun (s:Int × Int)=>[(3,.int .i64 s.1),(11,.int .i64 s.2)]) I1 μ1 (0,0) H0 ?_
 rintro ⟨t3_1,t11_1⟩ h_1 H
 replace H:=HI t3_1 t11_1 h_1 H
 refine zF [3,11,0,9,10] (zQ ?_)
 refine w1 tok (zE (zS ?_))
 refine zI H ?_ ?_ <;> intro H
 refine zK (zX ?_)
 refine zJ (α:=Int) [0,9,10,11] (fun (s:Int)=>[(3,.int .i64 s)]) (fun (s:Int) h=>slices_Concat_byte_byte_j2 p0 p0 (p0.len:Int) t11_1 s k (fun s h'=>I1 s h'/\μ1 s h' < μ1 (t3_1,t11_1) h_1) h) ?_ ?_
 rintro t3_2 h_2 H
 refine zF [3,0,9,10,11] (zR ?_)
 refine w2 tok (zW ?_)
 exact xJ (t3_2,(IntKind.i64.wrap (t11_1 + 1))) H
 refine zB (zQ ?_)
 refine wD tok H fun a1 _ H=>?_
 refine wL tok H fun v2 H=>?_
 refine w1 tok (zE (zQ ?_))
 refine w4 tok ?_
 obtain ⟨x3,ex3,H⟩:=H
 refine w_pe tok rfl (congrArg (fun z=>(.int .i64 z:Value)) ex3) rfl rfl ?_
 refine zE (zF [3,11,0,9,10] (zQ ?_))
 refine w2 tok (zE ?_)
 refine zI H ?_ ?_ <;> intro H
 refine zR ?_
 exact H.elim
 refine zK (yL ?_)
 exact xJ x3 H
 refine zY (yE (yE (yH (zX (zQ (w1 tok ?_))))))
 refine wC O116 (R116 _ _ _ _ H) fun r4 h5 H=>?_
 refine w1 tok (zE (zF [0,6] (zS (zQ ?_))))
 refine w3 tok (zE (zB ?_))
 obtain ⟨I3,μ3,H0,HI⟩:=H
 refine zO (σ:=Slc × Int) [25,26] (fun (s:Slc × Int)=>[(6,Slc.v s.1),(27,.int .i64 s.2)]) I3 μ3 (r4,0) H0 ?_
 rintro ⟨t6_3,t27_3⟩ h_3 H
 replace H:=HI t6_3 t27_3 h_3 H
 refine zF [6,27,25,26] (zQ ?_)
 refine w1 tok (zE (zS ?_))
 refine zI H ?_ ?_ <;> intro H
 refine zK (zX (zS (zB (zQ ?_))))
 refine wD tok H fun a6 _ H=>?_
 refine wL tok H fun v7 H=>?_
 refine w1 tok (zE (zR ?_))
 refine w2 tok ?_
 obtain ⟨l10,hl10,H⟩:=H
 refine wA (a_app (s:=t6_3) (r:=v7) tok rfl rfl rfl rfl rfl hl10 H) ?_
 rintro _ h9 ⟨s8,rfl,H⟩
 refine w1 tok (zL (zX (zF [6,27,25,26] (zR ?_))))
 refine w2 tok (zW ?_)
 exact xJ (s8,(IntKind.i64.wrap (t27_3 + 1))) H
 refine zY (yE (yE (yH (zX (zQ (w2 tok (zE (zT ?_))))))))
 exact x_ret _ rfl _ rfl ⟨t6_3,rfl,H⟩
theorem O129:CallOk prog 129:=ck func129
theorem R129 (p0 k h) (H:sha_Of p0 k h):CallsH prog 129 #[Slc.v p0] h (fun v h'=>∃ r:List Int,v = .agg (arr 32 .u8 r).toArray/\k r h'):=by
 refine fE func129 fun w0=>?_
 refine zF [0] (zQ ?_)
 refine wB tok H fun b1 h2 H=>?_
 refine zE (zC (zQ (w1 tok ?_)))
 refine wC O86 (R86 _ _ _ H) fun r3 h4 H=>?_
 refine w1 tok (zE (zQ ?_))
 refine w4 tok ?_
 obtain ⟨x5,ex5,H⟩:=H
 refine w_pe tok rfl (congrArg (fun z=>(.int .u64 z:Value)) ex5) rfl rfl ?_
 refine zE (zF [2,3,4] (zQ ?_))
 refine w1 tok ?_
 obtain ⟨b6,h7,eb6,eh7,H⟩:=H
 refine wH (h_bs tok rfl rfl rfl rfl rfl rfl rfl eb6 eh7) ?_
 refine wA (a_app (s:=r3) (r:=(⟨some ⟨b6,0,none⟩,1,1⟩:Slc)) tok rfl rfl rfl rfl rfl (slcAt_push eb6 eh7) H) ?_
 rintro _ h9 ⟨s8,rfl,H⟩
 refine w1 tok (zE (zS (zB ?_)))
 obtain ⟨I1,μ1,H0,HI⟩:=H
 refine zO (σ:=Slc) [2,4] (fun (s:Slc)=>[(3,Slc.v s)]) I1 μ1 s8 H0 ?_
 rintro t3_1 h_1 H
 replace H:=HI t3_1 h_1 H
 refine zF [3,2,4] (zS (zQ ?_))
 refine w4 tok (zE ?_)
 refine zI H ?_ ?_ <;> intro H
 refine zK (zX (zB (zR (w1 tok ?_))))
 obtain ⟨b10,h11,eb10,eh11,H⟩:=H
 refine wH (h_bs tok rfl rfl rfl rfl rfl rfl rfl eb10 eh11) ?_
 refine wA (a_app (s:=t3_1) (r:=(⟨some ⟨b10,0,none⟩,1,1⟩:Slc)) tok rfl rfl rfl rfl rfl (slcAt_push eb10 eh11) H) ?_
 rintro _ h13 ⟨s12,rfl,H⟩
 refine w1 tok (zL ?_)
 exact xJ s12 H
 refine zY (yE (yE (yH (zX (zS (zQ (w1 tok (zE (zB ?_)))))))))
 obtain ⟨I2,μ2,H0,HI⟩:=H
 refine zO (σ:=Slc × Int) [2,4] (fun (s:Slc × Int)=>[(3,Slc.v s.1),(5,.int .i64 s.2)]) I2 μ2 (t3_1,56) H0 ?_
 rintro ⟨t3_2,t5_2⟩ h_2 H
 replace H:=HI t3_2 t5_2 h_2 H
 refine zF [3,5,2,4] (zS (zQ ?_))
 refine w2 tok (zE ?_)
 refine zI H ?_ ?_ <;> intro H
 refine zK (zX (zS (zB (zR (w4 tok ?_)))))
 obtain ⟨z14,H⟩:=H
 refine wY (y_shr rfl rfl rfl z14) ?_
 refine w1 tok ?_
 obtain ⟨b15,h16,eb15,eh16,H⟩:=H
 refine wH (h_bs tok rfl rfl rfl rfl rfl rfl rfl eb15 eh16) ?_
 refine wA (a_app (s:=t3_2) (r:=(⟨some ⟨b15,0,none⟩,1,1⟩:Slc)) tok rfl rfl rfl rfl rfl (slcAt_push eb15 eh16) H) ?_
 rintro _ h18 ⟨s17,rfl,H⟩
 refine w1 tok (zL (zX (zF [3,5,2,4] (zR ?_))))
 refine w2 tok ?_
 obtain ⟨x19,ex19,H⟩:=H
 refine w_pe tok rfl (congrArg (fun z=>(.int .i64 z:Value)) ex19) rfl rfl ?_
 refine zW ?_
 exact xJ (s17,x19) H
 refine zY (yE (yE (yH (zX (zQ ?_)))))
 refine wC O148 (R148  _ _ H) fun r20 h21 H=>?_
 refine wB tok H fun b22 h23 H=>?_
 refine wTa tok H fun h24 H=>?_
 refine zE (zS (zA (zX (zS (zB ?_)))))
 obtain ⟨I3,μ3,H0,HI⟩:=H
 refine zO (σ:=Slc) [2,6] (fun (s:Slc)=>[(3,Slc.v s)]) I3 μ3 t3_2 H0 ?_
 rintro t3_3 h_3 H
 replace H:=HI t3_3 h_3 H
 refine zF [3,2,6] (zB (zS ?_))
 refine gB [2,3,6] ?_
 obtain ⟨v25,hv25,H⟩:=H
 refine gL 0 [6] rfl (y_lda tok rfl rfl rfl rfl rfl hv25) ?_
 refine gT 1 [3] tok ?_
 obtain ⟨s26,ps26,qs26,rs26,ts26,es26,H⟩:=H
 refine gYe 2 [39] rfl (fun _=>y_sl (s:=t3_3) (L:=0) (H:=64) (M:=(t3_3.cap:Int)) tok rfl rfl rfl rfl rfl rfl rfl (by simp) ps26 qs26 rs26 ts26) (congrArg Slc.v es26) ?_
 refine gC 3 [38,40] O149 (R149 _ _ _ _ H) fun r27 h28 H=>?_
 obtain ⟨h29,wh29,eh29,H⟩:=H
 refine gH 4 [6,41] rfl (h_sts tok rfl rfl rfl rfl rfl (oneC (by kernel_rfl)) wh29 eh29) ?_
 refine gZ ?_
 refine zX (zQ (w1 tok ?_))
 obtain ⟨s30,ps30,qs30,rs30,ts30,es30,H⟩:=H
 refine wYe (y_sl (s:=t3_3) (L:=64) (H:=(t3_3.len:Int)) (M:=(t3_3.cap:Int)) tok rfl rfl rfl rfl rfl rfl rfl (by simp) ps30 qs30 rs30 ts30) (congrArg Slc.v es30) ?_
 refine w1 tok (zE (zQ ?_))
 refine w3 tok (zE (zF [2,3,6,46] ?_))
 refine zI H ?_ ?_ <;> intro H
 refine zY (zM (yE (yH (zX (zQ ?_)))))
 refine wB tok H fun b31 h32 H=>?_
 refine zE (zS (zQ (w1 tok (zE (zB ?_)))))
 obtain ⟨I4,μ4,H0,HI⟩:=H
 refine zO (σ:=Int) [2,6,7] (fun (s:Int)=>[(47,.int .i64 s)]) I4 μ4 0 H0 ?_
 rintro t47_4 h_4 H
 replace H:=HI t47_4 h_4 H
 refine zF [47,2,6,7] (zQ ?_)
 refine w1 tok (zE (zS ?_))
 refine zI H ?_ ?_ <;> intro H
 refine zK (zX (zS (zB (zQ (w2 tok (zE (zR ?_)))))))
 refine w3 tok ?_
 obtain ⟨lb33,ub33,H⟩:=H
 refine wY (y_ixp tok rfl rfl rfl rfl rfl lb33 ub33) ?_
 refine wL tok H fun v34 H=>?_
 refine w5 tok ?_
 obtain ⟨z35,H⟩:=H
 refine wY (y_shr rfl rfl rfl z35) ?_
 refine w1 tok ?_
 obtain ⟨lb36,ub36,H⟩:=H
 refine wY (y_ixp tok rfl rfl rfl rfl rfl lb36 ub36) ?_
 refine wT tok H fun h37 H=>?_
 refine zL (zX (zF [47,2,6,7] (zR ?_)))
 refine w2 tok (zW ?_)
 exact xJ (IntKind.i64.wrap (t47_4 + 1)) H
 refine zY (yE (yE (yH (zX (zQ ?_)))))
 refine wLa tok H fun v38 H=>?_
 refine wTa tok H fun h39 H=>?_
 refine zE (zT (yR ?_))
 obtain ⟨v40,hv40,H⟩:=H
 exact x_retc tok _ rfl [.agg (arr 32 .u8 v40).toArray] ⟨⟨_,_,rfl,rfl,.inr ⟨rfl,_,rfl,rfl,hv40⟩⟩,trivial⟩ ⟨v40,rfl,H⟩
 refine zK (yL ?_)
 exact xJ s30 H
theorem O104:CallOk prog 104:=ck func104
theorem R104 (p0 p1 k h) (H:num_Get p0 p1 k h):CallsH prog 104 #[Slc.v p0,.int .i64 p1] h (fun v h'=>∃ r:Int × Int,v = .tuple #[.int .u64 r.1,.int .i64 r.2]/\k r h'):=by
 refine fE func104 fun w0=>?_
 refine zF [0,1] (zQ ?_)
 refine w2 tok (zE (zS (zB (zQ ?_))))
 refine w3 tok ?_
 refine vU 3 [0,1] [(14,.bool ((decide (p1 < 1)) || (decide (p1 > 8))))] ?_ ?_
 refine w1 tok (zE ?_)
 refine zI H ?_ ?_ <;> intro H
 refine zQ (w2 tok (zE (zT (yB (yT ?_)))))
 exact x_ret _ rfl _ rfl ⟨(0,1),rfl,H⟩
 refine zQ (w5 tok (zE ?_))
 refine zI H ?_ ?_ <;> intro H
 refine zQ (w2 tok (zE (zF [4,5] (zT (yB (yT ?_))))))
 exact x_ret _ rfl _ rfl ⟨(0,2),rfl,H⟩
 refine zK (yL (zX (zF [0,1] (zQ ?_))))
 refine w1 tok (zE (zS (zQ ?_)))
 refine w2 tok ?_
 obtain ⟨x1,ex1,H⟩:=H
 refine w_pe tok rfl (congrArg (fun z=>(.int .i64 z:Value)) ex1) rfl rfl ?_
 refine zE (zB ?_)
 obtain ⟨I1,μ1,H0,HI⟩:=H
 refine zO (σ:=Int × Int) [0] (fun (s:Int × Int)=>[(6,.int .u64 s.1),(7,.int .i64 s.2)]) I1 μ1 (0,x1) H0 ?_
 rintro ⟨t6_1,t7_1⟩ h_1 H
 replace H:=HI t6_1 t7_1 h_1 H
 refine zF [6,7,0] (zS (zQ ?_))
 refine w2 tok (zE ?_)
 refine zI H ?_ ?_ <;> intro H
 refine zK (zX (zS (zB (zR (w4 tok ?_)))))
 refine wD tok H fun a2 _ H=>?_
 refine wL tok H fun v3 H=>?_
 refine w2 tok ?_
 obtain ⟨x4,ex4,H⟩:=H
 refine w_pe tok rfl (congrArg (fun z=>(.int .u64 z:Value)) ex4) rfl rfl ?_
 refine zL (zX (zF [6,7,0] (zR ?_)))
 refine w2 tok ?_
 obtain ⟨x5,ex5,H⟩:=H
 refine w_pe tok rfl (congrArg (fun z=>(.int .i64 z:Value)) ex5) rfl rfl ?_
 refine zW ?_
 exact xJ (x4,x5) H
 refine zY (yE (yE (yH (zX (zQ (w3 tok (zE (zT ?_))))))))
 exact x_ret _ rfl _ rfl ⟨(t6_1,0),rfl,H⟩
 refine vG (d:=11) (fun hb=>?_) (fun hb=>?_)
 refine wS (wS (w1 tok ?_))
 refine vK ?_
 exact congrArg (fun b=>some (Value.bool b)) (or_t hb)
 refine w3 tok ?_
 refine vK ?_
 exact congrArg (fun b=>some (Value.bool b)) (or_f hb)
theorem O128:CallOk prog 128:=ck func128
theorem R128 (p0 k h) (H:sha_Short p0 k h):CallsH prog 128 #[.agg (arr 32 .u8 p0).toArray] h (fun v h'=>∃ r:Int,v = .int .u64 r/\k r h'):=by
 refine fE func128 fun w0=>?_
 refine zF [0] (zQ ?_)
 refine wX H fun b1 h2 H=>?_
 refine w1 tok (zE (zQ ?_))
 obtain ⟨s3,ps3,qs3,rs3,es3,H⟩:=H
 refine wYe (y_sla (L:=0) (H:=32) tok rfl rfl rfl rfl rfl rfl ps3 qs3 rs3) (congrArg Slc.v es3) ?_
 refine wC O104 (R104 _ _ _ _ H) fun r4 h5 H=>?_
 refine w5 tok (zE (zF [3] (zQ ?_)))
 refine w2 tok (zE (zT ?_))
 exact x_ret _ rfl _ rfl ⟨r4.1,rfl,H⟩
theorem O64:CallOk prog 64:=ck func64
theorem R64 (p0 k h) (H:slices_Clone_byte_byte p0 k h):CallsH prog 64 #[Slc.v p0] h (fun v h'=>∃ r:Slc,v=Slc.v r/\k r h'):=by
 refine fE func64 fun w0=>?_
 refine zF [0] (zQ ?_)
 refine w1 tok (zE (zS (zQ ?_)))
 refine w2 tok (zE ?_)
 refine zI H ?_ ?_ <;> intro H
 refine zQ (w1 tok (zE (zT (yT ?_))))
 exact x_ret _ rfl _ rfl ⟨(⟨none,0,0⟩:Slc),rfl,H⟩
 refine zK (zX (zQ ?_))
 obtain ⟨b1,h2,eb1,eh2,H⟩:=H
 refine wH (h_bs tok rfl rfl rfl rfl rfl rfl rfl eb1 eh2) ?_
 refine w1 tok ?_
 obtain ⟨l5,hl5,H⟩:=H
 refine wA (a_app (s:=(⟨some ⟨b1,0,none⟩,0,0⟩:Slc)) (r:=p0) tok rfl rfl rfl rfl rfl hl5 H) ?_
 rintro _ h4 ⟨s3,rfl,H⟩
 refine w1 tok (zE (zT ?_))
 exact x_ret _ rfl _ rfl ⟨s3,rfl,H⟩
theorem O99:CallOk prog 99:=ck func99
theorem R99 (p0 p1 p2 k h) (H:num_Put p0 p1 p2 k h):CallsH prog 99 #[Slc.v p0,.int .u64 p1,.int .i64 p2] h (fun v h'=>∃ r:Slc,v=Slc.v r/\k r h'):=by
 refine fE func99 fun w0=>?_
 refine zF [0,1,2] (zQ ?_)
 refine w1 tok (zE (zQ ?_))
 refine w1 tok ?_
 refine wC O64 (R64 _ _ _ H) fun r1 h2 H=>?_
 refine w1 tok (zE (zS (zQ ?_)))
 refine w2 tok (zE ?_)
 refine zI H ?_ ?_ <;> intro H
 refine zQ (w2 tok (zE (zF [6] (zT (yT ?_)))))
 exact x_ret _ rfl _ rfl ⟨r1,rfl,H⟩
 refine zK (zX (zS (zQ (w2 tok (zE (zF [1,7,13,14] (zB ?_)))))))
 obtain ⟨I1,μ1,H0,HI⟩:=H
 refine zO (σ:=Int × Slc × Int) [13] (fun (s:Int × Slc × Int)=>[(1,.int .u64 s.1),(7,Slc.v s.2.1),(14,.int .i64 s.2.2)]) I1 μ1 (p1,r1,0) H0 ?_
 rintro ⟨t1_1,t7_1,t14_1⟩ h_1 H
 replace H:=HI t1_1 t7_1 t14_1 h_1 H
 refine zF [1,7,14,13] (zQ ?_)
 refine w1 tok (zE (zS ?_))
 refine zI H ?_ ?_ <;> intro H
 refine zK (zX (zS (zB (zQ (w3 tok ?_)))))
 obtain ⟨b3,h4,eb3,eh4,H⟩:=H
 refine wH (h_bs tok rfl rfl rfl rfl rfl rfl rfl eb3 eh4) ?_
 refine wA (a_app (s:=t7_1) (r:=(⟨some ⟨b3,0,none⟩,1,1⟩:Slc)) tok rfl rfl rfl rfl rfl (slcAt_push eb3 eh4) H) ?_
 rintro _ h6 ⟨s5,rfl,H⟩
 refine w1 tok (zE (zR ?_))
 refine w2 tok ?_
 obtain ⟨x7,ex7,H⟩:=H
 refine w_pe tok rfl (congrArg (fun z=>(.int .u64 z:Value)) ex7) rfl rfl ?_
 refine zL (zX (zF [1,7,14,13] (zR ?_)))
 refine w2 tok (zW ?_)
 exact xJ (x7,s5,(IntKind.i64.wrap (t14_1 + 1))) H
 refine zY (yE (yE (yH (zX (zQ (w2 tok (zE (zT ?_))))))))
 exact x_ret _ rfl _ rfl ⟨t7_1,rfl,H⟩
theorem O131:CallOk prog 131:=ck func131
theorem R131 (p0 k h) (H:bytes_Clone p0 k h):CallsH prog 131 #[Slc.v p0] h (fun v h'=>∃ r:Slc,v=Slc.v r/\k r h'):=by
 refine fE func131 fun w0=>?_
 refine zF [0] (zQ ?_)
 refine w1 tok (zE (zS (zQ ?_)))
 refine w2 tok (zE ?_)
 refine zI H ?_ ?_ <;> intro H
 refine zQ (w1 tok (zE (zT (yT ?_))))
 exact x_ret _ rfl _ rfl ⟨(⟨none,0,0⟩:Slc),rfl,H⟩
 refine zK (zX (zQ ?_))
 obtain ⟨b1,h2,eb1,eh2,H⟩:=H
 refine wH (h_bs tok rfl rfl rfl rfl rfl rfl rfl eb1 eh2) ?_
 refine w1 tok ?_
 obtain ⟨l5,hl5,H⟩:=H
 refine wA (a_app (s:=(⟨some ⟨b1,0,none⟩,0,0⟩:Slc)) (r:=p0) tok rfl rfl rfl rfl rfl hl5 H) ?_
 rintro _ h4 ⟨s3,rfl,H⟩
 refine w1 tok (zE (zT ?_))
 exact x_ret _ rfl _ rfl ⟨s3,rfl,H⟩
end Go.Q.Yk
end

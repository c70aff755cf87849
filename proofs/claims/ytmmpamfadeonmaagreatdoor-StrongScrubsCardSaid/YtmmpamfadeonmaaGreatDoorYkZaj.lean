/- A part of the proof of statements of this seat: lemmas, no statement of their own. -/
import Derived.Test.YtmmpamfadeonmaaGreatDoorYkZae
import Derived.Test.YtmmpamfadeonmaaGreatDoorYkZaf
import Derived.Test.YtmmpamfadeonmaaGreatDoorYkZag
import Derived.Test.YtmmpamfadeonmaaGreatDoorYkZai
import Derived.Test.YtmmpamfadeonmaaGreatDoorYkZad
import Derived.Test.YtmmpamfadeonmaaGreatDoorYkZah
set_option linter.unusedVariables false
set_option linter.unusedSimpArgs false
section
set_option maxRecDepth 100000
set_option maxHeartbeats 1000000
namespace Go.Q.Yk
open Go.Proofs.Tryz
/-- quaestor box.Name -/
def box_Name_j2 (t0_2:ByteArray) (t6_2:Int) (t7_2:Int) (t13_2:Bool) (k:(Bool)->Heap->Prop) (nx1:(Int)->Heap->Prop) (h_2:Heap):Prop :=
  if t13_2 then (nx1 (IntKind.i64.wrap (t7_2 + 1)) h_2) else (k false h_2)
def box_Name_l1b (t0_1:ByteArray) (t6_1:Int) (t7_1:Int) (k:(Bool)->Heap->Prop) (nx1:(Int)->Heap->Prop) (h_1:Heap):Prop :=
  if (decide (t7_1 < t6_1)) then (∃ v1:Int,(0:Int)<=t7_1/\StrAt t0_1 t7_1 v1/\(if ((decide (v1>=97)) && (decide (v1<=122))) then (box_Name_j2 t0_1 t6_1 t7_1 ((decide (v1>=97)) && (decide (v1<=122))) k nx1 h_1) else (if ((decide (v1>=48)) && (decide (v1<=57))) then (box_Name_j2 t0_1 t6_1 t7_1 ((decide (v1>=48)) && (decide (v1<=57))) k nx1 h_1) else (box_Name_j2 t0_1 t6_1 t7_1 (v1 == 45) k nx1 h_1)))) else (k ((decide ((t0_1.size:Int) > 0)) && (decide ((t0_1.size:Int)<=24))) h_1)
def box_Name_l1 (t0_1:ByteArray) (t6_1:Int) (i7:Int) (k:(Bool)->Heap->Prop) (h:Heap):Prop :=
  ∃ (I:Int->Heap->Prop) (μ:Int->Heap->Nat),I i7 h/\∀ (t7_1:Int) (h:Heap),I t7_1 h->box_Name_l1b t0_1 t6_1 t7_1 k (fun s h'=>I s h'/\μ s h' < μ t7_1 h) h
def box_Name (p0:ByteArray) (k:(Bool)->Heap->Prop) (h:Heap):Prop :=
  box_Name_l1 p0 (p0.size:Int) 0 k h
/-- quaestor box.Check -/
def box_Check_g2 (t18_2:Bool) (k:(Int)->Heap->Prop) (h_2:Heap):Prop :=
  if t18_2 then (k 1 h_2) else (k 0 h_2)
def box_Check_g1 (t1_1:Addr) (t12_1:Bool) (k:(Int)->Heap->Prop) (h_1:Heap):Prop :=
  if t12_1 then (box_Check_g2 true k h_1) else (∃ v6:Slc,cellH h_1 (t1_1.add 14)=some (Slc.v v6)/\(box_Check_g2 (decide ((v6.len:Int) > 4112)) k h_1))
def box_Check (p0:S_api_Box) (k:(Int)->Heap->Prop) (h:Heap):Prop :=
  ∃ (b1:Nat) (h2:Heap),b1=h.size/\h2=h.push (.cells (S_api_Box.cs p0).toArray 76)/\(∃ v3:ByteArray,cellH h2 (⟨b1,0,none⟩:Addr)=some (.string v3)/\(box_Name v3 (fun (r4:Bool) h5=>if (!r4) then (box_Check_g1 (⟨b1,0,none⟩:Addr) true k h5) else (∃ v7:Slc,cellH h5 ((⟨b1,0,none⟩:Addr).add 14)=some (Slc.v v7)/\(box_Check_g1 (⟨b1,0,none⟩:Addr) (decide ((v7.len:Int) < 16)) k h5))) h2))
/-- quaestor num.PutShort -/
def num_PutShort_l1b (t1_1:Int) (t5_1:Slc) (k:(Slc)->Heap->Prop) (nx1:(Int × Slc)->Heap->Prop) (h_1:Heap):Prop :=
  if (decide (t1_1>=128)) then (∃ (b3:Nat) (h4:Heap),b3=h_1.size/\h4=h_1.push (.cells ([.int .u8 (bwOr .u8 (IntKind.u8.wrap t1_1) 128)]).toArray 5)/\(App 5 1 1 [.int .u8 0] h4 t5_1 1 ([.int .u8 (bwOr .u8 (IntKind.u8.wrap t1_1) 128)]) (fun s5 h6=>∃ x7:Int,x7=(shr .u64 t1_1 (7:Int).toNat)/\(nx1 (x7,s5) h6)))) else (∃ (b8:Nat) (h9:Heap),b8=h_1.size/\h9=h_1.push (.cells ([.int .u8 (IntKind.u8.wrap t1_1)]).toArray 5)/\(App 5 1 1 [.int .u8 0] h9 t5_1 1 ([.int .u8 (IntKind.u8.wrap t1_1)]) (fun s10 h11=>k s10 h11)))
def num_PutShort_l1 (i1:Int) (i5:Slc) (k:(Slc)->Heap->Prop) (h:Heap):Prop :=
  ∃ (I:(Int × Slc)->Heap->Prop) (μ:(Int × Slc)->Heap->Nat),I (i1,i5) h/\∀ (t1_1:Int) (t5_1:Slc) (h:Heap),I (t1_1,t5_1) h->num_PutShort_l1b t1_1 t5_1 k (fun s h'=>I s h'/\μ s h' < μ (t1_1,t5_1) h) h
def num_PutShort (p0:Slc) (p1:Int) (k:(Slc)->Heap->Prop) (h:Heap):Prop :=
  slices_Clone_byte_byte p0 (fun (r1:Slc) h2=>num_PutShort_l1 p1 r1 k h2) h
/-- quaestor num.GetShort -/
def num_GetShort_l1b (t7_1:Slc) (t8_1:Int) (t2_1:Int) (t9_1:Int) (k:(Int × Int × Int)->Heap->Prop) (nx1:(Int × Int)->Heap->Prop) (h_1:Heap):Prop :=
  if (decide (t9_1 < t8_1)) then (∃ a1:Addr,t7_1.a=some a1/\(0:Int)<=t9_1/\t9_1 < (t7_1.len:Int)/\(∃ v2:Int,cellH h_1 (a1.add (t9_1.toNat * 1))=some (.int .u8 v2)/\(if ((t9_1 == 9) && (decide (v2 > 1))) then (k (0,0,4) h_1) else ((0:Int)<=(IntKind.u64.wrap (7 * (IntKind.u64.wrap t9_1)))/\(∃ x4:Int,x4=(bwOr .u64 t2_1 (shl .u64 (IntKind.u64.wrap (bwAnd .u8 v2 127)) (IntKind.u64.wrap (7 * (IntKind.u64.wrap t9_1))).toNat))/\(if (decide (v2>=128)) then (nx1 (x4,(IntKind.i64.wrap (t9_1 + 1))) h_1) else (if ((v2 == 0) && (decide (t9_1 > 0))) then (k (0,0,4) h_1) else (∃ x5:Int,x5=(IntKind.i64.wrap (t9_1 + 1))/\(k (x4,x5,0) h_1))))))))) else (k (0,0,2) h_1)
def num_GetShort_l1 (t7_1:Slc) (t8_1:Int) (i2:Int) (i9:Int) (k:(Int × Int × Int)->Heap->Prop) (h:Heap):Prop :=
  ∃ (I:(Int × Int)->Heap->Prop) (μ:(Int × Int)->Heap->Nat),I (i2,i9) h/\∀ (t2_1:Int) (t9_1:Int) (h:Heap),I (t2_1,t9_1) h->num_GetShort_l1b t7_1 t8_1 t2_1 t9_1 k (fun s h'=>I s h'/\μ s h' < μ (t2_1,t9_1) h) h
def num_GetShort (p0:Slc) (k:(Int × Int × Int)->Heap->Prop) (h:Heap):Prop :=
  num_GetShort_l1 p0 (p0.len:Int) 0 0 k h
/-- quaestor box.Put -/
def box_Put (p0:Slc) (p1:S_api_Box) (k:(Slc)->Heap->Prop) (h:Heap):Prop :=
  ∃ (b1:Nat) (h2:Heap),b1=h.size/\h2=h.push (.cells (S_api_Box.cs p1).toArray 76)/\(∃ v3:S_api_Box,CellsAt h2 (⟨b1,0,none⟩:Addr) (S_api_Box.cs v3)/\(box_Check v3 (fun (r4:Int) h5=>if (r4 != 0) then (slices_Clone_byte_byte p0 (fun (r6:Slc) h7=>k r6 h7) h5) else (∃ v8:ByteArray,cellH h5 (⟨b1,0,none⟩:Addr)=some (.string v8)/\(∃ v9:ByteArray,cellH h5 (⟨b1,0,none⟩:Addr)=some (.string v9)/\(num_PutShort p0 (IntKind.u64.wrap (v8.size:Int)) (fun (r10:Slc) h11=>cellH h11 (⟨b1,0,none⟩:Addr)=some (.string v9)/\(App 5 1 1 [.int .u8 0] h11 r10 v9.size (b8 (sB v9)) (fun s13 h14=>∃ v15:Int,cellH h14 ((⟨b1,0,none⟩:Addr).add 1)=some (.int .u32 v15)/\(∃ s16:Slc,(0:Int)<=0/\0<=(12:Int)/\12<=(12:Int)/\s16=subS ⟨some ((⟨b1,0,none⟩:Addr).add 2),12,12⟩ 1 (0:Int).toNat (12:Int).toNat 12/\(num_Put s13 (IntKind.u64.wrap v15) 4 (fun (r17:Slc) h18=>∃ l21:List Value,SlcAt h18 s16 l21/\App 5 1 1 [.int .u8 0] h18 r17 s16.len l21 (fun s19 h20=>∃ v22:Slc,cellH h20 ((⟨b1,0,none⟩:Addr).add 14)=some (Slc.v v22)/\(∃ v23:Slc,cellH h20 ((⟨b1,0,none⟩:Addr).add 14)=some (Slc.v v23)/\(num_PutShort s19 (IntKind.u64.wrap (v22.len:Int)) (fun (r24:Slc) h25=>cellH h25 ((⟨b1,0,none⟩:Addr).add 14)=some (Slc.v v23)/\(∃ l29:List Value,SlcAt h25 v23 l29/\App 5 1 1 [.int .u8 0] h25 r24 v23.len l29 (fun s27 h28=>k s27 h28))) h20)))) h14))))) h5)))) h2))
/-- (*quaestor box.reader).bytes -/
def box_reader_bytes_j1 (t0_1:Option Addr) (t1_1:Int) (k:(Slc)->Heap->Prop) (h_1:Heap):Prop :=
  ∃ a1:Addr,t0_1=some a1/\(∃ v2:Int,cellH h_1 (a1.add 2)=some (.int .i64 v2)/\(if (v2 != 0) then (k (⟨none,0,0⟩:Slc) h_1) else (∃ v3:Slc,cellH h_1 a1=some (Slc.v v3)/\(∃ v4:Int,cellH h_1 (a1.add 1)=some (.int .i64 v4)/\(∃ v5:Int,cellH h_1 (a1.add 1)=some (.int .i64 v5)/\(∃ s6:Slc,(0:Int)<=v4/\(v4:Int)<=(IntKind.i64.wrap (v5 + (IntKind.i64.wrap t1_1)))/\((IntKind.i64.wrap (v5 + (IntKind.i64.wrap t1_1))):Int)<=(v3.cap:Int)/\(v3.cap:Int)<=(v3.cap:Int)/\s6=subS v3 1 v4.toNat (IntKind.i64.wrap (v5 + (IntKind.i64.wrap t1_1))).toNat (v3.cap:Int).toNat/\(∃ v7:Int,cellH h_1 (a1.add 1)=some (.int .i64 v7)/\(∃ h8:Heap,WrH h_1 (a1.add 1)/\h8=setH h_1 (a1.add 1) (.int .i64 (IntKind.i64.wrap (v7 + (IntKind.i64.wrap t1_1))))/\(slices_Clone_byte_byte s6 (fun (r9:Slc) h10=>k r9 h10) h8)))))))))
def box_reader_bytes_g2 (t0_2:Option Addr) (t1_2:Int) (t25_2:Bool) (k:(Slc)->Heap->Prop) (h_2:Heap):Prop :=
  if t25_2 then (∃ a13:Addr,t0_2=some a13/\(∃ h14:Heap,WrH h_2 (a13.add 2)/\h14=setH h_2 (a13.add 2) (.int .i64 2)/\(box_reader_bytes_j1 t0_2 t1_2 k h14))) else (box_reader_bytes_j1 t0_2 t1_2 k h_2)
def box_reader_bytes (p0:Option Addr) (p1:Int) (k:(Slc)->Heap->Prop) (h:Heap):Prop :=
  ∃ a11:Addr,p0=some a11/\(∃ v12:Int,cellH h (a11.add 2)=some (.int .i64 v12)/\(if (v12 == 0) then (∃ v15:Slc,cellH h a11=some (Slc.v v15)/\(∃ v16:Int,cellH h (a11.add 1)=some (.int .i64 v16)/\(box_reader_bytes_g2 p0 p1 (decide (p1 > (IntKind.u64.wrap (IntKind.i64.wrap ((v15.len:Int) - v16))))) k h))) else (box_reader_bytes_g2 p0 p1 false k h)))
/-- (*quaestor box.reader).short -/
def box_reader_short (p0:Option Addr) (k:(Int)->Heap->Prop) (h:Heap):Prop :=
  ∃ a1:Addr,p0=some a1/\(∃ v2:Int,cellH h (a1.add 2)=some (.int .i64 v2)/\(if (v2 != 0) then (k 0 h) else (∃ v3:Slc,cellH h a1=some (Slc.v v3)/\(∃ v4:Int,cellH h (a1.add 1)=some (.int .i64 v4)/\(∃ s5:Slc,(0:Int)<=v4/\(v4:Int)<=(v3.len:Int)/\((v3.len:Int):Int)<=(v3.cap:Int)/\(v3.cap:Int)<=(v3.cap:Int)/\s5=subS v3 1 v4.toNat (v3.len:Int).toNat (v3.cap:Int).toNat/\(num_GetShort s5 (fun (r6:Int × Int × Int) h7=>∃ v8:Int,cellH h7 (a1.add 1)=some (.int .i64 v8)/\(∃ h9:Heap,WrH h7 (a1.add 1)/\h9=setH h7 (a1.add 1) (.int .i64 (IntKind.i64.wrap (v8 + r6.2.1)))/\(∃ h10:Heap,WrH h9 (a1.add 2)/\h10=setH h9 (a1.add 2) (.int .i64 r6.2.2)/\(k r6.1 h10)))) h))))))
/-- quaestor box.Get -/
def box_Get_j1 (t2_1:Addr) (t5_1:Addr) (k:(S_api_Box × Int × Int)->Heap->Prop) (h_1:Heap):Prop :=
  ∃ v26:Int,cellH h_1 (t5_1.add 2)=some (.int .i64 v26)/\(if (v26 != 0) then (∃ v27:Int,cellH h_1 (t5_1.add 2)=some (.int .i64 v27)/\(∃ h28:Heap,WrsAt h_1 t2_1 15/\h28=setsH h_1 t2_1 0 (S_api_Box.cs (⟨ByteArray.empty,0,([]:List Int),(⟨none,0,0⟩:Slc)⟩:S_api_Box))/\(∃ v29:S_api_Box,CellsAt h28 t2_1 (S_api_Box.cs v29)/\k (v29,0,v27) h28))) else (∃ v30:S_api_Box,CellsAt h_1 t2_1 (S_api_Box.cs v30)/\(∃ v31:Int,cellH h_1 (t5_1.add 1)=some (.int .i64 v31)/\(∃ h32:Heap,WrsAt h_1 t2_1 15/\h32=setsH h_1 t2_1 0 (S_api_Box.cs v30)/\(∃ v33:S_api_Box,CellsAt h32 t2_1 (S_api_Box.cs v33)/\k (v33,v31,0) h32)))))
def box_Get_g2 (t2_2:Addr) (t5_2:Addr) (t45_2:Bool) (k:(S_api_Box × Int × Int)->Heap->Prop) (h_2:Heap):Prop :=
  if t45_2 then (∃ h35:Heap,WrH h_2 (t5_2.add 2)/\h35=setH h_2 (t5_2.add 2) (.int .i64 4)/\(box_Get_j1 t2_2 t5_2 k h35)) else (box_Get_j1 t2_2 t5_2 k h_2)
def box_Get (p0:Slc) (k:(S_api_Box × Int × Int)->Heap->Prop) (h:Heap):Prop :=
  ∃ (b1:Nat) (h2:Heap),b1=h.size/\h2=h.push (.cells (S_api_Box.cs (⟨ByteArray.empty,0,([]:List Int),(⟨none,0,0⟩:Slc)⟩:S_api_Box)).toArray 76)/\(∃ (b3:Nat) (h4:Heap),b3=h2.size/\h4=h2.push (.cells (S_box_reader.cs (⟨p0,0,0⟩:S_box_reader)).toArray 171)/\(box_reader_short (some (⟨b3,0,none⟩:Addr)) (fun (r5:Int) h6=>box_reader_bytes (some (⟨b3,0,none⟩:Addr)) r5 (fun (r7:Slc) h8=>∃ l9:List Int,l9.length=r7.len/\SlcAt h8 r7 (b8 l9)/\(∃ h10:Heap,WrH h8 (⟨b1,0,none⟩:Addr)/\h10=setH h8 (⟨b1,0,none⟩:Addr) (.string (bsOf l9))/\(box_reader_bytes (some (⟨b3,0,none⟩:Addr)) 4 (fun (r11:Slc) h12=>num_Get r11 4 (fun (r13:Int × Int) h14=>∃ h15:Heap,WrH h14 ((⟨b1,0,none⟩:Addr).add 1)/\h15=setH h14 ((⟨b1,0,none⟩:Addr).add 1) (.int .u32 (IntKind.u32.wrap r13.1))/\(∃ s16:Slc,(0:Int)<=0/\0<=(12:Int)/\12<=(12:Int)/\s16=subS ⟨some ((⟨b1,0,none⟩:Addr).add 2),12,12⟩ 1 (0:Int).toNat (12:Int).toNat 12/\(box_reader_bytes (some (⟨b3,0,none⟩:Addr)) 12 (fun (r17:Slc) h18=>∃ l19:List Value,Cpy 1 h18 s16 r17 l19 (fun h20=>box_reader_short (some (⟨b3,0,none⟩:Addr)) (fun (r21:Int) h22=>box_reader_bytes (some (⟨b3,0,none⟩:Addr)) r21 (fun (r23:Slc) h24=>∃ h25:Heap,WrH h24 ((⟨b1,0,none⟩:Addr).add 14)/\h25=setH h24 ((⟨b1,0,none⟩:Addr).add 14) (Slc.v r23)/\(∃ v34:Int,cellH h25 ((⟨b3,0,none⟩:Addr).add 2)=some (.int .i64 v34)/\(if (v34 == 0) then (∃ v36:S_api_Box,CellsAt h25 (⟨b1,0,none⟩:Addr) (S_api_Box.cs v36)/\(box_Check v36 (fun (r37:Int) h38=>box_Get_g2 (⟨b1,0,none⟩:Addr) (⟨b3,0,none⟩:Addr) (r37 != 0) k h38) h25)) else (box_Get_g2 (⟨b1,0,none⟩:Addr) (⟨b3,0,none⟩:Addr) false k h25)))) h22) h20)) h15))) h12) h10))) h6) h4))
theorem O123:CallOk prog 123:=ck func123
theorem R123 (p0 k h) (H:box_Name p0 k h):CallsH prog 123 #[.string p0] h (fun v h'=>∃ r:Bool,v = .bool r/\k r h'):=by
 refine fE func123 fun w0=>?_
 refine zF [0] (zQ ?_)
 refine w1 tok (zE (zS (zQ ?_)))
 refine w3 tok (zE (zB ?_))
 obtain ⟨I1,μ1,H0,HI⟩:=H
 refine zO (σ:=Int) [0,6] (fun (s:Int)=>[(7,.int .i64 s)]) I1 μ1 0 H0 ?_
 rintro t7_1 h_1 H
 replace H:=HI t7_1 h_1 H
 refine zF [7,0,6] (zQ ?_)
 refine w1 tok (zE (zS ?_))
 refine zI H ?_ ?_ <;> intro H
 refine zK (zX (zS (zB (zQ (w2 tok (zE (zQ ?_)))))))
 refine w2 tok ?_
 obtain ⟨v1,lv1,hv1,H⟩:=H
 refine wY (y_ixs' tok rfl rfl rfl rfl lv1 hv1) ?_
 refine w1 tok (zE (zB ?_))
 refine zJ (α:=Bool) [0,6,7] (fun (s:Bool)=>[(13,.bool s)]) (fun (s:Bool) h=>box_Name_j2 p0 (p0.size:Int) t7_1 s k (fun s h'=>I1 s h'/\μ1 s h' < μ1 t7_1 h_1) h) ?_ ?_
 rintro t13_2 h_2 H
 refine zF [13,0,6,7] ?_
 refine zI H ?_ ?_ <;> intro H
 refine zK (yL (yL (zX (zR (w2 tok (zW ?_))))))
 exact xJ (IntKind.i64.wrap (t7_1 + 1)) H
 refine zQ (w1 tok (zE (zT (yB (yB (yT (yT (yB (yT ?_)))))))))
 exact x_ret _ rfl _ rfl ⟨false,rfl,H⟩
 refine zQ (w3 tok ?_)
 refine vU 3 [0,4,6,7] [(19,.bool ((decide (v1>=97)) && (decide (v1<=122))))] ?_ ?_
 refine w1 tok (zE ?_)
 refine zI H ?_ ?_ <;> intro H
 refine zK ?_
 exact xJ ((decide (v1>=97)) && (decide (v1<=122))) H
 refine zQ (w3 tok ?_)
 refine vU 3 [0,4,6,7] [(25,.bool ((decide (v1>=48)) && (decide (v1<=57))))] ?_ ?_
 refine w1 tok (zE ?_)
 refine zI H ?_ ?_ <;> intro H
 refine zK ?_
 exact xJ ((decide (v1>=48)) && (decide (v1<=57))) H
 refine zR (w3 tok (zW ?_))
 exact xJ (v1 == 45) H
 refine vG (d:=22) (fun hb=>?_) (fun hb=>?_)
 refine w3 tok ?_
 refine vK ?_
 exact congrArg (fun b=>some (Value.bool b)) (and_t hb)
 refine wS (wS (w1 tok ?_))
 refine vK ?_
 exact congrArg (fun b=>some (Value.bool b)) (and_f hb)
 refine vG (d:=16) (fun hb=>?_) (fun hb=>?_)
 refine w3 tok ?_
 refine vK ?_
 exact congrArg (fun b=>some (Value.bool b)) (and_t hb)
 refine wS (wS (w1 tok ?_))
 refine vK ?_
 exact congrArg (fun b=>some (Value.bool b)) (and_f hb)
 refine zY (yE (yE (yH (zX (zQ (w4 tok ?_))))))
 refine vU 4 [] [(36,.bool ((decide ((p0.size:Int) > 0)) && (decide ((p0.size:Int)<=24))))] ?_ ?_
 refine w1 tok (zE (zT ?_))
 exact x_ret _ rfl _ rfl ⟨((decide ((p0.size:Int) > 0)) && (decide ((p0.size:Int)<=24))),rfl,H⟩
 refine vG (d:=32) (fun hb=>?_) (fun hb=>?_)
 refine w4 tok ?_
 refine vK ?_
 exact congrArg (fun b=>some (Value.bool b)) (and_t hb)
 refine wS (wS (wS (w1 tok ?_)))
 refine vK ?_
 exact congrArg (fun b=>some (Value.bool b)) (and_f hb)
theorem O98:CallOk prog 98:=ck func98
theorem R98 (p0 k h) (H:box_Check p0 k h):CallsH prog 98 #[.agg (S_api_Box.cs p0).toArray] h (fun v h'=>∃ r:Int,v = .int .i64 r/\k r h'):=by
 refine fE func98 fun w0=>?_
 refine zF [0] (zQ ?_)
 refine wX H fun b1 h2 H=>?_
 refine w1 tok (zE (zS (zQ ?_)))
 refine w1 tok ?_
 refine wL tok H fun v3 H=>?_
 refine wC O123 (R123 _ _ _ H) fun r4 h5 H=>?_
 refine w2 tok ?_
 refine vJ 5 (α:=Bool) [1] (fun (s:Bool)=>[(12,.bool s)]) (fun (s:Bool) h=>box_Check_g1 (ad b1) s k h) ?_ ?_
 rintro t12_1 h_1 H
 refine vF [12,1] ?_
 refine w1 tok ?_
 refine vJ 5 (α:=Bool) [] (fun (s:Bool)=>[(18,.bool s)]) (fun (s:Bool) h=>box_Check_g2 s k h) ?_ ?_
 rintro t18_2 h_2 H
 refine vF [18] (zE ?_)
 refine zI H ?_ ?_ <;> intro H
 refine zQ (w1 tok (zE (zT (yT ?_))))
 exact x_ret _ rfl _ rfl ⟨1,rfl,H⟩
 refine zK (zX (zQ (w1 tok (zE (zT ?_)))))
 exact x_ret _ rfl _ rfl ⟨0,rfl,H⟩
 refine vI 13 H ?_ ?_ <;> intro H
 refine wS (wS (wS (wS (w1 tok ?_))))
 exact wJ true H
 refine w1 tok ?_
 refine wL tok H fun v6 H=>?_
 refine w3 tok ?_
 exact wJ (decide ((v6.len:Int) > 4112)) H
 refine vI 7 H ?_ ?_ <;> intro H
 refine wS (wS (wS (wS (w1 tok ?_))))
 exact wJ true H
 refine w1 tok ?_
 refine wL tok H fun v7 H=>?_
 refine w3 tok ?_
 exact wJ (decide ((v7.len:Int) < 16)) H
theorem O36:CallOk prog 36:=ck func36
theorem R36 (p0 p1 k h) (H:num_PutShort p0 p1 k h):CallsH prog 36 #[Slc.v p0,.int .u64 p1] h (fun v h'=>∃ r:Slc,v=Slc.v r/\k r h'):=by
 refine fE func36 fun w0=>?_
 refine zF [0,1] (zQ ?_)
 refine w1 tok (zE (zQ ?_))
 refine w1 tok ?_
 refine wC O64 (R64 _ _ _ H) fun r1 h2 H=>?_
 refine w1 tok (zE (zS (zB ?_)))
 obtain ⟨I1,μ1,H0,HI⟩:=H
 refine zO (σ:=Int × Slc) [] (fun (s:Int × Slc)=>[(1,.int .u64 s.1),(5,Slc.v s.2)]) I1 μ1 (p1,r1) H0 ?_
 rintro ⟨t1_1,t5_1⟩ h_1 H
 replace H:=HI t1_1 t5_1 h_1 H
 refine zF [1,5] (zS (zQ ?_))
 refine w2 tok (zE ?_)
 refine zI H ?_ ?_ <;> intro H
 refine zK (zX (zS (zB (zR (w4 tok ?_)))))
 obtain ⟨b3,h4,eb3,eh4,H⟩:=H
 refine wH (h_bs tok rfl rfl rfl rfl rfl rfl rfl eb3 eh4) ?_
 refine wA (a_app (s:=t5_1) (r:=(⟨some ⟨b3,0,none⟩,1,1⟩:Slc)) tok rfl rfl rfl rfl rfl (slcAt_push eb3 eh4) H) ?_
 rintro _ h6 ⟨s5,rfl,H⟩
 refine w1 tok (zL (zX (zF [1,5] (zR ?_))))
 refine w2 tok ?_
 obtain ⟨x7,ex7,H⟩:=H
 refine w_pe tok rfl (congrArg (fun z=>(.int .u64 z:Value)) ex7) rfl rfl ?_
 refine zW ?_
 exact xJ (x7,s5) H
 refine zY (yE (yE (yH (zX (zQ (w3 tok ?_))))))
 obtain ⟨b8,h9,eb8,eh9,H⟩:=H
 refine wH (h_bs tok rfl rfl rfl rfl rfl rfl rfl eb8 eh9) ?_
 refine wA (a_app (s:=t5_1) (r:=(⟨some ⟨b8,0,none⟩,1,1⟩:Slc)) tok rfl rfl rfl rfl rfl (slcAt_push eb8 eh9) H) ?_
 rintro _ h11 ⟨s10,rfl,H⟩
 refine w1 tok (zE (zF [4] (zT ?_)))
 exact x_ret _ rfl _ rfl ⟨s10,rfl,H⟩
theorem O70:CallOk prog 70:=ck func70
theorem R70 (p0 k h) (H:num_GetShort p0 k h):CallsH prog 70 #[Slc.v p0] h (fun v h'=>∃ r:Int × Int × Int,v = .tuple #[.int .u64 r.1,.int .i64 r.2.1,.int .i64 r.2.2]/\k r h'):=by
 refine fE func70 fun w0=>?_
 refine zF [0] (zQ ?_)
 refine w3 tok (zE (zS (zQ ?_)))
 refine w3 tok (zE (zB ?_))
 obtain ⟨I1,μ1,H0,HI⟩:=H
 refine zO (σ:=Int × Int) [7,8] (fun (s:Int × Int)=>[(2,.int .u64 s.1),(9,.int .i64 s.2)]) I1 μ1 (0,0) H0 ?_
 rintro ⟨t2_1,t9_1⟩ h_1 H
 replace H:=HI t2_1 t9_1 h_1 H
 refine zF [2,9,7,8] (zQ ?_)
 refine w1 tok (zE (zS ?_))
 refine zI H ?_ ?_ <;> intro H
 refine zK (zX (zS (zB (zQ (w1 tok ?_)))))
 refine wD tok H fun a1 _ H=>?_
 refine wL tok H fun v2 H=>?_
 refine w2 tok (zE (zS (zQ ?_)))
 refine w3 tok ?_
 refine vU 3 [2,5,6,7,8,9] [(19,.bool ((t9_1 == 9) && (decide (v2 > 1))))] ?_ ?_
 refine zE ?_
 refine zI H ?_ ?_ <;> intro H
 refine zQ (w3 tok (zE (zT (yT (yB (yT (yT (yB (yT ?_)))))))))
 exact x_ret _ rfl _ rfl ⟨(0,0,4),rfl,H⟩
 refine zK (zX (zQ (w6 tok ?_)))
 refine w1 tok ?_
 obtain ⟨z3,H⟩:=H
 refine wY (y_shl rfl rfl rfl z3) ?_
 refine w1 tok ?_
 obtain ⟨x4,ex4,H⟩:=H
 refine w_pe tok rfl (congrArg (fun z=>(.int .u64 z:Value)) ex4) rfl rfl ?_
 refine zE (zF [2,5,6,7,8,9] (zS (zQ ?_)))
 refine w2 tok (zE ?_)
 refine zI H ?_ ?_ <;> intro H
 refine zY (yE (yH (zX (zR (w2 tok (zW ?_))))))
 exact xJ (x4,(IntKind.i64.wrap (t9_1 + 1))) H
 refine zK (zX (zS (zQ (w3 tok ?_))))
 refine vU 3 [2,5] [(36,.bool ((v2 == 0) && (decide (t9_1 > 0))))] ?_ ?_
 refine zE ?_
 refine zI H ?_ ?_ <;> intro H
 refine zQ (w3 tok (zE (zT (yT (yB (yT (yT (yB (yT ?_)))))))))
 exact x_ret _ rfl _ rfl ⟨(0,0,4),rfl,H⟩
 refine zK (zX (zQ (w4 tok ?_)))
 obtain ⟨x5,ex5,H⟩:=H
 refine w_pe tok rfl (congrArg (fun z=>(.int .i64 z:Value)) ex5) rfl rfl ?_
 refine w1 tok (zE (zT (yB (yT (yT (yB (yT ?_)))))))
 exact x_ret _ rfl _ rfl ⟨(x4,x5,0),rfl,H⟩
 refine vG (d:=33) (fun hb=>?_) (fun hb=>?_)
 refine w3 tok ?_
 refine vK ?_
 exact congrArg (fun b=>some (Value.bool b)) (and_t hb)
 refine wS (wS (w1 tok ?_))
 refine vK ?_
 exact congrArg (fun b=>some (Value.bool b)) (and_f hb)
 refine vG (d:=16) (fun hb=>?_) (fun hb=>?_)
 refine w3 tok ?_
 refine vK ?_
 exact congrArg (fun b=>some (Value.bool b)) (and_t hb)
 refine wS (wS (w1 tok ?_))
 refine vK ?_
 exact congrArg (fun b=>some (Value.bool b)) (and_f hb)
 refine zY (yE (yE (yH (zX (zQ (w3 tok (zE (zT ?_))))))))
 exact x_ret _ rfl _ rfl ⟨(0,0,2),rfl,H⟩
theorem O65:CallOk prog 65:=ck func65
theorem R65 (p0 p1 k h) (H:box_Put p0 p1 k h):CallsH prog 65 #[Slc.v p0,.agg (S_api_Box.cs p1).toArray] h (fun v h'=>∃ r:Slc,v=Slc.v r/\k r h'):=by
 refine fE func65 fun w0=>?_
 refine zF [0,1] (zQ ?_)
 refine wX H fun b1 h2 H=>?_
 refine w1 tok (zE (zS (zQ ?_)))
 refine wLa tok H fun v3 H=>?_
 refine wC O98 (R98 _ _ _ H) fun r4 h5 H=>?_
 refine w1 tok (zE ?_)
 refine zI H ?_ ?_ <;> intro H
 refine zQ (w1 tok ?_)
 refine wC O64 (R64 _ _ _ H) fun r6 h7 H=>?_
 refine w1 tok (zE (zF [4] (zT (yT ?_))))
 exact x_ret _ rfl _ rfl ⟨r6,rfl,H⟩
 refine zK (zX (zS ?_))
 refine gB [0,3] ?_
 refine gT 0 [0] tok ?_
 refine gT 1 [3] tok ?_
 obtain ⟨v8,hv8,H⟩:=H
 refine gL 2 [12] rfl (y_ld tok rfl rfl rfl rfl hv8) ?_
 refine gT 3 [13] tok ?_
 refine gT 4 [14] tok ?_
 refine gT 6 [3] tok ?_
 obtain ⟨v9,hv9,H⟩:=H
 refine gL 7 [17] rfl (y_ld tok rfl rfl rfl rfl hv9) ?_
 refine gCr 5 [11,15] O36 (R36 _ _ _ _ H) fun r10 h11 H=>?_
 obtain ⟨hy12,H⟩:=H
 refine gR rfl (y_ld tok rfl rfl rfl rfl hy12) ?_
 refine gZ0 ?_
 refine gA 8 [16,18] rfl (a_apps (s:=r10) (str:=v9) tok rfl rfl rfl rfl rfl rfl H) ?_
 rintro _ h14 ⟨s13,rfl,H⟩
 refine gT 9 [19] tok ?_
 refine gZ ?_
 refine zX (zF [3,5] (zS ?_))
 refine gB [3,5] ?_
 refine gT 0 [5] tok ?_
 refine gT 1 [3] tok ?_
 obtain ⟨v15,hv15,H⟩:=H
 refine gL 2 [21] rfl (y_ld tok rfl rfl rfl rfl hv15) ?_
 refine gT 3 [22] tok ?_
 refine gT 5 [3] tok ?_
 obtain ⟨s16,ps16,qs16,rs16,es16,H⟩:=H
 refine gYe 6 [25] rfl (fun _=>y_sla (L:=0) (H:=12) tok rfl rfl rfl rfl rfl rfl ps16 qs16 rs16) (congrArg Slc.v es16) ?_
 refine gC 4 [20,23] O99 (R99 _ _ _ _ _ H) fun r17 h18 H=>?_
 obtain ⟨l21,hl21,H⟩:=H
 refine gA 7 [24,26] rfl (a_app (s:=r17) (r:=s16) tok rfl rfl rfl rfl rfl hl21 H) ?_
 rintro _ h20 ⟨s19,rfl,H⟩
 refine gT 8 [27] tok ?_
 refine gZ ?_
 refine zX (zF [3,5] (zS ?_))
 refine gB [3,5] ?_
 refine gT 0 [5] tok ?_
 refine gT 1 [3] tok ?_
 obtain ⟨v22,hv22,H⟩:=H
 refine gL 2 [29] rfl (y_ld tok rfl rfl rfl rfl hv22) ?_
 refine gT 3 [30] tok ?_
 refine gT 4 [31] tok ?_
 refine gT 6 [3] tok ?_
 obtain ⟨v23,hv23,H⟩:=H
 refine gL 7 [34] rfl (y_ld tok rfl rfl rfl rfl hv23) ?_
 refine gCr 5 [28,32] O36 (R36 _ _ _ _ H) fun r24 h25 H=>?_
 obtain ⟨hy26,H⟩:=H
 refine gR rfl (y_ld tok rfl rfl rfl rfl hy26) ?_
 refine gZ0 ?_
 obtain ⟨l29,hl29,H⟩:=H
 refine gA 8 [33,35] rfl (a_app (s:=r24) (r:=v23) tok rfl rfl rfl rfl rfl hl29 H) ?_
 rintro _ h28 ⟨s27,rfl,H⟩
 refine gT 9 [36] tok ?_
 refine gZ ?_
 refine zX (zF [4] (zT ?_))
 exact x_ret _ rfl _ rfl ⟨s27,rfl,H⟩
theorem O102:CallOk prog 102:=ck func102
theorem R102 (p0 p1 k h) (H:box_reader_bytes p0 p1 k h):CallsH prog 102 #[.pointer p0,.int .u64 p1] h (fun v h'=>∃ r:Slc,v=Slc.v r/\k r h'):=by
 refine fE func102 fun w0=>?_
 refine zF [0,1] (zQ ?_)
 refine w1 tok (zE ?_)
 refine zJ (α:=Unit) [0,1] (fun (s:Unit)=>[]) (fun (s:Unit) h=>box_reader_bytes_j1 p0 p1 k h) ?_ ?_
 rintro _ h_1 H
 refine zF [0,1] (zS (zQ ?_))
 refine w1 tok ?_
 refine wN H fun a1 ha1 H=>?_
 refine w1 tok ?_
 refine wL tok H fun v2 H=>?_
 refine w1 tok (zE ?_)
 refine zI H ?_ ?_ <;> intro H
 refine zQ (w1 tok (zE (zF [4] (zT (yT ?_)))))
 exact x_ret _ rfl _ rfl ⟨(⟨none,0,0⟩:Slc),rfl,H⟩
 refine zK (zX (zS ?_))
 refine c_draw (by kernel_rfl) (by kernel_rfl) ?_
 refine q_p tok rfl rfl rfl ?_
 refine q_y (y_nil' rfl rfl ha1) rfl rfl ?_
 refine q_p tok rfl rfl rfl ?_
 obtain ⟨v3,hv3,H⟩:=H
 refine q_y (y_ld tok rfl rfl rfl rfl hv3) rfl rfl ?_
 refine q_p tok rfl rfl rfl ?_
 refine q_y (y_nil' rfl rfl ha1) rfl rfl ?_
 refine q_p tok rfl rfl rfl ?_
 obtain ⟨v4,hv4,H⟩:=H
 refine q_y (y_ld tok rfl rfl rfl rfl hv4) rfl rfl ?_
 refine q_p tok rfl rfl rfl ?_
 refine q_y (y_nil' rfl rfl ha1) rfl rfl ?_
 refine q_p tok rfl rfl rfl ?_
 obtain ⟨v5,hv5,H⟩:=H
 refine q_y (y_ld tok rfl rfl rfl rfl hv5) rfl rfl ?_
 refine q_p tok rfl rfl rfl ?_
 refine q_p tok rfl rfl rfl ?_
 refine q_p tok rfl rfl rfl ?_
 obtain ⟨s6,ps6,qs6,rs6,ts6,es6,H⟩:=H
 refine q_ye (y_sl (s:=v3) (L:=v4) (H:=(IntKind.i64.wrap (v5 + (IntKind.i64.wrap p1)))) (M:=(v3.cap:Int)) tok rfl rfl rfl rfl rfl rfl rfl (by simp) ps6 qs6 rs6 ts6) (congrArg Slc.v es6) rfl rfl ?_
 refine q_p tok rfl rfl rfl ?_
 refine q_end ?_
 refine zX (zF [0,1,5] (zQ ?_))
 refine w1 tok ?_
 refine wY (y_nil' rfl rfl ha1) ?_
 refine w1 tok ?_
 refine wL tok H fun v7 H=>?_
 refine w3 tok ?_
 refine wY (y_nil' rfl rfl ha1) ?_
 refine w1 tok ?_
 refine wT tok H fun h8 H=>?_
 refine zE (zF [5] (zQ ?_))
 refine w1 tok ?_
 refine wC O64 (R64 _ _ _ H) fun r9 h10 H=>?_
 refine w1 tok (zE (zT ?_))
 exact x_ret _ rfl _ rfl ⟨r9,rfl,H⟩
 refine zS ?_
 refine c_draw (by kernel_rfl) (by kernel_rfl) ?_
 refine q_p tok rfl rfl rfl ?_
 obtain ⟨a11,ha11,H⟩:=H
 refine q_y (y_nil' rfl rfl ha11) rfl rfl ?_
 refine q_p tok rfl rfl rfl ?_
 obtain ⟨v12,hv12,H⟩:=H
 refine q_y (y_ld tok rfl rfl rfl rfl hv12) rfl rfl ?_
 refine q_p tok rfl rfl rfl ?_
 refine q_p tok rfl rfl rfl ?_
 refine q_cut 14 (α:=Bool) (fun (s:Bool)=>[(25,.bool s),(0,.pointer p0),(1,.int .u64 p1)]) (fun (s:Bool)=>box_reader_bytes_g2 p0 p1 s k h) ?_ ?_
 rintro t25_2 H
 refine q_weak [(25,.bool t25_2),(0,.pointer p0),(1,.int .u64 p1)] ⟨rfl,rfl,rfl,trivial⟩ ?_
 refine q_end ?_
 refine zX ?_
 refine zI H ?_ ?_ <;> intro H
 refine zR (w1 tok ?_)
 refine wN H fun a13 _ H=>?_
 refine w1 tok ?_
 refine wT tok H fun h14 H=>?_
 refine zW ?_
 exact xJ () H
 refine zK ?_
 exact xJ () H
 refine q_gif (d:=11) H rfl (fun H=>?_) (fun H=>?_)
 refine q_p tok rfl rfl rfl ?_
 refine q_p tok rfl rfl rfl ?_
 refine q_y (y_nil' rfl rfl ha11) rfl rfl ?_
 refine q_p tok rfl rfl rfl ?_
 obtain ⟨v15,hv15,H⟩:=H
 refine q_y (y_ld tok rfl rfl rfl rfl hv15) rfl rfl ?_
 refine q_p tok rfl rfl rfl ?_
 refine q_p tok rfl rfl rfl ?_
 refine q_y (y_nil' rfl rfl ha11) rfl rfl ?_
 refine q_p tok rfl rfl rfl ?_
 obtain ⟨v16,hv16,H⟩:=H
 refine q_y (y_ld tok rfl rfl rfl rfl hv16) rfl rfl ?_
 refine q_p tok rfl rfl rfl ?_
 refine q_p tok rfl rfl rfl ?_
 refine q_p tok rfl rfl rfl ?_
 refine q_p tok rfl rfl rfl ?_
 exact q_jn (decide (p1 > (IntKind.u64.wrap (IntKind.i64.wrap ((v15.len:Int) - v16))))) H ⟨rfl,rfl,rfl,trivial⟩
 refine q_skip rfl rfl ?_
 refine q_skip rfl rfl ?_
 refine q_skip rfl rfl ?_
 refine q_skip rfl rfl ?_
 refine q_skip rfl rfl ?_
 refine q_skip rfl rfl ?_
 refine q_skip rfl rfl ?_
 refine q_skip rfl rfl ?_
 refine q_skip rfl rfl ?_
 refine q_skip rfl rfl ?_
 refine q_skip rfl rfl ?_
 refine q_skip rfl rfl ?_
 refine q_skip rfl rfl ?_
 refine q_p tok rfl rfl rfl ?_
 exact q_jn false H ⟨rfl,rfl,rfl,trivial⟩
theorem O103:CallOk prog 103:=ck func103
theorem R103 (p0 k h) (H:box_reader_short p0 k h):CallsH prog 103 #[.pointer p0] h (fun v h'=>∃ r:Int,v = .int .u64 r/\k r h'):=by
 refine fE func103 fun w0=>?_
 refine zF [0] (zQ ?_)
 refine w1 tok (zE (zS (zQ ?_)))
 refine w1 tok ?_
 refine wN H fun a1 ha1 H=>?_
 refine w1 tok ?_
 refine wL tok H fun v2 H=>?_
 refine w1 tok (zE ?_)
 refine zI H ?_ ?_ <;> intro H
 refine zQ (w1 tok (zE (zT (yT ?_))))
 exact x_ret _ rfl _ rfl ⟨0,rfl,H⟩
 refine zK (zX (zS ?_))
 refine gB [0] ?_
 refine gT 0 [0] tok ?_
 refine gY 1 [12] rfl (fun _=>y_nil' rfl rfl ha1) ?_
 refine gT 2 [13] tok ?_
 obtain ⟨v3,hv3,H⟩:=H
 refine gL 3 [14] rfl (y_ld tok rfl rfl rfl rfl hv3) ?_
 refine gT 4 [0] tok ?_
 refine gY 5 [16] rfl (fun _=>y_nil' rfl rfl ha1) ?_
 refine gT 6 [17] tok ?_
 obtain ⟨v4,hv4,H⟩:=H
 refine gL 7 [18] rfl (y_ld tok rfl rfl rfl rfl hv4) ?_
 obtain ⟨s5,ps5,qs5,rs5,ts5,es5,H⟩:=H
 refine gYe 8 [15,19] rfl (fun _=>y_sl (s:=v3) (L:=v4) (H:=(v3.len:Int)) (M:=(v3.cap:Int)) tok rfl rfl rfl rfl rfl rfl rfl (by simp) ps5 qs5 rs5 ts5) (congrArg Slc.v es5) ?_
 refine gC 9 [20] O70 (R70 _ _ _ H) fun r6 h7 H=>?_
 refine gT 10 [21] tok ?_
 refine gT 11 [11] tok ?_
 refine gT 12 [11] tok ?_
 refine gT 13 [11] tok ?_
 refine gT 14 [22] tok ?_
 refine gT 15 [23] tok ?_
 refine gT 16 [24] tok ?_
 refine gZ ?_
 refine zX (zF [0,3,4,5] (zQ ?_))
 refine w1 tok ?_
 refine wY (y_nil' rfl rfl ha1) ?_
 refine w1 tok ?_
 refine wL tok H fun v8 H=>?_
 refine w2 tok ?_
 refine wY (y_nil' rfl rfl ha1) ?_
 refine w1 tok ?_
 refine wT tok H fun h9 H=>?_
 refine zE (zF [0,3,5] (zQ ?_))
 refine w2 tok ?_
 refine wY (y_nil' rfl rfl ha1) ?_
 refine w1 tok ?_
 refine wT tok H fun h10 H=>?_
 refine zE (zQ (w2 tok (zE (zF [2] (zT ?_)))))
 exact x_ret _ rfl _ rfl ⟨r6.1,rfl,H⟩
theorem O72:CallOk prog 72:=ck func72
theorem R72 (p0 k h) (H:box_Get p0 k h):CallsH prog 72 #[Slc.v p0] h (fun v h'=>∃ r:S_api_Box × Int × Int,v = .tuple #[.agg (S_api_Box.cs r.1).toArray,.int .i64 r.2.1,.int .i64 r.2.2]/\k r h'):=by
 refine fE func72 fun w0=>?_
 refine zF [0] (zQ ?_)
 refine wB tok H fun b1 h2 H=>?_
 refine w2 tok (zE (zQ ?_))
 refine w1 tok ?_
 refine wY (y_build tok rfl rfl rfl rfl rfl) ?_
 refine wX H fun b3 h4 H=>?_
 refine w1 tok (zE (zQ ?_))
 refine w2 tok ?_
 refine wC O103 (R103 _ _ _ H) fun r5 h6 H=>?_
 refine wC O102 (R102 _ _ _ _ H) fun r7 h8 H=>?_
 obtain ⟨l9,ll9,hl9,H⟩:=H
 refine wY (y_b2s (s:=r7) (l:=l9) tok rfl rfl rfl rfl rfl ll9 hl9) ?_
 refine w1 tok ?_
 refine wT tok H fun h10 H=>?_
 refine zE (zF [2,5] (zQ ?_))
 refine w1 tok ?_
 refine wC O102 (R102 _ _ _ _ H) fun r11 h12 H=>?_
 refine wC O104 (R104 _ _ _ _ H) fun r13 h14 H=>?_
 refine w5 tok (zE (zF [2,5,6] (zQ ?_)))
 refine w3 tok ?_
 refine wT tok H fun h15 H=>?_
 refine zE (zS ?_)
 refine gB [2,5] ?_
 refine gT 0 [2] tok ?_
 obtain ⟨s16,ps16,qs16,rs16,es16,H⟩:=H
 refine gYe 1 [26] rfl (fun _=>y_sla (L:=0) (H:=12) tok rfl rfl rfl rfl rfl rfl ps16 qs16 rs16) (congrArg Slc.v es16) ?_
 refine gT 2 [5] tok ?_
 refine gC 3 [28] O102 (R102 _ _ _ _ H) fun r17 h18 H=>?_
 obtain ⟨l19,H⟩:=H
 refine gA 4 [27,29] rfl (a_cpy (d:=s16) (s:=r17) tok rfl rfl rfl rfl rfl H) ?_
 rintro _ h20 ⟨rfl,H⟩
 refine gZ ?_
 refine zX (zQ (w2 tok ?_))
 refine wC O103 (R103 _ _ _ H) fun r21 h22 H=>?_
 refine wC O102 (R102 _ _ _ _ H) fun r23 h24 H=>?_
 refine w1 tok ?_
 refine wT tok H fun h25 H=>?_
 refine zE (zF [2,5] ?_)
 refine zJ (α:=Unit) [2,5] (fun (s:Unit)=>[]) (fun (s:Unit) h=>box_Get_j1 (ad b1) (ad b3) k h) ?_ ?_
 rintro _ h_1 H
 refine zF [2,5] (zS (zQ ?_))
 refine w1 tok ?_
 refine wY (y_nil rfl rfl) ?_
 refine w1 tok ?_
 refine wL tok H fun v26 H=>?_
 refine w1 tok (zE ?_)
 refine zI H ?_ ?_ <;> intro H
 refine zQ ?_
 refine wY (y_build tok rfl rfl rfl rfl rfl) ?_
 refine w1 tok ?_
 refine wY (y_nil rfl rfl) ?_
 refine w1 tok ?_
 refine wL tok H fun v27 H=>?_
 refine wTa tok H fun h28 H=>?_
 refine w2 tok (zE (zF [2,3,4] (zT (yT ?_))))
 obtain ⟨v29,hv29,H⟩:=H
 exact x_retc tok _ rfl [.agg (S_api_Box.cs v29).toArray,.int .i64 0,.int .i64 v27] ⟨⟨_,_,rfl,rfl,.inr ⟨rfl,_,rfl,rfl,hv29⟩⟩,rfl,rfl,trivial⟩ ⟨(v29,0,v27),rfl,H⟩
 refine zK (zX (zS ?_))
 refine gB [2,5] ?_
 obtain ⟨v30,hv30,H⟩:=H
 refine gL 0 [2] rfl (y_lda tok rfl rfl rfl rfl rfl hv30) ?_
 refine gT 1 [5] tok ?_
 refine gY 2 [60] rfl (fun _=>y_nil rfl rfl) ?_
 refine gT 3 [61] tok ?_
 obtain ⟨v31,hv31,H⟩:=H
 refine gL 4 [62] rfl (y_ld tok rfl rfl rfl rfl hv31) ?_
 obtain ⟨h32,wh32,eh32,H⟩:=H
 refine gH 5 [2,59] rfl (h_sts tok rfl rfl rfl rfl rfl (oneC (by kernel_rfl)) wh32 eh32) ?_
 refine gT 6 [63] tok ?_
 refine gT 7 [] tok ?_
 refine gZ ?_
 refine zX (zT ?_)
 obtain ⟨v33,hv33,H⟩:=H
 exact x_retc tok _ rfl [.agg (S_api_Box.cs v33).toArray,.int .i64 v31,.int .i64 0] ⟨⟨_,_,rfl,rfl,.inr ⟨rfl,_,rfl,rfl,hv33⟩⟩,rfl,rfl,trivial⟩ ⟨(v33,v31,0),rfl,H⟩
 refine zQ (w1 tok ?_)
 refine wY (y_nil rfl rfl) ?_
 refine w1 tok ?_
 refine wL tok H fun v34 H=>?_
 refine w2 tok ?_
 refine vJ 4 (α:=Bool) [2,5] (fun (s:Bool)=>[(45,.bool s)]) (fun (s:Bool) h=>box_Get_g2 (ad b1) (ad b3) s k h) ?_ ?_
 rintro t45_2 h_2 H
 refine vF [45,2,5] (zE ?_)
 refine zI H ?_ ?_ <;> intro H
 refine zR (w1 tok ?_)
 refine wY (y_nil rfl rfl) ?_
 refine w1 tok ?_
 refine wT tok H fun h35 H=>?_
 refine zW ?_
 exact xJ () H
 refine zK ?_
 exact xJ () H
 refine vI 41 H ?_ ?_ <;> intro H
 refine wLa tok H fun v36 H=>?_
 refine wC O98 (R98 _ _ _ H) fun r37 h38 H=>?_
 refine w2 tok ?_
 exact wJ (r37 != 0) H
 refine wS (wS (wS (w1 tok ?_)))
 exact wJ false H
end Go.Q.Yk
end
section
/- Frames. -/
namespace Go.Q
theorem Blk.unlike {h:Heap} {a b E E':Nat} {xs ys:List Value} (p:Blk h a xs E) (q:Blk h b ys E') (hE:E≠E'):a≠b:=fun e=>by
 subst e
 unfold Blk at p q
 obtain ⟨_,_,p1,_⟩:=p
 obtain ⟨_,_,q1,_⟩:=q
 rw [p1] at q1; cases q1; exact hE rfl
theorem Row.unlike {h:Heap} {B a E w E':Nat} {s:Slc} {xs ys:List Value} (R:Row B h E w s xs) (q:Blk h a ys E') (hE:E≠E'):s.blk≠some a:=fun e=>by
 rcases R.2.2 with ⟨k,_⟩ | ⟨g,cur,a1,a2,a3,_⟩
 ·simp [Slc.blk,k] at e
 ·simp [Slc.blk,a1] at e
  subst e
  exact Blk.unlike a3 q hE rfl
end Go.Q
end
section
set_option maxRecDepth 100000
/- Bytes: copies, forms. -/
namespace Go.Q.Yk
theorem bwOr64 {a b:Nat} (ha:a < 18446744073709551616) (hb:b < 18446744073709551616):bwOr .u64 a b=((a ||| b:Nat):Int):=by
 show IntKind.u64.wrap ((BitVec.ofInt 64 (a:Int) ||| BitVec.ofInt 64 (b:Int)).toNat:Int)=_
 rw [or_nat 64 a b (by omega) (by omega),wU64]
 have:=Nat.or_lt_two_pow (n:=64) (x:=a) (y:=b) (by omega) (by omega)
 omega
theorem slc_get {h:Heap} {s:Slc} {vs:List Value} (S:SlcAt h s vs) {i:Nat} {v:Value} (hv:vs[i]? = some v):∃ a,s.a=some a/\cellH h (a.add i)=some v:=by
 cases ha:s.a with
 | none=>have:=S.1 ha; subst this; simp at hv
 | some a=>exact ⟨a,rfl,S.2 a ha i v hv⟩
theorem or8 {n b:Int} (n0:0<=n) (n1:n < 72057594037927936) (hb:0<=b/\b < 256):bwOr .u64 (shl .u64 n (8:Int).toNat) (IntKind.u64.wrap b)=n * 256 + b:=by
 have es:shl .u64 n (8:Int).toNat=n * 256:=by
  unfold shl
  rw [show (2:Int) ^ (min (8:Int).toNat IntKind.u64.bits)=256 from rfl,wU64]; omega
 rw [es,wrapU64 (by omega) (by omega)]
 obtain ⟨a,rfl⟩:∃ a:Nat,n=a:=⟨n.toNat,by omega⟩
 obtain ⟨d,rfl⟩:∃ d:Nat,b=d:=⟨b.toNat,by omega⟩
 have:=or_add (a:=a) (b:=d) (i:=8) (by omega)
 rw [show ((a:Int) * 256)=((a * 2 ^ 8:Nat):Int) from by simp,bwOr64 (by omega) (by omega),this]
 simp
theorem numL_drop {l:List Int} {i:Nat} {b:Int} (h:l[i]? = some b):numL (l.drop i)=b + 256 * numL (l.drop (i + 1)):=by
 have hi:=(List.getElem?_eq_some_iff.1 h).1
 rw [List.drop_eq_getElem_cons hi]
 have:l[i]=b:=(List.getElem?_eq_some_iff.1 h).2
 rw [this]; rfl
theorem shr64_8 (n:Int):shr .u64 n (8:Int).toNat=n / 256:=by
 unfold shr
 rw [show (2:Int) ^ (min (8:Int).toNat IntKind.u64.bits)=256 from rfl,Int.fdiv_eq_ediv_of_nonneg _ (by omega)]
theorem AppB {B:Nat} {h:Heap} {s:Slc} {l m:List Int} {n:Nat} {k:Slc->Heap->Prop} (R:Row B h 5 1 s (b8 l)) (hB:B<=h.size) (hn:n=m.length) (hl:l.length + m.length<=70368744177664)
  (H:∀ s' h',Row B h' 5 1 s' (b8 (l ++ m))->Ext B h h'->k s' h'):App 5 1 1 [.int .u8 0] h s n (b8 m) k:=by
 subst hn
 have:=R.len
 simp at this
 refine App.row R hB rfl (by simp) (b8_one m) (by omega) (by simp only [maxLen]; omega) fun s' h' R' _ hz ho _=>H s' h' ?_ ⟨hz,fun i hi=>ho i (by omega) fun e=>by have:=(R.bd e).1; omega⟩
 simpa using R'
theorem Row.pb {B:Nat} {h:Heap} {s:Slc} {l:List Int} (R:Row B h 5 1 s (b8 l)):s.len=l.length:=by have:=R.len; simpa using this
theorem Clone_ok {p0:Slc} {l:List Int} {k:Slc->Heap->Prop} {h:Heap} (hl:p0.len=l.length) (hs:SlcAt h p0 (b8 l)) (hsz:l.length<=70368744177664)
  (H:∀ s' h',Row h.size h' 5 1 s' (b8 l)->Ext h.size h h'->k s' h'):slices_Clone_byte_byte p0 k h:=by
 unfold slices_Clone_byte_byte
 cases ha:p0.a with
 | none =>
  rw [if_pos (by simp)]
  have hn:l=[]:=by have:=hs.1 ha; simpa using this
  subst hn
  exact H _ _ (Row.nil _ _ _ _) (Ext.refl _ _)
 | some a =>
  rw [if_neg (by simp)]
  have hp:∀ o:Obj,Ext h.size h (h.push o):=fun o=>Ext.push h o (Nat.le_refl _)
  refine ⟨_,_,rfl,rfl,b8 l,hs.ext (hp _),?_⟩
  have R:Row h.size (h.push (.cells ([]:List Value).toArray 5)) 5 1 ⟨some ⟨h.size,0,none⟩,0,0⟩ [] :=
   ⟨by simp,by simp [maxLen],.inr ⟨h.size,[],rfl,Nat.le_refl _,Blk.push _ _ _,Nat.le_refl _,by simp,by simp⟩⟩
  refine App.row R (by simp) rfl (by simp [hl]) (b8_one l) (by simp only; omega) (by simp only [maxLen]; omega) fun s' h' R' _ hsz' ho _=>?_
  refine H s' h' (by simpa using R') ⟨by simp at hsz'; omega,fun i hi=>?_⟩
  rw [ho i (by simp; omega) (by simp [Slc.blk]; omega),(hp _).block i hi]
/-- what a function that lays bytes behind bytes does -/
abbrev Lays' (h:Heap) (out:List Int) (k:Slc->Heap->Prop):Prop:=∀ s' h',Row h.size h' 5 1 s' (b8 out)->Ext h.size h h'->k s' h'
theorem BClone_ok {p0:Slc} {l:List Int} {k:Slc->Heap->Prop} {h:Heap} (hl:p0.len=l.length) (hs:SlcAt h p0 (b8 l)) (hsz:l.length<=70368744177664)
  (H:∀ s' h',Row h.size h' 5 1 s' (b8 l)->Ext h.size h h'->k s' h'):bytes_Clone p0 k h:=by
 unfold bytes_Clone
 cases ha:p0.a with
 | none =>
  rw [if_pos (by simp)]
  have hn:l=[]:=by have:=hs.1 ha; simpa using this
  subst hn
  exact H _ _ (Row.nil _ _ _ _) (Ext.refl _ _)
 | some a =>
  rw [if_neg (by simp)]
  have hp:∀ o:Obj,Ext h.size h (h.push o):=fun o=>Ext.push h o (Nat.le_refl _)
  refine ⟨_,_,rfl,rfl,b8 l,hs.ext (hp _),?_⟩
  have R:Row h.size (h.push (.cells ([]:List Value).toArray 5)) 5 1 ⟨some ⟨h.size,0,none⟩,0,0⟩ [] :=
   ⟨by simp,by simp [maxLen],.inr ⟨h.size,[],rfl,Nat.le_refl _,Blk.push _ _ _,Nat.le_refl _,by simp,by simp⟩⟩
  refine App.row R (by simp) rfl (by simp [hl]) (b8_one l) (by simp only; omega) (by simp only [maxLen]; omega) fun s' h' R' _ hsz' ho _=>?_
  refine H s' h' (by simpa using R') ⟨by simp at hsz'; omega,fun i hi=>?_⟩
  rw [ho i (by simp; omega) (by simp [Slc.blk]; omega),(hp _).block i hi]
theorem Put_ok {p0:Slc} {l:List Int} {n w:Int} {k:Slc->Heap->Prop} {h:Heap} (hl:p0.len=l.length) (hs:SlcAt h p0 (b8 l)) (hsz:l.length<=35184372088832) (w0:0<=w) (w1:w<=8) (n0:0<=n)
  (H:Lays' h (l ++ formL n w.toNat) k):num_Put p0 n w k h:=by
 unfold num_Put
 refine Clone_ok hl hs (by omega) fun s1 h1 R1 X1=>?_
 rw [if_neg (by simp; omega)]
 refine ⟨fun q h'=>∃ (cur:List Int),Row h.size h' 5 1 q.2.1 (b8 cur)/\cur ++ formL q.1 (w - q.2.2).toNat=l ++ formL n w.toNat/\0<=q.1/\0<=q.2.2/\q.2.2<=w/\cur.length<=l.length + 8/\Ext h.size h h',fun q _=>(w - q.2.2).toNat,⟨l,R1,by simp,n0,by simp,by simpa using w0,by omega,X1⟩,?_⟩
 rintro m s i h2 ⟨cur,R,hc,m0,i0,i1,lc,X⟩
 dsimp only at R hc m0 i0 i1
 have z:=X.size
 have lc2:cur.length + (w - i).toNat=l.length + w.toNat:=by have:=congrArg List.length hc; simpa [formL_length] using this
 unfold num_Put_l1b
 by_cases hi:i < w
 ·rw [if_pos (by simpa using hi),wU8,shr64_8,wrapI64 (by omega) (by omega)]
  refine ⟨_,_,rfl,rfl,?_⟩
  refine AppB (m:=[m % 256]) (R.pushed _) (by simp; omega) rfl (by simp; omega) fun s' h3 R3 X3=>?_
  refine ⟨_,rfl,⟨_,R3,?_,by dsimp only; omega,by dsimp only; omega,by dsimp only; omega,by simp; omega,X.trans ((Ext.push h2 _ z).trans X3)⟩,by dsimp only; omega⟩
  dsimp only
  rw [← hc,show (w - i).toNat=(w - (i + 1)).toNat + 1 from by omega]
  simp [formL]
 ·rw [if_neg (by simpa using hi)]
  have:(w - i).toNat=0:=by omega
  rw [this] at hc
  simp [formL] at hc
  rw [hc] at R
  exact H s h2 R X
theorem nGet_ok {s:Slc} {l:List Int} {w:Int} {k:Int × Int->Heap->Prop} {h:Heap} {l':List Int} (hs:SlcAt h s (b8 l')) (hl:s.len=l'.length) (el:l=l'.take w.toNat) (hB:isB l) (w0:1<=w) (w1:w<=8) (hw:l.length=w.toNat) (H:k (numL l,0) h):num_Get s w k h:=by
 have hw':w.toNat<=l'.length:=by rw [el,List.length_take] at hw; omega
 unfold num_Get
 rw [if_neg (by simp only [Bool.or_eq_true,decide_eq_true_eq]; omega),if_neg (by rw [decide_eq_true_eq]; omega),wrapI64 (by omega) (by omega)]
 refine ⟨_,rfl,fun q h'=>-1<=q.2/\q.2<=w - 1/\q.1=numL (l.drop (q.2 + 1).toNat)/\h'=h,fun q _=>(q.2 + 1).toNat,⟨by dsimp only; omega,by dsimp only; omega,?_,rfl⟩,?_⟩
 ·dsimp only
  rw [show (w - 1 + 1).toNat=l.length from by omega,List.drop_length]; rfl
 rintro n i h' ⟨i0,i1,hn,hh⟩
 dsimp only at i0 i1 hn
 subst hh
 unfold num_Get_l1b
 by_cases hi:i>=0
 ·rw [if_pos (by simpa using hi)]
  have hb:l[i.toNat]? = some (l[i.toNat]'(by omega)):=by simp
  have bb:=hB _ (List.mem_of_getElem? hb)
  generalize l[i.toNat]'(by omega)=b at *
  have hb2:l'[i.toNat]? = some b:=by rw [el,List.getElem?_take,if_pos (by omega)] at hb; exact hb
  obtain ⟨a,ha,hv⟩:=slc_get hs (i:=i.toNat) (v:=.int .u8 b) (by rw [List.getElem?_map,hb2]; rfl)
  have bd:=numL_bd (l:=l.drop (i + 1).toNat) fun x hx=>hB x (List.mem_of_mem_drop hx)
  have lim:(256:Int) ^ (l.drop (i + 1).toNat).length<=256 ^ 7:=pow_mono (by rw [List.length_drop]; omega)
  have lim2:(256:Int) ^ 7=72057594037927936:=by decide
  refine ⟨a,ha,hi,by omega,b,by rw [Nat.mul_one]; exact hv,_,rfl,_,rfl,?_⟩
  rw [hn,or8 bd.1 (by omega) bb,wrapI64 (by omega) (by omega)]
  refine ⟨⟨by dsimp only; omega,by dsimp only; omega,?_,rfl⟩,by dsimp only; omega⟩
  dsimp only
  rw [show (i - 1 + 1).toNat=i.toNat from by omega,numL_drop hb,show (i + 1).toNat=i.toNat + 1 from by omega]
  omega
 ·rw [if_neg (by simpa using hi)]
  rw [show (i + 1).toNat=0 from by omega,List.drop_zero] at hn
  rw [hn]; exact H
theorem isB_drop {l:List Int} (h:isB l) (n:Nat):isB (l.drop n):=fun b hb=>h b (List.mem_of_mem_drop hb)
theorem isB_take {l:List Int} (h:isB l) (n:Nat):isB (l.take n):=fun b hb=>h b (List.mem_of_mem_take hb)
end Go.Q.Yk
end

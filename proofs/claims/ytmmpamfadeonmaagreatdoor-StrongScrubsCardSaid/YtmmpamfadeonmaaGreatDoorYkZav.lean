/- A part of the proof of statements of this seat: lemmas, no statement of their own. -/
import Derived.Test.YtmmpamfadeonmaaGreatDoorYkZae
import Derived.Test.YtmmpamfadeonmaaGreatDoorYkZaf
import Derived.Test.YtmmpamfadeonmaaGreatDoorYkZao
import Derived.Test.YtmmpamfadeonmaaGreatDoorYkZau
set_option linter.unusedVariables false
set_option linter.unusedSimpArgs false
section
set_option maxRecDepth 100000
set_option maxHeartbeats 1000000
namespace Go.Q.Yk
open Go.Proofs.Tryz
/-- quaestor rlog.copied -/
def rlog_copied_l1b (t6_1:Slc) (t7_1:Int) (t3_1:Slc) (t8_1:Int) (k:(Slc)->Heap->Prop) (nx1:(Slc × Int)->Heap->Prop) (h_1:Heap):Prop :=
  if (decide (t8_1 < t7_1)) then (∃ a1:Addr,t6_1.a=some a1/\(0:Int)<=t8_1/\t8_1 < (t6_1.len:Int)/\(∃ v2:S_api_Entry,CellsAt h_1 (a1.add (t8_1.toNat * 2)) (S_api_Entry.cs v2)/\(∃ (b3:Nat) (h4:Heap),b3=h_1.size/\h4=h_1.push (.cells (S_api_Entry.cs (⟨0,(⟨none,0,0⟩:Slc)⟩:S_api_Entry)).toArray 117)/\(∃ h5:Heap,WrsAt h4 (⟨b3,0,none⟩:Addr) 2/\h5=setsH h4 (⟨b3,0,none⟩:Addr) 0 (S_api_Entry.cs v2)/\(∃ v6:Int,cellH h5 (⟨b3,0,none⟩:Addr)=some (.int .u64 v6)/\(∃ v7:Slc,cellH h5 ((⟨b3,0,none⟩:Addr).add 1)=some (Slc.v v7)/\(slices_Clone_byte_byte v7 (fun (r8:Slc) h9=>cellH h9 (⟨b3,0,none⟩:Addr)=some (.int .u64 v6)/\(∃ (b11:Nat) (h12:Heap),b11=h9.size/\h12=h9.push (.cells ((S_api_Entry.cs (⟨v6,r8⟩:S_api_Entry))).toArray 117)/\(App 117 2 32 [.int .u64 0,.slice none 0 0] h12 t3_1 1 ((S_api_Entry.cs (⟨v6,r8⟩:S_api_Entry))) (fun s13 h14=>nx1 (s13,(IntKind.i64.wrap (t8_1 + 1))) h14)))) h5))))))) else (k t3_1 h_1)
def rlog_copied_l1 (t6_1:Slc) (t7_1:Int) (i3:Slc) (i8:Int) (k:(Slc)->Heap->Prop) (h:Heap):Prop :=
  ∃ (I:(Slc × Int)->Heap->Prop) (μ:(Slc × Int)->Heap->Nat),I (i3,i8) h/\∀ (t3_1:Slc) (t8_1:Int) (h:Heap),I (t3_1,t8_1) h->rlog_copied_l1b t6_1 t7_1 t3_1 t8_1 k (fun s h'=>I s h'/\μ s h' < μ (t3_1,t8_1) h) h
def rlog_copied (p0:Slc) (k:(Slc)->Heap->Prop) (h:Heap):Prop :=
  rlog_copied_l1 p0 (p0.len:Int) (⟨none,0,0⟩:Slc) 0 k h
/-- quaestor rlog.New -/
def rlog_New (p0:Int) (p1:Int) (p2:Slc) (k:(Option Addr)->Heap->Prop) (h:Heap):Prop :=
  rlog_copied p2 (fun (r1:Slc) h2=>∃ (b3:Nat) (h4:Heap),b3=h2.size/\h4=h2.push (.cells (S_rlog_Log.cs (⟨p0,p1,r1⟩:S_rlog_Log)).toArray 191)/\(k (some (⟨b3,0,none⟩:Addr)) h4)) h
/-- (*quaestor rlog.Log).Entries -/
def rlog_Log_Entries (p0:Option Addr) (k:(Slc)->Heap->Prop) (h:Heap):Prop :=
  if (p0.isNone) then (k (⟨none,0,0⟩:Slc) h) else (∃ a1:Addr,p0=some a1/\(∃ v2:Slc,cellH h (a1.add 2)=some (Slc.v v2)/\(rlog_copied v2 (fun (r3:Slc) h4=>k r3 h4) h)))
/-- slices.Clone   quaestor api.Chain quaestor api.Chain  -/
def slices_Clone_api_Chain_api_Chain (p0:Slc) (k:(Slc)->Heap->Prop) (h:Heap):Prop :=
  if (p0.a.isNone) then (k (⟨none,0,0⟩:Slc) h) else (∃ (b1:Nat) (h2:Heap),b1=h.size/\h2=h.push (.cells ([]).toArray 35)/\(∃ l5:List Value,SlcAt h2 p0 l5/\App 35 33 40 [.int .u64 0,.int .u8 0,.int .u8 0,.int .u8 0,.int .u8 0,.int .u8 0,.int .u8 0,.int .u8 0,.int .u8 0,.int .u8 0,.int .u8 0,.int .u8 0,.int .u8 0,.int .u8 0,.int .u8 0,.int .u8 0,.int .u8 0,.int .u8 0,.int .u8 0,.int .u8 0,.int .u8 0,.int .u8 0,.int .u8 0,.int .u8 0,.int .u8 0,.int .u8 0,.int .u8 0,.int .u8 0,.int .u8 0,.int .u8 0,.int .u8 0,.int .u8 0,.int .u8 0] h2 (⟨some ⟨b1,0,none⟩,0,0⟩:Slc) p0.len l5 (fun s3 h4=>k s3 h4)))
/-- quaestor strong.owned -/
def strong_owned_l1b (t6_1:Slc) (t7_1:Int) (t3_1:Slc) (t8_1:Int) (k:(Slc)->Heap->Prop) (nx1:(Slc × Int)->Heap->Prop) (h_1:Heap):Prop :=
  if (decide (t8_1 < t7_1)) then (∃ a1:Addr,t6_1.a=some a1/\(0:Int)<=t8_1/\t8_1 < (t6_1.len:Int)/\(∃ v2:S_api_Box,CellsAt h_1 (a1.add (t8_1.toNat * 15)) (S_api_Box.cs v2)/\(∃ (b3:Nat) (h4:Heap),b3=h_1.size/\h4=h_1.push (.cells (S_api_Box.cs (⟨ByteArray.empty,0,([]:List Int),(⟨none,0,0⟩:Slc)⟩:S_api_Box)).toArray 76)/\(∃ h5:Heap,WrsAt h4 (⟨b3,0,none⟩:Addr) 15/\h5=setsH h4 (⟨b3,0,none⟩:Addr) 0 (S_api_Box.cs v2)/\(∃ v6:Slc,cellH h5 ((⟨b3,0,none⟩:Addr).add 14)=some (Slc.v v6)/\(slices_Clone_byte_byte v6 (fun (r7:Slc) h8=>∃ h9:Heap,WrH h8 ((⟨b3,0,none⟩:Addr).add 14)/\h9=setH h8 ((⟨b3,0,none⟩:Addr).add 14) (Slc.v r7)/\(∃ v10:S_api_Box,CellsAt h9 (⟨b3,0,none⟩:Addr) (S_api_Box.cs v10)/\(∃ (b11:Nat) (h12:Heap),b11=h9.size/\h12=h9.push (.cells ((S_api_Box.cs v10)).toArray 76)/\(App 76 15 56 [.string ByteArray.empty,.int .u32 0,.int .u8 0,.int .u8 0,.int .u8 0,.int .u8 0,.int .u8 0,.int .u8 0,.int .u8 0,.int .u8 0,.int .u8 0,.int .u8 0,.int .u8 0,.int .u8 0,.slice none 0 0] h12 t3_1 1 ((S_api_Box.cs v10)) (fun s13 h14=>nx1 (s13,(IntKind.i64.wrap (t8_1 + 1))) h14))))) h5)))))) else (k t3_1 h_1)
def strong_owned_l1 (t6_1:Slc) (t7_1:Int) (i3:Slc) (i8:Int) (k:(Slc)->Heap->Prop) (h:Heap):Prop :=
  ∃ (I:(Slc × Int)->Heap->Prop) (μ:(Slc × Int)->Heap->Nat),I (i3,i8) h/\∀ (t3_1:Slc) (t8_1:Int) (h:Heap),I (t3_1,t8_1) h->strong_owned_l1b t6_1 t7_1 t3_1 t8_1 k (fun s h'=>I s h'/\μ s h' < μ (t3_1,t8_1) h) h
def strong_owned (p0:Slc) (k:(Slc)->Heap->Prop) (h:Heap):Prop :=
  strong_owned_l1 p0 (p0.len:Int) (⟨none,0,0⟩:Slc) 0 k h
/-- quaestor strong.copied -/
def strong_copied (p0:S_api_Mem) (k:(S_api_Mem)->Heap->Prop) (h:Heap):Prop :=
  ∃ (b1:Nat) (h2:Heap),b1=h.size/\h2=h.push (.cells (S_api_Mem.cs p0).toArray 33)/\(∃ (b3:Nat) (h4:Heap),b3=h2.size/\h4=h2.push (.cells (S_api_Mem.cs (⟨0,0,0,0,0,(⟨0,([]:List Int)⟩:S_api_Share),([]:List Int),0,0,0,0,(⟨none,0,0⟩:Slc),(⟨none,0,0⟩:Slc),(⟨none,0,0⟩:Slc),(⟨none,0,0⟩:Slc),0⟩:S_api_Mem)).toArray 33)/\(∃ v5:Slc,cellH h4 ((⟨b1,0,none⟩:Addr).add 74)=some (Slc.v v5)/\(slices_Clone_byte_byte v5 (fun (r6:Slc) h7=>∃ h8:Heap,WrH h7 ((⟨b1,0,none⟩:Addr).add 74)/\h8=setH h7 ((⟨b1,0,none⟩:Addr).add 74) (Slc.v r6)/\(∃ v9:Slc,cellH h8 ((⟨b1,0,none⟩:Addr).add 75)=some (Slc.v v9)/\(rlog_New 0 0 v9 (fun (r10:Option Addr) h11=>rlog_Log_Entries r10 (fun (r12:Slc) h13=>∃ h14:Heap,WrH h13 ((⟨b1,0,none⟩:Addr).add 75)/\h14=setH h13 ((⟨b1,0,none⟩:Addr).add 75) (Slc.v r12)/\(∃ v15:Slc,cellH h14 ((⟨b1,0,none⟩:Addr).add 76)=some (Slc.v v15)/\(slices_Clone_api_Chain_api_Chain v15 (fun (r16:Slc) h17=>∃ h18:Heap,WrH h17 ((⟨b1,0,none⟩:Addr).add 76)/\h18=setH h17 ((⟨b1,0,none⟩:Addr).add 76) (Slc.v r16)/\(∃ v19:Slc,cellH h18 ((⟨b1,0,none⟩:Addr).add 77)=some (Slc.v v19)/\(strong_owned v19 (fun (r20:Slc) h21=>∃ h22:Heap,WrH h21 ((⟨b1,0,none⟩:Addr).add 77)/\h22=setH h21 ((⟨b1,0,none⟩:Addr).add 77) (Slc.v r20)/\(∃ v23:S_api_Mem,CellsAt h22 (⟨b1,0,none⟩:Addr) (S_api_Mem.cs v23)/\(∃ h24:Heap,WrsAt h22 (⟨b3,0,none⟩:Addr) 79/\h24=setsH h22 (⟨b3,0,none⟩:Addr) 0 (S_api_Mem.cs v23)/\(∃ v25:S_api_Mem,CellsAt h24 (⟨b3,0,none⟩:Addr) (S_api_Mem.cs v25)/\k v25 h24)))) h18))) h14))) h11) h8))) h4)))
/-- slices.Index   quaestor api.Nonce quaestor api.Nonce  -/
def slices_Index_api_Nonce_api_Nonce_l1b (t0_1:Slc) (t3_1:Addr) (t7_1:Int) (t8_1:Int) (k:(Int)->Heap->Prop) (nx1:(Int)->Heap->Prop) (h_1:Heap):Prop :=
  if (decide (t8_1 < t7_1)) then (∃ v3:List Int,CellsAt h_1 t3_1 (arr 12 .u8 v3)/\(∃ a4:Addr,t0_1.a=some a4/\(0:Int)<=t8_1/\t8_1 < (t0_1.len:Int)/\(∃ v5:List Int,CellsAt h_1 (a4.add (t8_1.toNat * 12)) (arr 12 .u8 v5)/\(if (if BinOp.eql = .eql then (nrm 12 v3 == nrm 12 v5) else !(nrm 12 v3 == nrm 12 v5)) then (k t8_1 h_1) else (nx1 (IntKind.i64.wrap (t8_1 + 1)) h_1))))) else (∃ x7:Int,x7=(-1)/\(k x7 h_1))
def slices_Index_api_Nonce_api_Nonce_l1 (t0_1:Slc) (t3_1:Addr) (t7_1:Int) (i8:Int) (k:(Int)->Heap->Prop) (h:Heap):Prop :=
  ∃ (I:Int->Heap->Prop) (μ:Int->Heap->Nat),I i8 h/\∀ (t8_1:Int) (h:Heap),I t8_1 h->slices_Index_api_Nonce_api_Nonce_l1b t0_1 t3_1 t7_1 t8_1 k (fun s h'=>I s h'/\μ s h' < μ t8_1 h) h
def slices_Index_api_Nonce_api_Nonce (p0:Slc) (p1:List Int) (k:(Int)->Heap->Prop) (h:Heap):Prop :=
  ∃ (b1:Nat) (h2:Heap),b1=h.size/\h2=h.push (.cells (arr 12 .u8 p1).toArray 74)/\(slices_Index_api_Nonce_api_Nonce_l1 p0 (⟨b1,0,none⟩:Addr) (p0.len:Int) 0 k h2)
/-- slices.Contains   quaestor api.Nonce quaestor api.Nonce  -/
def slices_Contains_api_Nonce_api_Nonce (p0:Slc) (p1:List Int) (k:(Bool)->Heap->Prop) (h:Heap):Prop :=
  ∃ (b1:Nat) (h2:Heap),b1=h.size/\h2=h.push (.cells (arr 12 .u8 p1).toArray 74)/\(∃ v3:List Int,CellsAt h2 (⟨b1,0,none⟩:Addr) (arr 12 .u8 v3)/\(slices_Index_api_Nonce_api_Nonce p0 v3 (fun (r4:Int) h5=>k (decide (r4>=0)) h5) h2))
/-- quaestor strong.Make 1 -/
def strong_Make_1 (p0:S_api_Box) (p1:Addr) (k:(Bool)->Heap->Prop) (h:Heap):Prop :=
  ∃ (b1:Nat) (h2:Heap),b1=h.size/\h2=h.push (.cells (S_api_Box.cs p0).toArray 76)/\(∃ v3:Slc,cellH h2 (p1.add 42)=some (Slc.v v3)/\(∃ v4:List Int,CellsAt h2 ((⟨b1,0,none⟩:Addr).add 2) (arr 12 .u8 v4)/\(slices_Contains_api_Nonce_api_Nonce v3 v4 (fun (r5:Bool) h6=>k r5 h6) h2)))
/-- slices.IndexFunc   quaestor api.Box quaestor api.Box  -/
def slices_IndexFunc_api_Box_api_Box__strong_Make_1_l1b (t0_1:Slc) (t1c0_1:Addr) (t7_1:Int) (t8_1:Int) (k:(Int)->Heap->Prop) (nx1:(Int)->Heap->Prop) (h_1:Heap):Prop :=
  if (decide (t8_1 < t7_1)) then (∃ a1:Addr,t0_1.a=some a1/\(0:Int)<=t8_1/\t8_1 < (t0_1.len:Int)/\(∃ v2:S_api_Box,CellsAt h_1 (a1.add (t8_1.toNat * 15)) (S_api_Box.cs v2)/\(strong_Make_1 v2 t1c0_1 (fun (r3:Bool) h4=>if r3 then (k t8_1 h4) else (nx1 (IntKind.i64.wrap (t8_1 + 1)) h4)) h_1))) else (∃ x5:Int,x5=(-1)/\(k x5 h_1))
def slices_IndexFunc_api_Box_api_Box__strong_Make_1_l1 (t0_1:Slc) (t1c0_1:Addr) (t7_1:Int) (i8:Int) (k:(Int)->Heap->Prop) (h:Heap):Prop :=
  ∃ (I:Int->Heap->Prop) (μ:Int->Heap->Nat),I i8 h/\∀ (t8_1:Int) (h:Heap),I t8_1 h->slices_IndexFunc_api_Box_api_Box__strong_Make_1_l1b t0_1 t1c0_1 t7_1 t8_1 k (fun s h'=>I s h'/\μ s h' < μ t8_1 h) h
def slices_IndexFunc_api_Box_api_Box__strong_Make_1 (p0:Slc) (p1c0:Addr) (k:(Int)->Heap->Prop) (h:Heap):Prop :=
  slices_IndexFunc_api_Box_api_Box__strong_Make_1_l1 p0 p1c0 (p0.len:Int) 0 k h
/-- slices.DeleteFunc   quaestor api.Box quaestor api.Box  -/
def slices_DeleteFunc_api_Box_api_Box__strong_Make_1_j2 (t0_2:Slc) (t1c0_2:Addr) (t6_2:Int) (t5_2:Int) (k:(Slc)->Heap->Prop) (nx1:(Int × Int)->Heap->Prop) (h_2:Heap):Prop :=
  ∃ x4:Int,x4=(IntKind.i64.wrap (t6_2 + 1))/\(nx1 (t5_2,x4) h_2)
def slices_DeleteFunc_api_Box_api_Box__strong_Make_1_l1b (t0_1:Slc) (t1c0_1:Addr) (t5_1:Int) (t6_1:Int) (k:(Slc)->Heap->Prop) (nx1:(Int × Int)->Heap->Prop) (h_1:Heap):Prop :=
  if (decide (t6_1 < (t0_1.len:Int))) then (∃ a5:Addr,t0_1.a=some a5/\(0:Int)<=t6_1/\t6_1 < (t0_1.len:Int)/\(∃ v6:S_api_Box,CellsAt h_1 (a5.add (t6_1.toNat * 15)) (S_api_Box.cs v6)/\(∃ (b7:Nat) (h8:Heap),b7=h_1.size/\h8=h_1.push (.cells (S_api_Box.cs (⟨ByteArray.empty,0,([]:List Int),(⟨none,0,0⟩:Slc)⟩:S_api_Box)).toArray 76)/\(∃ h9:Heap,WrsAt h8 (⟨b7,0,none⟩:Addr) 15/\h9=setsH h8 (⟨b7,0,none⟩:Addr) 0 (S_api_Box.cs v6)/\(∃ v10:S_api_Box,CellsAt h9 (⟨b7,0,none⟩:Addr) (S_api_Box.cs v10)/\(strong_Make_1 v10 t1c0_1 (fun (r11:Bool) h12=>if (!r11) then (∃ v13:S_api_Box,CellsAt h12 (⟨b7,0,none⟩:Addr) (S_api_Box.cs v13)/\(∃ a14:Addr,t0_1.a=some a14/\(0:Int)<=t5_1/\t5_1 < (t0_1.len:Int)/\(∃ h15:Heap,WrsAt h12 (a14.add (t5_1.toNat * 15)) 15/\h15=setsH h12 (a14.add (t5_1.toNat * 15)) 0 (S_api_Box.cs v13)/\(∃ x16:Int,x16=(IntKind.i64.wrap (t5_1 + 1))/\(slices_DeleteFunc_api_Box_api_Box__strong_Make_1_j2 t0_1 t1c0_1 t6_1 x16 k nx1 h15))))) else (slices_DeleteFunc_api_Box_api_Box__strong_Make_1_j2 t0_1 t1c0_1 t6_1 t5_1 k nx1 h12)) h9)))))) else (∃ s17:Slc,(0:Int)<=t5_1/\(t5_1:Int)<=(t0_1.len:Int)/\((t0_1.len:Int):Int)<=(t0_1.cap:Int)/\(t0_1.cap:Int)<=(t0_1.cap:Int)/\s17=subS t0_1 15 t5_1.toNat (t0_1.len:Int).toNat (t0_1.cap:Int).toNat/\((∀ a,s17.a=some a->WrsAt h_1 a (s17.len * 15))/\∃ h18:Heap,h18=clrS h_1 s17 [.string ByteArray.empty,.int .u32 0,.int .u8 0,.int .u8 0,.int .u8 0,.int .u8 0,.int .u8 0,.int .u8 0,.int .u8 0,.int .u8 0,.int .u8 0,.int .u8 0,.int .u8 0,.int .u8 0,.slice none 0 0]/\(∃ s19:Slc,(0:Int)<=0/\(0:Int)<=t5_1/\(t5_1:Int)<=(t0_1.cap:Int)/\(t0_1.cap:Int)<=(t0_1.cap:Int)/\s19=subS t0_1 15 (0:Int).toNat t5_1.toNat (t0_1.cap:Int).toNat/\(k s19 h18))))
def slices_DeleteFunc_api_Box_api_Box__strong_Make_1_l1 (t0_1:Slc) (t1c0_1:Addr) (i5:Int) (i6:Int) (k:(Slc)->Heap->Prop) (h:Heap):Prop :=
  ∃ (I:(Int × Int)->Heap->Prop) (μ:(Int × Int)->Heap->Nat),I (i5,i6) h/\∀ (t5_1:Int) (t6_1:Int) (h:Heap),I (t5_1,t6_1) h->slices_DeleteFunc_api_Box_api_Box__strong_Make_1_l1b t0_1 t1c0_1 t5_1 t6_1 k (fun s h'=>I s h'/\μ s h' < μ (t5_1,t6_1) h) h
def slices_DeleteFunc_api_Box_api_Box__strong_Make_1 (p0:Slc) (p1c0:Addr) (k:(Slc)->Heap->Prop) (h:Heap):Prop :=
  slices_IndexFunc_api_Box_api_Box__strong_Make_1 p0 p1c0 (fun (r1:Int) h2=>if (r1 == (-1)) then (k p0 h2) else (∃ x3:Int,x3=(IntKind.i64.wrap (r1 + 1))/\(slices_DeleteFunc_api_Box_api_Box__strong_Make_1_l1 p0 p1c0 r1 x3 k h2))) h
/-- quaestor strong.Make 2 -/
def strong_Make_2 (p0:S_api_Box) (p1:Addr) (k:(Bool)->Heap->Prop) (h:Heap):Prop :=
  ∃ (b1:Nat) (h2:Heap),b1=h.size/\h2=h.push (.cells (S_api_Box.cs p0).toArray 76)/\(∃ v3:ByteArray,cellH h2 (⟨b1,0,none⟩:Addr)=some (.string v3)/\(∃ v4:ByteArray,cellH h2 (p1.add 44)=some (.string v4)/\(k (v3.toList == v4.toList) h2)))
/-- slices.IndexFunc   quaestor api.Box quaestor api.Box  -/
def slices_IndexFunc_api_Box_api_Box__strong_Make_2_l1b (t0_1:Slc) (t1c0_1:Addr) (t7_1:Int) (t8_1:Int) (k:(Int)->Heap->Prop) (nx1:(Int)->Heap->Prop) (h_1:Heap):Prop :=
  if (decide (t8_1 < t7_1)) then (∃ a1:Addr,t0_1.a=some a1/\(0:Int)<=t8_1/\t8_1 < (t0_1.len:Int)/\(∃ v2:S_api_Box,CellsAt h_1 (a1.add (t8_1.toNat * 15)) (S_api_Box.cs v2)/\(strong_Make_2 v2 t1c0_1 (fun (r3:Bool) h4=>if r3 then (k t8_1 h4) else (nx1 (IntKind.i64.wrap (t8_1 + 1)) h4)) h_1))) else (∃ x5:Int,x5=(-1)/\(k x5 h_1))
def slices_IndexFunc_api_Box_api_Box__strong_Make_2_l1 (t0_1:Slc) (t1c0_1:Addr) (t7_1:Int) (i8:Int) (k:(Int)->Heap->Prop) (h:Heap):Prop :=
  ∃ (I:Int->Heap->Prop) (μ:Int->Heap->Nat),I i8 h/\∀ (t8_1:Int) (h:Heap),I t8_1 h->slices_IndexFunc_api_Box_api_Box__strong_Make_2_l1b t0_1 t1c0_1 t7_1 t8_1 k (fun s h'=>I s h'/\μ s h' < μ t8_1 h) h
def slices_IndexFunc_api_Box_api_Box__strong_Make_2 (p0:Slc) (p1c0:Addr) (k:(Int)->Heap->Prop) (h:Heap):Prop :=
  slices_IndexFunc_api_Box_api_Box__strong_Make_2_l1 p0 p1c0 (p0.len:Int) 0 k h
/-- slices.DeleteFunc   quaestor api.Box quaestor api.Box  -/
def slices_DeleteFunc_api_Box_api_Box__strong_Make_2_j2 (t0_2:Slc) (t1c0_2:Addr) (t6_2:Int) (t5_2:Int) (k:(Slc)->Heap->Prop) (nx1:(Int × Int)->Heap->Prop) (h_2:Heap):Prop :=
  ∃ x4:Int,x4=(IntKind.i64.wrap (t6_2 + 1))/\(nx1 (t5_2,x4) h_2)
def slices_DeleteFunc_api_Box_api_Box__strong_Make_2_l1b (t0_1:Slc) (t1c0_1:Addr) (t5_1:Int) (t6_1:Int) (k:(Slc)->Heap->Prop) (nx1:(Int × Int)->Heap->Prop) (h_1:Heap):Prop :=
  if (decide (t6_1 < (t0_1.len:Int))) then (∃ a5:Addr,t0_1.a=some a5/\(0:Int)<=t6_1/\t6_1 < (t0_1.len:Int)/\(∃ v6:S_api_Box,CellsAt h_1 (a5.add (t6_1.toNat * 15)) (S_api_Box.cs v6)/\(∃ (b7:Nat) (h8:Heap),b7=h_1.size/\h8=h_1.push (.cells (S_api_Box.cs (⟨ByteArray.empty,0,([]:List Int),(⟨none,0,0⟩:Slc)⟩:S_api_Box)).toArray 76)/\(∃ h9:Heap,WrsAt h8 (⟨b7,0,none⟩:Addr) 15/\h9=setsH h8 (⟨b7,0,none⟩:Addr) 0 (S_api_Box.cs v6)/\(∃ v10:S_api_Box,CellsAt h9 (⟨b7,0,none⟩:Addr) (S_api_Box.cs v10)/\(strong_Make_2 v10 t1c0_1 (fun (r11:Bool) h12=>if (!r11) then (∃ v13:S_api_Box,CellsAt h12 (⟨b7,0,none⟩:Addr) (S_api_Box.cs v13)/\(∃ a14:Addr,t0_1.a=some a14/\(0:Int)<=t5_1/\t5_1 < (t0_1.len:Int)/\(∃ h15:Heap,WrsAt h12 (a14.add (t5_1.toNat * 15)) 15/\h15=setsH h12 (a14.add (t5_1.toNat * 15)) 0 (S_api_Box.cs v13)/\(∃ x16:Int,x16=(IntKind.i64.wrap (t5_1 + 1))/\(slices_DeleteFunc_api_Box_api_Box__strong_Make_2_j2 t0_1 t1c0_1 t6_1 x16 k nx1 h15))))) else (slices_DeleteFunc_api_Box_api_Box__strong_Make_2_j2 t0_1 t1c0_1 t6_1 t5_1 k nx1 h12)) h9)))))) else (∃ s17:Slc,(0:Int)<=t5_1/\(t5_1:Int)<=(t0_1.len:Int)/\((t0_1.len:Int):Int)<=(t0_1.cap:Int)/\(t0_1.cap:Int)<=(t0_1.cap:Int)/\s17=subS t0_1 15 t5_1.toNat (t0_1.len:Int).toNat (t0_1.cap:Int).toNat/\((∀ a,s17.a=some a->WrsAt h_1 a (s17.len * 15))/\∃ h18:Heap,h18=clrS h_1 s17 [.string ByteArray.empty,.int .u32 0,.int .u8 0,.int .u8 0,.int .u8 0,.int .u8 0,.int .u8 0,.int .u8 0,.int .u8 0,.int .u8 0,.int .u8 0,.int .u8 0,.int .u8 0,.int .u8 0,.slice none 0 0]/\(∃ s19:Slc,(0:Int)<=0/\(0:Int)<=t5_1/\(t5_1:Int)<=(t0_1.cap:Int)/\(t0_1.cap:Int)<=(t0_1.cap:Int)/\s19=subS t0_1 15 (0:Int).toNat t5_1.toNat (t0_1.cap:Int).toNat/\(k s19 h18))))
def slices_DeleteFunc_api_Box_api_Box__strong_Make_2_l1 (t0_1:Slc) (t1c0_1:Addr) (i5:Int) (i6:Int) (k:(Slc)->Heap->Prop) (h:Heap):Prop :=
  ∃ (I:(Int × Int)->Heap->Prop) (μ:(Int × Int)->Heap->Nat),I (i5,i6) h/\∀ (t5_1:Int) (t6_1:Int) (h:Heap),I (t5_1,t6_1) h->slices_DeleteFunc_api_Box_api_Box__strong_Make_2_l1b t0_1 t1c0_1 t5_1 t6_1 k (fun s h'=>I s h'/\μ s h' < μ (t5_1,t6_1) h) h
def slices_DeleteFunc_api_Box_api_Box__strong_Make_2 (p0:Slc) (p1c0:Addr) (k:(Slc)->Heap->Prop) (h:Heap):Prop :=
  slices_IndexFunc_api_Box_api_Box__strong_Make_2 p0 p1c0 (fun (r1:Int) h2=>if (r1 == (-1)) then (k p0 h2) else (∃ x3:Int,x3=(IntKind.i64.wrap (r1 + 1))/\(slices_DeleteFunc_api_Box_api_Box__strong_Make_2_l1 p0 p1c0 r1 x3 k h2))) h
/-- (*quaestor rlog.Log).Base -/
def rlog_Log_Base (p0:Option Addr) (k:(Int × Int)->Heap->Prop) (h:Heap):Prop :=
  if (p0.isNone) then (k (0,0) h) else (∃ a1:Addr,p0=some a1/\(∃ v2:Int,cellH h a1=some (.int .u64 v2)/\(∃ v3:Int,cellH h (a1.add 1)=some (.int .u64 v3)/\(k (v2,v3) h))))
/-- (*quaestor rlog.Log).Last -/
def rlog_Log_Last (p0:Option Addr) (k:(Int × Int)->Heap->Prop) (h:Heap):Prop :=
  if (p0.isNone) then (k (0,0) h) else (∃ a1:Addr,p0=some a1/\(∃ v2:Slc,cellH h (a1.add 2)=some (Slc.v v2)/\(∃ x3:Int,x3=(v2.len:Int)/\(if (decide (x3 > 0)) then (∃ v4:Int,cellH h a1=some (.int .u64 v4)/\(∃ v5:Slc,cellH h (a1.add 2)=some (Slc.v v5)/\(∃ a6:Addr,v5.a=some a6/\(0:Int)<=(IntKind.i64.wrap (x3 - 1))/\(IntKind.i64.wrap (x3 - 1)) < (v5.len:Int)/\(∃ v7:Int,cellH h (a6.add ((IntKind.i64.wrap (x3 - 1)).toNat * 2))=some (.int .u64 v7)/\(k ((IntKind.u64.wrap (v4 + (IntKind.u64.wrap x3))),v7) h))))) else (∃ v8:Int,cellH h a1=some (.int .u64 v8)/\(∃ v9:Int,cellH h (a1.add 1)=some (.int .u64 v9)/\(k (v8,v9) h)))))))
/-- (*quaestor rlog.Log).Term -/
def rlog_Log_Term (p0:Option Addr) (p1:Int) (k:(Int × Int)->Heap->Prop) (h:Heap):Prop :=
  rlog_Log_Base p0 (fun (r1:Int × Int) h2=>rlog_Log_Last p0 (fun (r3:Int × Int) h4=>if (decide (p1 < r1.1)) then (k (0,13) h4) else (if (decide (p1 > r3.1)) then (k (0,6) h4) else (if (p1 == r1.1) then (k (r1.2,0) h4) else (∃ a5:Addr,p0=some a5/\(∃ v6:Slc,cellH h4 (a5.add 2)=some (Slc.v v6)/\(∃ a7:Addr,v6.a=some a7/\(0:Int)<=(IntKind.u64.wrap ((IntKind.u64.wrap (p1 - r1.1)) - 1))/\(IntKind.u64.wrap ((IntKind.u64.wrap (p1 - r1.1)) - 1)) < (v6.len:Int)/\(∃ v8:Int,cellH h4 (a7.add ((IntKind.u64.wrap ((IntKind.u64.wrap (p1 - r1.1)) - 1)).toNat * 2))=some (.int .u64 v8)/\(k (v8,0) h4)))))))) h2) h
/-- (*quaestor rlog.Log).Match -/
def rlog_Log_Match (p0:Option Addr) (p1:Int) (p2:Int) (k:(Bool)->Heap->Prop) (h:Heap):Prop :=
  rlog_Log_Term p0 p1 (fun (r1:Int × Int) h2=>k ((r1.2 == 0) && (r1.1 == p2)) h2) h
/-- (*quaestor rlog.Log).Append -/
def rlog_Log_Append_j3 (t0_3:Option Addr) (t1_3:Int) (t8_3:Int) (t39_3:Slc) (t40_3:Int) (t41_3:Int) (t10_3:Slc) (k:(Int × Int)->Heap->Prop) (nx2:(Slc × Int)->Heap->Prop) (h_3:Heap):Prop :=
  nx2 (t10_3,(IntKind.i64.wrap (t41_3 + 1))) h_3
def rlog_Log_Append_j4 (t0_4:Option Addr) (t1_4:Int) (t8_4:Int) (t12_4:Addr) (t39_4:Slc) (t40_4:Int) (t41_4:Int) (t10_4:Slc) (k:(Int × Int)->Heap->Prop) (nx2:(Slc × Int)->Heap->Prop) (h_4:Heap):Prop :=
  ∃ v16:S_api_Entry,CellsAt h_4 t12_4 (S_api_Entry.cs v16)/\(∃ (b17:Nat) (h18:Heap),b17=h_4.size/\h18=h_4.push (.cells ((S_api_Entry.cs v16)).toArray 117)/\(rlog_copied (⟨some ⟨b17,0,none⟩,1,1⟩:Slc) (fun (r19:Slc) h20=>∃ l23:List Value,SlcAt h20 r19 l23/\App 117 2 32 [.int .u64 0,.slice none 0 0] h20 t10_4 r19.len l23 (fun s21 h22=>rlog_Log_Append_j3 t0_4 t1_4 t8_4 t39_4 t40_4 t41_4 s21 k nx2 h22)) h18))
def rlog_Log_Append_l2b (t0_2:Option Addr) (t1_2:Int) (t8_2:Int) (t39_2:Slc) (t40_2:Int) (t10_2:Slc) (t41_2:Int) (k:(Int × Int)->Heap->Prop) (nx2:(Slc × Int)->Heap->Prop) (h_2:Heap):Prop :=
  if (decide (t41_2 < t40_2)) then (∃ a6:Addr,t39_2.a=some a6/\(0:Int)<=t41_2/\t41_2 < (t39_2.len:Int)/\(∃ v7:S_api_Entry,CellsAt h_2 (a6.add (t41_2.toNat * 2)) (S_api_Entry.cs v7)/\(∃ (b8:Nat) (h9:Heap),b8=h_2.size/\h9=h_2.push (.cells (S_api_Entry.cs (⟨0,(⟨none,0,0⟩:Slc)⟩:S_api_Entry)).toArray 117)/\(∃ h10:Heap,WrsAt h9 (⟨b8,0,none⟩:Addr) 2/\h10=setsH h9 (⟨b8,0,none⟩:Addr) 0 (S_api_Entry.cs v7)/\(∃ x11:Int,x11=(IntKind.u64.wrap ((IntKind.u64.wrap (t1_2 + (IntKind.u64.wrap t41_2))) + 1))/\(∃ a12:Addr,t0_2=some a12/\(∃ v13:Int,cellH h10 a12=some (.int .u64 v13)/\(if (decide (x11<=v13)) then (rlog_Log_Append_j3 t0_2 t1_2 t8_2 t39_2 t40_2 t41_2 t10_2 k nx2 h10) else (∃ v14:Int,cellH h10 a12=some (.int .u64 v14)/\(∃ x15:Int,x15=(IntKind.i64.wrap (IntKind.u64.wrap ((IntKind.u64.wrap (x11 - v14)) - 1)))/\(if (decide (x15 < (t10_2.len:Int))) then (∃ a24:Addr,t10_2.a=some a24/\(0:Int)<=x15/\x15 < (t10_2.len:Int)/\(∃ v25:Int,cellH h10 (a24.add (x15.toNat * 2))=some (.int .u64 v25)/\(∃ v26:Int,cellH h10 (⟨b8,0,none⟩:Addr)=some (.int .u64 v26)/\(if (v25 == v26) then (rlog_Log_Append_j3 t0_2 t1_2 t8_2 t39_2 t40_2 t41_2 t10_2 k nx2 h10) else (∃ s27:Slc,(0:Int)<=0/\(0:Int)<=x15/\(x15:Int)<=x15/\x15<=(t10_2.cap:Int)/\s27=subS t10_2 2 (0:Int).toNat x15.toNat x15.toNat/\(rlog_Log_Append_j4 t0_2 t1_2 t8_2 (⟨b8,0,none⟩:Addr) t39_2 t40_2 t41_2 s27 k nx2 h10)))))) else (rlog_Log_Append_j4 t0_2 t1_2 t8_2 (⟨b8,0,none⟩:Addr) t39_2 t40_2 t41_2 t10_2 k nx2 h10)))))))))))) else (if (decide ((t10_2.len:Int) > 64)) then (k (0,8) h_2) else (∃ a28:Addr,t0_2=some a28/\(∃ h29:Heap,WrH h_2 (a28.add 2)/\h29=setH h_2 (a28.add 2) (Slc.v t10_2)/\(k (t8_2,0) h29))))
def rlog_Log_Append_l2 (t0_2:Option Addr) (t1_2:Int) (t8_2:Int) (t39_2:Slc) (t40_2:Int) (i10:Slc) (i41:Int) (k:(Int × Int)->Heap->Prop) (h:Heap):Prop :=
  ∃ (I:(Slc × Int)->Heap->Prop) (μ:(Slc × Int)->Heap->Nat),I (i10,i41) h/\∀ (t10_2:Slc) (t41_2:Int) (h:Heap),I (t10_2,t41_2) h->rlog_Log_Append_l2b t0_2 t1_2 t8_2 t39_2 t40_2 t10_2 t41_2 k (fun s h'=>I s h'/\μ s h' < μ (t10_2,t41_2) h) h
def rlog_Log_Append_g1 (t0_1:Option Addr) (t1_1:Int) (t3_1:Slc) (t29_1:Bool) (k:(Int × Int)->Heap->Prop) (h_1:Heap):Prop :=
  if t29_1 then (k (0,6) h_1) else (∃ x3:Int,x3=(IntKind.u64.wrap (t1_1 + (IntKind.u64.wrap (t3_1.len:Int))))/\(∃ a4:Addr,t0_1=some a4/\(∃ v5:Slc,cellH h_1 (a4.add 2)=some (Slc.v v5)/\(rlog_Log_Append_l2 t0_1 t1_1 x3 t3_1 (t3_1.len:Int) v5 0 k h_1))))
def rlog_Log_Append (p0:Option Addr) (p1:Int) (p2:Int) (p3:Slc) (k:(Int × Int)->Heap->Prop) (h:Heap):Prop :=
  if (p0.isNone) then (k (0,1) h) else (∃ a1:Addr,p0=some a1/\(∃ v2:Int,cellH h a1=some (.int .u64 v2)/\(if (decide (p1>=v2)) then (rlog_Log_Match p0 p1 p2 (fun (r30:Bool) h31=>rlog_Log_Append_g1 p0 p1 p3 (!r30) k h31) h) else (rlog_Log_Append_g1 p0 p1 p3 false k h))))
/-- slices.Clone   quaestor api.Entry quaestor api.Entry  -/
def slices_Clone_api_Entry_api_Entry (p0:Slc) (k:(Slc)->Heap->Prop) (h:Heap):Prop :=
  if (p0.a.isNone) then (k (⟨none,0,0⟩:Slc) h) else (∃ (b1:Nat) (h2:Heap),b1=h.size/\h2=h.push (.cells ([]).toArray 117)/\(∃ l5:List Value,SlcAt h2 p0 l5/\App 117 2 32 [.int .u64 0,.slice none 0 0] h2 (⟨some ⟨b1,0,none⟩,0,0⟩:Slc) p0.len l5 (fun s3 h4=>k s3 h4)))
/-- (*quaestor rlog.Log).Cut -/
def rlog_Log_Cut (p0:Option Addr) (p1:Int) (k:(Int)->Heap->Prop) (h:Heap):Prop :=
  if (p0.isNone) then (k 1 h) else (rlog_Log_Term p0 p1 (fun (r1:Int × Int) h2=>if (r1.2 != 0) then (k r1.2 h2) else (∃ a3:Addr,p0=some a3/\(∃ v4:Slc,cellH h2 (a3.add 2)=some (Slc.v v4)/\(∃ v5:Int,cellH h2 a3=some (.int .u64 v5)/\(∃ s6:Slc,(0:Int)<=(IntKind.u64.wrap (p1 - v5))/\((IntKind.u64.wrap (p1 - v5)):Int)<=(v4.len:Int)/\((v4.len:Int):Int)<=(v4.cap:Int)/\(v4.cap:Int)<=(v4.cap:Int)/\s6=subS v4 2 (IntKind.u64.wrap (p1 - v5)).toNat (v4.len:Int).toNat (v4.cap:Int).toNat/\(slices_Clone_api_Entry_api_Entry s6 (fun (r7:Slc) h8=>∃ h9:Heap,WrH h8 (a3.add 2)/\h9=setH h8 (a3.add 2) (Slc.v r7)/\(∃ h10:Heap,WrH h9 a3/\h10=setH h9 a3 (.int .u64 p1)/\(∃ h11:Heap,WrH h10 (a3.add 1)/\h11=setH h10 (a3.add 1) (.int .u64 r1.1)/\(k 0 h11)))) h2)))))) h)
/-- quaestor strong.keep -/
def strong_keep_j1 (k:(Int)->Heap->Prop) (h_1:Heap):Prop :=
  k 0 h_1
def strong_keep_j2 (t0_2:Option Addr) (t3_2:Addr) (t8_2:Option Addr) (k:(Int)->Heap->Prop) (h_2:Heap):Prop :=
  ∃ v30:Int,cellH h_2 (t3_2.add 3)=some (.int .u64 v30)/\(∃ v31:Int,cellH h_2 (t3_2.add 1)=some (.int .u64 v31)/\(∃ v32:Slc,cellH h_2 (t3_2.add 5)=some (Slc.v v32)/\(rlog_Log_Entries t8_2 (fun (r33:Slc) h34=>cellH h34 (t3_2.add 5)=some (Slc.v v32)/\cellH h34 (t3_2.add 1)=some (.int .u64 v31)/\cellH h34 (t3_2.add 3)=some (.int .u64 v30)/\(slices_Clone_byte_byte v32 (fun (r38:Slc) h39=>cellH h39 (t3_2.add 1)=some (.int .u64 v31)/\cellH h39 (t3_2.add 3)=some (.int .u64 v30)/\(∃ a42:Addr,t0_2=some a42/\(∃ h43:Heap,WrH h39 (a42.add 72)/\h43=setH h39 (a42.add 72) (.int .u64 v30)/\(cellH h43 (t3_2.add 1)=some (.int .u64 v31)/\(∃ h45:Heap,WrH h43 (a42.add 73)/\h45=setH h43 (a42.add 73) (.int .u64 v31)/\(∃ h46:Heap,WrH h45 (a42.add 75)/\h46=setH h45 (a42.add 75) (Slc.v r33)/\(∃ h47:Heap,WrH h46 (a42.add 74)/\h47=setH h46 (a42.add 74) (Slc.v r38)/\(strong_keep_j1 k h47)))))))) h34)) h_2)))
def strong_keep_g3 (t0_3:Option Addr) (t3_3:Addr) (t8_3:Option Addr) (t85_3:Bool) (k:(Int)->Heap->Prop) (h_3:Heap):Prop :=
  if t85_3 then (strong_keep_j2 t0_3 t3_3 none k h_3) else (strong_keep_j2 t0_3 t3_3 t8_3 k h_3)
def strong_keep (p0:Option Addr) (p1:S_api_Keep) (k:(Int)->Heap->Prop) (h:Heap):Prop :=
  ∃ (b1:Nat) (h2:Heap),b1=h.size/\h2=h.push (.cells (S_api_Keep.cs p1).toArray 37)/\(∃ v3:Int,cellH h2 (⟨b1,0,none⟩:Addr)=some (.int .i64 v3)/\(if (v3 == 1) then (∃ v4:Int,cellH h2 ((⟨b1,0,none⟩:Addr).add 1)=some (.int .u64 v4)/\(∃ v5:Int,cellH h2 ((⟨b1,0,none⟩:Addr).add 2)=some (.int .i64 v5)/\(∃ a6:Addr,p0=some a6/\(∃ h7:Heap,WrH h2 (a6.add 70)/\h7=setH h2 (a6.add 70) (.int .u64 v4)/\(cellH h7 ((⟨b1,0,none⟩:Addr).add 2)=some (.int .i64 v5)/\(∃ h9:Heap,WrH h7 (a6.add 71)/\h9=setH h7 (a6.add 71) (.int .i64 v5)/\(strong_keep_j1 k h9))))))) else (if (v3 == 2) then (∃ a10:Addr,p0=some a10/\(∃ v11:Int,cellH h2 (a10.add 72)=some (.int .u64 v11)/\(∃ v12:Int,cellH h2 (a10.add 73)=some (.int .u64 v12)/\(∃ v13:Slc,cellH h2 (a10.add 75)=some (Slc.v v13)/\(rlog_New v11 v12 v13 (fun (r14:Option Addr) h15=>∃ v16:Int,cellH h15 ((⟨b1,0,none⟩:Addr).add 3)=some (.int .u64 v16)/\(∃ v17:Int,cellH h15 ((⟨b1,0,none⟩:Addr).add 1)=some (.int .u64 v17)/\(∃ v18:Slc,cellH h15 ((⟨b1,0,none⟩:Addr).add 4)=some (Slc.v v18)/\(rlog_Log_Append r14 v16 v17 v18 (fun (r19:Int × Int) h20=>if (r19.2 != 0) then (k r19.2 h20) else (rlog_Log_Entries r14 (fun (r21:Slc) h22=>∃ h23:Heap,WrH h22 (a10.add 75)/\h23=setH h22 (a10.add 75) (Slc.v r21)/\(strong_keep_j1 k h23)) h20)) h15)))) h2))))) else (if (v3 == 3) then (∃ a24:Addr,p0=some a24/\(∃ v25:Int,cellH h2 (a24.add 72)=some (.int .u64 v25)/\(∃ v26:Int,cellH h2 (a24.add 73)=some (.int .u64 v26)/\(∃ v27:Slc,cellH h2 (a24.add 75)=some (Slc.v v27)/\(rlog_New v25 v26 v27 (fun (r28:Option Addr) h29=>∃ v48:Int,cellH h29 ((⟨b1,0,none⟩:Addr).add 3)=some (.int .u64 v48)/\(∃ v49:Int,cellH h29 ((⟨b1,0,none⟩:Addr).add 1)=some (.int .u64 v49)/\(rlog_Log_Match r28 v48 v49 (fun (r50:Bool) h51=>if (!r50) then (strong_keep_g3 p0 (⟨b1,0,none⟩:Addr) r28 true k h51) else (∃ v52:Int,cellH h51 ((⟨b1,0,none⟩:Addr).add 3)=some (.int .u64 v52)/\(rlog_Log_Cut r28 v52 (fun (r53:Int) h54=>strong_keep_g3 p0 (⟨b1,0,none⟩:Addr) r28 (r53 != 0) k h54) h51))) h29))) h2))))) else (k 1 h2)))))
/-- quaestor strong.Make -/
def strong_Make_j2 (t2_2:Addr) (t4_2:Addr) (t6_2:Int) (k:(S_api_Mem × Int)->Heap->Prop) (h_2:Heap):Prop :=
  if (t6_2 != 0) then (∃ h11:Heap,WrsAt h_2 t4_2 79/\h11=setsH h_2 t4_2 0 (S_api_Mem.cs (⟨0,0,0,0,0,(⟨0,([]:List Int)⟩:S_api_Share),([]:List Int),0,0,0,0,(⟨none,0,0⟩:Slc),(⟨none,0,0⟩:Slc),(⟨none,0,0⟩:Slc),(⟨none,0,0⟩:Slc),0⟩:S_api_Mem))/\(∃ v12:S_api_Mem,CellsAt h11 t4_2 (S_api_Mem.cs v12)/\k (v12,t6_2) h11)) else (∃ v13:S_api_Mem,CellsAt h_2 t2_2 (S_api_Mem.cs v13)/\(∃ h14:Heap,WrsAt h_2 t4_2 79/\h14=setsH h_2 t4_2 0 (S_api_Mem.cs v13)/\(∃ v15:S_api_Mem,CellsAt h14 t4_2 (S_api_Mem.cs v15)/\k (v15,0) h14)))
def strong_Make_j1 (t2_1:Addr) (t4_1:Addr) (t6_1:Int) (k:(S_api_Mem × Int)->Heap->Prop) (h_1:Heap):Prop :=
  if (t6_1 == 0) then (∃ v16:S_api_Mem,CellsAt h_1 t2_1 (S_api_Mem.cs v16)/\(strong_check v16 (fun (r17:Int) h18=>strong_Make_j2 t2_1 t4_1 r17 k h18) h_1)) else (strong_Make_j2 t2_1 t4_1 t6_1 k h_1)
def strong_Make_g3 (t2_3:Addr) (t3_3:Addr) (t4_3:Addr) (t6_3:Int) (t38_3:Bool) (k:(S_api_Mem × Int)->Heap->Prop) (h_3:Heap):Prop :=
  if t38_3 then (∃ h27:Heap,WrsAt h_3 t4_3 79/\h27=setsH h_3 t4_3 0 (S_api_Mem.cs (⟨0,0,0,0,0,(⟨0,([]:List Int)⟩:S_api_Share),([]:List Int),0,0,0,0,(⟨none,0,0⟩:Slc),(⟨none,0,0⟩:Slc),(⟨none,0,0⟩:Slc),(⟨none,0,0⟩:Slc),0⟩:S_api_Mem))/\(∃ v28:S_api_Mem,CellsAt h27 t4_3 (S_api_Mem.cs v28)/\k (v28,1) h27)) else (∃ v29:Slc,cellH h_3 (t2_3.add 76)=some (Slc.v v29)/\(∃ v30:Int,cellH h_3 (t3_3.add 2)=some (.int .i64 v30)/\(∃ v31:S_api_Chain,CellsAt h_3 (t3_3.add 3) (S_api_Chain.cs v31)/\(∃ a32:Addr,v29.a=some a32/\(0:Int)<=v30/\v30 < (v29.len:Int)/\(∃ h33:Heap,WrsAt h_3 (a32.add (v30.toNat * 33)) 33/\h33=setsH h_3 (a32.add (v30.toNat * 33)) 0 (S_api_Chain.cs v31)/\(strong_Make_j1 t2_3 t4_3 t6_3 k h33))))))
def strong_Make (p0:S_api_Mem) (p1:S_api_Change) (k:(S_api_Mem × Int)->Heap->Prop) (h:Heap):Prop :=
  ∃ (b1:Nat) (h2:Heap),b1=h.size/\h2=h.push (.cells (S_api_Mem.cs p0).toArray 33)/\(∃ (b3:Nat) (h4:Heap),b3=h2.size/\h4=h2.push (.cells (S_api_Change.cs p1).toArray 40)/\(∃ (b5:Nat) (h6:Heap),b5=h4.size/\h6=h4.push (.cells (S_api_Mem.cs (⟨0,0,0,0,0,(⟨0,([]:List Int)⟩:S_api_Share),([]:List Int),0,0,0,0,(⟨none,0,0⟩:Slc),(⟨none,0,0⟩:Slc),(⟨none,0,0⟩:Slc),(⟨none,0,0⟩:Slc),0⟩:S_api_Mem)).toArray 33)/\(∃ v7:S_api_Mem,CellsAt h6 (⟨b1,0,none⟩:Addr) (S_api_Mem.cs v7)/\(strong_copied v7 (fun (r8:S_api_Mem) h9=>∃ h10:Heap,WrsAt h9 (⟨b1,0,none⟩:Addr) 79/\h10=setsH h9 (⟨b1,0,none⟩:Addr) 0 (S_api_Mem.cs r8)/\(∃ v19:Int,cellH h10 (⟨b3,0,none⟩:Addr)=some (.int .i64 v19)/\(if (v19 == 1) then (∃ v20:Int,cellH h10 ((⟨b3,0,none⟩:Addr).add 1)=some (.int .u64 v20)/\(∃ h21:Heap,WrH h10 ((⟨b1,0,none⟩:Addr).add 3)/\h21=setH h10 ((⟨b1,0,none⟩:Addr).add 3) (.int .u64 v20)/\(strong_Make_j1 (⟨b1,0,none⟩:Addr) (⟨b5,0,none⟩:Addr) 0 k h21))) else (if (v19 == 2) then (∃ v22:Int,cellH h10 ((⟨b3,0,none⟩:Addr).add 1)=some (.int .u64 v22)/\(∃ h23:Heap,WrH h10 ((⟨b1,0,none⟩:Addr).add 4)/\h23=setH h10 ((⟨b1,0,none⟩:Addr).add 4) (.int .u64 v22)/\(strong_Make_j1 (⟨b1,0,none⟩:Addr) (⟨b5,0,none⟩:Addr) 0 k h23))) else (if (v19 == 7) then (∃ v24:Int,cellH h10 ((⟨b3,0,none⟩:Addr).add 1)=some (.int .u64 v24)/\(∃ h25:Heap,WrH h10 ((⟨b1,0,none⟩:Addr).add 78)/\h25=setH h10 ((⟨b1,0,none⟩:Addr).add 78) (.int .u64 v24)/\(strong_Make_j1 (⟨b1,0,none⟩:Addr) (⟨b5,0,none⟩:Addr) 0 k h25))) else (if (v19 == 4) then (∃ v26:Int,cellH h10 ((⟨b3,0,none⟩:Addr).add 2)=some (.int .i64 v26)/\(if (decide (v26 < 0)) then (strong_Make_g3 (⟨b1,0,none⟩:Addr) (⟨b3,0,none⟩:Addr) (⟨b5,0,none⟩:Addr) 0 true k h10) else (∃ v34:Int,cellH h10 ((⟨b3,0,none⟩:Addr).add 2)=some (.int .i64 v34)/\(∃ v35:Slc,cellH h10 ((⟨b1,0,none⟩:Addr).add 76)=some (Slc.v v35)/\(strong_Make_g3 (⟨b1,0,none⟩:Addr) (⟨b3,0,none⟩:Addr) (⟨b5,0,none⟩:Addr) 0 (decide (v34>=(v35.len:Int))) k h10))))) else (if (v19 == 5) then (∃ v36:Slc,cellH h10 ((⟨b1,0,none⟩:Addr).add 77)=some (Slc.v v36)/\(slices_DeleteFunc_api_Box_api_Box__strong_Make_1 v36 (⟨b3,0,none⟩:Addr) (fun (r37:Slc) h38=>∃ h39:Heap,WrH h38 ((⟨b1,0,none⟩:Addr).add 77)/\h39=setH h38 ((⟨b1,0,none⟩:Addr).add 77) (Slc.v r37)/\(∃ v40:Slc,cellH h39 ((⟨b1,0,none⟩:Addr).add 77)=some (Slc.v v40)/\(∃ v41:Slc,cellH h39 ((⟨b3,0,none⟩:Addr).add 43)=some (Slc.v v41)/\(strong_owned v41 (fun (r42:Slc) h43=>cellH h43 ((⟨b1,0,none⟩:Addr).add 77)=some (Slc.v v40)/\(∃ l47:List Value,SlcAt h43 r42 l47/\App 76 15 56 [.string ByteArray.empty,.int .u32 0,.int .u8 0,.int .u8 0,.int .u8 0,.int .u8 0,.int .u8 0,.int .u8 0,.int .u8 0,.int .u8 0,.int .u8 0,.int .u8 0,.int .u8 0,.int .u8 0,.slice none 0 0] h43 v40 r42.len l47 (fun s45 h46=>∃ h48:Heap,WrH h46 ((⟨b1,0,none⟩:Addr).add 77)/\h48=setH h46 ((⟨b1,0,none⟩:Addr).add 77) (Slc.v s45)/\(strong_Make_j1 (⟨b1,0,none⟩:Addr) (⟨b5,0,none⟩:Addr) 0 k h48)))) h39)))) h10)) else (if (v19 == 6) then (∃ v49:Slc,cellH h10 ((⟨b1,0,none⟩:Addr).add 77)=some (Slc.v v49)/\(slices_DeleteFunc_api_Box_api_Box__strong_Make_2 v49 (⟨b3,0,none⟩:Addr) (fun (r50:Slc) h51=>∃ h52:Heap,WrH h51 ((⟨b1,0,none⟩:Addr).add 77)/\h52=setH h51 ((⟨b1,0,none⟩:Addr).add 77) (Slc.v r50)/\(strong_Make_j1 (⟨b1,0,none⟩:Addr) (⟨b5,0,none⟩:Addr) 0 k h52)) h10)) else (if (v19 == 3) then (∃ v53:S_api_Keep,CellsAt h10 ((⟨b3,0,none⟩:Addr).add 36) (S_api_Keep.cs v53)/\(strong_keep (some (⟨b1,0,none⟩:Addr)) v53 (fun (r54:Int) h55=>strong_Make_j1 (⟨b1,0,none⟩:Addr) (⟨b5,0,none⟩:Addr) r54 k h55) h10)) else (strong_Make_j1 (⟨b1,0,none⟩:Addr) (⟨b5,0,none⟩:Addr) 1 k h10)))))))))) h6))))
theorem O119:CallOk prog 119:=ck func119
theorem R119 (p0 k h) (H:rlog_copied p0 k h):CallsH prog 119 #[Slc.v p0] h (fun v h'=>∃ r:Slc,v=Slc.v r/\k r h'):=by
 refine fE func119 fun w0=>?_
 refine zF [0] (zQ ?_)
 refine w1 tok (zE (zQ ?_))
 refine w1 tok (zE (zS (zQ ?_)))
 refine w3 tok (zE (zB ?_))
 obtain ⟨I1,μ1,H0,HI⟩:=H
 refine zO (σ:=Slc × Int) [6,7] (fun (s:Slc × Int)=>[(3,Slc.v s.1),(8,.int .i64 s.2)]) I1 μ1 ((⟨none,0,0⟩:Slc),0) H0 ?_
 rintro ⟨t3_1,t8_1⟩ h_1 H
 replace H:=HI t3_1 t8_1 h_1 H
 refine zF [3,8,6,7] (zQ ?_)
 refine w1 tok (zE (zS ?_))
 refine zI H ?_ ?_ <;> intro H
 refine zK (zX (zS (zB (zQ ?_))))
 refine wD tok H fun a1 _ H=>?_
 refine wLa tok H fun v2 H=>?_
 refine wB tok H fun b3 h4 H=>?_
 refine wTa tok H fun h5 H=>?_
 refine zE ?_
 refine gB [3,5,6,7,8] ?_
 refine gT 0 [3] tok ?_
 refine gT 1 [5] tok ?_
 obtain ⟨v6,hv6,H⟩:=H
 refine gL 2 [13] rfl (y_ld tok rfl rfl rfl rfl hv6) ?_
 refine gT 3 [5] tok ?_
 obtain ⟨v7,hv7,H⟩:=H
 refine gL 4 [15] rfl (y_ld tok rfl rfl rfl rfl hv7) ?_
 refine gCr 5 [16] O64 (R64 _ _ _ H) fun r8 h9 H=>?_
 obtain ⟨hy10,H⟩:=H
 refine gR rfl (y_ld tok rfl rfl rfl rfl hy10) ?_
 refine gZ0 ?_
 refine gY 6 [14,17] rfl (fun _=>y_build tok rfl rfl rfl rfl rfl) ?_
 obtain ⟨b11,h12,eb11,eh12,H⟩:=H
 refine gH 7 [18] rfl (h_bs tok rfl rfl rfl rfl rfl rfl rfl eb11 eh12) ?_
 refine gA 8 [12,19] rfl (a_app (s:=t3_1) (r:=(⟨some ⟨b11,0,none⟩,1,1⟩:Slc)) tok rfl rfl rfl rfl rfl (slcAt_push eb11 eh12) H) ?_
 rintro _ h14 ⟨s13,rfl,H⟩
 refine gT 9 [20] tok ?_
 refine gZ ?_
 refine yL (zX (zF [3,6,7,8] (zR ?_)))
 refine w2 tok (zW ?_)
 exact xJ (s13,(IntKind.i64.wrap (t8_1 + 1))) H
 refine zY (yE (yE (yH (zX (zQ (w2 tok (zE (zT ?_))))))))
 exact x_ret _ rfl _ rfl ⟨t3_1,rfl,H⟩
theorem O92:CallOk prog 92:=ck func92
theorem R92 (p0 p1 p2 k h) (H:rlog_New p0 p1 p2 k h):CallsH prog 92 #[.int .u64 p0,.int .u64 p1,Slc.v p2] h (fun v h'=>∃ r:Option Addr,v = .pointer r/\k r h'):=by
 refine fE func92 fun w0=>?_
 refine zF [0,1,2] (zQ ?_)
 refine w1 tok (zE (zQ ?_))
 refine w3 tok ?_
 refine wC O119 (R119 _ _ _ H) fun r1 h2 H=>?_
 refine wY (y_build tok rfl rfl rfl rfl rfl) ?_
 refine wX H fun b3 h4 H=>?_
 refine w1 tok (zE (zF [6] (zT ?_)))
 exact x_ret _ rfl _ rfl ⟨(some (ad b3)),rfl,H⟩
theorem O93:CallOk prog 93:=ck func93
theorem R93 (p0 k h) (H:rlog_Log_Entries p0 k h):CallsH prog 93 #[.pointer p0] h (fun v h'=>∃ r:Slc,v=Slc.v r/\k r h'):=by
 refine fE func93 fun w0=>?_
 refine zF [0] (zQ ?_)
 refine w1 tok (zE (zS (zQ ?_)))
 refine w2 tok (zE ?_)
 refine zI H ?_ ?_ <;> intro H
 refine zQ (w1 tok (zE (zT (yT ?_))))
 exact x_ret _ rfl _ rfl ⟨(⟨none,0,0⟩:Slc),rfl,H⟩
 refine zK (zX (zQ (w1 tok ?_)))
 refine wN H fun a1 _ H=>?_
 refine w1 tok ?_
 refine wL tok H fun v2 H=>?_
 refine wC O119 (R119 _ _ _ H) fun r3 h4 H=>?_
 refine w1 tok (zE (zF [2] (zT ?_)))
 exact x_ret _ rfl _ rfl ⟨r3,rfl,H⟩
theorem O94:CallOk prog 94:=ck func94
theorem R94 (p0 k h) (H:slices_Clone_api_Chain_api_Chain p0 k h):CallsH prog 94 #[Slc.v p0] h (fun v h'=>∃ r:Slc,v=Slc.v r/\k r h'):=by
 refine fE func94 fun w0=>?_
 refine zF [0] (zQ ?_)
 refine w1 tok (zE (zS (zQ ?_)))
 refine w2 tok (zE ?_)
 refine zI H ?_ ?_ <;> intro H
 refine zQ (w1 tok (zE (zT (yT ?_))))
 exact x_ret _ rfl _ rfl ⟨(⟨none,0,0⟩:Slc),rfl,H⟩
 refine zK (zX (zQ ?_))
 obtain ⟨b1,h2,eb1,eh2,H⟩:=H
 refine wH (h_bs tok rfl rfl rfl rfl rfl rfl rfl eb1 eh2) ?_
 refine w1 tok ?_
 obtain ⟨l5,hl5,H⟩:=H
 refine wA (a_app (s:=(⟨some ⟨b1,0,none⟩,0,0⟩:Slc)) (r:=p0) tok rfl rfl rfl rfl rfl hl5 H) ?_
 rintro _ h4 ⟨s3,rfl,H⟩
 refine w1 tok (zE (zT ?_))
 exact x_ret _ rfl _ rfl ⟨s3,rfl,H⟩
theorem O82:CallOk prog 82:=ck func82
theorem R82 (p0 k h) (H:strong_owned p0 k h):CallsH prog 82 #[Slc.v p0] h (fun v h'=>∃ r:Slc,v=Slc.v r/\k r h'):=by
 refine fE func82 fun w0=>?_
 refine zF [0] (zQ ?_)
 refine w1 tok (zE (zQ ?_))
 refine w1 tok (zE (zS (zQ ?_)))
 refine w3 tok (zE (zB ?_))
 obtain ⟨I1,μ1,H0,HI⟩:=H
 refine zO (σ:=Slc × Int) [6,7] (fun (s:Slc × Int)=>[(3,Slc.v s.1),(8,.int .i64 s.2)]) I1 μ1 ((⟨none,0,0⟩:Slc),0) H0 ?_
 rintro ⟨t3_1,t8_1⟩ h_1 H
 replace H:=HI t3_1 t8_1 h_1 H
 refine zF [3,8,6,7] (zQ ?_)
 refine w1 tok (zE (zS ?_))
 refine zI H ?_ ?_ <;> intro H
 refine zK (zX (zS (zB (zQ ?_))))
 refine wD tok H fun a1 _ H=>?_
 refine wLa tok H fun v2 H=>?_
 refine wB tok H fun b3 h4 H=>?_
 refine wTa tok H fun h5 H=>?_
 refine zE (zQ (w1 tok ?_))
 refine wL tok H fun v6 H=>?_
 refine wC O64 (R64 _ _ _ H) fun r7 h8 H=>?_
 refine w1 tok ?_
 refine wT tok H fun h9 H=>?_
 refine zE (zF [3,8,6,7,5] (zR ?_))
 refine w1 tok ?_
 refine wLa tok H fun v10 H=>?_
 obtain ⟨b11,h12,eb11,eh12,H⟩:=H
 refine wH (h_bs tok rfl rfl rfl rfl rfl rfl rfl eb11 eh12) ?_
 refine wA (a_app (s:=t3_1) (r:=(⟨some ⟨b11,0,none⟩,1,1⟩:Slc)) tok rfl rfl rfl rfl rfl (slcAt_push eb11 eh12) H) ?_
 rintro _ h14 ⟨s13,rfl,H⟩
 refine w1 tok (zL (zX (zR ?_)))
 refine w2 tok (zW ?_)
 exact xJ (s13,(IntKind.i64.wrap (t8_1 + 1))) H
 refine zY (yE (yE (yH (zX (zQ (w2 tok (zE (zT ?_))))))))
 exact x_ret _ rfl _ rfl ⟨t3_1,rfl,H⟩
theorem O61:CallOk prog 61:=ck func61
theorem R61 (p0 k h) (H:strong_copied p0 k h):CallsH prog 61 #[.agg (S_api_Mem.cs p0).toArray] h (fun v h'=>∃ r:S_api_Mem,v = .agg (S_api_Mem.cs r).toArray/\k r h'):=by
 refine fE func61 fun w0=>?_
 refine zF [0] (zQ ?_)
 refine wX H fun b1 h2 H=>?_
 refine wB tok H fun b3 h4 H=>?_
 refine zE (zQ (w1 tok ?_))
 refine wL tok H fun v5 H=>?_
 refine wC O64 (R64 _ _ _ H) fun r6 h7 H=>?_
 refine w1 tok ?_
 refine wT tok H fun h8 H=>?_
 refine zE (zQ (w1 tok ?_))
 refine wL tok H fun v9 H=>?_
 refine wC O92 (R92 _ _ _ _ _ H) fun r10 h11 H=>?_
 refine wC O93 (R93 _ _ _ H) fun r12 h13 H=>?_
 refine w1 tok ?_
 refine wT tok H fun h14 H=>?_
 refine zE (zF [1,2] (zQ ?_))
 refine w1 tok ?_
 refine wL tok H fun v15 H=>?_
 refine wC O94 (R94 _ _ _ H) fun r16 h17 H=>?_
 refine w1 tok ?_
 refine wT tok H fun h18 H=>?_
 refine zE (zQ (w1 tok ?_))
 refine wL tok H fun v19 H=>?_
 refine wC O82 (R82 _ _ _ H) fun r20 h21 H=>?_
 refine w1 tok ?_
 refine wT tok H fun h22 H=>?_
 refine zE (zF [1,2] (zQ ?_))
 refine wLa tok H fun v23 H=>?_
 refine wTa tok H fun h24 H=>?_
 refine zE (zT ?_)
 obtain ⟨v25,hv25,H⟩:=H
 exact x_retc tok _ rfl [.agg (S_api_Mem.cs v25).toArray] ⟨⟨_,_,rfl,rfl,.inr ⟨rfl,_,rfl,rfl,hv25⟩⟩,trivial⟩ ⟨v25,rfl,H⟩
theorem O109:CallOk prog 109:=ck func109
theorem R109 (p0 p1 k h) (H:slices_Index_api_Nonce_api_Nonce p0 p1 k h):CallsH prog 109 #[Slc.v p0,.agg (arr 12 .u8 p1).toArray] h (fun v h'=>∃ r:Int,v = .int .i64 r/\k r h'):=by
 refine fE func109 fun w0=>?_
 refine zF [0,1] (zQ ?_)
 refine wX H fun b1 h2 H=>?_
 refine w1 tok (zE (zS (zQ ?_)))
 refine w3 tok (zE (zB ?_))
 obtain ⟨I1,μ1,H0,HI⟩:=H
 refine zO (σ:=Int) [0,3,7] (fun (s:Int)=>[(8,.int .i64 s)]) I1 μ1 0 H0 ?_
 rintro t8_1 h_1 H
 replace H:=HI t8_1 h_1 H
 refine zF [8,0,3,7] (zQ ?_)
 refine w1 tok (zE (zS ?_))
 refine zI H ?_ ?_ <;> intro H
 refine zK (zX (zS (zB (zQ (w2 tok (zE (zS ?_)))))))
 refine c_draw (by kernel_rfl) (by kernel_rfl) ?_
 obtain ⟨v3,hv3,H⟩:=H
 refine q_y (y_lda tok rfl rfl rfl rfl rfl hv3) rfl rfl ?_
 refine q_p tok rfl rfl rfl ?_
 refine q_p tok rfl rfl rfl ?_
 obtain ⟨a4,ha4,la4,ua4,H⟩:=H
 refine q_y (y_ixa' tok rfl rfl ha4 rfl rfl rfl la4 ua4) rfl rfl ?_
 obtain ⟨v5,hv5,H⟩:=H
 refine q_y (y_lda tok rfl rfl rfl rfl rfl hv5) rfl rfl ?_
 refine q_y (y_eqr (xs:=v3) (ys:=v5) tok (.inl rfl) rfl rfl rfl rfl rfl rfl (by kernel_rfl)) rfl rfl ?_
 refine q_end ?_
 refine zX (zF [8,0,3,7,5,16] ?_)
 refine zI H ?_ ?_ <;> intro H
 refine zQ (w2 tok (zE (zF [4] (zT (yB (yT (yT (yB (yT ?_)))))))))
 exact x_ret _ rfl _ rfl ⟨t8_1,rfl,H⟩
 refine zK (yL (zX (zR (w2 tok (zW ?_)))))
 exact xJ (IntKind.i64.wrap (t8_1 + 1)) H
 refine zY (yE (yE (yH (zX (zQ ?_)))))
 obtain ⟨x7,ex7,H⟩:=H
 refine w_pe tok rfl (congrArg (fun z=>(.int .i64 z:Value)) ex7) rfl rfl ?_
 refine zE (zT ?_)
 exact x_ret _ rfl _ rfl ⟨x7,rfl,H⟩
theorem O81:CallOk prog 81:=ck func81
theorem R81 (p0 p1 k h) (H:slices_Contains_api_Nonce_api_Nonce p0 p1 k h):CallsH prog 81 #[Slc.v p0,.agg (arr 12 .u8 p1).toArray] h (fun v h'=>∃ r:Bool,v = .bool r/\k r h'):=by
 refine fE func81 fun w0=>?_
 refine zF [0,1] (zQ ?_)
 refine wX H fun b1 h2 H=>?_
 refine w1 tok (zE (zQ ?_))
 refine w1 tok ?_
 refine wLa tok H fun v3 H=>?_
 refine wC O109 (R109 _ _ _ _ H) fun r4 h5 H=>?_
 refine w2 tok (zE (zF [4] (zT ?_)))
 exact x_ret _ rfl _ rfl ⟨(decide (r4>=0)),rfl,H⟩
theorem O80:CallOk prog 80:=ck func80
theorem R80 (p0 p1 k h) (H:strong_Make_1 p0 p1 k h):CallsH prog 80 #[.agg (S_api_Box.cs p0).toArray,.pointer (some p1)] h (fun v h'=>∃ r:Bool,v = .bool r/\k r h'):=by
 refine fE func80 fun w0=>?_
 refine zF [0,1] (zQ ?_)
 refine wX H fun b1 h2 H=>?_
 refine w1 tok (zE (zQ ?_))
 refine w1 tok ?_
 refine wL tok H fun v3 H=>?_
 refine w1 tok ?_
 refine wLa tok H fun v4 H=>?_
 refine wC O81 (R81 _ _ _ _ H) fun r5 h6 H=>?_
 refine w1 tok (zE (zF [3] (zT ?_)))
 exact x_ret _ rfl _ rfl ⟨r5,rfl,H⟩
theorem O108_1_80:CallOk prog 108:=ck func108
theorem R108_1_80 (p0 p1c0 k h) (H:slices_IndexFunc_api_Box_api_Box__strong_Make_1 p0 p1c0 k h):CallsH prog 108 #[Slc.v p0,(Value.func (.func 80) #[] #[.pointer (some p1c0)])] h (fun v h'=>∃ r:Int,v = .int .i64 r/\k r h'):=by
 refine fE func108 fun w0=>?_
 refine zF [0,1] (zQ ?_)
 refine w1 tok (zE (zS (zQ ?_)))
 refine w3 tok (zE (zB ?_))
 obtain ⟨I1,μ1,H0,HI⟩:=H
 refine zO (σ:=Int) [0,1,7] (fun (s:Int)=>[(8,.int .i64 s)]) I1 μ1 0 H0 ?_
 rintro t8_1 h_1 H
 replace H:=HI t8_1 h_1 H
 refine zF [8,0,1,7] (zQ ?_)
 refine w1 tok (zE (zS ?_))
 refine zI H ?_ ?_ <;> intro H
 refine zK (zX (zS (zB (zQ (w2 tok (zE (zQ ?_)))))))
 refine w3 tok ?_
 refine wD tok H fun a1 _ H=>?_
 refine wLa tok H fun v2 H=>?_
 refine w_callv (vs:=[.agg (S_api_Box.cs v2).toArray]) (cap:=[.pointer (some p1c0)]) O80 (R80 _ _ _ _ H) rfl rfl rfl rfl rfl ?_
 rintro _ h4 ⟨r3,rfl,H⟩
 refine zE (zF [8,0,1,7,5,16] ?_)
 refine zI H ?_ ?_ <;> intro H
 refine zQ (w2 tok (zE (zF [4] (zT (yB (yT (yT (yB (yT ?_)))))))))
 exact x_ret _ rfl _ rfl ⟨t8_1,rfl,H⟩
 refine zK (yL (zX (zR (w2 tok (zW ?_)))))
 exact xJ (IntKind.i64.wrap (t8_1 + 1)) H
 refine zY (yE (yE (yH (zX (zQ ?_)))))
 obtain ⟨x5,ex5,H⟩:=H
 refine w_pe tok rfl (congrArg (fun z=>(.int .i64 z:Value)) ex5) rfl rfl ?_
 refine zE (zT ?_)
 exact x_ret _ rfl _ rfl ⟨x5,rfl,H⟩
theorem O79_1_80:CallOk prog 79:=ck func79
theorem R79_1_80 (p0 p1c0 k h) (H:slices_DeleteFunc_api_Box_api_Box__strong_Make_1 p0 p1c0 k h):CallsH prog 79 #[Slc.v p0,(Value.func (.func 80) #[] #[.pointer (some p1c0)])] h (fun v h'=>∃ r:Slc,v=Slc.v r/\k r h'):=by
 refine fE func79 fun w0=>?_
 refine zF [0,1] (zQ ?_)
 refine w1 tok (zE (zQ ?_))
 refine w2 tok ?_
 refine wC O108_1_80 (R108_1_80 _ _ _ _ H) fun r1 h2 H=>?_
 refine w1 tok (zE (zS (zQ ?_)))
 refine w2 tok (zE ?_)
 refine zI H ?_ ?_ <;> intro H
 refine zQ (w2 tok (zE (zF [4] (zT (yT ?_)))))
 exact x_ret _ rfl _ rfl ⟨p0,rfl,H⟩
 refine zK (zX (zS (zQ (w2 tok ?_))))
 obtain ⟨x3,ex3,H⟩:=H
 refine w_pe tok rfl (congrArg (fun z=>(.int .i64 z:Value)) ex3) rfl rfl ?_
 refine zE (zF [0,1,5,6] (zB ?_))
 obtain ⟨I1,μ1,H0,HI⟩:=H
 refine zO (σ:=Int × Int) [0,1] (fun (s:Int × Int)=>[(5,.int .i64 s.1),(6,.int .i64 s.2)]) I1 μ1 (r1,x3) H0 ?_
 rintro ⟨t5_1,t6_1⟩ h_1 H
 replace H:=HI t5_1 t6_1 h_1 H
 refine zF [5,6,0,1] (zS (zQ ?_))
 refine w4 tok (zE ?_)
 refine zI H ?_ ?_ <;> intro H
 refine zK (zX ?_)
 refine zJ (α:=Int) [0,1,6] (fun (s:Int)=>[(5,.int .i64 s)]) (fun (s:Int) h=>slices_DeleteFunc_api_Box_api_Box__strong_Make_1_j2 p0 p1c0 t6_1 s k (fun s h'=>I1 s h'/\μ1 s h' < μ1 (t5_1,t6_1) h_1) h) ?_ ?_
 rintro t5_2 h_2 H
 refine zF [5,0,1,6] (zR ?_)
 refine w2 tok ?_
 obtain ⟨x4,ex4,H⟩:=H
 refine w_pe tok rfl (congrArg (fun z=>(.int .i64 z:Value)) ex4) rfl rfl ?_
 refine zW ?_
 exact xJ (t5_2,x4) H
 refine zB (zQ (w2 tok ?_))
 refine wD tok H fun a5 _ H=>?_
 refine wLa tok H fun v6 H=>?_
 refine wB tok H fun b7 h8 H=>?_
 refine wTa tok H fun h9 H=>?_
 refine zE (zF [5,6,0,1,7] (zQ ?_))
 refine w1 tok ?_
 refine wLa tok H fun v10 H=>?_
 refine w_callv (vs:=[.agg (S_api_Box.cs v10).toArray]) (cap:=[.pointer (some p1c0)]) O80 (R80 _ _ _ _ H) rfl rfl rfl rfl rfl ?_
 rintro _ h12 ⟨r11,rfl,H⟩
 refine w1 tok (zE ?_)
 refine zI H ?_ ?_ <;> intro H
 refine zQ (w2 tok ?_)
 refine wLa tok H fun v13 H=>?_
 refine wD tok H fun a14 _ H=>?_
 refine wTa tok H fun h15 H=>?_
 refine zE (zF [5,6,0,1] (zR ?_))
 refine w2 tok ?_
 obtain ⟨x16,ex16,H⟩:=H
 refine w_pe tok rfl (congrArg (fun z=>(.int .i64 z:Value)) ex16) rfl rfl ?_
 refine zL ?_
 exact xJ x16 H
 refine zK (yL ?_)
 exact xJ t5_1 H
 refine zY (yE (yE (yH (zX (zQ (w2 tok ?_))))))
 obtain ⟨s17,ps17,qs17,rs17,ts17,es17,H⟩:=H
 refine wYe (y_sl (s:=p0) (L:=t5_1) (H:=(p0.len:Int)) (M:=(p0.cap:Int)) tok rfl rfl rfl rfl rfl rfl rfl (by simp) ps17 qs17 rs17 ts17) (congrArg Slc.v es17) ?_
 obtain ⟨wh18,h18,eh18,H⟩:=H
 refine wH (h_clrs (s:=s17) tok rfl rfl rfl rfl rfl rfl wh18 eh18) ?_
 refine zE (zF [5,0] (zQ ?_))
 refine w2 tok ?_
 obtain ⟨s19,ps19,qs19,rs19,ts19,es19,H⟩:=H
 refine wYe (y_sl (s:=p0) (L:=0) (H:=t5_1) (M:=(p0.cap:Int)) tok rfl rfl rfl rfl rfl rfl rfl (by simp) ps19 qs19 rs19 ts19) (congrArg Slc.v es19) ?_
 refine w1 tok (zE (zT ?_))
 exact x_ret _ rfl _ rfl ⟨s19,rfl,H⟩
theorem O83:CallOk prog 83:=ck func83
theorem R83 (p0 p1 k h) (H:strong_Make_2 p0 p1 k h):CallsH prog 83 #[.agg (S_api_Box.cs p0).toArray,.pointer (some p1)] h (fun v h'=>∃ r:Bool,v = .bool r/\k r h'):=by
 refine fE func83 fun w0=>?_
 refine zF [0,1] (zQ ?_)
 refine wX H fun b1 h2 H=>?_
 refine w1 tok (zE (zQ ?_))
 refine w1 tok ?_
 refine wL tok H fun v3 H=>?_
 refine w1 tok ?_
 refine wL tok H fun v4 H=>?_
 refine w2 tok (zE (zF [3] (zT ?_)))
 exact x_ret _ rfl _ rfl ⟨(v3.toList == v4.toList),rfl,H⟩
theorem O108_1_83:CallOk prog 108:=ck func108
theorem R108_1_83 (p0 p1c0 k h) (H:slices_IndexFunc_api_Box_api_Box__strong_Make_2 p0 p1c0 k h):CallsH prog 108 #[Slc.v p0,(Value.func (.func 83) #[] #[.pointer (some p1c0)])] h (fun v h'=>∃ r:Int,v = .int .i64 r/\k r h'):=by
 refine fE func108 fun w0=>?_
 refine zF [0,1] (zQ ?_)
 refine w1 tok (zE (zS (zQ ?_)))
 refine w3 tok (zE (zB ?_))
 obtain ⟨I1,μ1,H0,HI⟩:=H
 refine zO (σ:=Int) [0,1,7] (fun (s:Int)=>[(8,.int .i64 s)]) I1 μ1 0 H0 ?_
 rintro t8_1 h_1 H
 replace H:=HI t8_1 h_1 H
 refine zF [8,0,1,7] (zQ ?_)
 refine w1 tok (zE (zS ?_))
 refine zI H ?_ ?_ <;> intro H
 refine zK (zX (zS (zB (zQ (w2 tok (zE (zQ ?_)))))))
 refine w3 tok ?_
 refine wD tok H fun a1 _ H=>?_
 refine wLa tok H fun v2 H=>?_
 refine w_callv (vs:=[.agg (S_api_Box.cs v2).toArray]) (cap:=[.pointer (some p1c0)]) O83 (R83 _ _ _ _ H) rfl rfl rfl rfl rfl ?_
 rintro _ h4 ⟨r3,rfl,H⟩
 refine zE (zF [8,0,1,7,5,16] ?_)
 refine zI H ?_ ?_ <;> intro H
 refine zQ (w2 tok (zE (zF [4] (zT (yB (yT (yT (yB (yT ?_)))))))))
 exact x_ret _ rfl _ rfl ⟨t8_1,rfl,H⟩
 refine zK (yL (zX (zR (w2 tok (zW ?_)))))
 exact xJ (IntKind.i64.wrap (t8_1 + 1)) H
 refine zY (yE (yE (yH (zX (zQ ?_)))))
 obtain ⟨x5,ex5,H⟩:=H
 refine w_pe tok rfl (congrArg (fun z=>(.int .i64 z:Value)) ex5) rfl rfl ?_
 refine zE (zT ?_)
 exact x_ret _ rfl _ rfl ⟨x5,rfl,H⟩
theorem O79_1_83:CallOk prog 79:=ck func79
theorem R79_1_83 (p0 p1c0 k h) (H:slices_DeleteFunc_api_Box_api_Box__strong_Make_2 p0 p1c0 k h):CallsH prog 79 #[Slc.v p0,(Value.func (.func 83) #[] #[.pointer (some p1c0)])] h (fun v h'=>∃ r:Slc,v=Slc.v r/\k r h'):=by
 refine fE func79 fun w0=>?_
 refine zF [0,1] (zQ ?_)
 refine w1 tok (zE (zQ ?_))
 refine w2 tok ?_
 refine wC O108_1_83 (R108_1_83 _ _ _ _ H) fun r1 h2 H=>?_
 refine w1 tok (zE (zS (zQ ?_)))
 refine w2 tok (zE ?_)
 refine zI H ?_ ?_ <;> intro H
 refine zQ (w2 tok (zE (zF [4] (zT (yT ?_)))))
 exact x_ret _ rfl _ rfl ⟨p0,rfl,H⟩
 refine zK (zX (zS (zQ (w2 tok ?_))))
 obtain ⟨x3,ex3,H⟩:=H
 refine w_pe tok rfl (congrArg (fun z=>(.int .i64 z:Value)) ex3) rfl rfl ?_
 refine zE (zF [0,1,5,6] (zB ?_))
 obtain ⟨I1,μ1,H0,HI⟩:=H
 refine zO (σ:=Int × Int) [0,1] (fun (s:Int × Int)=>[(5,.int .i64 s.1),(6,.int .i64 s.2)]) I1 μ1 (r1,x3) H0 ?_
 rintro ⟨t5_1,t6_1⟩ h_1 H
 replace H:=HI t5_1 t6_1 h_1 H
 refine zF [5,6,0,1] (zS (zQ ?_))
 refine w4 tok (zE ?_)
 refine zI H ?_ ?_ <;> intro H
 refine zK (zX ?_)
 refine zJ (α:=Int) [0,1,6] (fun (s:Int)=>[(5,.int .i64 s)]) (fun (s:Int) h=>slices_DeleteFunc_api_Box_api_Box__strong_Make_2_j2 p0 p1c0 t6_1 s k (fun s h'=>I1 s h'/\μ1 s h' < μ1 (t5_1,t6_1) h_1) h) ?_ ?_
 rintro t5_2 h_2 H
 refine zF [5,0,1,6] (zR ?_)
 refine w2 tok ?_
 obtain ⟨x4,ex4,H⟩:=H
 refine w_pe tok rfl (congrArg (fun z=>(.int .i64 z:Value)) ex4) rfl rfl ?_
 refine zW ?_
 exact xJ (t5_2,x4) H
 refine zB (zQ (w2 tok ?_))
 refine wD tok H fun a5 _ H=>?_
 refine wLa tok H fun v6 H=>?_
 refine wB tok H fun b7 h8 H=>?_
 refine wTa tok H fun h9 H=>?_
 refine zE (zF [5,6,0,1,7] (zQ ?_))
 refine w1 tok ?_
 refine wLa tok H fun v10 H=>?_
 refine w_callv (vs:=[.agg (S_api_Box.cs v10).toArray]) (cap:=[.pointer (some p1c0)]) O83 (R83 _ _ _ _ H) rfl rfl rfl rfl rfl ?_
 rintro _ h12 ⟨r11,rfl,H⟩
 refine w1 tok (zE ?_)
 refine zI H ?_ ?_ <;> intro H
 refine zQ (w2 tok ?_)
 refine wLa tok H fun v13 H=>?_
 refine wD tok H fun a14 _ H=>?_
 refine wTa tok H fun h15 H=>?_
 refine zE (zF [5,6,0,1] (zR ?_))
 refine w2 tok ?_
 obtain ⟨x16,ex16,H⟩:=H
 refine w_pe tok rfl (congrArg (fun z=>(.int .i64 z:Value)) ex16) rfl rfl ?_
 refine zL ?_
 exact xJ x16 H
 refine zK (yL ?_)
 exact xJ t5_1 H
 refine zY (yE (yE (yH (zX (zQ (w2 tok ?_))))))
 obtain ⟨s17,ps17,qs17,rs17,ts17,es17,H⟩:=H
 refine wYe (y_sl (s:=p0) (L:=t5_1) (H:=(p0.len:Int)) (M:=(p0.cap:Int)) tok rfl rfl rfl rfl rfl rfl rfl (by simp) ps17 qs17 rs17 ts17) (congrArg Slc.v es17) ?_
 obtain ⟨wh18,h18,eh18,H⟩:=H
 refine wH (h_clrs (s:=s17) tok rfl rfl rfl rfl rfl rfl wh18 eh18) ?_
 refine zE (zF [5,0] (zQ ?_))
 refine w2 tok ?_
 obtain ⟨s19,ps19,qs19,rs19,ts19,es19,H⟩:=H
 refine wYe (y_sl (s:=p0) (L:=0) (H:=t5_1) (M:=(p0.cap:Int)) tok rfl rfl rfl rfl rfl rfl rfl (by simp) ps19 qs19 rs19 ts19) (congrArg Slc.v es19) ?_
 refine w1 tok (zE (zT ?_))
 exact x_ret _ rfl _ rfl ⟨s19,rfl,H⟩
theorem O150:CallOk prog 150:=ck func150
theorem R150 (p0 k h) (H:rlog_Log_Base p0 k h):CallsH prog 150 #[.pointer p0] h (fun v h'=>∃ r:Int × Int,v = .tuple #[.int .u64 r.1,.int .u64 r.2]/\k r h'):=by
 refine fE func150 fun w0=>?_
 refine zF [0] (zQ ?_)
 refine w2 tok (zE (zS (zQ ?_)))
 refine w2 tok (zE ?_)
 refine zI H ?_ ?_ <;> intro H
 refine zQ (w2 tok (zE (zT (yT ?_))))
 exact x_ret _ rfl _ rfl ⟨(0,0),rfl,H⟩
 refine zK (zX (zS ?_))
 refine c_draw (by kernel_rfl) (by kernel_rfl) ?_
 refine q_p tok rfl rfl rfl ?_
 obtain ⟨a1,ha1,H⟩:=H
 refine q_y (y_nil' rfl rfl ha1) rfl rfl ?_
 refine q_p tok rfl rfl rfl ?_
 obtain ⟨v2,hv2,H⟩:=H
 refine q_y (y_ld tok rfl rfl rfl rfl hv2) rfl rfl ?_
 refine q_p tok rfl rfl rfl ?_
 refine q_y (y_nil' rfl rfl ha1) rfl rfl ?_
 refine q_p tok rfl rfl rfl ?_
 obtain ⟨v3,hv3,H⟩:=H
 refine q_y (y_ld tok rfl rfl rfl rfl hv3) rfl rfl ?_
 refine q_p tok rfl rfl rfl ?_
 refine q_p tok rfl rfl rfl ?_
 refine q_end ?_
 refine zX (zF [2,3] (zT ?_))
 exact x_ret _ rfl _ rfl ⟨(v2,v3),rfl,H⟩
theorem O151:CallOk prog 151:=ck func151
theorem R151 (p0 k h) (H:rlog_Log_Last p0 k h):CallsH prog 151 #[.pointer p0] h (fun v h'=>∃ r:Int × Int,v = .tuple #[.int .u64 r.1,.int .u64 r.2]/\k r h'):=by
 refine fE func151 fun w0=>?_
 refine zF [0] (zQ ?_)
 refine w2 tok (zE (zS (zQ ?_)))
 refine w2 tok (zE ?_)
 refine zI H ?_ ?_ <;> intro H
 refine zQ (w2 tok (zE (zT (yT ?_))))
 exact x_ret _ rfl _ rfl ⟨(0,0),rfl,H⟩
 refine zK (zX (zS (zQ (w1 tok ?_))))
 refine wN H fun a1 ha1 H=>?_
 refine w1 tok ?_
 refine wL tok H fun v2 H=>?_
 refine w1 tok ?_
 obtain ⟨x3,ex3,H⟩:=H
 refine w_pe tok rfl (congrArg (fun z=>(.int .i64 z:Value)) ex3) rfl rfl ?_
 refine zE (zF [0,4] (zQ ?_))
 refine w2 tok (zE ?_)
 refine zI H ?_ ?_ <;> intro H
 refine zS ?_
 refine c_draw (by kernel_rfl) (by kernel_rfl) ?_
 refine q_p tok rfl rfl rfl ?_
 refine q_y (y_nil' rfl rfl ha1) rfl rfl ?_
 refine q_p tok rfl rfl rfl ?_
 obtain ⟨v4,hv4,H⟩:=H
 refine q_y (y_ld tok rfl rfl rfl rfl hv4) rfl rfl ?_
 refine q_p tok rfl rfl rfl ?_
 refine q_p tok rfl rfl rfl ?_
 refine q_p tok rfl rfl rfl ?_
 refine q_p tok rfl rfl rfl ?_
 refine q_y (y_nil' rfl rfl ha1) rfl rfl ?_
 refine q_p tok rfl rfl rfl ?_
 obtain ⟨v5,hv5,H⟩:=H
 refine q_y (y_ld tok rfl rfl rfl rfl hv5) rfl rfl ?_
 refine q_p tok rfl rfl rfl ?_
 refine q_p tok rfl rfl rfl ?_
 obtain ⟨a6,ha6,la6,ua6,H⟩:=H
 refine q_y (y_ixa' tok rfl rfl ha6 rfl rfl rfl la6 ua6) rfl rfl ?_
 refine q_p tok rfl rfl rfl ?_
 obtain ⟨v7,hv7,H⟩:=H
 refine q_y (y_ld tok rfl rfl rfl rfl hv7) rfl rfl ?_
 refine q_p tok rfl rfl rfl ?_
 refine q_p tok rfl rfl rfl ?_
 refine q_end ?_
 refine zX (zF [2,3] (zT (yT ?_)))
 exact x_ret _ rfl _ rfl ⟨((IntKind.u64.wrap (v4 + (IntKind.u64.wrap x3))),v7),rfl,H⟩
 refine zK (zX (zS ?_))
 refine c_draw (by kernel_rfl) (by kernel_rfl) ?_
 refine q_p tok rfl rfl rfl ?_
 refine q_y (y_nil' rfl rfl ha1) rfl rfl ?_
 refine q_p tok rfl rfl rfl ?_
 obtain ⟨v8,hv8,H⟩:=H
 refine q_y (y_ld tok rfl rfl rfl rfl hv8) rfl rfl ?_
 refine q_p tok rfl rfl rfl ?_
 refine q_y (y_nil' rfl rfl ha1) rfl rfl ?_
 refine q_p tok rfl rfl rfl ?_
 obtain ⟨v9,hv9,H⟩:=H
 refine q_y (y_ld tok rfl rfl rfl rfl hv9) rfl rfl ?_
 refine q_p tok rfl rfl rfl ?_
 refine q_p tok rfl rfl rfl ?_
 refine q_end ?_
 refine zX (zF [2,3] (zT ?_))
 exact x_ret _ rfl _ rfl ⟨(v8,v9),rfl,H⟩
theorem O133:CallOk prog 133:=ck func133
theorem R133 (p0 p1 k h) (H:rlog_Log_Term p0 p1 k h):CallsH prog 133 #[.pointer p0,.int .u64 p1] h (fun v h'=>∃ r:Int × Int,v = .tuple #[.int .u64 r.1,.int .i64 r.2]/\k r h'):=by
 refine fE func133 fun w0=>?_
 refine zF [0,1] (zQ ?_)
 refine w2 tok (zE (zQ ?_))
 refine w1 tok ?_
 refine wC O150 (R150 _ _ _ H) fun r1 h2 H=>?_
 refine w5 tok (zE (zF [0,1,6,7] (zQ ?_)))
 refine w1 tok ?_
 refine wC O151 (R151 _ _ _ H) fun r3 h4 H=>?_
 refine w5 tok (zE (zS (zB (zQ ?_))))
 refine w4 tok (zE (zF [0,1,6,7,8,20] ?_))
 refine zI H ?_ ?_ <;> intro H
 refine zQ (w2 tok (zE (zT (yB (yT ?_)))))
 exact x_ret _ rfl _ rfl ⟨(0,13),rfl,H⟩
 refine zQ (w4 tok (zE ?_))
 refine zI H ?_ ?_ <;> intro H
 refine zQ (w2 tok (zE (zF [4,5] (zT (yB (yT ?_))))))
 exact x_ret _ rfl _ rfl ⟨(0,6),rfl,H⟩
 refine zQ (w4 tok (zE (zF [0,1,6,7,28] ?_)))
 refine zI H ?_ ?_ <;> intro H
 refine zQ (w3 tok (zE (zT (yB (yT ?_)))))
 exact x_ret _ rfl _ rfl ⟨(r1.2,0),rfl,H⟩
 refine zK (yL (zX (zQ (w1 tok ?_))))
 refine wN H fun a5 _ H=>?_
 refine w1 tok ?_
 refine wL tok H fun v6 H=>?_
 refine w4 tok ?_
 refine wD tok H fun a7 _ H=>?_
 refine w1 tok ?_
 refine wL tok H fun v8 H=>?_
 refine w2 tok (zE (zF [4,5] (zT ?_)))
 exact x_ret _ rfl _ rfl ⟨(v8,0),rfl,H⟩
theorem O111:CallOk prog 111:=ck func111
theorem R111 (p0 p1 p2 k h) (H:rlog_Log_Match p0 p1 p2 k h):CallsH prog 111 #[.pointer p0,.int .u64 p1,.int .u64 p2] h (fun v h'=>∃ r:Bool,v = .bool r/\k r h'):=by
 refine fE func111 fun w0=>?_
 refine zF [0,1,2] (zQ ?_)
 refine w1 tok (zE (zQ ?_))
 refine w2 tok ?_
 refine wC O133 (R133 _ _ _ _ H) fun r1 h2 H=>?_
 refine w5 tok (zE (zF [2,7,8] (zQ ?_)))
 refine w3 tok ?_
 refine vU 4 [] [(21,.bool ((r1.2 == 0) && (r1.1 == p2)))] ?_ ?_
 refine w1 tok (zE (zT ?_))
 exact x_ret _ rfl _ rfl ⟨((r1.2 == 0) && (r1.1 == p2)),rfl,H⟩
 refine vG (d:=17) (fun hb=>?_) (fun hb=>?_)
 refine w4 tok ?_
 refine vK ?_
 exact congrArg (fun b=>some (Value.bool b)) (and_t hb)
 refine wS (wS (wS (w1 tok ?_)))
 refine vK ?_
 exact congrArg (fun b=>some (Value.bool b)) (and_f hb)
theorem O110:CallOk prog 110:=ck func110
theorem R110 (p0 p1 p2 p3 k h) (H:rlog_Log_Append p0 p1 p2 p3 k h):CallsH prog 110 #[.pointer p0,.int .u64 p1,.int .u64 p2,Slc.v p3] h (fun v h'=>∃ r:Int × Int,v = .tuple #[.int .u64 r.1,.int .i64 r.2]/\k r h'):=by
 refine fE func110 fun w0=>?_
 refine zF [0,1,2,3] (zQ ?_)
 refine w2 tok (zE (zC (zS (zQ ?_))))
 refine w2 tok (zE ?_)
 refine zI H ?_ ?_ <;> intro H
 refine zQ (w2 tok (zE (zT (yT (yR ?_)))))
 exact x_ret _ rfl _ rfl ⟨(0,1),rfl,H⟩
 refine zK (zX (zS (zQ (w2 tok ?_))))
 refine wN H fun a1 _ H=>?_
 refine w1 tok ?_
 refine wL tok H fun v2 H=>?_
 refine w2 tok ?_
 refine vJ 6 (α:=Bool) [0,1,3] (fun (s:Bool)=>[(29,.bool s)]) (fun (s:Bool) h=>rlog_Log_Append_g1 p0 p1 p3 s k h) ?_ ?_
 rintro t29_1 h_1 H
 refine vF [29,0,1,3] (zE ?_)
 refine zI H ?_ ?_ <;> intro H
 refine zQ (w2 tok (zE (zT (yT (yR ?_)))))
 exact x_ret _ rfl _ rfl ⟨(0,6),rfl,H⟩
 refine zK (zX (zQ (w5 tok ?_)))
 obtain ⟨x3,ex3,H⟩:=H
 refine w_pe tok rfl (congrArg (fun z=>(.int .u64 z:Value)) ex3) rfl rfl ?_
 refine zE (zQ (w1 tok ?_))
 refine wN H fun a4 _ H=>?_
 refine w1 tok ?_
 refine wL tok H fun v5 H=>?_
 refine w1 tok (zE (zF [0,1,3,8,10] (zS (zA (zX (zS (zQ ?_)))))))
 refine w3 tok (zE (zB ?_))
 obtain ⟨I2,μ2,H0,HI⟩:=H
 refine zO (σ:=Slc × Int) [0,1,8,39,40] (fun (s:Slc × Int)=>[(10,Slc.v s.1),(41,.int .i64 s.2)]) I2 μ2 (v5,0) H0 ?_
 rintro ⟨t10_2,t41_2⟩ h_2 H
 replace H:=HI t10_2 t41_2 h_2 H
 refine zF [10,41,0,1,8,39,40] (zQ ?_)
 refine w1 tok (zE (zS ?_))
 refine zI H ?_ ?_ <;> intro H
 refine zK (zX ?_)
 refine zJ (α:=Slc) [0,1,8,39,40,41] (fun (s:Slc)=>[(10,Slc.v s)]) (fun (s:Slc) h=>rlog_Log_Append_j3 p0 p1 x3 p3 (p3.len:Int) t41_2 s k (fun s h'=>I2 s h'/\μ2 s h' < μ2 (t10_2,t41_2) h_2) h) ?_ ?_
 rintro t10_3 h_3 H
 refine zF [10,0,1,8,39,40,41] (zR ?_)
 refine w2 tok (zW ?_)
 exact xJ (t10_3,(IntKind.i64.wrap (t41_2 + 1))) H
 refine zB (zQ (w1 tok ?_))
 refine wD tok H fun a6 _ H=>?_
 refine wLa tok H fun v7 H=>?_
 refine wB tok H fun b8 h9 H=>?_
 refine w1 tok ?_
 refine wTa tok H fun h10 H=>?_
 refine zE (zQ (w5 tok ?_))
 obtain ⟨x11,ex11,H⟩:=H
 refine w_pe tok rfl (congrArg (fun z=>(.int .u64 z:Value)) ex11) rfl rfl ?_
 refine zE (zF [10,41,0,1,8,39,40,12,13] (zS (zQ ?_)))
 refine w2 tok ?_
 refine wN H fun a12 ha12 H=>?_
 refine w1 tok ?_
 refine wL tok H fun v13 H=>?_
 refine w1 tok (zE ?_)
 refine zI H ?_ ?_ <;> intro H
 refine zY (yE (yH ?_))
 exact xJ t10_2 H
 refine zK (zX (zQ (w2 tok ?_)))
 refine wY (y_nil' rfl rfl ha12) ?_
 refine w1 tok ?_
 refine wL tok H fun v14 H=>?_
 refine w3 tok ?_
 obtain ⟨x15,ex15,H⟩:=H
 refine w_pe tok rfl (congrArg (fun z=>(.int .i64 z:Value)) ex15) rfl rfl ?_
 refine zE (zF [10,41,0,1,8,39,40,12,14] ?_)
 refine zJ (α:=Slc) [0,1,8,12,39,40,41] (fun (s:Slc)=>[(10,Slc.v s)]) (fun (s:Slc) h=>rlog_Log_Append_j4 p0 p1 x3 (ad b8) p3 (p3.len:Int) t41_2 s k (fun s h'=>I2 s h'/\μ2 s h' < μ2 (t10_2,t41_2) h_2) h) ?_ ?_
 rintro t10_4 h_4 H
 refine zF [10,0,1,8,12,39,40,41] (zR ?_)
 refine w1 tok ?_
 refine wLa tok H fun v16 H=>?_
 obtain ⟨b17,h18,eb17,eh18,H⟩:=H
 refine wH (h_bs tok rfl rfl rfl rfl rfl rfl rfl eb17 eh18) ?_
 refine wC O119 (R119 _ _ _ H) fun r19 h20 H=>?_
 obtain ⟨l23,hl23,H⟩:=H
 refine wA (a_app (s:=t10_4) (r:=r19) tok rfl rfl rfl rfl rfl hl23 H) ?_
 rintro _ h22 ⟨s21,rfl,H⟩
 refine w1 tok (zL ?_)
 exact xJ s21 H
 refine zQ (w4 tok (zE ?_))
 refine zI H ?_ ?_ <;> intro H
 refine zS (zS ?_)
 refine c_draw (by kernel_rfl) (by kernel_rfl) ?_
 refine q_p tok rfl rfl rfl ?_
 refine q_p tok rfl rfl rfl ?_
 obtain ⟨a24,ha24,la24,ua24,H⟩:=H
 refine q_y (y_ixa' tok rfl rfl ha24 rfl rfl rfl la24 ua24) rfl rfl ?_
 refine q_p tok rfl rfl rfl ?_
 obtain ⟨v25,hv25,H⟩:=H
 refine q_y (y_ld tok rfl rfl rfl rfl hv25) rfl rfl ?_
 refine q_p tok rfl rfl rfl ?_
 obtain ⟨v26,hv26,H⟩:=H
 refine q_y (y_ld tok rfl rfl rfl rfl hv26) rfl rfl ?_
 refine q_p tok rfl rfl rfl ?_
 refine q_end ?_
 refine zX (zF [10,41,0,1,8,39,40,12,14,76] ?_)
 refine zI H ?_ ?_ <;> intro H
 refine zY (yE (yE (yH ?_)))
 exact xJ t10_2 H
 refine zK (zX (zR (w3 tok ?_)))
 obtain ⟨s27,ps27,qs27,rs27,ts27,es27,H⟩:=H
 refine wYe (y_sl (s:=t10_2) (L:=0) (H:=x15) (M:=x15) tok rfl rfl rfl rfl rfl rfl rfl (by simp) ps27 qs27 rs27 ts27) (congrArg Slc.v es27) ?_
 refine w1 tok (zW ?_)
 exact xJ s27 H
 refine zK ?_
 exact xJ t10_2 H
 refine zY (yE (yE (yH (zX (zS (zQ (w3 tok (zE (zF [10,0,8,89] ?_)))))))))
 refine zI H ?_ ?_ <;> intro H
 refine zQ (w2 tok (zE (zT (yT (yR ?_)))))
 exact x_ret _ rfl _ rfl ⟨(0,8),rfl,H⟩
 refine zK (zX (zQ (w2 tok ?_)))
 refine wN H fun a28 _ H=>?_
 refine w1 tok ?_
 refine wT tok H fun h29 H=>?_
 refine zE (zF [8] (zQ ?_))
 refine w3 tok (zE (zT (yR ?_)))
 exact x_ret _ rfl _ rfl ⟨(x3,0),rfl,H⟩
 refine vI 23 H ?_ ?_ <;> intro H
 refine w3 tok ?_
 refine wC O111 (R111 _ _ _ _ _ H) fun r30 h31 H=>?_
 refine w2 tok ?_
 exact wJ (!r30) H
 refine wS (wS (wS (wS (wS (w1 tok ?_)))))
 exact wJ false H
theorem O134:CallOk prog 134:=ck func134
theorem R134 (p0 k h) (H:slices_Clone_api_Entry_api_Entry p0 k h):CallsH prog 134 #[Slc.v p0] h (fun v h'=>∃ r:Slc,v=Slc.v r/\k r h'):=by
 refine fE func134 fun w0=>?_
 refine zF [0] (zQ ?_)
 refine w1 tok (zE (zS (zQ ?_)))
 refine w2 tok (zE ?_)
 refine zI H ?_ ?_ <;> intro H
 refine zQ (w1 tok (zE (zT (yT ?_))))
 exact x_ret _ rfl _ rfl ⟨(⟨none,0,0⟩:Slc),rfl,H⟩
 refine zK (zX (zQ ?_))
 obtain ⟨b1,h2,eb1,eh2,H⟩:=H
 refine wH (h_bs tok rfl rfl rfl rfl rfl rfl rfl eb1 eh2) ?_
 refine w1 tok ?_
 obtain ⟨l5,hl5,H⟩:=H
 refine wA (a_app (s:=(⟨some ⟨b1,0,none⟩,0,0⟩:Slc)) (r:=p0) tok rfl rfl rfl rfl rfl hl5 H) ?_
 rintro _ h4 ⟨s3,rfl,H⟩
 refine w1 tok (zE (zT ?_))
 exact x_ret _ rfl _ rfl ⟨s3,rfl,H⟩
theorem O112:CallOk prog 112:=ck func112
theorem R112 (p0 p1 k h) (H:rlog_Log_Cut p0 p1 k h):CallsH prog 112 #[.pointer p0,.int .u64 p1] h (fun v h'=>∃ r:Int,v = .int .i64 r/\k r h'):=by
 refine fE func112 fun w0=>?_
 refine zF [0,1] (zQ ?_)
 refine w1 tok (zE (zS (zQ ?_)))
 refine w2 tok (zE ?_)
 refine zI H ?_ ?_ <;> intro H
 refine zQ (w1 tok (zE (zT (yT ?_))))
 exact x_ret _ rfl _ rfl ⟨1,rfl,H⟩
 refine zK (zX (zQ (w2 tok ?_)))
 refine wC O133 (R133 _ _ _ _ H) fun r1 h2 H=>?_
 refine w5 tok (zE (zF [0,1,5,6] (zS (zQ ?_))))
 refine w2 tok (zE ?_)
 refine zI H ?_ ?_ <;> intro H
 refine zQ (w2 tok (zE (zF [4] (zT (yT ?_)))))
 exact x_ret _ rfl _ rfl ⟨r1.2,rfl,H⟩
 refine zK (zX (zS ?_))
 refine gB [0,1,5] ?_
 refine gT 0 [0] tok ?_
 refine gT 1 [0] tok ?_
 obtain ⟨a3,ha3,H⟩:=H
 refine gY 2 [19] rfl (fun _=>y_nil' rfl rfl ha3) ?_
 refine gT 3 [20] tok ?_
 obtain ⟨v4,hv4,H⟩:=H
 refine gL 4 [21] rfl (y_ld tok rfl rfl rfl rfl hv4) ?_
 refine gT 5 [1] tok ?_
 refine gT 6 [0] tok ?_
 refine gY 7 [24] rfl (fun _=>y_nil' rfl rfl ha3) ?_
 refine gT 8 [25] tok ?_
 obtain ⟨v5,hv5,H⟩:=H
 refine gL 9 [26] rfl (y_ld tok rfl rfl rfl rfl hv5) ?_
 refine gT 10 [23,27] tok ?_
 obtain ⟨s6,ps6,qs6,rs6,ts6,es6,H⟩:=H
 refine gYe 11 [22,28] rfl (fun _=>y_sl (s:=v4) (L:=(IntKind.u64.wrap (p1 - v5))) (H:=(v4.len:Int)) (M:=(v4.cap:Int)) tok rfl rfl rfl rfl rfl rfl rfl (by simp) ps6 qs6 rs6 ts6) (congrArg Slc.v es6) ?_
 refine gC 12 [29] O134 (R134 _ _ _ H) fun r7 h8 H=>?_
 refine gY 13 [18] rfl (fun _=>y_nil' rfl rfl ha3) ?_
 refine gT 14 [31] tok ?_
 obtain ⟨h9,wh9,eh9,H⟩:=H
 refine gH 15 [30,32] rfl (h_st tok rfl rfl rfl rfl rfl rfl wh9 eh9) ?_
 refine gZ ?_
 refine zX (zF [0,1,5] (zQ ?_))
 refine w4 tok ?_
 refine wY (y_nil' rfl rfl ha3) ?_
 refine w1 tok ?_
 refine wT tok H fun h10 H=>?_
 refine wY (y_nil' rfl rfl ha3) ?_
 refine w1 tok ?_
 refine wT tok H fun h11 H=>?_
 refine zE (zF [] (zQ ?_))
 refine w1 tok (zE (zT ?_))
 exact x_ret _ rfl _ rfl ⟨0,rfl,H⟩
theorem O84:CallOk prog 84:=ck func84
theorem R84 (p0 p1 k h) (H:strong_keep p0 p1 k h):CallsH prog 84 #[.pointer p0,.agg (S_api_Keep.cs p1).toArray] h (fun v h'=>∃ r:Int,v = .int .i64 r/\k r h'):=by
 refine fE func84 fun w0=>?_
 refine zF [0,1] (zQ ?_)
 refine wX H fun b1 h2 H=>?_
 refine w1 tok (zE ?_)
 refine zJ (α:=Unit) [] (fun (s:Unit)=>[]) (fun (s:Unit) h=>strong_keep_j1 k h) ?_ ?_
 rintro _ h_1 H
 refine zF [] (zQ ?_)
 refine w1 tok (zE (zT ?_))
 exact x_ret _ rfl _ rfl ⟨0,rfl,H⟩
 refine zQ (w1 tok ?_)
 refine wL tok H fun v3 H=>?_
 refine zE (zB (zQ (w2 tok (zE ?_))))
 refine zI H ?_ ?_ <;> intro H
 refine gB [0,3] ?_
 refine gT 0 [0] tok ?_
 refine gT 1 [0] tok ?_
 refine gT 2 [3] tok ?_
 obtain ⟨v4,hv4,H⟩:=H
 refine gL 3 [15] rfl (y_ld tok rfl rfl rfl rfl hv4) ?_
 refine gT 4 [3] tok ?_
 obtain ⟨v5,hv5,H⟩:=H
 refine gL 5 [17] rfl (y_ld tok rfl rfl rfl rfl hv5) ?_
 obtain ⟨a6,ha6,H⟩:=H
 refine gY 6 [13] rfl (fun _=>y_nil' rfl rfl ha6) ?_
 refine gT 7 [19] tok ?_
 obtain ⟨h7,wh7,eh7,H⟩:=H
 refine gHr 8 [16,20] rfl (h_st tok rfl rfl rfl rfl rfl rfl wh7 eh7) ?_
 obtain ⟨hy8,H⟩:=H
 refine gR rfl (y_ld tok rfl rfl rfl rfl hy8) ?_
 refine gZ0 ?_
 refine gY 9 [14] rfl (fun _=>y_nil' rfl rfl ha6) ?_
 refine gT 10 [21] tok ?_
 obtain ⟨h9,wh9,eh9,H⟩:=H
 refine gH 11 [18,22] rfl (h_st tok rfl rfl rfl rfl rfl rfl wh9 eh9) ?_
 refine gZ ?_
 refine yL ?_
 exact xJ () H
 refine zQ (w2 tok (zE ?_))
 refine zI H ?_ ?_ <;> intro H
 refine zS ?_
 refine gB [0,3] ?_
 refine gT 0 [0] tok ?_
 obtain ⟨a10,ha10,H⟩:=H
 refine gY 1 [25] rfl (fun _=>y_nil' rfl rfl ha10) ?_
 refine gT 2 [26] tok ?_
 obtain ⟨v11,hv11,H⟩:=H
 refine gL 3 [27] rfl (y_ld tok rfl rfl rfl rfl hv11) ?_
 refine gT 4 [0] tok ?_
 refine gY 5 [29] rfl (fun _=>y_nil' rfl rfl ha10) ?_
 refine gT 6 [30] tok ?_
 obtain ⟨v12,hv12,H⟩:=H
 refine gL 7 [31] rfl (y_ld tok rfl rfl rfl rfl hv12) ?_
 refine gT 8 [0] tok ?_
 refine gY 9 [33] rfl (fun _=>y_nil' rfl rfl ha10) ?_
 refine gT 10 [34] tok ?_
 obtain ⟨v13,hv13,H⟩:=H
 refine gL 11 [35] rfl (y_ld tok rfl rfl rfl rfl hv13) ?_
 refine gC 12 [28,32,36] O92 (R92 _ _ _ _ _ H) fun r14 h15 H=>?_
 refine gT 13 [37] tok ?_
 refine gZ ?_
 refine zX (zF [0,3,5] (zS (zQ ?_)))
 refine w2 tok ?_
 refine wL tok H fun v16 H=>?_
 refine w1 tok ?_
 refine wL tok H fun v17 H=>?_
 refine w1 tok ?_
 refine wL tok H fun v18 H=>?_
 refine wC O110 (R110 _ _ _ _ _ _ H) fun r19 h20 H=>?_
 refine w5 tok (zE (zF [0,5,7] (zQ ?_)))
 refine w2 tok (zE ?_)
 refine zI H ?_ ?_ <;> intro H
 refine zQ (w2 tok (zE (zT (yT (yB (yT ?_))))))
 exact x_ret _ rfl _ rfl ⟨r19.2,rfl,H⟩
 refine zK (zX (zR (w2 tok ?_)))
 refine wC O93 (R93 _ _ _ H) fun r21 h22 H=>?_
 refine wY (y_nil' rfl rfl ha10) ?_
 refine w1 tok ?_
 refine wT tok H fun h23 H=>?_
 refine zL ?_
 exact xJ () H
 refine zQ (w2 tok (zE (zF [0,3,57] ?_)))
 refine zI H ?_ ?_ <;> intro H
 refine zS ?_
 refine gB [0,3] ?_
 refine gT 0 [0] tok ?_
 obtain ⟨a24,ha24,H⟩:=H
 refine gY 1 [59] rfl (fun _=>y_nil' rfl rfl ha24) ?_
 refine gT 2 [60] tok ?_
 obtain ⟨v25,hv25,H⟩:=H
 refine gL 3 [61] rfl (y_ld tok rfl rfl rfl rfl hv25) ?_
 refine gT 4 [0] tok ?_
 refine gY 5 [63] rfl (fun _=>y_nil' rfl rfl ha24) ?_
 refine gT 6 [64] tok ?_
 obtain ⟨v26,hv26,H⟩:=H
 refine gL 7 [65] rfl (y_ld tok rfl rfl rfl rfl hv26) ?_
 refine gT 8 [0] tok ?_
 refine gY 9 [67] rfl (fun _=>y_nil' rfl rfl ha24) ?_
 refine gT 10 [68] tok ?_
 obtain ⟨v27,hv27,H⟩:=H
 refine gL 11 [69] rfl (y_ld tok rfl rfl rfl rfl hv27) ?_
 refine gC 12 [62,66,70] O92 (R92 _ _ _ _ _ H) fun r28 h29 H=>?_
 refine gT 13 [71] tok ?_
 refine gZ ?_
 refine zX (zF [0,3,8] ?_)
 refine zJ (α:=Option Addr) [0,3] (fun (s:Option Addr)=>[(8,.pointer s)]) (fun (s:Option Addr) h=>strong_keep_j2 p0 (ad b1) s k h) ?_ ?_
 rintro t8_2 h_2 H
 refine zF [8,0,3] ?_
 refine gB [0,3,8] ?_
 refine gT 0 [0] tok ?_
 refine gT 1 [0] tok ?_
 refine gT 2 [0] tok ?_
 refine gT 3 [0] tok ?_
 refine gT 4 [3] tok ?_
 obtain ⟨v30,hv30,H⟩:=H
 refine gL 5 [90] rfl (y_ld tok rfl rfl rfl rfl hv30) ?_
 refine gT 6 [3] tok ?_
 obtain ⟨v31,hv31,H⟩:=H
 refine gL 7 [92] rfl (y_ld tok rfl rfl rfl rfl hv31) ?_
 refine gT 8 [8] tok ?_
 refine gT 10 [3] tok ?_
 obtain ⟨v32,hv32,H⟩:=H
 refine gL 11 [96] rfl (y_ld tok rfl rfl rfl rfl hv32) ?_
 refine gCr 9 [94] O93 (R93 _ _ _ H) fun r33 h34 H=>?_
 obtain ⟨hy35,hy36,hy37,H⟩:=H
 refine gR rfl (y_ld tok rfl rfl rfl rfl hy35) ?_
 refine gR rfl (y_ld tok rfl rfl rfl rfl hy36) ?_
 refine gR rfl (y_ld tok rfl rfl rfl rfl hy37) ?_
 refine gZ0 ?_
 refine gCr 12 [97] O64 (R64 _ _ _ H) fun r38 h39 H=>?_
 obtain ⟨hy40,hy41,H⟩:=H
 refine gR rfl (y_ld tok rfl rfl rfl rfl hy40) ?_
 refine gR rfl (y_ld tok rfl rfl rfl rfl hy41) ?_
 refine gZ0 ?_
 obtain ⟨a42,ha42,H⟩:=H
 refine gY 13 [86] rfl (fun _=>y_nil' rfl rfl ha42) ?_
 refine gT 14 [99] tok ?_
 obtain ⟨h43,wh43,eh43,H⟩:=H
 refine gHr 15 [91,100] rfl (h_st tok rfl rfl rfl rfl rfl rfl wh43 eh43) ?_
 obtain ⟨hy44,H⟩:=H
 refine gR rfl (y_ld tok rfl rfl rfl rfl hy44) ?_
 refine gZ0 ?_
 refine gY 16 [87] rfl (fun _=>y_nil' rfl rfl ha42) ?_
 refine gT 17 [101] tok ?_
 obtain ⟨h45,wh45,eh45,H⟩:=H
 refine gH 18 [93,102] rfl (h_st tok rfl rfl rfl rfl rfl rfl wh45 eh45) ?_
 refine gY 19 [88] rfl (fun _=>y_nil' rfl rfl ha42) ?_
 refine gT 20 [103] tok ?_
 obtain ⟨h46,wh46,eh46,H⟩:=H
 refine gH 21 [95,104] rfl (h_st tok rfl rfl rfl rfl rfl rfl wh46 eh46) ?_
 refine gY 22 [89] rfl (fun _=>y_nil' rfl rfl ha42) ?_
 refine gT 23 [105] tok ?_
 obtain ⟨h47,wh47,eh47,H⟩:=H
 refine gH 24 [98,106] rfl (h_st tok rfl rfl rfl rfl rfl rfl wh47 eh47) ?_
 refine gZ ?_
 refine yL ?_
 exact xJ () H
 refine zQ (w2 tok ?_)
 refine wL tok H fun v48 H=>?_
 refine w1 tok ?_
 refine wL tok H fun v49 H=>?_
 refine wC O111 (R111 _ _ _ _ _ H) fun r50 h51 H=>?_
 refine w2 tok ?_
 refine vJ 6 (α:=Bool) [0,3,8] (fun (s:Bool)=>[(85,.bool s)]) (fun (s:Bool) h=>strong_keep_g3 p0 (ad b1) r28 s k h) ?_ ?_
 rintro t85_3 h_3 H
 refine vF [85,0,3,8] (zE ?_)
 refine zI H ?_ ?_ <;> intro H
 refine zR (w1 tok (zW ?_))
 exact xJ none H
 refine zK ?_
 exact xJ r28 H
 refine vI 79 H ?_ ?_ <;> intro H
 refine wS (wS (wS (wS (wS (w1 tok ?_)))))
 exact wJ true H
 refine w2 tok ?_
 refine wL tok H fun v52 H=>?_
 refine wC O112 (R112 _ _ _ _ H) fun r53 h54 H=>?_
 refine w2 tok ?_
 exact wJ (r53 != 0) H
 refine zQ (w1 tok (zE (zT (yB (yT ?_)))))
 exact x_ret _ rfl _ rfl ⟨1,rfl,H⟩
theorem O57:CallOk prog 57:=ck func57
theorem R57 (p0 p1 k h) (H:strong_Make p0 p1 k h):CallsH prog 57 #[.agg (S_api_Mem.cs p0).toArray,.agg (S_api_Change.cs p1).toArray] h (fun v h'=>∃ r:S_api_Mem × Int,v = .tuple #[.agg (S_api_Mem.cs r.1).toArray,.int .i64 r.2]/\k r h'):=by
 refine fE func57 fun w0=>?_
 refine zF [0,1] (zQ ?_)
 refine wX H fun b1 h2 H=>?_
 refine wX H fun b3 h4 H=>?_
 refine wB tok H fun b5 h6 H=>?_
 refine w1 tok (zE (zQ ?_))
 refine wLa tok H fun v7 H=>?_
 refine wC O61 (R61 _ _ _ H) fun r8 h9 H=>?_
 refine wTa tok H fun h10 H=>?_
 refine zE (zQ (w1 tok (zE ?_)))
 refine zJ (α:=Int) [2,4] (fun (s:Int)=>[(6,.int .i64 s)]) (fun (s:Int) h=>strong_Make_j1 (ad b1) (ad b5) s k h) ?_ ?_
 rintro t6_1 h_1 H
 refine zF [6,2,4] ?_
 refine zJ (α:=Int) [2,4] (fun (s:Int)=>[(6,.int .i64 s)]) (fun (s:Int) h=>strong_Make_j2 (ad b1) (ad b5) s k h) ?_ ?_
 rintro t6_2 h_2 H
 refine zF [6,2,4] (zS (zQ ?_))
 refine w2 tok (zE ?_)
 refine zI H ?_ ?_ <;> intro H
 refine zQ ?_
 refine wY (y_build tok rfl rfl rfl rfl rfl) ?_
 refine w1 tok ?_
 refine wTa tok H fun h11 H=>?_
 refine w1 tok (zE (zT (yT ?_)))
 obtain ⟨v12,hv12,H⟩:=H
 exact x_retc tok _ rfl [.agg (S_api_Mem.cs v12).toArray,.int .i64 t6_2] ⟨⟨_,_,rfl,rfl,.inr ⟨rfl,_,rfl,rfl,hv12⟩⟩,rfl,trivial⟩ ⟨(v12,t6_2),rfl,H⟩
 refine zK (zX (zQ ?_))
 refine wLa tok H fun v13 H=>?_
 refine wTa tok H fun h14 H=>?_
 refine w1 tok (zE (zT ?_))
 obtain ⟨v15,hv15,H⟩:=H
 exact x_retc tok _ rfl [.agg (S_api_Mem.cs v15).toArray,.int .i64 0] ⟨⟨_,_,rfl,rfl,.inr ⟨rfl,_,rfl,rfl,hv15⟩⟩,rfl,trivial⟩ ⟨(v15,0),rfl,H⟩
 refine zQ (w2 tok (zE ?_))
 refine zI H ?_ ?_ <;> intro H
 refine zR ?_
 refine wLa tok H fun v16 H=>?_
 refine wC O38 (R38 _ _ _ H) fun r17 h18 H=>?_
 refine w1 tok (zW ?_)
 exact xJ r17 H
 refine zK ?_
 exact xJ t6_1 H
 refine zQ (w1 tok ?_)
 refine wL tok H fun v19 H=>?_
 refine zE (zB (zQ (w2 tok (zE (zF [2,3,4,6,10,11] ?_)))))
 refine zI H ?_ ?_ <;> intro H
 refine zR (w1 tok ?_)
 refine wL tok H fun v20 H=>?_
 refine w1 tok ?_
 refine wT tok H fun h21 H=>?_
 refine zL ?_
 exact xJ 0 H
 refine zQ (w2 tok (zE ?_))
 refine zI H ?_ ?_ <;> intro H
 refine zR (w1 tok ?_)
 refine wL tok H fun v22 H=>?_
 refine w1 tok ?_
 refine wT tok H fun h23 H=>?_
 refine zL ?_
 exact xJ 0 H
 refine zQ (w2 tok (zE ?_))
 refine zI H ?_ ?_ <;> intro H
 refine zR (w1 tok ?_)
 refine wL tok H fun v24 H=>?_
 refine w1 tok ?_
 refine wT tok H fun h25 H=>?_
 refine zL ?_
 exact xJ 0 H
 refine zQ (w2 tok (zE ?_))
 refine zI H ?_ ?_ <;> intro H
 refine zS (zQ (w1 tok ?_))
 refine wL tok H fun v26 H=>?_
 refine w2 tok ?_
 refine vJ 7 (α:=Bool) [2,3,4,6] (fun (s:Bool)=>[(38,.bool s)]) (fun (s:Bool) h=>strong_Make_g3 (ad b1) (ad b3) (ad b5) 0 s k h) ?_ ?_
 rintro t38_3 h_3 H
 refine vF [38,2,3,4,6] (zE ?_)
 refine zI H ?_ ?_ <;> intro H
 refine zQ ?_
 refine wY (y_build tok rfl rfl rfl rfl rfl) ?_
 refine wTa tok H fun h27 H=>?_
 refine w1 tok (zE (zT (yT (yB (yT ?_)))))
 obtain ⟨v28,hv28,H⟩:=H
 exact x_retc tok _ rfl [.agg (S_api_Mem.cs v28).toArray,.int .i64 1] ⟨⟨_,_,rfl,rfl,.inr ⟨rfl,_,rfl,rfl,hv28⟩⟩,rfl,trivial⟩ ⟨(v28,1),rfl,H⟩
 refine zK (zX (zR (w1 tok ?_)))
 refine wL tok H fun v29 H=>?_
 refine w1 tok ?_
 refine wL tok H fun v30 H=>?_
 refine w1 tok ?_
 refine wLa tok H fun v31 H=>?_
 refine wD tok H fun a32 _ H=>?_
 refine wTa tok H fun h33 H=>?_
 refine zL ?_
 exact xJ 0 H
 refine vI 31 H ?_ ?_ <;> intro H
 refine wS (wS (wS (wS (wS (wS (w1 tok ?_))))))
 exact wJ true H
 refine w1 tok ?_
 refine wL tok H fun v34 H=>?_
 refine w1 tok ?_
 refine wL tok H fun v35 H=>?_
 refine w3 tok ?_
 exact wJ (decide (v34>=(v35.len:Int))) H
 refine zQ (w2 tok (zE (zF [2,3,4,6,10,47] ?_)))
 refine zI H ?_ ?_ <;> intro H
 refine zQ (w1 tok ?_)
 refine wL tok H fun v36 H=>?_
 refine wY (y_mkf rfl rfl) ?_
 refine wC O79_1_80 (R79_1_80 _ _ _ _ H) fun r37 h38 H=>?_
 refine w1 tok ?_
 refine wT tok H fun h39 H=>?_
 refine zE (zF [2,3,4,6] ?_)
 refine gB [2,3,4,6] ?_
 refine gT 0 [2] tok ?_
 obtain ⟨v40,hv40,H⟩:=H
 refine gL 1 [54] rfl (y_ld tok rfl rfl rfl rfl hv40) ?_
 refine gT 2 [3] tok ?_
 obtain ⟨v41,hv41,H⟩:=H
 refine gL 3 [56] rfl (y_ld tok rfl rfl rfl rfl hv41) ?_
 refine gCr 4 [57] O82 (R82 _ _ _ H) fun r42 h43 H=>?_
 obtain ⟨hy44,H⟩:=H
 refine gR rfl (y_ld tok rfl rfl rfl rfl hy44) ?_
 refine gZ0 ?_
 obtain ⟨l47,hl47,H⟩:=H
 refine gA 5 [55,58] rfl (a_app (s:=v40) (r:=r42) tok rfl rfl rfl rfl rfl hl47 H) ?_
 rintro _ h46 ⟨s45,rfl,H⟩
 refine gT 6 [2] tok ?_
 obtain ⟨h48,wh48,eh48,H⟩:=H
 refine gH 7 [59,60] rfl (h_st tok rfl rfl rfl rfl rfl rfl wh48 eh48) ?_
 refine gZ ?_
 refine yL ?_
 exact xJ 0 H
 refine zQ (w2 tok (zE ?_))
 refine zI H ?_ ?_ <;> intro H
 refine zR (w1 tok ?_)
 refine wL tok H fun v49 H=>?_
 refine wY (y_mkf rfl rfl) ?_
 refine wC O79_1_83 (R79_1_83 _ _ _ _ H) fun r50 h51 H=>?_
 refine w1 tok ?_
 refine wT tok H fun h52 H=>?_
 refine zL ?_
 exact xJ 0 H
 refine zQ (w2 tok (zE ?_))
 refine zI H ?_ ?_ <;> intro H
 refine zR (w1 tok ?_)
 refine wLa tok H fun v53 H=>?_
 refine wC O84 (R84 _ _ _ _ H) fun r54 h55 H=>?_
 refine w1 tok (zL ?_)
 exact xJ r54 H
 refine zR (w1 tok (zL ?_))
 exact xJ 1 H
end Go.Q.Yk
end

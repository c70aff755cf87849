/- A part of the proof of statements of this seat: lemmas, no statement of their own. -/
import Derived.Test.YtmmpamfadeonmaaGreatDoorYkZae
import Derived.Test.YtmmpamfadeonmaaGreatDoorYkZaf
import Derived.Test.YtmmpamfadeonmaaGreatDoorYkZaj
import Derived.Test.YtmmpamfadeonmaaGreatDoorYkZal
set_option linter.unusedVariables false
set_option linter.unusedSimpArgs false
section
set_option maxRecDepth 100000
set_option maxHeartbeats 1000000
namespace Go.Q.Yk
open Go.Proofs.Tryz
/-- quaestor strong.text -/
def strong_text (p0:Slc) (p1:Slc) (k:(Slc)->Heap->Prop) (h:Heap):Prop :=
  num_PutShort p0 (IntKind.u64.wrap (p1.len:Int)) (fun (r1:Slc) h2=>∃ l5:List Value,SlcAt h2 p1 l5/\App 5 1 1 [.int .u8 0] h2 r1 p1.len l5 (fun s3 h4=>k s3 h4)) h
/-- quaestor strong.numbers -/
def strong_numbers_l1b (t7_1:Slc) (t8_1:Int) (t0_1:Slc) (t9_1:Int) (k:(Slc)->Heap->Prop) (nx1:(Slc × Int)->Heap->Prop) (h_1:Heap):Prop :=
  if (decide (t9_1 < t8_1)) then (∃ a1:Addr,t7_1.a=some a1/\(0:Int)<=t9_1/\t9_1 < (t7_1.len:Int)/\(∃ v2:Int,cellH h_1 (a1.add (t9_1.toNat * 1))=some (.int .u64 v2)/\(num_PutShort t0_1 v2 (fun (r3:Slc) h4=>nx1 (r3,(IntKind.i64.wrap (t9_1 + 1))) h4) h_1))) else (k t0_1 h_1)
def strong_numbers_l1 (t7_1:Slc) (t8_1:Int) (i0:Slc) (i9:Int) (k:(Slc)->Heap->Prop) (h:Heap):Prop :=
  ∃ (I:(Slc × Int)->Heap->Prop) (μ:(Slc × Int)->Heap->Nat),I (i0,i9) h/\∀ (t0_1:Slc) (t9_1:Int) (h:Heap),I (t0_1,t9_1) h->strong_numbers_l1b t7_1 t8_1 t0_1 t9_1 k (fun s h'=>I s h'/\μ s h' < μ (t0_1,t9_1) h) h
def strong_numbers (p0:Slc) (p1:Slc) (k:(Slc)->Heap->Prop) (h:Heap):Prop :=
  strong_numbers_l1 p1 (p1.len:Int) p0 0 k h
/-- quaestor strong.entries -/
def strong_entries_l1b (t12_1:Slc) (t13_1:Int) (t0_1:Slc) (t14_1:Int) (k:(Slc)->Heap->Prop) (nx1:(Slc × Int)->Heap->Prop) (h_1:Heap):Prop :=
  if (decide (t14_1 < t13_1)) then (∃ a3:Addr,t12_1.a=some a3/\(0:Int)<=t14_1/\t14_1 < (t12_1.len:Int)/\(∃ v4:S_api_Entry,CellsAt h_1 (a3.add (t14_1.toNat * 2)) (S_api_Entry.cs v4)/\(∃ (b5:Nat) (h6:Heap),b5=h_1.size/\h6=h_1.push (.cells (S_api_Entry.cs (⟨0,(⟨none,0,0⟩:Slc)⟩:S_api_Entry)).toArray 117)/\(∃ h7:Heap,WrsAt h6 (⟨b5,0,none⟩:Addr) 2/\h7=setsH h6 (⟨b5,0,none⟩:Addr) 0 (S_api_Entry.cs v4)/\(∃ v8:Int,cellH h7 (⟨b5,0,none⟩:Addr)=some (.int .u64 v8)/\(∃ v9:Slc,cellH h7 ((⟨b5,0,none⟩:Addr).add 1)=some (Slc.v v9)/\(num_PutShort t0_1 v8 (fun (r10:Slc) h11=>cellH h11 ((⟨b5,0,none⟩:Addr).add 1)=some (Slc.v v9)/\(strong_text r10 v9 (fun (r13:Slc) h14=>nx1 (r13,(IntKind.i64.wrap (t14_1 + 1))) h14) h11)) h7))))))) else (k t0_1 h_1)
def strong_entries_l1 (t12_1:Slc) (t13_1:Int) (i0:Slc) (i14:Int) (k:(Slc)->Heap->Prop) (h:Heap):Prop :=
  ∃ (I:(Slc × Int)->Heap->Prop) (μ:(Slc × Int)->Heap->Nat),I (i0,i14) h/\∀ (t0_1:Slc) (t14_1:Int) (h:Heap),I (t0_1,t14_1) h->strong_entries_l1b t12_1 t13_1 t0_1 t14_1 k (fun s h'=>I s h'/\μ s h' < μ (t0_1,t14_1) h) h
def strong_entries (p0:Slc) (p1:Slc) (k:(Slc)->Heap->Prop) (h:Heap):Prop :=
  num_PutShort p0 (IntKind.u64.wrap (p1.len:Int)) (fun (r1:Slc) h2=>strong_entries_l1 p1 (p1.len:Int) r1 0 k h2) h
/-- quaestor strong.chain -/
def strong_chain (p0:Slc) (p1:S_api_Chain) (k:(Slc)->Heap->Prop) (h:Heap):Prop :=
  ∃ (b1:Nat) (h2:Heap),b1=h.size/\h2=h.push (.cells (S_api_Chain.cs p1).toArray 35)/\(∃ v3:Int,cellH h2 (⟨b1,0,none⟩:Addr)=some (.int .u64 v3)/\(∃ s4:Slc,(0:Int)<=0/\0<=(32:Int)/\32<=(32:Int)/\s4=subS ⟨some ((⟨b1,0,none⟩:Addr).add 1),32,32⟩ 1 (0:Int).toNat (32:Int).toNat 32/\(num_PutShort p0 v3 (fun (r5:Slc) h6=>∃ l9:List Value,SlcAt h6 s4 l9/\App 5 1 1 [.int .u8 0] h6 r5 s4.len l9 (fun s7 h8=>k s7 h8)) h2)))
/-- quaestor strong.several -/
def strong_several_l1b (t12_1:Slc) (t13_1:Int) (t0_1:Slc) (t14_1:Int) (k:(Slc)->Heap->Prop) (nx1:(Slc × Int)->Heap->Prop) (h_1:Heap):Prop :=
  if (decide (t14_1 < t13_1)) then (∃ a3:Addr,t12_1.a=some a3/\(0:Int)<=t14_1/\t14_1 < (t12_1.len:Int)/\(∃ v4:S_api_Box,CellsAt h_1 (a3.add (t14_1.toNat * 15)) (S_api_Box.cs v4)/\(∃ (b5:Nat) (h6:Heap),b5=h_1.size/\h6=h_1.push (.cells (S_api_Box.cs (⟨ByteArray.empty,0,([]:List Int),(⟨none,0,0⟩:Slc)⟩:S_api_Box)).toArray 76)/\(∃ h7:Heap,WrsAt h6 (⟨b5,0,none⟩:Addr) 15/\h7=setsH h6 (⟨b5,0,none⟩:Addr) 0 (S_api_Box.cs v4)/\(∃ v8:S_api_Box,CellsAt h7 (⟨b5,0,none⟩:Addr) (S_api_Box.cs v8)/\(box_Put t0_1 v8 (fun (r9:Slc) h10=>nx1 (r9,(IntKind.i64.wrap (t14_1 + 1))) h10) h7)))))) else (k t0_1 h_1)
def strong_several_l1 (t12_1:Slc) (t13_1:Int) (i0:Slc) (i14:Int) (k:(Slc)->Heap->Prop) (h:Heap):Prop :=
  ∃ (I:(Slc × Int)->Heap->Prop) (μ:(Slc × Int)->Heap->Nat),I (i0,i14) h/\∀ (t0_1:Slc) (t14_1:Int) (h:Heap),I (t0_1,t14_1) h->strong_several_l1b t12_1 t13_1 t0_1 t14_1 k (fun s h'=>I s h'/\μ s h' < μ (t0_1,t14_1) h) h
def strong_several (p0:Slc) (p1:Slc) (k:(Slc)->Heap->Prop) (h:Heap):Prop :=
  num_PutShort p0 (IntKind.u64.wrap (p1.len:Int)) (fun (r1:Slc) h2=>strong_several_l1 p1 (p1.len:Int) r1 0 k h2) h
/-- quaestor strong.Put -/
def strong_Put_l1b (t1_1:Addr) (t54_1:Slc) (t55_1:Int) (t3_1:Slc) (t56_1:Int) (k:(Slc)->Heap->Prop) (nx1:(Slc × Int)->Heap->Prop) (h_1:Heap):Prop :=
  if (decide (t56_1 < t55_1)) then (∃ a41:Addr,t54_1.a=some a41/\(0:Int)<=t56_1/\t56_1 < (t54_1.len:Int)/\(∃ v42:S_api_Chain,CellsAt h_1 (a41.add (t56_1.toNat * 33)) (S_api_Chain.cs v42)/\(∃ (b43:Nat) (h44:Heap),b43=h_1.size/\h44=h_1.push (.cells (S_api_Chain.cs (⟨0,([]:List Int)⟩:S_api_Chain)).toArray 35)/\(∃ h45:Heap,WrsAt h44 (⟨b43,0,none⟩:Addr) 33/\h45=setsH h44 (⟨b43,0,none⟩:Addr) 0 (S_api_Chain.cs v42)/\(∃ v46:S_api_Chain,CellsAt h45 (⟨b43,0,none⟩:Addr) (S_api_Chain.cs v46)/\(strong_chain t3_1 v46 (fun (r47:Slc) h48=>nx1 (r47,(IntKind.i64.wrap (t56_1 + 1))) h48) h45)))))) else (∃ v49:Slc,cellH h_1 (t1_1.add 77)=some (Slc.v v49)/\(∃ v50:Int,cellH h_1 (t1_1.add 78)=some (.int .u64 v50)/\(strong_several t3_1 v49 (fun (r51:Slc) h52=>cellH h52 (t1_1.add 78)=some (.int .u64 v50)/\(num_PutShort r51 v50 (fun (r54:Slc) h55=>k r54 h55) h52)) h_1)))
def strong_Put_l1 (t1_1:Addr) (t54_1:Slc) (t55_1:Int) (i3:Slc) (i56:Int) (k:(Slc)->Heap->Prop) (h:Heap):Prop :=
  ∃ (I:(Slc × Int)->Heap->Prop) (μ:(Slc × Int)->Heap->Nat),I (i3,i56) h/\∀ (t3_1:Slc) (t56_1:Int) (h:Heap),I (t3_1,t56_1) h->strong_Put_l1b t1_1 t54_1 t55_1 t3_1 t56_1 k (fun s h'=>I s h'/\μ s h' < μ (t3_1,t56_1) h) h
def strong_Put (p0:S_api_Mem) (k:(Slc)->Heap->Prop) (h:Heap):Prop :=
  ∃ (b1:Nat) (h2:Heap),b1=h.size/\h2=h.push (.cells (S_api_Mem.cs p0).toArray 33)/\(∃ v3:Int,cellH h2 (⟨b1,0,none⟩:Addr)=some (.int .i64 v3)/\(∃ v4:Int,cellH h2 ((⟨b1,0,none⟩:Addr).add 1)=some (.int .i64 v4)/\(∃ v5:Int,cellH h2 ((⟨b1,0,none⟩:Addr).add 2)=some (.int .i64 v5)/\(∃ v6:Int,cellH h2 ((⟨b1,0,none⟩:Addr).add 3)=some (.int .u64 v6)/\(∃ v7:Int,cellH h2 ((⟨b1,0,none⟩:Addr).add 4)=some (.int .u64 v7)/\(∃ (b8:Nat) (h9:Heap),b8=h2.size/\h9=h2.push (.cells ([.int .u64 (IntKind.u64.wrap v3),.int .u64 (IntKind.u64.wrap v4),.int .u64 (IntKind.u64.wrap v5),.int .u64 v6,.int .u64 v7]).toArray 22)/\(strong_numbers (⟨none,0,0⟩:Slc) (⟨some ⟨b8,0,none⟩,5,5⟩:Slc) (fun (r10:Slc) h11=>∃ v12:Int,cellH h11 ((⟨b1,0,none⟩:Addr).add 5)=some (.int .u8 v12)/\(∃ s13:Slc,(0:Int)<=0/\0<=(32:Int)/\32<=(32:Int)/\s13=subS ⟨some (((⟨b1,0,none⟩:Addr).add 5).add 1),32,32⟩ 1 (0:Int).toNat (32:Int).toNat 32/\(∃ s14:Slc,(0:Int)<=0/\0<=(32:Int)/\32<=(32:Int)/\s14=subS ⟨some ((⟨b1,0,none⟩:Addr).add 38),32,32⟩ 1 (0:Int).toNat (32:Int).toNat 32/\(∃ (b15:Nat) (h16:Heap),b15=h11.size/\h16=h11.push (.cells ([.int .u8 v12]).toArray 5)/\(App 5 1 1 [.int .u8 0] h16 r10 1 ([.int .u8 v12]) (fun s17 h18=>∃ l21:List Value,SlcAt h18 s13 l21/\App 5 1 1 [.int .u8 0] h18 s17 s13.len l21 (fun s19 h20=>∃ l24:List Value,SlcAt h20 s14 l24/\App 5 1 1 [.int .u8 0] h20 s19 s14.len l24 (fun s22 h23=>∃ v25:Int,cellH h23 ((⟨b1,0,none⟩:Addr).add 70)=some (.int .u64 v25)/\(∃ v26:Int,cellH h23 ((⟨b1,0,none⟩:Addr).add 71)=some (.int .i64 v26)/\(∃ v27:Int,cellH h23 ((⟨b1,0,none⟩:Addr).add 72)=some (.int .u64 v27)/\(∃ v28:Int,cellH h23 ((⟨b1,0,none⟩:Addr).add 73)=some (.int .u64 v28)/\(∃ (b29:Nat) (h30:Heap),b29=h23.size/\h30=h23.push (.cells ([.int .u64 v25,.int .u64 (IntKind.u64.wrap v26),.int .u64 v27,.int .u64 v28]).toArray 22)/\(strong_numbers s22 (⟨some ⟨b29,0,none⟩,4,4⟩:Slc) (fun (r31:Slc) h32=>∃ v33:Slc,cellH h32 ((⟨b1,0,none⟩:Addr).add 74)=some (Slc.v v33)/\(∃ v34:Slc,cellH h32 ((⟨b1,0,none⟩:Addr).add 75)=some (Slc.v v34)/\(strong_text r31 v33 (fun (r35:Slc) h36=>cellH h36 ((⟨b1,0,none⟩:Addr).add 75)=some (Slc.v v34)/\(strong_entries r35 v34 (fun (r38:Slc) h39=>∃ v40:Slc,cellH h39 ((⟨b1,0,none⟩:Addr).add 76)=some (Slc.v v40)/\(strong_Put_l1 (⟨b1,0,none⟩:Addr) v40 (v40.len:Int) r38 0 k h39)) h36)) h32))) h30))))))))))))) h9)))))))
/-- quaestor strong.PutChange -/
def strong_PutChange_l2b (t1_2:Addr) (t53_2:Slc) (t54_2:Int) (t3_2:Slc) (t55_2:Int) (k:(Slc)->Heap->Prop) (nx2:(Slc × Int)->Heap->Prop) (h_2:Heap):Prop :=
  if (decide (t55_2 < t54_2)) then (∃ a22:Addr,t53_2.a=some a22/\(0:Int)<=t55_2/\t55_2 < (t53_2.len:Int)/\(∃ v23:List Int,CellsAt h_2 (a22.add (t55_2.toNat * 12)) (arr 12 .u8 v23)/\(∃ (b24:Nat) (h25:Heap),b24=h_2.size/\h25=h_2.push (.cells (arr 12 .u8 ([]:List Int)).toArray 74)/\(∃ h26:Heap,WrsAt h25 (⟨b24,0,none⟩:Addr) 12/\h26=setsH h25 (⟨b24,0,none⟩:Addr) 0 (arr 12 .u8 v23)/\(∃ s27:Slc,(0:Int)<=0/\0<=(12:Int)/\12<=(12:Int)/\s27=subS ⟨some (⟨b24,0,none⟩:Addr),12,12⟩ 1 (0:Int).toNat (12:Int).toNat 12/\(∃ l30:List Value,SlcAt h26 s27 l30/\App 5 1 1 [.int .u8 0] h26 t3_2 s27.len l30 (fun s28 h29=>nx2 (s28,(IntKind.i64.wrap (t55_2 + 1))) h29))))))) else (∃ v31:Slc,cellH h_2 (t1_2.add 43)=some (Slc.v v31)/\(∃ v32:ByteArray,cellH h_2 (t1_2.add 44)=some (.string v32)/\((strong_several t3_2 v31 (fun (r33:Slc) h34=>cellH h34 (t1_2.add 44)=some (.string v32)/\(v32.size<=maxLen/\S2B 5 h34 v32 (fun s36 h37=>strong_text r33 s36 (fun (r38:Slc) h39=>k r38 h39) h37))) h_2)/\(v32.size<=maxLen/\S2B 5 h_2 v32 (fun s40 h41=>cellH h41 (t1_2.add 43)=some (Slc.v v31)/\(strong_several t3_2 v31 (fun (r43:Slc) h44=>strong_text r43 s40 (fun (r45:Slc) h46=>k r45 h46) h44) h41))))))
def strong_PutChange_l2 (t1_2:Addr) (t53_2:Slc) (t54_2:Int) (i3:Slc) (i55:Int) (k:(Slc)->Heap->Prop) (h:Heap):Prop :=
  ∃ (I:(Slc × Int)->Heap->Prop) (μ:(Slc × Int)->Heap->Nat),I (i3,i55) h/\∀ (t3_2:Slc) (t55_2:Int) (h:Heap),I (t3_2,t55_2) h->strong_PutChange_l2b t1_2 t53_2 t54_2 t3_2 t55_2 k (fun s h'=>I s h'/\μ s h' < μ (t3_2,t55_2) h) h
def strong_PutChange_j1 (t1_1:Addr) (t3_1:Slc) (k:(Slc)->Heap->Prop) (h_1:Heap):Prop :=
  ∃ v3:Int,cellH h_1 (t1_1.add 36)=some (.int .i64 v3)/\(∃ v4:Int,cellH h_1 ((t1_1.add 36).add 1)=some (.int .u64 v4)/\(∃ v5:Int,cellH h_1 ((t1_1.add 36).add 2)=some (.int .i64 v5)/\(∃ v6:Int,cellH h_1 ((t1_1.add 36).add 3)=some (.int .u64 v6)/\(∃ (b7:Nat) (h8:Heap),b7=h_1.size/\h8=h_1.push (.cells ([.int .u64 (IntKind.u64.wrap v3),.int .u64 v4,.int .u64 (IntKind.u64.wrap v5),.int .u64 v6]).toArray 22)/\(strong_numbers t3_1 (⟨some ⟨b7,0,none⟩,4,4⟩:Slc) (fun (r9:Slc) h10=>∃ v11:Slc,cellH h10 ((t1_1.add 36).add 4)=some (Slc.v v11)/\(∃ v12:Slc,cellH h10 ((t1_1.add 36).add 5)=some (Slc.v v12)/\(strong_entries r9 v11 (fun (r13:Slc) h14=>cellH h14 ((t1_1.add 36).add 5)=some (Slc.v v12)/\(strong_text r13 v12 (fun (r16:Slc) h17=>∃ v18:Slc,cellH h17 (t1_1.add 42)=some (Slc.v v18)/\(num_PutShort r16 (IntKind.u64.wrap (v18.len:Int)) (fun (r19:Slc) h20=>∃ v21:Slc,cellH h20 (t1_1.add 42)=some (Slc.v v21)/\(strong_PutChange_l2 t1_1 v21 (v21.len:Int) r19 0 k h20)) h17)) h14)) h10))) h8)))))
def strong_PutChange (p0:S_api_Change) (k:(Slc)->Heap->Prop) (h:Heap):Prop :=
  ∃ (b1:Nat) (h2:Heap),b1=h.size/\h2=h.push (.cells (S_api_Change.cs p0).toArray 40)/\(∃ v47:Int,cellH h2 (⟨b1,0,none⟩:Addr)=some (.int .i64 v47)/\(∃ v48:Int,cellH h2 ((⟨b1,0,none⟩:Addr).add 1)=some (.int .u64 v48)/\(∃ v49:Int,cellH h2 ((⟨b1,0,none⟩:Addr).add 2)=some (.int .i64 v49)/\(∃ v50:S_api_Chain,CellsAt h2 ((⟨b1,0,none⟩:Addr).add 3) (S_api_Chain.cs v50)/\((∃ (b51:Nat) (h52:Heap),b51=h2.size/\h52=h2.push (.cells ([.int .u8 (IntKind.u8.wrap v47)]).toArray 5)/\(CellsAt h52 ((⟨b1,0,none⟩:Addr).add 3) (S_api_Chain.cs v50)/\cellH h52 ((⟨b1,0,none⟩:Addr).add 2)=some (.int .i64 v49)/\cellH h52 ((⟨b1,0,none⟩:Addr).add 1)=some (.int .u64 v48)/\(∃ (b56:Nat) (h57:Heap),b56=h52.size/\h57=h52.push (.cells ([.int .u64 v48,.int .u64 (IntKind.u64.wrap v49)]).toArray 22)/\(CellsAt h57 ((⟨b1,0,none⟩:Addr).add 3) (S_api_Chain.cs v50)/\(strong_numbers (⟨some ⟨b51,0,none⟩,1,1⟩:Slc) (⟨some ⟨b56,0,none⟩,2,2⟩:Slc) (fun (r59:Slc) h60=>CellsAt h60 ((⟨b1,0,none⟩:Addr).add 3) (S_api_Chain.cs v50)/\(strong_chain r59 v50 (fun (r62:Slc) h63=>strong_PutChange_j1 (⟨b1,0,none⟩:Addr) r62 k h63) h60)) h57)))))/\(∃ (b64:Nat) (h65:Heap),b64=h2.size/\h65=h2.push (.cells ([.int .u64 v48,.int .u64 (IntKind.u64.wrap v49)]).toArray 22)/\(CellsAt h65 ((⟨b1,0,none⟩:Addr).add 3) (S_api_Chain.cs v50)/\cellH h65 (⟨b1,0,none⟩:Addr)=some (.int .i64 v47)/\(∃ (b68:Nat) (h69:Heap),b68=h65.size/\h69=h65.push (.cells ([.int .u8 (IntKind.u8.wrap v47)]).toArray 5)/\(CellsAt h69 ((⟨b1,0,none⟩:Addr).add 3) (S_api_Chain.cs v50)/\(strong_numbers (⟨some ⟨b68,0,none⟩,1,1⟩:Slc) (⟨some ⟨b64,0,none⟩,2,2⟩:Slc) (fun (r71:Slc) h72=>CellsAt h72 ((⟨b1,0,none⟩:Addr).add 3) (S_api_Chain.cs v50)/\(strong_chain r71 v50 (fun (r74:Slc) h75=>strong_PutChange_j1 (⟨b1,0,none⟩:Addr) r74 k h75) h72)) h69))))))))))
/-- quaestor strong.counts -/
def strong_counts_g8 (t54_8:Bool) (k:(Bool)->Heap->Prop) (h_8:Heap):Prop :=
  k t54_8 h_8
def strong_counts_g7 (t1_7:Addr) (t46_7:Bool) (k:(Bool)->Heap->Prop) (h_7:Heap):Prop :=
  if t46_7 then (∃ v4:Slc,cellH h_7 (t1_7.add 76)=some (Slc.v v4)/\(∃ v5:Int,cellH h_7 (t1_7.add 1)=some (.int .i64 v5)/\(strong_counts_g8 ((v4.len:Int) == v5) k h_7))) else (strong_counts_g8 false k h_7)
def strong_counts_g6 (t1_6:Addr) (t39_6:Bool) (k:(Bool)->Heap->Prop) (h_6:Heap):Prop :=
  if t39_6 then (∃ v6:Int,cellH h_6 (t1_6.add 71)=some (.int .i64 v6)/\(∃ v7:Int,cellH h_6 (t1_6.add 1)=some (.int .i64 v7)/\(strong_counts_g7 t1_6 (decide (v6<=v7)) k h_6))) else (strong_counts_g7 t1_6 false k h_6)
def strong_counts_g5 (t1_5:Addr) (t34_5:Bool) (k:(Bool)->Heap->Prop) (h_5:Heap):Prop :=
  if t34_5 then (∃ v8:Int,cellH h_5 (t1_5.add 71)=some (.int .i64 v8)/\(strong_counts_g6 t1_5 (decide (v8>=0)) k h_5)) else (strong_counts_g6 t1_5 false k h_5)
def strong_counts_g4 (t1_4:Addr) (t27_4:Bool) (k:(Bool)->Heap->Prop) (h_4:Heap):Prop :=
  if t27_4 then (∃ v9:Int,cellH h_4 (t1_4.add 2)=some (.int .i64 v9)/\(∃ v10:Int,cellH h_4 (t1_4.add 1)=some (.int .i64 v10)/\(strong_counts_g5 t1_4 (decide (v9<=v10)) k h_4))) else (strong_counts_g5 t1_4 false k h_4)
def strong_counts_g3 (t1_3:Addr) (t22_3:Bool) (k:(Bool)->Heap->Prop) (h_3:Heap):Prop :=
  if t22_3 then (∃ v11:Int,cellH h_3 (t1_3.add 2)=some (.int .i64 v11)/\(strong_counts_g4 t1_3 (decide (v11>=1)) k h_3)) else (strong_counts_g4 t1_3 false k h_3)
def strong_counts_g2 (t1_2:Addr) (t15_2:Bool) (k:(Bool)->Heap->Prop) (h_2:Heap):Prop :=
  if t15_2 then (∃ v12:Int,cellH h_2 t1_2=some (.int .i64 v12)/\(∃ v13:Int,cellH h_2 (t1_2.add 1)=some (.int .i64 v13)/\(strong_counts_g3 t1_2 (decide (v12 < v13)) k h_2))) else (strong_counts_g3 t1_2 false k h_2)
def strong_counts_g1 (t1_1:Addr) (t10_1:Bool) (k:(Bool)->Heap->Prop) (h_1:Heap):Prop :=
  if t10_1 then (∃ v14:Int,cellH h_1 t1_1=some (.int .i64 v14)/\(strong_counts_g2 t1_1 (decide (v14>=0)) k h_1)) else (strong_counts_g2 t1_1 false k h_1)
def strong_counts (p0:S_api_Mem) (k:(Bool)->Heap->Prop) (h:Heap):Prop :=
  ∃ (b1:Nat) (h2:Heap),b1=h.size/\h2=h.push (.cells (S_api_Mem.cs p0).toArray 33)/\(∃ v3:Int,cellH h2 ((⟨b1,0,none⟩:Addr).add 1)=some (.int .i64 v3)/\(if (decide (v3>=1)) then (∃ v15:Int,cellH h2 ((⟨b1,0,none⟩:Addr).add 1)=some (.int .i64 v15)/\(strong_counts_g1 (⟨b1,0,none⟩:Addr) (decide (v15<=32)) k h2)) else (strong_counts_g1 (⟨b1,0,none⟩:Addr) false k h2)))
/-- quaestor strong.boxes -/
def strong_boxes_l1b (t3_1:Option Nat) (t9_1:Slc) (t10_1:Int) (t11_1:Int) (k:(Int)->Heap->Prop) (nx1:(Int)->Heap->Prop) (h_1:Heap):Prop :=
  if (decide (t11_1 < t10_1)) then (∃ a3:Addr,t9_1.a=some a3/\(0:Int)<=t11_1/\t11_1 < (t9_1.len:Int)/\(∃ v4:S_api_Box,CellsAt h_1 (a3.add (t11_1.toNat * 15)) (S_api_Box.cs v4)/\(∃ (b5:Nat) (h6:Heap),b5=h_1.size/\h6=h_1.push (.cells (S_api_Box.cs (⟨ByteArray.empty,0,([]:List Int),(⟨none,0,0⟩:Slc)⟩:S_api_Box)).toArray 76)/\(∃ h7:Heap,WrsAt h6 (⟨b5,0,none⟩:Addr) 15/\h7=setsH h6 (⟨b5,0,none⟩:Addr) 0 (S_api_Box.cs v4)/\(∃ v8:S_api_Box,CellsAt h7 (⟨b5,0,none⟩:Addr) (S_api_Box.cs v8)/\(box_Check v8 (fun (r9:Int) h10=>if (r9 != 0) then (k 1 h10) else (∃ v11:List Int,CellsAt h10 ((⟨b5,0,none⟩:Addr).add 2) (arr 12 .u8 v11)/\(∃ l12:List ((ArrK 12) × S_anon165),MapAS (K:=(ArrK 12)) (V:=S_anon165) (fun v:ArrK 12=>Value.agg (v.1.map (Value.int .u8)).toArray) (fun v:S_anon165=>Value.agg (S_anon165.cs v).toArray) h10 t3_1 l12/\(∃ (b13:Nat) (h14:Heap),b13=h10.size/\h14=h10.push (.cells (S_anon165.cs (⟨⟩:S_anon165)).toArray 165)/\(∃ h15:Heap,WrsAt h14 (⟨b13,0,none⟩:Addr) 0/\h15=setsH h14 (⟨b13,0,none⟩:Addr) 0 (S_anon165.cs ((mget l12 (arK 12 v11)).getD (⟨⟩:S_anon165)))/\(if (mget l12 (arK 12 v11)).isSome then (k 7 h15) else (∃ v16:List Int,CellsAt h15 ((⟨b5,0,none⟩:Addr).add 2) (arr 12 .u8 v16)/\(∃ (r17:Nat) (l18:List ((ArrK 12) × S_anon165)) (h19:Heap),t3_1=some r17/\MapAS (K:=(ArrK 12)) (V:=S_anon165) (fun v:ArrK 12=>Value.agg (v.1.map (Value.int .u8)).toArray) (fun v:S_anon165=>Value.agg (S_anon165.cs v).toArray) h15 (some r17) l18/\h19=setM h15 r17 ((fun v:ArrK 12=>Value.agg (v.1.map (Value.int .u8)).toArray) (arK 12 v16)) (.agg (S_anon165.cs (⟨⟩:S_anon165)).toArray)/\(nx1 (IntKind.i64.wrap (t11_1 + 1)) h19))))))))) h7)))))) else (k 0 h_1)
def strong_boxes_l1 (t3_1:Option Nat) (t9_1:Slc) (t10_1:Int) (i11:Int) (k:(Int)->Heap->Prop) (h:Heap):Prop :=
  ∃ (I:Int->Heap->Prop) (μ:Int->Heap->Nat),I i11 h/\∀ (t11_1:Int) (h:Heap),I t11_1 h->strong_boxes_l1b t3_1 t9_1 t10_1 t11_1 k (fun s h'=>I s h'/\μ s h' < μ t11_1 h) h
def strong_boxes (p0:Slc) (k:(Int)->Heap->Prop) (h:Heap):Prop :=
  ∃ (b1:Nat) (h2:Heap),b1=h.size/\h2=h.push (.map #[] 0)/\(strong_boxes_l1 (some b1) p0 (p0.len:Int) 0 k h2)
/-- quaestor strong.check -/
def strong_check_g1 (t1_1:Addr) (t18_1:Bool) (k:(Int)->Heap->Prop) (h_1:Heap):Prop :=
  if t18_1 then (k 3 h_1) else (∃ v7:Slc,cellH h_1 (t1_1.add 77)=some (Slc.v v7)/\(strong_boxes v7 (fun (r8:Int) h9=>if (r8 != 0) then (k r8 h9) else (∃ v10:S_api_Mem,CellsAt h9 t1_1 (S_api_Mem.cs v10)/\(strong_Put v10 (fun (r11:Slc) h12=>if (decide ((r11.len:Int) > 26624)) then (k 3 h12) else (k 0 h12)) h9))) h_1))
def strong_check (p0:S_api_Mem) (k:(Int)->Heap->Prop) (h:Heap):Prop :=
  ∃ (b1:Nat) (h2:Heap),b1=h.size/\h2=h.push (.cells (S_api_Mem.cs p0).toArray 33)/\(∃ v3:S_api_Mem,CellsAt h2 (⟨b1,0,none⟩:Addr) (S_api_Mem.cs v3)/\(strong_counts v3 (fun (r4:Bool) h5=>if (!r4) then (k 1 h5) else (∃ v6:Slc,cellH h5 ((⟨b1,0,none⟩:Addr).add 75)=some (Slc.v v6)/\(if (decide ((v6.len:Int) > 64)) then (strong_check_g1 (⟨b1,0,none⟩:Addr) true k h5) else (∃ v13:Slc,cellH h5 ((⟨b1,0,none⟩:Addr).add 77)=some (Slc.v v13)/\(strong_check_g1 (⟨b1,0,none⟩:Addr) (decide ((v13.len:Int) > 64)) k h5))))) h2))
/-- quaestor strong.Check -/
def strong_Check (p0:S_api_Mem) (k:(Int)->Heap->Prop) (h:Heap):Prop :=
  ∃ (b1:Nat) (h2:Heap),b1=h.size/\h2=h.push (.cells (S_api_Mem.cs p0).toArray 33)/\(∃ v3:S_api_Mem,CellsAt h2 (⟨b1,0,none⟩:Addr) (S_api_Mem.cs v3)/\(strong_check v3 (fun (r4:Int) h5=>if (r4 == 7) then (k 1 h5) else (k r4 h5)) h2))
theorem O34:CallOk prog 34:=ck func34
theorem R34 (p0 p1 k h) (H:strong_text p0 p1 k h):CallsH prog 34 #[Slc.v p0,Slc.v p1] h (fun v h'=>∃ r:Slc,v=Slc.v r/\k r h'):=by
 refine fE func34 fun w0=>?_
 refine zF [0,1] (zQ ?_)
 refine w1 tok (zE (zQ ?_))
 refine w4 tok ?_
 refine wC O36 (R36 _ _ _ _ H) fun r1 h2 H=>?_
 refine w1 tok ?_
 obtain ⟨l5,hl5,H⟩:=H
 refine wA (a_app (s:=r1) (r:=p1) tok rfl rfl rfl rfl rfl hl5 H) ?_
 rintro _ h4 ⟨s3,rfl,H⟩
 refine w1 tok (zE (zF [4] (zT ?_)))
 exact x_ret _ rfl _ rfl ⟨s3,rfl,H⟩
theorem O32:CallOk prog 32:=ck func32
theorem R32 (p0 p1 k h) (H:strong_numbers p0 p1 k h):CallsH prog 32 #[Slc.v p0,Slc.v p1] h (fun v h'=>∃ r:Slc,v=Slc.v r/\k r h'):=by
 refine fE func32 fun w0=>?_
 refine zF [0,1] (zQ ?_)
 refine w1 tok (zE (zS (zQ ?_)))
 refine w3 tok (zE (zB ?_))
 obtain ⟨I1,μ1,H0,HI⟩:=H
 refine zO (σ:=Slc × Int) [7,8] (fun (s:Slc × Int)=>[(0,Slc.v s.1),(9,.int .i64 s.2)]) I1 μ1 (p0,0) H0 ?_
 rintro ⟨t0_1,t9_1⟩ h_1 H
 replace H:=HI t0_1 t9_1 h_1 H
 refine zF [0,9,7,8] (zQ ?_)
 refine w1 tok (zE (zS ?_))
 refine zI H ?_ ?_ <;> intro H
 refine zK (zX (zS (zB (zQ ?_))))
 refine wD tok H fun a1 _ H=>?_
 refine wL tok H fun v2 H=>?_
 refine w1 tok (zE (zR ?_))
 refine w2 tok ?_
 refine wC O36 (R36 _ _ _ _ H) fun r3 h4 H=>?_
 refine w1 tok (zL (zX (zF [0,9,7,8] (zR ?_))))
 refine w2 tok (zW ?_)
 exact xJ (r3,(IntKind.i64.wrap (t9_1 + 1))) H
 refine zY (yE (yE (yH (zX (zQ (w2 tok (zE (zT ?_))))))))
 exact x_ret _ rfl _ rfl ⟨t0_1,rfl,H⟩
theorem O33:CallOk prog 33:=ck func33
theorem R33 (p0 p1 k h) (H:strong_entries p0 p1 k h):CallsH prog 33 #[Slc.v p0,Slc.v p1] h (fun v h'=>∃ r:Slc,v=Slc.v r/\k r h'):=by
 refine fE func33 fun w0=>?_
 refine zF [0,1] (zQ ?_)
 refine w1 tok (zE (zQ ?_))
 refine w4 tok ?_
 refine wC O36 (R36 _ _ _ _ H) fun r1 h2 H=>?_
 refine w1 tok (zE (zS (zQ ?_)))
 refine w3 tok (zE (zF [0,12,13,14] (zB ?_)))
 obtain ⟨I1,μ1,H0,HI⟩:=H
 refine zO (σ:=Slc × Int) [12,13] (fun (s:Slc × Int)=>[(0,Slc.v s.1),(14,.int .i64 s.2)]) I1 μ1 (r1,0) H0 ?_
 rintro ⟨t0_1,t14_1⟩ h_1 H
 replace H:=HI t0_1 t14_1 h_1 H
 refine zF [0,14,12,13] (zQ ?_)
 refine w1 tok (zE (zS ?_))
 refine zI H ?_ ?_ <;> intro H
 refine zK (zX (zS (zB (zQ ?_))))
 refine wD tok H fun a3 _ H=>?_
 refine wLa tok H fun v4 H=>?_
 refine wB tok H fun b5 h6 H=>?_
 refine wTa tok H fun h7 H=>?_
 refine zE ?_
 refine gB [0,6,12,13,14] ?_
 refine gT 0 [0] tok ?_
 refine gT 1 [6] tok ?_
 obtain ⟨v8,hv8,H⟩:=H
 refine gL 2 [19] rfl (y_ld tok rfl rfl rfl rfl hv8) ?_
 refine gT 4 [6] tok ?_
 obtain ⟨v9,hv9,H⟩:=H
 refine gL 5 [22] rfl (y_ld tok rfl rfl rfl rfl hv9) ?_
 refine gCr 3 [18,20] O36 (R36 _ _ _ _ H) fun r10 h11 H=>?_
 obtain ⟨hy12,H⟩:=H
 refine gR rfl (y_ld tok rfl rfl rfl rfl hy12) ?_
 refine gZ0 ?_
 refine gC 6 [21,23] O34 (R34 _ _ _ _ H) fun r13 h14 H=>?_
 refine gT 7 [24] tok ?_
 refine gZ ?_
 refine yL (zX (zF [0,12,13,14] (zR ?_)))
 refine w2 tok (zW ?_)
 exact xJ (r13,(IntKind.i64.wrap (t14_1 + 1))) H
 refine zY (yE (yE (yH (zX (zQ (w2 tok (zE (zT ?_))))))))
 exact x_ret _ rfl _ rfl ⟨t0_1,rfl,H⟩
theorem O35:CallOk prog 35:=ck func35
theorem R35 (p0 p1 k h) (H:strong_chain p0 p1 k h):CallsH prog 35 #[Slc.v p0,.agg (S_api_Chain.cs p1).toArray] h (fun v h'=>∃ r:Slc,v=Slc.v r/\k r h'):=by
 refine fE func35 fun w0=>?_
 refine zF [0,1] (zQ ?_)
 refine wX H fun b1 h2 H=>?_
 refine w1 tok (zE (zS ?_))
 refine gB [0,3] ?_
 refine gT 0 [0] tok ?_
 refine gT 1 [3] tok ?_
 obtain ⟨v3,hv3,H⟩:=H
 refine gL 2 [6] rfl (y_ld tok rfl rfl rfl rfl hv3) ?_
 refine gT 4 [3] tok ?_
 obtain ⟨s4,ps4,qs4,rs4,es4,H⟩:=H
 refine gYe 5 [9] rfl (fun _=>y_sla (L:=0) (H:=32) tok rfl rfl rfl rfl rfl rfl ps4 qs4 rs4) (congrArg Slc.v es4) ?_
 refine gC 3 [5,7] O36 (R36 _ _ _ _ H) fun r5 h6 H=>?_
 obtain ⟨l9,hl9,H⟩:=H
 refine gA 6 [8,10] rfl (a_app (s:=r5) (r:=s4) tok rfl rfl rfl rfl rfl hl9 H) ?_
 rintro _ h8 ⟨s7,rfl,H⟩
 refine gT 7 [11] tok ?_
 refine gZ ?_
 refine zX (zF [4] (zT ?_))
 exact x_ret _ rfl _ rfl ⟨s7,rfl,H⟩
theorem O37:CallOk prog 37:=ck func37
theorem R37 (p0 p1 k h) (H:strong_several p0 p1 k h):CallsH prog 37 #[Slc.v p0,Slc.v p1] h (fun v h'=>∃ r:Slc,v=Slc.v r/\k r h'):=by
 refine fE func37 fun w0=>?_
 refine zF [0,1] (zQ ?_)
 refine w1 tok (zE (zQ ?_))
 refine w4 tok ?_
 refine wC O36 (R36 _ _ _ _ H) fun r1 h2 H=>?_
 refine w1 tok (zE (zS (zQ ?_)))
 refine w3 tok (zE (zF [0,12,13,14] (zB ?_)))
 obtain ⟨I1,μ1,H0,HI⟩:=H
 refine zO (σ:=Slc × Int) [12,13] (fun (s:Slc × Int)=>[(0,Slc.v s.1),(14,.int .i64 s.2)]) I1 μ1 (r1,0) H0 ?_
 rintro ⟨t0_1,t14_1⟩ h_1 H
 replace H:=HI t0_1 t14_1 h_1 H
 refine zF [0,14,12,13] (zQ ?_)
 refine w1 tok (zE (zS ?_))
 refine zI H ?_ ?_ <;> intro H
 refine zK (zX (zS (zB (zQ ?_))))
 refine wD tok H fun a3 _ H=>?_
 refine wLa tok H fun v4 H=>?_
 refine wB tok H fun b5 h6 H=>?_
 refine wTa tok H fun h7 H=>?_
 refine zE (zR (w1 tok ?_))
 refine wLa tok H fun v8 H=>?_
 refine wC O65 (R65 _ _ _ _ H) fun r9 h10 H=>?_
 refine w1 tok (zL (zX (zF [0,14,12,13] (zR ?_))))
 refine w2 tok (zW ?_)
 exact xJ (r9,(IntKind.i64.wrap (t14_1 + 1))) H
 refine zY (yE (yE (yH (zX (zQ (w2 tok (zE (zT ?_))))))))
 exact x_ret _ rfl _ rfl ⟨t0_1,rfl,H⟩
theorem O9:CallOk prog 9:=ck func9
theorem R9 (p0 k h) (H:strong_Put p0 k h):CallsH prog 9 #[.agg (S_api_Mem.cs p0).toArray] h (fun v h'=>∃ r:Slc,v=Slc.v r/\k r h'):=by
 refine fE func9 fun w0=>?_
 refine zF [0] (zQ ?_)
 refine wX H fun b1 h2 H=>?_
 refine w1 tok (zE (zQ ?_))
 refine w1 tok ?_
 refine wL tok H fun v3 H=>?_
 refine w2 tok ?_
 refine wL tok H fun v4 H=>?_
 refine w2 tok ?_
 refine wL tok H fun v5 H=>?_
 refine w2 tok ?_
 refine wL tok H fun v6 H=>?_
 refine w1 tok ?_
 refine wL tok H fun v7 H=>?_
 obtain ⟨b8,h9,eb8,eh9,H⟩:=H
 refine wH (h_bs tok rfl rfl rfl rfl rfl rfl rfl eb8 eh9) ?_
 refine wC O32 (R32 _ _ _ _ H) fun r10 h11 H=>?_
 refine w1 tok (zE (zF [1,3] (zS ?_)))
 refine gB [1,3] ?_
 refine gT 0 [3] tok ?_
 refine gT 1 [1] tok ?_
 refine gT 2 [22] tok ?_
 obtain ⟨v12,hv12,H⟩:=H
 refine gL 3 [23] rfl (y_ld tok rfl rfl rfl rfl hv12) ?_
 refine gT 6 [1] tok ?_
 refine gT 7 [27] tok ?_
 obtain ⟨s13,ps13,qs13,rs13,es13,H⟩:=H
 refine gYe 8 [28] rfl (fun _=>y_sla (L:=0) (H:=32) tok rfl rfl rfl rfl rfl rfl ps13 qs13 rs13) (congrArg Slc.v es13) ?_
 refine gT 10 [1] tok ?_
 obtain ⟨s14,ps14,qs14,rs14,es14,H⟩:=H
 refine gYe 11 [31] rfl (fun _=>y_sla (L:=0) (H:=32) tok rfl rfl rfl rfl rfl rfl ps14 qs14 rs14) (congrArg Slc.v es14) ?_
 obtain ⟨b15,h16,eb15,eh16,H⟩:=H
 refine gH 4 [24] rfl (h_bs tok rfl rfl rfl rfl rfl rfl rfl eb15 eh16) ?_
 refine gA 5 [21,25] rfl (a_app (s:=r10) (r:=(⟨some ⟨b15,0,none⟩,1,1⟩:Slc)) tok rfl rfl rfl rfl rfl (slcAt_push eb15 eh16) H) ?_
 rintro _ h18 ⟨s17,rfl,H⟩
 obtain ⟨l21,hl21,H⟩:=H
 refine gA 9 [26,29] rfl (a_app (s:=s17) (r:=s13) tok rfl rfl rfl rfl rfl hl21 H) ?_
 rintro _ h20 ⟨s19,rfl,H⟩
 obtain ⟨l24,hl24,H⟩:=H
 refine gA 12 [30,32] rfl (a_app (s:=s19) (r:=s14) tok rfl rfl rfl rfl rfl hl24 H) ?_
 rintro _ h23 ⟨s22,rfl,H⟩
 refine gT 13 [33] tok ?_
 refine gZ ?_
 refine zX (zF [1,3] (zQ ?_))
 refine w2 tok ?_
 refine wL tok H fun v25 H=>?_
 refine w1 tok ?_
 refine wL tok H fun v26 H=>?_
 refine w2 tok ?_
 refine wL tok H fun v27 H=>?_
 refine w1 tok ?_
 refine wL tok H fun v28 H=>?_
 obtain ⟨b29,h30,eb29,eh30,H⟩:=H
 refine wH (h_bs tok rfl rfl rfl rfl rfl rfl rfl eb29 eh30) ?_
 refine wC O32 (R32 _ _ _ _ H) fun r31 h32 H=>?_
 refine w1 tok (zE (zF [1,3] (zS ?_)))
 refine gB [1,3] ?_
 refine gT 0 [3] tok ?_
 refine gT 1 [1] tok ?_
 obtain ⟨v33,hv33,H⟩:=H
 refine gL 2 [47] rfl (y_ld tok rfl rfl rfl rfl hv33) ?_
 refine gT 4 [1] tok ?_
 obtain ⟨v34,hv34,H⟩:=H
 refine gL 5 [50] rfl (y_ld tok rfl rfl rfl rfl hv34) ?_
 refine gCr 3 [46,48] O34 (R34 _ _ _ _ H) fun r35 h36 H=>?_
 obtain ⟨hy37,H⟩:=H
 refine gR rfl (y_ld tok rfl rfl rfl rfl hy37) ?_
 refine gZ0 ?_
 refine gC 6 [49,51] O33 (R33 _ _ _ _ H) fun r38 h39 H=>?_
 refine gT 7 [52] tok ?_
 refine gZ ?_
 refine zX (zF [1,3] (zS (zQ ?_)))
 refine w1 tok ?_
 refine wL tok H fun v40 H=>?_
 refine w2 tok (zE (zB ?_))
 obtain ⟨I1,μ1,H0,HI⟩:=H
 refine zO (σ:=Slc × Int) [1,54,55] (fun (s:Slc × Int)=>[(3,Slc.v s.1),(56,.int .i64 s.2)]) I1 μ1 (r38,0) H0 ?_
 rintro ⟨t3_1,t56_1⟩ h_1 H
 replace H:=HI t3_1 t56_1 h_1 H
 refine zF [3,56,1,54,55] (zQ ?_)
 refine w1 tok (zE (zS ?_))
 refine zI H ?_ ?_ <;> intro H
 refine zK (zX (zS (zB (zQ ?_))))
 refine wD tok H fun a41 _ H=>?_
 refine wLa tok H fun v42 H=>?_
 refine wB tok H fun b43 h44 H=>?_
 refine wTa tok H fun h45 H=>?_
 refine zE (zR (w1 tok ?_))
 refine wLa tok H fun v46 H=>?_
 refine wC O35 (R35 _ _ _ _ H) fun r47 h48 H=>?_
 refine w1 tok (zL (zX (zF [3,56,1,54,55] (zR ?_))))
 refine w2 tok (zW ?_)
 exact xJ (r47,(IntKind.i64.wrap (t56_1 + 1))) H
 refine zY (yE (yE (yH (zX (zS ?_)))))
 refine gB [1,3] ?_
 refine gT 0 [3] tok ?_
 refine gT 1 [1] tok ?_
 obtain ⟨v49,hv49,H⟩:=H
 refine gL 2 [65] rfl (y_ld tok rfl rfl rfl rfl hv49) ?_
 refine gT 4 [1] tok ?_
 obtain ⟨v50,hv50,H⟩:=H
 refine gL 5 [68] rfl (y_ld tok rfl rfl rfl rfl hv50) ?_
 refine gCr 3 [64,66] O37 (R37 _ _ _ _ H) fun r51 h52 H=>?_
 obtain ⟨hy53,H⟩:=H
 refine gR rfl (y_ld tok rfl rfl rfl rfl hy53) ?_
 refine gZ0 ?_
 refine gC 6 [67,69] O36 (R36 _ _ _ _ H) fun r54 h55 H=>?_
 refine gT 7 [70] tok ?_
 refine gZ ?_
 refine zX (zF [2] (zT ?_))
 exact x_ret _ rfl _ rfl ⟨r54,rfl,H⟩
theorem O10:CallOk prog 10:=ck func10
theorem R10 (p0 k h) (H:strong_PutChange p0 k h):CallsH prog 10 #[.agg (S_api_Change.cs p0).toArray] h (fun v h'=>∃ r:Slc,v=Slc.v r/\k r h'):=by
 refine fE func10 fun w0=>?_
 refine zF [0] (zQ ?_)
 refine wX H fun b1 h2 H=>?_
 refine w1 tok (zE ?_)
 refine zJ (α:=Slc) [1] (fun (s:Slc)=>[(3,Slc.v s)]) (fun (s:Slc) h=>strong_PutChange_j1 (ad b1) s k h) ?_ ?_
 rintro t3_1 h_1 H
 refine zF [3,1] (zQ ?_)
 refine w3 tok ?_
 refine wL tok H fun v3 H=>?_
 refine w3 tok ?_
 refine wL tok H fun v4 H=>?_
 refine w2 tok ?_
 refine wL tok H fun v5 H=>?_
 refine w3 tok ?_
 refine wL tok H fun v6 H=>?_
 obtain ⟨b7,h8,eb7,eh8,H⟩:=H
 refine wH (h_bs tok rfl rfl rfl rfl rfl rfl rfl eb7 eh8) ?_
 refine wC O32 (R32 _ _ _ _ H) fun r9 h10 H=>?_
 refine w1 tok (zE (zF [3,1] (zS ?_)))
 refine gB [1,3] ?_
 refine gT 0 [3] tok ?_
 refine gT 1 [1] tok ?_
 refine gT 2 [38] tok ?_
 obtain ⟨v11,hv11,H⟩:=H
 refine gL 3 [39] rfl (y_ld tok rfl rfl rfl rfl hv11) ?_
 refine gT 5 [1] tok ?_
 refine gT 6 [42] tok ?_
 obtain ⟨v12,hv12,H⟩:=H
 refine gL 7 [43] rfl (y_ld tok rfl rfl rfl rfl hv12) ?_
 refine gCr 4 [37,40] O33 (R33 _ _ _ _ H) fun r13 h14 H=>?_
 obtain ⟨hy15,H⟩:=H
 refine gR rfl (y_ld tok rfl rfl rfl rfl hy15) ?_
 refine gZ0 ?_
 refine gC 8 [41,44] O34 (R34 _ _ _ _ H) fun r16 h17 H=>?_
 refine gT 9 [45] tok ?_
 refine gZ ?_
 refine zX (zF [1,3] (zQ ?_))
 refine w2 tok ?_
 refine wL tok H fun v18 H=>?_
 refine w2 tok ?_
 refine wC O36 (R36 _ _ _ _ H) fun r19 h20 H=>?_
 refine w1 tok (zE (zS (zQ ?_)))
 refine w1 tok ?_
 refine wL tok H fun v21 H=>?_
 refine w2 tok (zE (zF [1,3,53,54,55] (zB ?_)))
 obtain ⟨I2,μ2,H0,HI⟩:=H
 refine zO (σ:=Slc × Int) [1,53,54] (fun (s:Slc × Int)=>[(3,Slc.v s.1),(55,.int .i64 s.2)]) I2 μ2 (r19,0) H0 ?_
 rintro ⟨t3_2,t55_2⟩ h_2 H
 replace H:=HI t3_2 t55_2 h_2 H
 refine zF [3,55,1,53,54] (zQ ?_)
 refine w1 tok (zE (zS ?_))
 refine zI H ?_ ?_ <;> intro H
 refine zK (zX (zS (zB (zQ ?_))))
 refine wD tok H fun a22 _ H=>?_
 refine wLa tok H fun v23 H=>?_
 refine wB tok H fun b24 h25 H=>?_
 refine wTa tok H fun h26 H=>?_
 refine zE (zR (w1 tok ?_))
 obtain ⟨s27,ps27,qs27,rs27,es27,H⟩:=H
 refine wYe (y_sla (L:=0) (H:=12) tok rfl rfl rfl rfl rfl rfl ps27 qs27 rs27) (congrArg Slc.v es27) ?_
 obtain ⟨l30,hl30,H⟩:=H
 refine wA (a_app (s:=t3_2) (r:=s27) tok rfl rfl rfl rfl rfl hl30 H) ?_
 rintro _ h29 ⟨s28,rfl,H⟩
 refine w1 tok (zL (zX (zF [3,55,1,53,54] (zR ?_))))
 refine w2 tok (zW ?_)
 exact xJ (s28,(IntKind.i64.wrap (t55_2 + 1))) H
 refine zY (yE (yE (yH (zX (zS ?_)))))
 refine gB [1,3] ?_
 refine gT 0 [3] tok ?_
 refine gT 1 [1] tok ?_
 obtain ⟨v31,hv31,H⟩:=H
 refine gL 2 [64] rfl (y_ld tok rfl rfl rfl rfl hv31) ?_
 refine gT 4 [1] tok ?_
 obtain ⟨v32,hv32,H⟩:=H
 refine gL 5 [67] rfl (y_ld tok rfl rfl rfl rfl hv32) ?_
 refine gO 3 6 H (fun H=>?_) (fun H=>?_)
 refine gCrI 3 [63,65] O37 (R37 _ _ _ _ H) fun r33 h34 H=>?_
 obtain ⟨hy35,H⟩:=H
 refine gR rfl (y_ld tok rfl rfl rfl rfl hy35) ?_
 refine gZ0 ?_
 obtain ⟨ms36,H⟩:=H
 refine gA 6 [68] rfl (a_s2b (s:=v32) tok rfl rfl rfl rfl rfl ms36 H) ?_
 rintro _ h37 ⟨s36,rfl,H⟩
 refine gC 7 [66,69] O34 (R34 _ _ _ _ H) fun r38 h39 H=>?_
 refine gT 8 [70] tok ?_
 refine gZ ?_
 refine zX (zF [2] (zT ?_))
 exact x_ret _ rfl _ rfl ⟨r38,rfl,H⟩
 obtain ⟨ms40,H⟩:=H
 refine gArI 6 [68] rfl (a_s2b (s:=v32) tok rfl rfl rfl rfl rfl ms40 H) ?_
 rintro _ h41 ⟨s40,rfl,H⟩
 obtain ⟨hy42,H⟩:=H
 refine gR rfl (y_ld tok rfl rfl rfl rfl hy42) ?_
 refine gZ0 ?_
 refine gC 3 [63,65] O37 (R37 _ _ _ _ H) fun r43 h44 H=>?_
 refine gC 7 [66,69] O34 (R34 _ _ _ _ H) fun r45 h46 H=>?_
 refine gT 8 [70] tok ?_
 refine gZ ?_
 refine zX (zF [2] (zT ?_))
 exact x_ret _ rfl _ rfl ⟨r45,rfl,H⟩
 refine gB [1] ?_
 refine gT 0 [1] tok ?_
 obtain ⟨v47,hv47,H⟩:=H
 refine gL 1 [6] rfl (y_ld tok rfl rfl rfl rfl hv47) ?_
 refine gT 2 [7] tok ?_
 refine gT 4 [1] tok ?_
 obtain ⟨v48,hv48,H⟩:=H
 refine gL 5 [10] rfl (y_ld tok rfl rfl rfl rfl hv48) ?_
 refine gT 6 [1] tok ?_
 obtain ⟨v49,hv49,H⟩:=H
 refine gL 7 [12] rfl (y_ld tok rfl rfl rfl rfl hv49) ?_
 refine gT 8 [13] tok ?_
 refine gT 11 [1] tok ?_
 obtain ⟨v50,hv50,H⟩:=H
 refine gL 12 [17] rfl (y_lda tok rfl rfl rfl rfl rfl hv50) ?_
 refine gO 3 9 H (fun H=>?_) (fun H=>?_)
 obtain ⟨b51,h52,eb51,eh52,H⟩:=H
 refine gHrI 3 [8] rfl (h_bs tok rfl rfl rfl rfl rfl rfl rfl eb51 eh52) ?_
 obtain ⟨hy53,hy54,hy55,H⟩:=H
 refine gR rfl (y_lda tok rfl rfl rfl rfl rfl hy53) ?_
 refine gR rfl (y_ld tok rfl rfl rfl rfl hy54) ?_
 refine gR rfl (y_ld tok rfl rfl rfl rfl hy55) ?_
 refine gZ0 ?_
 obtain ⟨b56,h57,eb56,eh57,H⟩:=H
 refine gHr 9 [11,14] rfl (h_bs tok rfl rfl rfl rfl rfl rfl rfl eb56 eh57) ?_
 obtain ⟨hy58,H⟩:=H
 refine gR rfl (y_lda tok rfl rfl rfl rfl rfl hy58) ?_
 refine gZ0 ?_
 refine gCr 10 [9,15] O32 (R32 _ _ _ _ H) fun r59 h60 H=>?_
 obtain ⟨hy61,H⟩:=H
 refine gR rfl (y_lda tok rfl rfl rfl rfl rfl hy61) ?_
 refine gZ0 ?_
 refine gC 13 [16,18] O35 (R35 _ _ _ _ H) fun r62 h63 H=>?_
 refine gT 14 [19] tok ?_
 refine gZ ?_
 exact xJ r62 H
 obtain ⟨b64,h65,eb64,eh65,H⟩:=H
 refine gHrI 9 [11,14] rfl (h_bs tok rfl rfl rfl rfl rfl rfl rfl eb64 eh65) ?_
 obtain ⟨hy66,hy67,H⟩:=H
 refine gR rfl (y_lda tok rfl rfl rfl rfl rfl hy66) ?_
 refine gR rfl (y_ld tok rfl rfl rfl rfl hy67) ?_
 refine gZ0 ?_
 obtain ⟨b68,h69,eb68,eh69,H⟩:=H
 refine gHr 3 [8] rfl (h_bs tok rfl rfl rfl rfl rfl rfl rfl eb68 eh69) ?_
 obtain ⟨hy70,H⟩:=H
 refine gR rfl (y_lda tok rfl rfl rfl rfl rfl hy70) ?_
 refine gZ0 ?_
 refine gCr 10 [9,15] O32 (R32 _ _ _ _ H) fun r71 h72 H=>?_
 obtain ⟨hy73,H⟩:=H
 refine gR rfl (y_lda tok rfl rfl rfl rfl rfl hy73) ?_
 refine gZ0 ?_
 refine gC 13 [16,18] O35 (R35 _ _ _ _ H) fun r74 h75 H=>?_
 refine gT 14 [19] tok ?_
 refine gZ ?_
 exact xJ r74 H
theorem O66:CallOk prog 66:=ck func66
theorem R66 (p0 k h) (H:strong_counts p0 k h):CallsH prog 66 #[.agg (S_api_Mem.cs p0).toArray] h (fun v h'=>∃ r:Bool,v = .bool r/\k r h'):=by
 refine fE func66 fun w0=>?_
 refine zF [0] (zQ ?_)
 refine wX H fun b1 h2 H=>?_
 refine w1 tok (zE (zQ ?_))
 refine w1 tok ?_
 refine wL tok H fun v3 H=>?_
 refine w2 tok ?_
 refine vJ 4 (α:=Bool) [1] (fun (s:Bool)=>[(10,.bool s)]) (fun (s:Bool) h=>strong_counts_g1 (ad b1) s k h) ?_ ?_
 rintro t10_1 h_1 H
 refine vF [10,1] ?_
 refine w1 tok ?_
 refine vJ 4 (α:=Bool) [1] (fun (s:Bool)=>[(15,.bool s)]) (fun (s:Bool) h=>strong_counts_g2 (ad b1) s k h) ?_ ?_
 rintro t15_2 h_2 H
 refine vF [15,1] ?_
 refine w1 tok ?_
 refine vJ 6 (α:=Bool) [1] (fun (s:Bool)=>[(22,.bool s)]) (fun (s:Bool) h=>strong_counts_g3 (ad b1) s k h) ?_ ?_
 rintro t22_3 h_3 H
 refine vF [22,1] ?_
 refine w1 tok ?_
 refine vJ 4 (α:=Bool) [1] (fun (s:Bool)=>[(27,.bool s)]) (fun (s:Bool) h=>strong_counts_g4 (ad b1) s k h) ?_ ?_
 rintro t27_4 h_4 H
 refine vF [27,1] ?_
 refine w1 tok ?_
 refine vJ 6 (α:=Bool) [1] (fun (s:Bool)=>[(34,.bool s)]) (fun (s:Bool) h=>strong_counts_g5 (ad b1) s k h) ?_ ?_
 rintro t34_5 h_5 H
 refine vF [34,1] ?_
 refine w1 tok ?_
 refine vJ 4 (α:=Bool) [1] (fun (s:Bool)=>[(39,.bool s)]) (fun (s:Bool) h=>strong_counts_g6 (ad b1) s k h) ?_ ?_
 rintro t39_6 h_6 H
 refine vF [39,1] ?_
 refine w1 tok ?_
 refine vJ 6 (α:=Bool) [1] (fun (s:Bool)=>[(46,.bool s)]) (fun (s:Bool) h=>strong_counts_g7 (ad b1) s k h) ?_ ?_
 rintro t46_7 h_7 H
 refine vF [46,1] ?_
 refine w1 tok ?_
 refine vJ 7 (α:=Bool) [] (fun (s:Bool)=>[(54,.bool s)]) (fun (s:Bool) h=>strong_counts_g8 s k h) ?_ ?_
 rintro t54_8 h_8 H
 refine vF [54] ?_
 refine w1 tok (zE (zT ?_))
 exact x_ret _ rfl _ rfl ⟨t54_8,rfl,H⟩
 refine vI 47 H ?_ ?_ <;> intro H
 refine w1 tok ?_
 refine wL tok H fun v4 H=>?_
 refine w2 tok ?_
 refine wL tok H fun v5 H=>?_
 refine w2 tok ?_
 exact wJ ((v4.len:Int) == v5) H
 refine wS (wS (wS (wS (wS (wS (w1 tok ?_))))))
 exact wJ false H
 refine vI 40 H ?_ ?_ <;> intro H
 refine w1 tok ?_
 refine wL tok H fun v6 H=>?_
 refine w1 tok ?_
 refine wL tok H fun v7 H=>?_
 refine w2 tok ?_
 exact wJ (decide (v6<=v7)) H
 refine wS (wS (wS (wS (wS (w1 tok ?_)))))
 exact wJ false H
 refine vI 35 H ?_ ?_ <;> intro H
 refine w1 tok ?_
 refine wL tok H fun v8 H=>?_
 refine w2 tok ?_
 exact wJ (decide (v8>=0)) H
 refine wS (wS (wS (w1 tok ?_)))
 exact wJ false H
 refine vI 28 H ?_ ?_ <;> intro H
 refine w1 tok ?_
 refine wL tok H fun v9 H=>?_
 refine w1 tok ?_
 refine wL tok H fun v10 H=>?_
 refine w2 tok ?_
 exact wJ (decide (v9<=v10)) H
 refine wS (wS (wS (wS (wS (w1 tok ?_)))))
 exact wJ false H
 refine vI 23 H ?_ ?_ <;> intro H
 refine w1 tok ?_
 refine wL tok H fun v11 H=>?_
 refine w2 tok ?_
 exact wJ (decide (v11>=1)) H
 refine wS (wS (wS (w1 tok ?_)))
 exact wJ false H
 refine vI 16 H ?_ ?_ <;> intro H
 refine w1 tok ?_
 refine wL tok H fun v12 H=>?_
 refine w1 tok ?_
 refine wL tok H fun v13 H=>?_
 refine w2 tok ?_
 exact wJ (decide (v12 < v13)) H
 refine wS (wS (wS (wS (wS (w1 tok ?_)))))
 exact wJ false H
 refine vI 11 H ?_ ?_ <;> intro H
 refine w1 tok ?_
 refine wL tok H fun v14 H=>?_
 refine w2 tok ?_
 exact wJ (decide (v14>=0)) H
 refine wS (wS (wS (w1 tok ?_)))
 exact wJ false H
 refine vI 6 H ?_ ?_ <;> intro H
 refine w1 tok ?_
 refine wL tok H fun v15 H=>?_
 refine w2 tok ?_
 exact wJ (decide (v15<=32)) H
 refine wS (wS (wS (w1 tok ?_)))
 exact wJ false H
theorem O67:CallOk prog 67:=ck func67
theorem R67 (p0 k h) (H:strong_boxes p0 k h):CallsH prog 67 #[Slc.v p0] h (fun v h'=>∃ r:Int,v = .int .i64 r/\k r h'):=by
 refine fE func67 fun w0=>?_
 refine zF [0] (zQ ?_)
 refine w1 tok (zE (zQ ?_))
 obtain ⟨b1,h2,eb1,eh2,H⟩:=H
 refine wH (h_mkm rfl eb1 eh2) ?_
 refine w1 tok (zE (zS (zQ ?_)))
 refine w3 tok (zE (zB ?_))
 obtain ⟨I1,μ1,H0,HI⟩:=H
 refine zO (σ:=Int) [3,9,10] (fun (s:Int)=>[(11,.int .i64 s)]) I1 μ1 0 H0 ?_
 rintro t11_1 h_1 H
 replace H:=HI t11_1 h_1 H
 refine zF [11,3,9,10] (zQ ?_)
 refine w1 tok (zE (zS ?_))
 refine zI H ?_ ?_ <;> intro H
 refine zK (zX (zS (zB (zQ ?_))))
 refine wD tok H fun a3 _ H=>?_
 refine wLa tok H fun v4 H=>?_
 refine wB tok H fun b5 h6 H=>?_
 refine wTa tok H fun h7 H=>?_
 refine zE (zS (zQ ?_))
 refine wLa tok H fun v8 H=>?_
 refine wC O98 (R98 _ _ _ H) fun r9 h10 H=>?_
 refine w1 tok (zE ?_)
 refine zI H ?_ ?_ <;> intro H
 refine zQ (w1 tok (zE (zF [2] (zT (yT (yB (yT (yT (yB (yT ?_))))))))))
 exact x_ret _ rfl _ rfl ⟨1,rfl,H⟩
 refine zK (zX (zS (zQ (w2 tok ?_))))
 refine wLa tok H fun v11 H=>?_
 obtain ⟨l12,hl12,H⟩:=H
 refine wY (y_lk2a (K:=(ArrK 12)) (V:=S_anon165) (kf:=(fun v:ArrK 12=>Value.agg (v.1.map (Value.int .u8)).toArray)) (vf:=(fun v:S_anon165=>Value.agg (S_anon165.cs v).toArray)) (kt:=74) (et:=165) (k:=(arK 12 v11)) (z:=(⟨⟩:S_anon165)) (m:=(some b1)) (l:=l12) rfl rfl rfl (by kernel_rfl) (keyA_74) (zero_a tok (T:=tab) rfl rfl rfl) hl12) ?_
 refine w3 tok ?_
 refine wB tok H fun b13 h14 H=>?_
 refine wTa tok H fun h15 H=>?_
 refine w1 tok (zE (zF [11,3,9,10,5,7] (zQ ?_)))
 refine w1 tok (zE ?_)
 refine zI H ?_ ?_ <;> intro H
 refine zQ (w1 tok (zE (zF [2] (zT (yT (yB (yT (yT (yB (yT ?_))))))))))
 exact x_ret _ rfl _ rfl ⟨7,rfl,H⟩
 refine zK (zX (zR (w2 tok ?_)))
 refine wLa tok H fun v16 H=>?_
 refine wY (y_build tok rfl rfl rfl rfl rfl) ?_
 obtain ⟨r17,l18,h19,er17,hl18,eh19,H⟩:=H
 refine wH (h_mus (K:=(ArrK 12)) (V:=S_anon165) (kf:=(fun v:ArrK 12=>Value.agg (v.1.map (Value.int .u8)).toArray)) (vf:=(fun v:S_anon165=>Value.agg (S_anon165.cs v).toArray)) (kt:=74) (et:=165) (k:=(arK 12 v16)) (v:=(⟨⟩:S_anon165)) (m:=(some b1)) (l:=l18) rfl rfl rfl rfl (by kernel_rfl) (keyA_74) er17 hl18 eh19) ?_
 refine zL (zX (zF [11,3,9,10] (zR ?_)))
 refine w2 tok (zW ?_)
 exact xJ (IntKind.i64.wrap (t11_1 + 1)) H
 refine zY (yE (yE (yH (zX (zQ (w1 tok (zE (zT ?_))))))))
 exact x_ret _ rfl _ rfl ⟨0,rfl,H⟩
theorem O38:CallOk prog 38:=ck func38
theorem R38 (p0 k h) (H:strong_check p0 k h):CallsH prog 38 #[.agg (S_api_Mem.cs p0).toArray] h (fun v h'=>∃ r:Int,v = .int .i64 r/\k r h'):=by
 refine fE func38 fun w0=>?_
 refine zF [0] (zQ ?_)
 refine wX H fun b1 h2 H=>?_
 refine w1 tok (zE (zS (zB (zQ ?_))))
 refine wLa tok H fun v3 H=>?_
 refine wC O66 (R66 _ _ _ H) fun r4 h5 H=>?_
 refine w2 tok (zE ?_)
 refine zI H ?_ ?_ <;> intro H
 refine zQ (w1 tok (zE (zT (yB (yT ?_)))))
 exact x_ret _ rfl _ rfl ⟨1,rfl,H⟩
 refine zQ (w1 tok ?_)
 refine wL tok H fun v6 H=>?_
 refine w3 tok ?_
 refine vJ 5 (α:=Bool) [1] (fun (s:Bool)=>[(18,.bool s)]) (fun (s:Bool) h=>strong_check_g1 (ad b1) s k h) ?_ ?_
 rintro t18_1 h_1 H
 refine vF [18,1] ?_
 refine w1 tok (zE ?_)
 refine zI H ?_ ?_ <;> intro H
 refine zQ (w1 tok (zE (zT (yB (yT ?_)))))
 exact x_ret _ rfl _ rfl ⟨3,rfl,H⟩
 refine zK (yL (zX (zS (zQ (w1 tok ?_)))))
 refine wL tok H fun v7 H=>?_
 refine wC O67 (R67 _ _ _ H) fun r8 h9 H=>?_
 refine w1 tok (zE (zQ ?_))
 refine w2 tok (zE ?_)
 refine zI H ?_ ?_ <;> intro H
 refine zQ (w2 tok (zE (zF [2] (zT (yT ?_)))))
 exact x_ret _ rfl _ rfl ⟨r8,rfl,H⟩
 refine zK (zX (zF [1] (zS (zQ ?_))))
 refine wLa tok H fun v10 H=>?_
 refine wC O9 (R9 _ _ _ H) fun r11 h12 H=>?_
 refine w2 tok (zE ?_)
 refine zI H ?_ ?_ <;> intro H
 refine zQ (w1 tok (zE (zT (yT ?_))))
 exact x_ret _ rfl _ rfl ⟨3,rfl,H⟩
 refine zK (zX (zQ (w1 tok (zE (zT ?_)))))
 exact x_ret _ rfl _ rfl ⟨0,rfl,H⟩
 refine vI 13 H ?_ ?_ <;> intro H
 refine wS (wS (wS (wS (w1 tok ?_))))
 exact wJ true H
 refine w1 tok ?_
 refine wL tok H fun v13 H=>?_
 refine w3 tok ?_
 exact wJ (decide ((v13.len:Int) > 64)) H
theorem O11:CallOk prog 11:=ck func11
theorem R11 (p0 k h) (H:strong_Check p0 k h):CallsH prog 11 #[.agg (S_api_Mem.cs p0).toArray] h (fun v h'=>∃ r:Int,v = .int .i64 r/\k r h'):=by
 refine fE func11 fun w0=>?_
 refine zF [0] (zQ ?_)
 refine wX H fun b1 h2 H=>?_
 refine w1 tok (zE (zQ ?_))
 refine wLa tok H fun v3 H=>?_
 refine wC O38 (R38 _ _ _ H) fun r4 h5 H=>?_
 refine w1 tok (zE (zS (zQ ?_)))
 refine w2 tok (zE ?_)
 refine zI H ?_ ?_ <;> intro H
 refine zQ (w1 tok (zE (zF [2] (zT (yT ?_)))))
 exact x_ret _ rfl _ rfl ⟨1,rfl,H⟩
 refine zK (zX (zF [3] (zQ ?_)))
 refine w2 tok (zE (zT ?_))
 exact x_ret _ rfl _ rfl ⟨r4,rfl,H⟩
end Go.Q.Yk
end

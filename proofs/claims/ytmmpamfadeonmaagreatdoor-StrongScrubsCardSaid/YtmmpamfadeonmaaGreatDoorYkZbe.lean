/- A part of the proof of statements of this seat: lemmas, no statement of their own. -/
import Derived.Test.YtmmpamfadeonmaaGreatDoorYkZae
import Derived.Test.YtmmpamfadeonmaaGreatDoorYkZaf
import Derived.Test.YtmmpamfadeonmaaGreatDoorYkZav
import Derived.Test.YtmmpamfadeonmaaGreatDoorYkZbd
set_option linter.unusedVariables false
set_option linter.unusedSimpArgs false
section
set_option maxRecDepth 100000
set_option maxHeartbeats 1000000
namespace Go.Q.Yk
open Go.Proofs.Tryz
/-- quaestor strong.Format -/
def strong_Format (p0:Option Addr) (p1:S_api_Mem) (k:(Int)->Heap->Prop) (h:Heap):Prop :=
  ∃ (b1:Nat) (h2:Heap),b1=h.size/\h2=h.push (.cells (S_api_Mem.cs p1).toArray 33)/\(∃ v3:S_api_Mem,CellsAt h2 (⟨b1,0,none⟩:Addr) (S_api_Mem.cs v3)/\(strong_Check v3 (fun (r4:Int) h5=>if (r4 != 0) then (k r4 h5) else (journal_Open p0 (fun (r6:Option Addr × Int) h7=>if (r6.2 != 0) then (k r6.2 h7) else (journal_Store_Recover r6.1 (fun (r8:Slc × Slc × Int) h9=>if (r8.2.2 == 0) then (k 7 h9) else (∃ v10:S_api_Mem,CellsAt h9 (⟨b1,0,none⟩:Addr) (S_api_Mem.cs v10)/\(strong_Put v10 (fun (r11:Slc) h12=>journal_Store_Save r6.1 r11 (fun (r13:Int) h14=>k r13 h14) h12) h9))) h7)) h5)) h2))
/-- quaestor strong.load -/
def strong_load_l1b (t2_1:Addr) (t7_1:Addr) (t31_1:Slc) (t32_1:Int) (t33_1:Int) (k:(S_api_Mem × Int)->Heap->Prop) (nx1:(Int)->Heap->Prop) (h_1:Heap):Prop :=
  if (decide (t33_1 < t32_1)) then (∃ a14:Addr,t31_1.a=some a14/\(0:Int)<=t33_1/\t33_1 < (t31_1.len:Int)/\(∃ v15:Slc,cellH h_1 (a14.add (t33_1.toNat * 1))=some (Slc.v v15)/\(strong_GetChange v15 (fun (r16:S_api_Change × Int) h17=>∃ (b18:Nat) (h19:Heap),b18=h17.size/\h19=h17.push (.cells (S_api_Change.cs (⟨0,0,0,(⟨0,([]:List Int)⟩:S_api_Chain),(⟨0,0,0,0,(⟨none,0,0⟩:Slc),(⟨none,0,0⟩:Slc)⟩:S_api_Keep),(⟨none,0,0⟩:Slc),(⟨none,0,0⟩:Slc),ByteArray.empty⟩:S_api_Change)).toArray 40)/\(∃ h20:Heap,WrsAt h19 (⟨b18,0,none⟩:Addr) 45/\h20=setsH h19 (⟨b18,0,none⟩:Addr) 0 (S_api_Change.cs r16.1)/\(if (r16.2 != 0) then (∃ h21:Heap,WrsAt h20 t2_1 79/\h21=setsH h20 t2_1 0 (S_api_Mem.cs (⟨0,0,0,0,0,(⟨0,([]:List Int)⟩:S_api_Share),([]:List Int),0,0,0,0,(⟨none,0,0⟩:Slc),(⟨none,0,0⟩:Slc),(⟨none,0,0⟩:Slc),(⟨none,0,0⟩:Slc),0⟩:S_api_Mem))/\(∃ v22:S_api_Mem,CellsAt h21 t2_1 (S_api_Mem.cs v22)/\k (v22,r16.2) h21)) else (∃ v23:S_api_Mem,CellsAt h20 t7_1 (S_api_Mem.cs v23)/\(∃ v24:S_api_Change,CellsAt h20 (⟨b18,0,none⟩:Addr) (S_api_Change.cs v24)/\(strong_Make v23 v24 (fun (r25:S_api_Mem × Int) h26=>∃ h27:Heap,WrsAt h26 t7_1 79/\h27=setsH h26 t7_1 0 (S_api_Mem.cs r25.1)/\(if (r25.2 != 0) then (∃ h28:Heap,WrsAt h27 t2_1 79/\h28=setsH h27 t2_1 0 (S_api_Mem.cs (⟨0,0,0,0,0,(⟨0,([]:List Int)⟩:S_api_Share),([]:List Int),0,0,0,0,(⟨none,0,0⟩:Slc),(⟨none,0,0⟩:Slc),(⟨none,0,0⟩:Slc),(⟨none,0,0⟩:Slc),0⟩:S_api_Mem))/\(∃ v29:S_api_Mem,CellsAt h28 t2_1 (S_api_Mem.cs v29)/\k (v29,4) h28)) else (nx1 (IntKind.i64.wrap (t33_1 + 1)) h27))) h20)))))) h_1))) else (∃ v30:S_api_Mem,CellsAt h_1 t7_1 (S_api_Mem.cs v30)/\(∃ h31:Heap,WrsAt h_1 t2_1 79/\h31=setsH h_1 t2_1 0 (S_api_Mem.cs v30)/\(∃ v32:S_api_Mem,CellsAt h31 t2_1 (S_api_Mem.cs v32)/\k (v32,0) h31)))
def strong_load_l1 (t2_1:Addr) (t7_1:Addr) (t31_1:Slc) (t32_1:Int) (i33:Int) (k:(S_api_Mem × Int)->Heap->Prop) (h:Heap):Prop :=
  ∃ (I:Int->Heap->Prop) (μ:Int->Heap->Nat),I i33 h/\∀ (t33_1:Int) (h:Heap),I t33_1 h->strong_load_l1b t2_1 t7_1 t31_1 t32_1 t33_1 k (fun s h'=>I s h'/\μ s h' < μ t33_1 h) h
def strong_load (p0:Option Addr) (k:(S_api_Mem × Int)->Heap->Prop) (h:Heap):Prop :=
  ∃ (b1:Nat) (h2:Heap),b1=h.size/\h2=h.push (.cells (S_api_Mem.cs (⟨0,0,0,0,0,(⟨0,([]:List Int)⟩:S_api_Share),([]:List Int),0,0,0,0,(⟨none,0,0⟩:Slc),(⟨none,0,0⟩:Slc),(⟨none,0,0⟩:Slc),(⟨none,0,0⟩:Slc),0⟩:S_api_Mem)).toArray 33)/\(journal_Store_Recover p0 (fun (r3:Slc × Slc × Int) h4=>if (r3.2.2 != 0) then (∃ h5:Heap,WrsAt h4 (⟨b1,0,none⟩:Addr) 79/\h5=setsH h4 (⟨b1,0,none⟩:Addr) 0 (S_api_Mem.cs (⟨0,0,0,0,0,(⟨0,([]:List Int)⟩:S_api_Share),([]:List Int),0,0,0,0,(⟨none,0,0⟩:Slc),(⟨none,0,0⟩:Slc),(⟨none,0,0⟩:Slc),(⟨none,0,0⟩:Slc),0⟩:S_api_Mem))/\(∃ v6:S_api_Mem,CellsAt h5 (⟨b1,0,none⟩:Addr) (S_api_Mem.cs v6)/\k (v6,r3.2.2) h5)) else (strong_Get r3.1 (fun (r7:S_api_Mem × Int) h8=>∃ (b9:Nat) (h10:Heap),b9=h8.size/\h10=h8.push (.cells (S_api_Mem.cs (⟨0,0,0,0,0,(⟨0,([]:List Int)⟩:S_api_Share),([]:List Int),0,0,0,0,(⟨none,0,0⟩:Slc),(⟨none,0,0⟩:Slc),(⟨none,0,0⟩:Slc),(⟨none,0,0⟩:Slc),0⟩:S_api_Mem)).toArray 33)/\(∃ h11:Heap,WrsAt h10 (⟨b9,0,none⟩:Addr) 79/\h11=setsH h10 (⟨b9,0,none⟩:Addr) 0 (S_api_Mem.cs r7.1)/\(if (r7.2 != 0) then (∃ h12:Heap,WrsAt h11 (⟨b1,0,none⟩:Addr) 79/\h12=setsH h11 (⟨b1,0,none⟩:Addr) 0 (S_api_Mem.cs (⟨0,0,0,0,0,(⟨0,([]:List Int)⟩:S_api_Share),([]:List Int),0,0,0,0,(⟨none,0,0⟩:Slc),(⟨none,0,0⟩:Slc),(⟨none,0,0⟩:Slc),(⟨none,0,0⟩:Slc),0⟩:S_api_Mem))/\(∃ v13:S_api_Mem,CellsAt h12 (⟨b1,0,none⟩:Addr) (S_api_Mem.cs v13)/\k (v13,r7.2) h12)) else (strong_load_l1 (⟨b1,0,none⟩:Addr) (⟨b9,0,none⟩:Addr) r3.2.1 (r3.2.1.len:Int) 0 k h11)))) h4)) h2)
/-- quaestor strong.Load -/
def strong_Load (p0:Option Addr) (k:(S_api_Mem × Int)->Heap->Prop) (h:Heap):Prop :=
  ∃ (b1:Nat) (h2:Heap),b1=h.size/\h2=h.push (.cells (S_api_Mem.cs (⟨0,0,0,0,0,(⟨0,([]:List Int)⟩:S_api_Share),([]:List Int),0,0,0,0,(⟨none,0,0⟩:Slc),(⟨none,0,0⟩:Slc),(⟨none,0,0⟩:Slc),(⟨none,0,0⟩:Slc),0⟩:S_api_Mem)).toArray 33)/\(journal_Open p0 (fun (r3:Option Addr × Int) h4=>if (r3.2 != 0) then (∃ h5:Heap,WrsAt h4 (⟨b1,0,none⟩:Addr) 79/\h5=setsH h4 (⟨b1,0,none⟩:Addr) 0 (S_api_Mem.cs (⟨0,0,0,0,0,(⟨0,([]:List Int)⟩:S_api_Share),([]:List Int),0,0,0,0,(⟨none,0,0⟩:Slc),(⟨none,0,0⟩:Slc),(⟨none,0,0⟩:Slc),(⟨none,0,0⟩:Slc),0⟩:S_api_Mem))/\(∃ v6:S_api_Mem,CellsAt h5 (⟨b1,0,none⟩:Addr) (S_api_Mem.cs v6)/\k (v6,r3.2) h5)) else (strong_load r3.1 (fun (r7:S_api_Mem × Int) h8=>∃ h9:Heap,WrsAt h8 (⟨b1,0,none⟩:Addr) 79/\h9=setsH h8 (⟨b1,0,none⟩:Addr) 0 (S_api_Mem.cs r7.1)/\(∃ v10:S_api_Mem,CellsAt h9 (⟨b1,0,none⟩:Addr) (S_api_Mem.cs v10)/\k (v10,r7.2) h9)) h4)) h2)
/-- quaestor strong.Open -/
def strong_Open (p0:Option Addr) (k:(Option Addr × Int)->Heap->Prop) (h:Heap):Prop :=
  journal_Open p0 (fun (r1:Option Addr × Int) h2=>if (r1.2 != 0) then (k (none,r1.2) h2) else (strong_load r1.1 (fun (r3:S_api_Mem × Int) h4=>∃ (b5:Nat) (h6:Heap),b5=h4.size/\h6=h4.push (.cells (S_api_Mem.cs (⟨0,0,0,0,0,(⟨0,([]:List Int)⟩:S_api_Share),([]:List Int),0,0,0,0,(⟨none,0,0⟩:Slc),(⟨none,0,0⟩:Slc),(⟨none,0,0⟩:Slc),(⟨none,0,0⟩:Slc),0⟩:S_api_Mem)).toArray 33)/\(∃ h7:Heap,WrsAt h6 (⟨b5,0,none⟩:Addr) 79/\h7=setsH h6 (⟨b5,0,none⟩:Addr) 0 (S_api_Mem.cs r3.1)/\(if (r3.2 != 0) then (k (none,r3.2) h7) else (∃ v8:S_api_Mem,CellsAt h7 (⟨b5,0,none⟩:Addr) (S_api_Mem.cs v8)/\(strong_Put v8 (fun (r9:Slc) h10=>journal_Store_Save r1.1 r9 (fun (r11:Int) h12=>if (r11 != 0) then (k (none,r11) h12) else (∃ v13:S_api_Mem,CellsAt h12 (⟨b5,0,none⟩:Addr) (S_api_Mem.cs v13)/\(∃ (b14:Nat) (h15:Heap),b14=h12.size/\h15=h12.push (.cells (S_strong_Store.cs (⟨r1.1,v13⟩:S_strong_Store)).toArray 110)/\(k ((some (⟨b14,0,none⟩:Addr)),0) h15)))) h10) h7))))) h2)) h
/-- (*quaestor strong.Store).Mem -/
def strong_Store_Mem (p0:Option Addr) (k:(S_api_Mem)->Heap->Prop) (h:Heap):Prop :=
  ∃ (b1:Nat) (h2:Heap),b1=h.size/\h2=h.push (.cells (S_api_Mem.cs (⟨0,0,0,0,0,(⟨0,([]:List Int)⟩:S_api_Share),([]:List Int),0,0,0,0,(⟨none,0,0⟩:Slc),(⟨none,0,0⟩:Slc),(⟨none,0,0⟩:Slc),(⟨none,0,0⟩:Slc),0⟩:S_api_Mem)).toArray 33)/\(if (p0.isNone) then (∃ h3:Heap,WrsAt h2 (⟨b1,0,none⟩:Addr) 79/\h3=setsH h2 (⟨b1,0,none⟩:Addr) 0 (S_api_Mem.cs (⟨0,0,0,0,0,(⟨0,([]:List Int)⟩:S_api_Share),([]:List Int),0,0,0,0,(⟨none,0,0⟩:Slc),(⟨none,0,0⟩:Slc),(⟨none,0,0⟩:Slc),(⟨none,0,0⟩:Slc),0⟩:S_api_Mem))/\(∃ v4:S_api_Mem,CellsAt h3 (⟨b1,0,none⟩:Addr) (S_api_Mem.cs v4)/\k v4 h3)) else (∃ a5:Addr,p0=some a5/\(∃ v6:S_api_Mem,CellsAt h2 (a5.add 1) (S_api_Mem.cs v6)/\(strong_copied v6 (fun (r7:S_api_Mem) h8=>∃ h9:Heap,WrsAt h8 (⟨b1,0,none⟩:Addr) 79/\h9=setsH h8 (⟨b1,0,none⟩:Addr) 0 (S_api_Mem.cs r7)/\(∃ v10:S_api_Mem,CellsAt h9 (⟨b1,0,none⟩:Addr) (S_api_Mem.cs v10)/\k v10 h9)) h2))))
/-- (*quaestor strong.Store).Do -/
def strong_Store_Do_j3 (t6_3:Int) (k:(Int)->Heap->Prop) (h_3:Heap):Prop :=
  k t6_3 h_3
def strong_Store_Do_j2 (t0_2:Option Addr) (t5_2:Addr) (t6_2:Int) (k:(Int)->Heap->Prop) (h_2:Heap):Prop :=
  if (t6_2 == 0) then (∃ v6:S_api_Mem,CellsAt h_2 t5_2 (S_api_Mem.cs v6)/\(∃ a7:Addr,t0_2=some a7/\(∃ h8:Heap,WrsAt h_2 (a7.add 1) 79/\h8=setsH h_2 (a7.add 1) 0 (S_api_Mem.cs v6)/\(strong_Store_Do_j3 t6_2 k h8)))) else (strong_Store_Do_j3 t6_2 k h_2)
def strong_Store_Do_j1 (t0_1:Option Addr) (t3_1:Addr) (t5_1:Addr) (t6_1:Int) (k:(Int)->Heap->Prop) (h_1:Heap):Prop :=
  if (t6_1 != 0) then (k t6_1 h_1) else (∃ v3:S_api_Change,CellsAt h_1 t3_1 (S_api_Change.cs v3)/\(strong_PutChange v3 (fun (r4:Slc) h5=>∃ a9:Addr,t0_1=some a9/\(∃ v10:Option Addr,cellH h5 a9=some (.pointer v10)/\(journal_Store_Room v10 (fun (r11:Int) h12=>if (decide ((r4.len:Int)<=(if r11 < 4096 then r11 else 4096))) then (∃ v13:Option Addr,cellH h12 a9=some (.pointer v13)/\(journal_Store_Append v13 r4 (fun (r14:Int) h15=>strong_Store_Do_j2 t0_1 t5_1 r14 k h15) h12)) else (∃ v16:Option Addr,cellH h12 a9=some (.pointer v16)/\(∃ v17:S_api_Mem,CellsAt h12 t5_1 (S_api_Mem.cs v17)/\(strong_Put v17 (fun (r18:Slc) h19=>cellH h19 a9=some (.pointer v16)/\(journal_Store_Save v16 r18 (fun (r21:Int) h22=>strong_Store_Do_j2 t0_1 t5_1 r21 k h22) h19)) h12)))) h5))) h_1))
def strong_Store_Do (p0:Option Addr) (p1:S_api_Change) (k:(Int)->Heap->Prop) (h:Heap):Prop :=
  ∃ (b1:Nat) (h2:Heap),b1=h.size/\h2=h.push (.cells (S_api_Change.cs p1).toArray 40)/\(if (p0.isNone) then (k 1 h2) else (∃ a23:Addr,p0=some a23/\(∃ v24:S_api_Mem,CellsAt h2 (a23.add 1) (S_api_Mem.cs v24)/\(∃ v25:S_api_Change,CellsAt h2 (⟨b1,0,none⟩:Addr) (S_api_Change.cs v25)/\((strong_Make v24 v25 (fun (r26:S_api_Mem × Int) h27=>∃ (b28:Nat) (h29:Heap),b28=h27.size/\h29=h27.push (.cells (S_api_Mem.cs (⟨0,0,0,0,0,(⟨0,([]:List Int)⟩:S_api_Share),([]:List Int),0,0,0,0,(⟨none,0,0⟩:Slc),(⟨none,0,0⟩:Slc),(⟨none,0,0⟩:Slc),(⟨none,0,0⟩:Slc),0⟩:S_api_Mem)).toArray 33)/\(∃ h30:Heap,WrsAt h29 (⟨b28,0,none⟩:Addr) 79/\h30=setsH h29 (⟨b28,0,none⟩:Addr) 0 (S_api_Mem.cs r26.1)/\(strong_Store_Do_j1 p0 (⟨b1,0,none⟩:Addr) (⟨b28,0,none⟩:Addr) r26.2 k h30))) h2)/\(∃ (b31:Nat) (h32:Heap),b31=h2.size/\h32=h2.push (.cells (S_api_Mem.cs (⟨0,0,0,0,0,(⟨0,([]:List Int)⟩:S_api_Share),([]:List Int),0,0,0,0,(⟨none,0,0⟩:Slc),(⟨none,0,0⟩:Slc),(⟨none,0,0⟩:Slc),(⟨none,0,0⟩:Slc),0⟩:S_api_Mem)).toArray 33)/\(CellsAt h32 (⟨b1,0,none⟩:Addr) (S_api_Change.cs v25)/\CellsAt h32 (a23.add 1) (S_api_Mem.cs v24)/\(strong_Make v24 v25 (fun (r35:S_api_Mem × Int) h36=>∃ h37:Heap,WrsAt h36 (⟨b31,0,none⟩:Addr) 79/\h37=setsH h36 (⟨b31,0,none⟩:Addr) 0 (S_api_Mem.cs r35.1)/\(strong_Store_Do_j1 p0 (⟨b1,0,none⟩:Addr) (⟨b31,0,none⟩:Addr) r35.2 k h37)) h32))))))))
/-- (*quaestor strong.Store).Scrub -/
def strong_Store_Scrub (p0:Option Addr) (k:(Int)->Heap->Prop) (h:Heap):Prop :=
  if (p0.isNone) then (k 1 h) else (∃ a1:Addr,p0=some a1/\(∃ v2:Option Addr,cellH h a1=some (.pointer v2)/\(∃ v3:S_api_Mem,CellsAt h (a1.add 1) (S_api_Mem.cs v3)/\(strong_Put v3 (fun (r4:Slc) h5=>cellH h5 a1=some (.pointer v2)/\(journal_Store_Scrub v2 r4 (fun (r7:Int) h8=>k r7 h8) h5)) h))))
/-- quaestor quaestorlaw28.first -/
def law28_first (p0:Int) (k:(S_api_Mem)->Heap->Prop) (h:Heap):Prop :=
  ∃ (b1:Nat) (h2:Heap),b1=h.size/\h2=h.push (.cells (S_api_Mem.cs (⟨0,0,0,0,0,(⟨0,([]:List Int)⟩:S_api_Share),([]:List Int),0,0,0,0,(⟨none,0,0⟩:Slc),(⟨none,0,0⟩:Slc),(⟨none,0,0⟩:Slc),(⟨none,0,0⟩:Slc),0⟩:S_api_Mem)).toArray 33)/\(∃ (b3:Nat) (h4:Heap),(0:Int)<=p0/\(p0:Int)<=p0/\(p0:Int) * 40<=281474976710656/\(p0:Int)<=9223372036854775807/\b3=h2.size/\h4=h2.push (.cells (zrow [.int .u64 0,.int .u8 0,.int .u8 0,.int .u8 0,.int .u8 0,.int .u8 0,.int .u8 0,.int .u8 0,.int .u8 0,.int .u8 0,.int .u8 0,.int .u8 0,.int .u8 0,.int .u8 0,.int .u8 0,.int .u8 0,.int .u8 0,.int .u8 0,.int .u8 0,.int .u8 0,.int .u8 0,.int .u8 0,.int .u8 0,.int .u8 0,.int .u8 0,.int .u8 0,.int .u8 0,.int .u8 0,.int .u8 0,.int .u8 0,.int .u8 0,.int .u8 0,.int .u8 0] p0.toNat).toArray 35)/\(∃ h5:Heap,WrsAt h4 (⟨b1,0,none⟩:Addr) 79/\h5=setsH h4 (⟨b1,0,none⟩:Addr) 0 (S_api_Mem.cs (⟨0,p0,1,0,0,(⟨0,([]:List Int)⟩:S_api_Share),([]:List Int),0,0,0,0,(⟨none,0,0⟩:Slc),(⟨none,0,0⟩:Slc),(⟨some ⟨b3,0,none⟩,p0.toNat,p0.toNat⟩:Slc),(⟨none,0,0⟩:Slc),0⟩:S_api_Mem))/\(∃ v6:S_api_Mem,CellsAt h5 (⟨b1,0,none⟩:Addr) (S_api_Mem.cs v6)/\k v6 h5)))
/-- quaestor quaestorlaw28.awake -/
def law28_awake_g3 (t56_3:Bool) (k:(Bool)->Heap->Prop) (h_3:Heap):Prop :=
  k t56_3 h_3
def law28_awake_g2 (t3_2:Option Addr) (t50_2:Bool) (k:(Bool)->Heap->Prop) (h_2:Heap):Prop :=
  if t50_2 then (strong_Store_Mem t3_2 (fun (r18:S_api_Mem) h19=>law28_awake_g3 (r18.f_Boot == 2) k h19) h_2) else (law28_awake_g3 false k h_2)
def law28_awake_g1 (t3_1:Option Addr) (t6_1:Addr) (t45_1:Bool) (k:(Bool)->Heap->Prop) (h_1:Heap):Prop :=
  if t45_1 then (∃ v20:Int,cellH h_1 (t6_1.add 1)=some (.int .i64 v20)/\(law28_awake_g2 t3_1 (v20 == 3) k h_1)) else (law28_awake_g2 t3_1 false k h_1)
def law28_awake (k:(Bool)->Heap->Prop) (h:Heap):Prop :=
  disk_New  (fun (r1:Option Addr) h2=>law28_first 3 (fun (r3:S_api_Mem) h4=>strong_Format r1 r3 (fun (r5:Int) h6=>strong_Open r1 (fun (r7:Option Addr × Int) h8=>strong_Store_Do r7.1 (⟨1,2,0,(⟨0,([]:List Int)⟩:S_api_Chain),(⟨0,0,0,0,(⟨none,0,0⟩:Slc),(⟨none,0,0⟩:Slc)⟩:S_api_Keep),(⟨none,0,0⟩:Slc),(⟨none,0,0⟩:Slc),ByteArray.empty⟩:S_api_Change) (fun (r9:Int) h10=>disk_Disk_Boot r1 (⟨none,0,0⟩:Slc) (fun (r11:Unit) h12=>strong_Load r1 (fun (r13:S_api_Mem × Int) h14=>∃ (b15:Nat) (h16:Heap),b15=h14.size/\h16=h14.push (.cells (S_api_Mem.cs (⟨0,0,0,0,0,(⟨0,([]:List Int)⟩:S_api_Share),([]:List Int),0,0,0,0,(⟨none,0,0⟩:Slc),(⟨none,0,0⟩:Slc),(⟨none,0,0⟩:Slc),(⟨none,0,0⟩:Slc),0⟩:S_api_Mem)).toArray 33)/\(∃ h17:Heap,WrsAt h16 (⟨b15,0,none⟩:Addr) 79/\h17=setsH h16 (⟨b15,0,none⟩:Addr) 0 (S_api_Mem.cs r13.1)/\(if ((((r5 == 0) && (r7.2 == 0)) && (r9 == 0)) && (r13.2 == 0)) then (∃ v21:Int,cellH h17 ((⟨b15,0,none⟩:Addr).add 3)=some (.int .u64 v21)/\(law28_awake_g1 r7.1 (⟨b15,0,none⟩:Addr) (v21 == 2) k h17)) else (law28_awake_g1 r7.1 (⟨b15,0,none⟩:Addr) false k h17)))) h12) h10) h8) h6) h4) h2) h
theorem O22:CallOk prog 22:=ck func22
theorem R22 (p0 p1 k h) (H:strong_Format p0 p1 k h):CallsH prog 22 #[.pointer p0,.agg (S_api_Mem.cs p1).toArray] h (fun v h'=>∃ r:Int,v = .int .i64 r/\k r h'):=by
 refine fE func22 fun w0=>?_
 refine zF [0,1] (zQ ?_)
 refine wX H fun b1 h2 H=>?_
 refine w1 tok (zE (zS (zQ ?_)))
 refine wLa tok H fun v3 H=>?_
 refine wC O11 (R11 _ _ _ H) fun r4 h5 H=>?_
 refine w1 tok (zE (zQ ?_))
 refine w2 tok (zE ?_)
 refine zI H ?_ ?_ <;> intro H
 refine zQ (w2 tok (zE (zF [4] (zT (yT ?_)))))
 exact x_ret _ rfl _ rfl ⟨r4,rfl,H⟩
 refine zK (zX (zF [0,3] (zQ ?_)))
 refine w1 tok ?_
 refine wC O53 (R53 _ _ _ H) fun r6 h7 H=>?_
 refine w5 tok (zE (zS (zQ ?_)))
 refine w2 tok (zE (zF [3,6,7,22] ?_))
 refine zI H ?_ ?_ <;> intro H
 refine zQ (w2 tok (zE (zT (yT ?_))))
 exact x_ret _ rfl _ rfl ⟨r6.2,rfl,H⟩
 refine zK (zX (zS (zQ (w1 tok ?_))))
 refine wC O54 (R54 _ _ _ H) fun r8 h9 H=>?_
 refine w6 tok ?_
 refine w1 tok (zE (zF [3,6,10] (zQ ?_)))
 refine w2 tok (zE ?_)
 refine zI H ?_ ?_ <;> intro H
 refine zQ (w1 tok (zE (zT (yT ?_))))
 exact x_ret _ rfl _ rfl ⟨7,rfl,H⟩
 refine zK (zX (zQ (w1 tok ?_)))
 refine wLa tok H fun v10 H=>?_
 refine wC O9 (R9 _ _ _ H) fun r11 h12 H=>?_
 refine wC O55 (R55 _ _ _ _ H) fun r13 h14 H=>?_
 refine w1 tok (zE (zF [4] (zT ?_)))
 exact x_ret _ rfl _ rfl ⟨r13,rfl,H⟩
theorem O56:CallOk prog 56:=ck func56
theorem R56 (p0 k h) (H:strong_load p0 k h):CallsH prog 56 #[.pointer p0] h (fun v h'=>∃ r:S_api_Mem × Int,v = .tuple #[.agg (S_api_Mem.cs r.1).toArray,.int .i64 r.2]/\k r h'):=by
 refine fE func56 fun w0=>?_
 refine zF [0] (zQ ?_)
 refine wB tok H fun b1 h2 H=>?_
 refine w1 tok (zE (zQ ?_))
 refine w1 tok ?_
 refine wC O54 (R54 _ _ _ H) fun r3 h4 H=>?_
 refine w6 tok ?_
 refine w1 tok (zE (zF [2,4,5,6] (zS (zQ ?_))))
 refine w2 tok (zE ?_)
 refine zI H ?_ ?_ <;> intro H
 refine zQ ?_
 refine wY (y_build tok rfl rfl rfl rfl rfl) ?_
 refine w1 tok ?_
 refine wTa tok H fun h5 H=>?_
 refine w1 tok (zE (zF [2,3] (zT (yT ?_))))
 obtain ⟨v6,hv6,H⟩:=H
 exact x_retc tok _ rfl [.agg (S_api_Mem.cs v6).toArray,.int .i64 r3.2.2] ⟨⟨_,_,rfl,rfl,.inr ⟨rfl,_,rfl,rfl,hv6⟩⟩,rfl,trivial⟩ ⟨(v6,r3.2.2),rfl,H⟩
 refine zK (zX (zQ (w1 tok ?_)))
 refine wC O16 (R16 _ _ _ H) fun r7 h8 H=>?_
 refine w3 tok ?_
 refine wB tok H fun b9 h10 H=>?_
 refine wTa tok H fun h11 H=>?_
 refine w1 tok (zE (zF [2,5,6,7] (zS (zQ ?_))))
 refine w2 tok (zE ?_)
 refine zI H ?_ ?_ <;> intro H
 refine zQ ?_
 refine wY (y_build tok rfl rfl rfl rfl rfl) ?_
 refine w1 tok ?_
 refine wTa tok H fun h12 H=>?_
 refine w1 tok (zE (zF [2,3] (zT (yT ?_))))
 obtain ⟨v13,hv13,H⟩:=H
 exact x_retc tok _ rfl [.agg (S_api_Mem.cs v13).toArray,.int .i64 r7.2] ⟨⟨_,_,rfl,rfl,.inr ⟨rfl,_,rfl,rfl,hv13⟩⟩,rfl,trivial⟩ ⟨(v13,r7.2),rfl,H⟩
 refine zK (zX (zS (zQ (w3 tok (zE (zB ?_))))))
 obtain ⟨I1,μ1,H0,HI⟩:=H
 refine zO (σ:=Int) [2,7,31,32] (fun (s:Int)=>[(33,.int .i64 s)]) I1 μ1 0 H0 ?_
 rintro t33_1 h_1 H
 replace H:=HI t33_1 h_1 H
 refine zF [33,2,7,31,32] (zQ ?_)
 refine w1 tok (zE (zS ?_))
 refine zI H ?_ ?_ <;> intro H
 refine zK (zX (zS (zB (zQ ?_))))
 refine wD tok H fun a14 _ H=>?_
 refine wL tok H fun v15 H=>?_
 refine w1 tok (zE (zQ ?_))
 refine w1 tok ?_
 refine wC O18 (R18 _ _ _ H) fun r16 h17 H=>?_
 refine w3 tok ?_
 refine wB tok H fun b18 h19 H=>?_
 refine wTa tok H fun h20 H=>?_
 refine w1 tok (zE (zF [33,2,7,31,32,10,11] (zS (zQ ?_))))
 refine w2 tok (zE ?_)
 refine zI H ?_ ?_ <;> intro H
 refine zQ ?_
 refine wY (y_build tok rfl rfl rfl rfl rfl) ?_
 refine w1 tok ?_
 refine wTa tok H fun h21 H=>?_
 refine w1 tok (zE (zF [2,3] (zT (yT (yB (yT (yT (yB (yT ?_)))))))))
 obtain ⟨v22,hv22,H⟩:=H
 exact x_retc tok _ rfl [.agg (S_api_Mem.cs v22).toArray,.int .i64 r16.2] ⟨⟨_,_,rfl,rfl,.inr ⟨rfl,_,rfl,rfl,hv22⟩⟩,rfl,trivial⟩ ⟨(v22,r16.2),rfl,H⟩
 refine zK (zX (zQ ?_))
 refine wLa tok H fun v23 H=>?_
 refine wLa tok H fun v24 H=>?_
 refine wC O57 (R57 _ _ _ _ H) fun r25 h26 H=>?_
 refine w3 tok ?_
 refine wTa tok H fun h27 H=>?_
 refine w1 tok (zE (zF [33,2,7,31,32,11] (zQ ?_)))
 refine w2 tok (zE ?_)
 refine zI H ?_ ?_ <;> intro H
 refine zQ ?_
 refine wY (y_build tok rfl rfl rfl rfl rfl) ?_
 refine wTa tok H fun h28 H=>?_
 refine w1 tok (zE (zF [2,3] (zT (yB (yT (yT (yB (yT ?_))))))))
 obtain ⟨v29,hv29,H⟩:=H
 exact x_retc tok _ rfl [.agg (S_api_Mem.cs v29).toArray,.int .i64 4] ⟨⟨_,_,rfl,rfl,.inr ⟨rfl,_,rfl,rfl,hv29⟩⟩,rfl,trivial⟩ ⟨(v29,4),rfl,H⟩
 refine zK (yL (zX (zR (w2 tok (zW ?_)))))
 exact xJ (IntKind.i64.wrap (t33_1 + 1)) H
 refine zY (yE (yE (yH (zX (zQ ?_)))))
 refine wLa tok H fun v30 H=>?_
 refine wTa tok H fun h31 H=>?_
 refine w1 tok (zE (zT ?_))
 obtain ⟨v32,hv32,H⟩:=H
 exact x_retc tok _ rfl [.agg (S_api_Mem.cs v32).toArray,.int .i64 0] ⟨⟨_,_,rfl,rfl,.inr ⟨rfl,_,rfl,rfl,hv32⟩⟩,rfl,trivial⟩ ⟨(v32,0),rfl,H⟩
theorem O28:CallOk prog 28:=ck func28
theorem R28 (p0 k h) (H:strong_Load p0 k h):CallsH prog 28 #[.pointer p0] h (fun v h'=>∃ r:S_api_Mem × Int,v = .tuple #[.agg (S_api_Mem.cs r.1).toArray,.int .i64 r.2]/\k r h'):=by
 refine fE func28 fun w0=>?_
 refine zF [0] (zQ ?_)
 refine wB tok H fun b1 h2 H=>?_
 refine w1 tok (zE (zQ ?_))
 refine w1 tok ?_
 refine wC O53 (R53 _ _ _ H) fun r3 h4 H=>?_
 refine w5 tok (zE (zF [2,4,5] (zS (zQ ?_))))
 refine w2 tok (zE ?_)
 refine zI H ?_ ?_ <;> intro H
 refine zQ ?_
 refine wY (y_build tok rfl rfl rfl rfl rfl) ?_
 refine w1 tok ?_
 refine wTa tok H fun h5 H=>?_
 refine w1 tok (zE (zT (yT ?_)))
 obtain ⟨v6,hv6,H⟩:=H
 exact x_retc tok _ rfl [.agg (S_api_Mem.cs v6).toArray,.int .i64 r3.2] ⟨⟨_,_,rfl,rfl,.inr ⟨rfl,_,rfl,rfl,hv6⟩⟩,rfl,trivial⟩ ⟨(v6,r3.2),rfl,H⟩
 refine zK (zX (zQ (w1 tok ?_)))
 refine wC O56 (R56 _ _ _ H) fun r7 h8 H=>?_
 refine w2 tok ?_
 refine wTa tok H fun h9 H=>?_
 refine w1 tok (zE (zF [2,3] (zT ?_)))
 obtain ⟨v10,hv10,H⟩:=H
 exact x_retc tok _ rfl [.agg (S_api_Mem.cs v10).toArray,.int .i64 r7.2] ⟨⟨_,_,rfl,rfl,.inr ⟨rfl,_,rfl,rfl,hv10⟩⟩,rfl,trivial⟩ ⟨(v10,r7.2),rfl,H⟩
theorem O23:CallOk prog 23:=ck func23
theorem R23 (p0 k h) (H:strong_Open p0 k h):CallsH prog 23 #[.pointer p0] h (fun v h'=>∃ r:Option Addr × Int,v = .tuple #[.pointer r.1,.int .i64 r.2]/\k r h'):=by
 refine fE func23 fun w0=>?_
 refine zF [0] (zQ ?_)
 refine w2 tok (zE (zQ ?_))
 refine w1 tok ?_
 refine wC O53 (R53 _ _ _ H) fun r1 h2 H=>?_
 refine w5 tok (zE (zF [4,5] (zS (zQ ?_))))
 refine w2 tok (zE ?_)
 refine zI H ?_ ?_ <;> intro H
 refine zQ (w3 tok (zE (zT (yT ?_))))
 exact x_ret _ rfl _ rfl ⟨(none,r1.2),rfl,H⟩
 refine zK (zX (zQ (w1 tok ?_)))
 refine wC O56 (R56 _ _ _ H) fun r3 h4 H=>?_
 refine w3 tok ?_
 refine wB tok H fun b5 h6 H=>?_
 refine wTa tok H fun h7 H=>?_
 refine w1 tok (zE (zF [4,5,6] (zS (zQ ?_))))
 refine w2 tok (zE ?_)
 refine zI H ?_ ?_ <;> intro H
 refine zQ (w3 tok (zE (zT (yT ?_))))
 exact x_ret _ rfl _ rfl ⟨(none,r3.2),rfl,H⟩
 refine zK (zX (zS (zQ (w1 tok ?_))))
 refine wLa tok H fun v8 H=>?_
 refine wC O9 (R9 _ _ _ H) fun r9 h10 H=>?_
 refine wC O55 (R55 _ _ _ _ H) fun r11 h12 H=>?_
 refine w1 tok (zE (zF [4,6,7] (zQ ?_)))
 refine w2 tok (zE ?_)
 refine zI H ?_ ?_ <;> intro H
 refine zQ (w3 tok (zE (zT (yT ?_))))
 exact x_ret _ rfl _ rfl ⟨(none,r11),rfl,H⟩
 refine zK (zX (zQ (w1 tok ?_)))
 refine wLa tok H fun v13 H=>?_
 refine wY (y_build tok rfl rfl rfl rfl rfl) ?_
 refine wX H fun b14 h15 H=>?_
 refine w2 tok (zE (zF [2,3] (zT ?_)))
 exact x_ret _ rfl _ rfl ⟨((some (ad b14)),0),rfl,H⟩
theorem O26:CallOk prog 26:=ck func26
theorem R26 (p0 k h) (H:strong_Store_Mem p0 k h):CallsH prog 26 #[.pointer p0] h (fun v h'=>∃ r:S_api_Mem,v = .agg (S_api_Mem.cs r).toArray/\k r h'):=by
 refine fE func26 fun w0=>?_
 refine zF [0] (zQ ?_)
 refine wB tok H fun b1 h2 H=>?_
 refine zE (zS (zQ (w2 tok (zE ?_))))
 refine zI H ?_ ?_ <;> intro H
 refine zQ ?_
 refine wY (y_build tok rfl rfl rfl rfl rfl) ?_
 refine wTa tok H fun h3 H=>?_
 refine zE (zT (yT ?_))
 obtain ⟨v4,hv4,H⟩:=H
 exact x_retc tok _ rfl [.agg (S_api_Mem.cs v4).toArray] ⟨⟨_,_,rfl,rfl,.inr ⟨rfl,_,rfl,rfl,hv4⟩⟩,trivial⟩ ⟨v4,rfl,H⟩
 refine zK (zX (zQ (w1 tok ?_)))
 refine wN H fun a5 _ H=>?_
 refine w1 tok ?_
 refine wLa tok H fun v6 H=>?_
 refine wC O61 (R61 _ _ _ H) fun r7 h8 H=>?_
 refine wTa tok H fun h9 H=>?_
 refine zE (zF [2] (zT ?_))
 obtain ⟨v10,hv10,H⟩:=H
 exact x_retc tok _ rfl [.agg (S_api_Mem.cs v10).toArray] ⟨⟨_,_,rfl,rfl,.inr ⟨rfl,_,rfl,rfl,hv10⟩⟩,trivial⟩ ⟨v10,rfl,H⟩
theorem O24:CallOk prog 24:=ck func24
theorem R24 (p0 p1 k h) (H:strong_Store_Do p0 p1 k h):CallsH prog 24 #[.pointer p0,.agg (S_api_Change.cs p1).toArray] h (fun v h'=>∃ r:Int,v = .int .i64 r/\k r h'):=by
 refine fE func24 fun w0=>?_
 refine zF [0,1] (zQ ?_)
 refine wX H fun b1 h2 H=>?_
 refine w1 tok (zE (zS (zQ ?_)))
 refine w2 tok (zE ?_)
 refine zI H ?_ ?_ <;> intro H
 refine zQ (w1 tok (zE (zT (yT ?_))))
 exact x_ret _ rfl _ rfl ⟨1,rfl,H⟩
 refine zK (zX ?_)
 refine zJ (α:=Addr × Int) [0,3] (fun (s:Addr × Int)=>[(5,.pointer (some s.1)),(6,.int .i64 s.2)]) (fun (s:Addr × Int) h=>strong_Store_Do_j1 p0 (ad b1) s.1 s.2 k h) ?_ ?_
 rintro ⟨t5_1,t6_1⟩ h_1 H
 refine zF [5,6,0,3] (zS (zQ ?_))
 refine w2 tok (zE ?_)
 refine zI H ?_ ?_ <;> intro H
 refine zQ (w2 tok (zE (zF [4] (zT (yT ?_)))))
 exact x_ret _ rfl _ rfl ⟨t6_1,rfl,H⟩
 refine zK (zX (zQ ?_))
 refine wLa tok H fun v3 H=>?_
 refine wC O10 (R10 _ _ _ H) fun r4 h5 H=>?_
 refine w1 tok (zE ?_)
 refine zJ (α:=Int) [0,5] (fun (s:Int)=>[(6,.int .i64 s)]) (fun (s:Int) h=>strong_Store_Do_j2 p0 t5_1 s k h) ?_ ?_
 rintro t6_2 h_2 H
 refine zF [6,0,5] ?_
 refine zJ (α:=Unit) [6] (fun (s:Unit)=>[]) (fun (s:Unit) h=>strong_Store_Do_j3 t6_2 k h) ?_ ?_
 rintro _ h_3 H
 refine zF [6] (zQ ?_)
 refine w2 tok (zE (zT ?_))
 exact x_ret _ rfl _ rfl ⟨t6_2,rfl,H⟩
 refine zQ (w2 tok (zE ?_))
 refine zI H ?_ ?_ <;> intro H
 refine zR (w1 tok ?_)
 refine wLa tok H fun v6 H=>?_
 refine wN H fun a7 _ H=>?_
 refine w1 tok ?_
 refine wTa tok H fun h8 H=>?_
 refine zW ?_
 exact xJ () H
 refine zK ?_
 exact xJ () H
 refine zQ (w3 tok ?_)
 refine wN H fun a9 ha9 H=>?_
 refine w1 tok ?_
 refine wL tok H fun v10 H=>?_
 refine wC O58 (R58 _ _ _ H) fun r11 h12 H=>?_
 refine w2 tok (zE (zF [5,0,7,32] ?_))
 refine zI H ?_ ?_ <;> intro H
 refine zR (w1 tok ?_)
 refine wY (y_nil' rfl rfl ha9) ?_
 refine w1 tok ?_
 refine wL tok H fun v13 H=>?_
 refine w1 tok ?_
 refine wC O59 (R59 _ _ _ _ H) fun r14 h15 H=>?_
 refine w1 tok (zW ?_)
 exact xJ r14 H
 refine gB [0,5] ?_
 refine gT 0 [0] tok ?_
 refine gY 1 [39] rfl (fun _=>y_nil' rfl rfl ha9) ?_
 refine gT 2 [40] tok ?_
 obtain ⟨v16,hv16,H⟩:=H
 refine gL 3 [41] rfl (y_ld tok rfl rfl rfl rfl hv16) ?_
 obtain ⟨v17,hv17,H⟩:=H
 refine gL 4 [5] rfl (y_lda tok rfl rfl rfl rfl rfl hv17) ?_
 refine gCr 5 [43] O9 (R9 _ _ _ H) fun r18 h19 H=>?_
 obtain ⟨hy20,H⟩:=H
 refine gR rfl (y_ld tok rfl rfl rfl rfl hy20) ?_
 refine gZ0 ?_
 refine gC 6 [42,44] O55 (R55 _ _ _ _ H) fun r21 h22 H=>?_
 refine gT 7 [45] tok ?_
 refine gZ ?_
 exact xJ r21 H
 refine gB [0,3] ?_
 refine gT 0 [0] tok ?_
 obtain ⟨a23,ha23,H⟩:=H
 refine gY 1 [11] rfl (fun _=>y_nil' rfl rfl ha23) ?_
 refine gT 2 [12] tok ?_
 obtain ⟨v24,hv24,H⟩:=H
 refine gL 3 [13] rfl (y_lda tok rfl rfl rfl rfl rfl hv24) ?_
 obtain ⟨v25,hv25,H⟩:=H
 refine gL 4 [3] rfl (y_lda tok rfl rfl rfl rfl rfl hv25) ?_
 refine gO 5 9 H (fun H=>?_) (fun H=>?_)
 refine gCI 5 [14,15] O57 (R57 _ _ _ _ H) fun r26 h27 H=>?_
 refine gT 6 [16] tok ?_
 refine gT 7 [10] tok ?_
 refine gT 8 [10] tok ?_
 obtain ⟨b28,h29,eb28,eh29,H⟩:=H
 refine gH 9 [] rfl (h_alloc tok rfl rfl eb28 eh29) ?_
 obtain ⟨h30,wh30,eh30,H⟩:=H
 refine gH 10 [5,17] rfl (h_sts tok rfl rfl rfl rfl rfl (oneC (by kernel_rfl)) wh30 eh30) ?_
 refine gT 11 [18] tok ?_
 refine gZ ?_
 exact xJ ((ad b28),r26.2) H
 obtain ⟨b31,h32,eb31,eh32,H⟩:=H
 refine gHrI 9 [] rfl (h_alloc tok rfl rfl eb31 eh32) ?_
 obtain ⟨hy33,hy34,H⟩:=H
 refine gR rfl (y_lda tok rfl rfl rfl rfl rfl hy33) ?_
 refine gR rfl (y_lda tok rfl rfl rfl rfl rfl hy34) ?_
 refine gZ0 ?_
 refine gC 5 [14,15] O57 (R57 _ _ _ _ H) fun r35 h36 H=>?_
 refine gT 6 [16] tok ?_
 refine gT 7 [10] tok ?_
 refine gT 8 [10] tok ?_
 obtain ⟨h37,wh37,eh37,H⟩:=H
 refine gH 10 [5,17] rfl (h_sts tok rfl rfl rfl rfl rfl (oneC (by kernel_rfl)) wh37 eh37) ?_
 refine gT 11 [18] tok ?_
 refine gZ ?_
 exact xJ ((ad b31),r35.2) H
theorem O25:CallOk prog 25:=ck func25
theorem R25 (p0 k h) (H:strong_Store_Scrub p0 k h):CallsH prog 25 #[.pointer p0] h (fun v h'=>∃ r:Int,v = .int .i64 r/\k r h'):=by
 refine fE func25 fun w0=>?_
 refine zF [0] (zQ ?_)
 refine w1 tok (zE (zS (zQ ?_)))
 refine w2 tok (zE ?_)
 refine zI H ?_ ?_ <;> intro H
 refine zQ (w1 tok (zE (zT (yT ?_))))
 exact x_ret _ rfl _ rfl ⟨1,rfl,H⟩
 refine zK (zX (zS ?_))
 refine gB [0] ?_
 refine gT 0 [0] tok ?_
 obtain ⟨a1,ha1,H⟩:=H
 refine gY 1 [5] rfl (fun _=>y_nil' rfl rfl ha1) ?_
 refine gT 2 [6] tok ?_
 obtain ⟨v2,hv2,H⟩:=H
 refine gL 3 [7] rfl (y_ld tok rfl rfl rfl rfl hv2) ?_
 refine gT 4 [0] tok ?_
 refine gY 5 [9] rfl (fun _=>y_nil' rfl rfl ha1) ?_
 refine gT 6 [10] tok ?_
 obtain ⟨v3,hv3,H⟩:=H
 refine gL 7 [11] rfl (y_lda tok rfl rfl rfl rfl rfl hv3) ?_
 refine gCr 8 [12] O9 (R9 _ _ _ H) fun r4 h5 H=>?_
 obtain ⟨hy6,H⟩:=H
 refine gR rfl (y_ld tok rfl rfl rfl rfl hy6) ?_
 refine gZ0 ?_
 refine gC 9 [8,13] O60 (R60 _ _ _ _ H) fun r7 h8 H=>?_
 refine gT 10 [14] tok ?_
 refine gZ ?_
 refine zX (zF [2] (zT ?_))
 exact x_ret _ rfl _ rfl ⟨r7,rfl,H⟩
theorem law28_first_ok:CallOk prog 30:=ck func30
theorem law28_first_ref (p0 k h) (H:law28_first p0 k h):CallsH prog 30 #[.int .i64 p0] h (fun v h'=>∃ r:S_api_Mem,v = .agg (S_api_Mem.cs r).toArray/\k r h'):=by
 refine fE func30 fun w0=>?_
 refine zF [0] (zQ ?_)
 refine wB tok H fun b1 h2 H=>?_
 refine zE (zQ (w2 tok ?_))
 obtain ⟨b3,h4,ph4,qh4,rh4,th4,eb3,eh4,H⟩:=H
 refine wH (h_mk tok rfl rfl rfl rfl rfl rfl ph4 qh4 rh4 th4 eb3 eh4) ?_
 refine wY (y_build tok rfl rfl rfl rfl rfl) ?_
 refine wTa tok H fun h5 H=>?_
 refine zE (zT ?_)
 obtain ⟨v6,hv6,H⟩:=H
 exact x_retc tok _ rfl [.agg (S_api_Mem.cs v6).toArray] ⟨⟨_,_,rfl,rfl,.inr ⟨rfl,_,rfl,rfl,hv6⟩⟩,trivial⟩ ⟨v6,rfl,H⟩
theorem law28_awake_ok:CallOk prog 8:=ck func8
theorem law28_awake_ref ( k h) (H:law28_awake k h):CallsH prog 8 #[] h (fun v h'=>∃ r:Bool,v = .bool r/\k r h'):=by
 refine fE func8 fun w0=>?_
 refine zQ (w1 tok (zE (zQ ?_)))
 refine wC O21 (R21  _ _ H) fun r1 h2 H=>?_
 refine w1 tok (zE (zQ ?_))
 refine w1 tok ?_
 refine wC law28_first_ok (law28_first_ref _ _ _ H) fun r3 h4 H=>?_
 refine wC O22 (R22 _ _ _ _ H) fun r5 h6 H=>?_
 refine w1 tok (zE (zQ ?_))
 refine w1 tok ?_
 refine wC O23 (R23 _ _ _ H) fun r7 h8 H=>?_
 refine w5 tok (zE (zF [1,2,3,4] (zQ ?_)))
 refine w1 tok ?_
 refine wY (y_build tok rfl rfl rfl rfl rfl) ?_
 refine wC O24 (R24 _ _ _ _ H) fun r9 h10 H=>?_
 refine w1 tok (zE (zQ ?_))
 refine w1 tok ?_
 refine wC O31 (R31 _ _ _ _ H) fun r11 h12 H=>?_
 refine zE (zQ (w1 tok ?_))
 refine wC O28 (R28 _ _ _ H) fun r13 h14 H=>?_
 refine w3 tok ?_
 refine wB tok H fun b15 h16 H=>?_
 refine wTa tok H fun h17 H=>?_
 refine w1 tok (zE (zF [2,3,4,5,6,7] (zQ ?_)))
 refine w3 tok ?_
 refine vU 3 [3,5,6,7] [(32,.bool ((r5 == 0) && (r7.2 == 0)))] ?_ ?_
 refine w1 tok ?_
 refine vU 3 [3,6,7] [(36,.bool (((r5 == 0) && (r7.2 == 0)) && (r9 == 0)))] ?_ ?_
 refine w1 tok ?_
 refine vU 3 [3,6] [(40,.bool ((((r5 == 0) && (r7.2 == 0)) && (r9 == 0)) && (r13.2 == 0)))] ?_ ?_
 refine w1 tok ?_
 refine vJ 4 (α:=Bool) [3,6] (fun (s:Bool)=>[(45,.bool s)]) (fun (s:Bool) h=>law28_awake_g1 r7.1 (ad b15) s k h) ?_ ?_
 rintro t45_1 h_1 H
 refine vF [45,3,6] ?_
 refine w1 tok ?_
 refine vJ 4 (α:=Bool) [3] (fun (s:Bool)=>[(50,.bool s)]) (fun (s:Bool) h=>law28_awake_g2 r7.1 s k h) ?_ ?_
 rintro t50_2 h_2 H
 refine vF [50,3] ?_
 refine w1 tok ?_
 refine vJ 5 (α:=Bool) [] (fun (s:Bool)=>[(56,.bool s)]) (fun (s:Bool) h=>law28_awake_g3 s k h) ?_ ?_
 rintro t56_3 h_3 H
 refine vF [56] ?_
 refine w1 tok (zE (zT ?_))
 exact x_ret _ rfl _ rfl ⟨t56_3,rfl,H⟩
 refine vI 51 H ?_ ?_ <;> intro H
 refine w1 tok ?_
 refine wC O26 (R26 _ _ _ H) fun r18 h19 H=>?_
 refine w3 tok ?_
 exact wJ (r18.f_Boot == 2) H
 refine wS (wS (wS (wS (w1 tok ?_))))
 exact wJ false H
 refine vI 46 H ?_ ?_ <;> intro H
 refine w1 tok ?_
 refine wL tok H fun v20 H=>?_
 refine w2 tok ?_
 exact wJ (v20 == 3) H
 refine wS (wS (wS (w1 tok ?_)))
 exact wJ false H
 refine vI 41 H ?_ ?_ <;> intro H
 refine w1 tok ?_
 refine wL tok H fun v21 H=>?_
 refine w2 tok ?_
 exact wJ (v21 == 2) H
 refine wS (wS (wS (w1 tok ?_)))
 exact wJ false H
 refine vG (d:=37) (fun hb=>?_) (fun hb=>?_)
 refine w3 tok ?_
 refine vK ?_
 exact congrArg (fun b=>some (Value.bool b)) (and_t hb)
 refine wS (wS (w1 tok ?_))
 refine vK ?_
 exact congrArg (fun b=>some (Value.bool b)) (and_f hb)
 refine vG (d:=33) (fun hb=>?_) (fun hb=>?_)
 refine w3 tok ?_
 refine vK ?_
 exact congrArg (fun b=>some (Value.bool b)) (and_t hb)
 refine wS (wS (w1 tok ?_))
 refine vK ?_
 exact congrArg (fun b=>some (Value.bool b)) (and_f hb)
 refine vG (d:=29) (fun hb=>?_) (fun hb=>?_)
 refine w3 tok ?_
 refine vK ?_
 exact congrArg (fun b=>some (Value.bool b)) (and_t hb)
 refine wS (wS (w1 tok ?_))
 refine vK ?_
 exact congrArg (fun b=>some (Value.bool b)) (and_f hb)
end Go.Q.Yk
end
section
set_option maxRecDepth 100000
/- Strong: the store. -/
namespace Go.Q.Yk
open Go.Q.Sg
/-- what is kept, in blocks from lo to hi -/
def MemI (lo hi:Nat) (h:Heap) (v:S_api_Mem) (m:MemV):Prop:=∀ h',(∀ g,lo<=g->g < hi->h'[g]? = h[g]?)->MemAt h' v m
theorem MemI.now {lo hi:Nat} {h:Heap} {v:S_api_Mem} {m:MemV} (M:MemI lo hi h v m):MemAt h v m:=M h fun _ _ _=>rfl
theorem MemI.keep {lo hi:Nat} {h h':Heap} {v:S_api_Mem} {m:MemV} (M:MemI lo hi h v m) (e:∀ g,lo<=g->g < hi->h'[g]? = h[g]?):MemI lo hi h' v m:=fun h2 k=>M h2 fun g hg hl=>(k g hg hl).trans (e g hg hl)
structure STo (B:Nat) (h:Heap) (d rn rs pr sr st:Nat) (X:DK) (c:Nat) (slot i:Int) (v:S_api_Mem) (m:MemV) (lo hi:Nat):Prop where
 J:JO B h d rn rs pr sr X c slot i
 T:Blk h st (S_strong_Store.cs ⟨some ⟨sr,0,none⟩,v⟩) 110
 M:MemI lo hi h v m
 w:WfM m
 ck:chkM m=0
 o:B<=lo/\hi<=h.size/\B<=st
 x:∀ g,(g=d∨g=rn∨g=rs∨g=sr∨g=st)->g < lo∨hi<=g
section
variable {B c d rn rs pr sr st lo hi lo' hi':Nat} {h h' h0:Heap} {X Y:DK} {slot i slot':Int} {v v':S_api_Mem} {m m':MemV}
theorem JO.lt (J:JO B h d rn rs pr sr X c slot i):d < h.size/\rn < h.size/\rs < h.size/\sr < h.size:=by
 obtain ⟨_,_,_,_,S,_⟩:=J.S
 exact ⟨J.D.P.lt,J.D.N.lt,J.D.S.lt,S.lt⟩
theorem JO.other {z E:Nat} {cs:List Value} (J:JO B h d rn rs pr sr X c slot i) (Q:Blk h z cs E) (hE:E≠100/\E≠137) (F:JF d rn rs sr h h'):Blk h' z cs E:=by
 obtain ⟨_,_,_,_,S,_⟩:=J.S
 exact Q.old (F.block z Q.lt (fun q=>by subst q; exact Blk.unlike Q J.D.P hE.1 rfl) (blk_map Q J.D.N) (blk_map Q J.D.S) (fun q=>by subst q; exact Blk.unlike Q S hE.2 rfl))
theorem STo.ext (T:STo B h d rn rs pr sr st X c slot i v m lo hi) (E:Ext h.size h h'):STo B h' d rn rs pr sr st X c slot i v m lo hi:=by
 have o:=T.o
 have z:=E.size
 exact { T with J:=T.J.ext E,T:=T.T.ext E T.T.lt,M:=T.M.keep fun g _ hg=>E.block g (by omega),o:=⟨o.1,by omega,o.2.2⟩ }
theorem MemI.jf (M:MemI lo hi h v m) (hh:hi<=h.size) (x:∀ g,(g=d∨g=rn∨g=rs∨g=sr)->g < lo∨hi<=g) (F:JF d rn rs sr h h'):MemI lo hi h' v m :=
 M.keep fun g h1 h2=>F.block g (by omega) (fun q=>by have:=x g (.inl q); omega) (fun q=>by have:=x g (.inr (.inl q)); omega) (fun q=>by have:=x g (.inr (.inr (.inl q))); omega) (fun q=>by have:=x g (.inr (.inr (.inr q))); omega)
/-- the store's memory is set -/
theorem j2do_ok {b5:Nat} {k:Int->Heap->Prop} (J:JO B h d rn rs pr sr Y c slot i) (T:Blk h st (S_strong_Store.cs ⟨some ⟨sr,0,none⟩,v⟩) 110) (P5:Blk h b5 (S_api_Mem.cs v') 33) (M:MemI lo hi h v' m') (w:WfM m') (ck:chkM m'=0) (o:B<=lo/\hi<=h.size/\B<=st/\B<=h.size) (x:∀ g,(g=d∨g=rn∨g=rs∨g=sr∨g=st)->g < lo∨hi<=g)
  (H:∀ h',STo B h' d rn rs pr sr st Y c slot i v' m' lo hi->Ext B h h'->k 0 h'):strong_Store_Do_j2 (some ⟨st,0,none⟩) ⟨b5,0,none⟩ 0 k h:=by
 obtain ⟨f,e,n,p,S,q⟩:=J.S
 unfold strong_Store_Do_j2
 rw [if_pos (by simp)]
 refine ⟨v',CellsAt.of_blk P5,_,rfl,bsetp (vs:=S_api_Mem.cs v') T rfl (by show 1 + 79<=80; omega) fun h2 P2 U2=>?_⟩
 have z2:=U2.size
 have P2:Blk h2 st (S_strong_Store.cs ⟨some ⟨sr,0,none⟩,v'⟩) 110:=P2
 have Sd:st≠d:=Blk.unlike T J.D.P (by decide)
 have Ss:st≠sr:=Blk.unlike T S (by decide)
 have Sp:st≠pr:=Blk.unlike T J.P (by decide)
 have Sn:=blk_map T J.D.N
 have Sr:=blk_map T J.D.S
 unfold strong_Store_Do_j3
 exact H h2 ⟨{ J with D:=J.D.keep (U2.block d J.D.P.lt (Ne.symm Sd)) (U2.block rn J.D.N.lt (Ne.symm Sn)) (U2.block rs J.D.S.lt (Ne.symm Sr)),P:=Blk.old J.P (U2.block pr J.P.lt (Ne.symm Sp)),S:=⟨f,e,n,p,Blk.old S (U2.block sr S.lt (Ne.symm Ss)),q⟩ },P2,M.keep fun g h1 h2=>U2.block g (by omega) (fun q=>by have:=x g (by simp [q]); omega),w,ck,⟨o.1,by omega,o.2.2.1⟩,x⟩ (U2.ext o.2.2.1 o.2.2.2)
theorem StAt.inj {f f':Bool} {e n p e' n' p':Int} {pr':Nat} (a:StAt h sr d pr f e n p) (b:StAt h sr d pr' f' e' n' p'):f=f'/\e=e'/\n=n'/\p=p':=by
 have c2:cellH h ⟨sr,2,none⟩=_:=Blk.cell a
 have c3:cellH h ⟨sr,3,none⟩=_:=Blk.cell a
 have c4:cellH h ⟨sr,4,none⟩=_:=Blk.cell a
 have c5:cellH h ⟨sr,5,none⟩=_:=Blk.cell a
 rw [show cellH h ⟨sr,2,none⟩=_ from Blk.cell b] at c2
 rw [show cellH h ⟨sr,3,none⟩=_ from Blk.cell b] at c3
 rw [show cellH h ⟨sr,4,none⟩=_ from Blk.cell b] at c4
 rw [show cellH h ⟨sr,5,none⟩=_ from Blk.cell b] at c5
 have c2:some (Value.bool f')=some (.bool f):=c2
 have c3:some (Value.int .u64 e')=some (.int .u64 e):=c3
 have c4:some (Value.int .u64 n')=some (.int .u64 n):=c4
 have c5:some (Value.int .i64 p')=some (.int .i64 p):=c5
 simp at c2 c3 c4 c5
 exact ⟨c2.symm,c3.symm,c4.symm,c5.symm⟩
/-- a change that is made is stored -/
theorem j1do_ok {b1 b5:Nat} {cv:S_api_Change} {ch:ChgV} {k:Int->Heap->Prop} (T:STo B h d rn rs pr sr st X c slot i v m lo hi) (i1:i<=900) (r:R0 h) (oB:0 < B/\B<=h.size) (P1:Blk h b1 (S_api_Change.cs cv) 40) (P5:Blk h b5 (S_api_Mem.cs v') 33) (CA:ChgAt h cv ch) (wc:WfC ch)
  (M:MemI lo' hi' h v' m') (w:WfM m') (ck:chkM m'=0) (o:B<=lo'/\hi'<=h.size) (x:∀ g,(g=d∨g=rn∨g=rs∨g=sr∨g=st)->g < lo'∨hi'<=g)
  (H:∀ h' X' c' slot',STo B h' d rn rs pr sr st X' c' slot' (i + 1) v' m' lo' hi'->Ext B h h'->(∀ e n p,StAt h sr d pr true e n p->(chgC.put ch.tup).length<=4096->((chgC.put ch.tup).length:Int)<=(1024 - p) * 108->X'=(wrD p (recS e n (chgC.put ch.tup)) X (jprtD (chgC.put ch.tup).length).toNat).2/\slot'=slot)->k 0 h'):strong_Store_Do_j1 (some ⟨st,0,none⟩) ⟨b1,0,none⟩ ⟨b5,0,none⟩ 0 k h:=by
 have to:=T.o
 have cb:=chkM_bd ck
 have wB:=chg_B wc
 have wp:=chg_pos wc
 unfold strong_Store_Do_j1
 rw [if_neg (by simp)]
 refine ⟨cv,CellsAt.of_blk P1,PutC_ok CA wc fun s2 h2 R2 X2=>?_⟩
 have z2:=X2.size
 have T2:=T.ext X2
 have P52:=P5.ext X2 P5.lt
 have M2:MemI lo' hi' h2 v' m':=M.keep fun g _ hg=>X2.block g (by omega)
 obtain ⟨f,e,n,p,S2,hf⟩:=T2.J.S
 have hx:=fun g (q:g=d∨g=rn∨g=rs∨g=sr)=>x g (by rcases q with q | q | q | q <;> simp [q])
 refine ⟨_,rfl,_,T2.T.cl0 rfl,Room_ok S2 (fun e=>(hf e).2.2.2) ?_⟩
 have sl:s2.len=(chgC.put ch.tup).length:=Row.pb R2
 generalize hbs:chgC.put ch.tup=bs at *
 by_cases q:f=true/\(bs.length:Int)<=4096/\(bs.length:Int)<=(1024 - p) * 108
 ·obtain ⟨qf,q1,q2⟩:=q
  subst qf
  obtain ⟨e0,n0,n1,p0,p1⟩:=hf rfl
  have jb:p + jprtD bs.length<=1024:=by unfold jprtD; split <;> omega
  rw [if_pos (by
   rw [if_pos rfl,decide_eq_true_eq]
   by_cases c:(1024 - p) * 108 < 4096
   ·rw [if_pos c,if_pos c]; omega
   ·rw [if_neg c,if_neg (by omega)]; omega)]
  refine ⟨_,T2.T.cl0 rfl,AppG_ok (bs:=bs) T2.J i1 S2 e0 ⟨n0,n1⟩ ⟨p0,jb⟩ (fun h' F=>T2.J.row R2 (by omega) F) sl R2.cap (by omega) wB fun Y c' h3 J3 F3 eY _=>?_⟩
  have z3:=F3.size
  exact j2do_ok J3 (T2.J.other T2.T (by decide) F3) (T2.J.other P52 (by decide) F3) (M2.jf (by omega) hx F3) w ck ⟨o.1,by omega,to.2.2,by omega⟩ x fun h4 T4 X4=>H h4 Y c' slot T4 ((X2.mono oB.2).trans ((T2.J.jext (by omega) F3).trans X4)) fun e' n' p' S' _ _=>by
   obtain ⟨_,a1,a2,a3⟩:=StAt.inj S2 (Blk.ext S' X2 S'.lt)
   subst a1; subst a2; subst a3
   exact ⟨eY,rfl⟩
 ·rw [if_neg (by
   rw [decide_eq_true_eq]
   intro hle
   apply q
   cases f with
   | false =>
    simp only [Bool.false_eq_true,if_false] at hle
    rw [if_pos (by omega)] at hle; omega
   | true =>
    refine ⟨rfl,?_⟩
    rw [if_pos rfl] at hle
    by_cases c:(1024 - p) * 108 < 4096
    ·rw [if_pos c,if_pos c] at hle; omega
    ·rw [if_neg c,if_neg (by omega)] at hle; omega)]
  refine ⟨_,T2.T.cl0 rfl,v',CellsAt.of_blk P52,SPut_ok M2.now w fun s3 h3 R3 X3=>?_⟩
  have z3:=X3.size
  have T3:=T2.ext X3
  refine ⟨T3.T.cl0 rfl,SaveF_ok (bs:=memC.put m'.tup) T3.J i1 (r.ext (X2.trans (X3.mono z2)) r.pos) (fun h' F=>T3.J.row R3 (by omega) F) (Row.pb R3) R3.cap cb.2.2 (mem_B w) fun Y c' h4 t J4 F4 _ _ _ _ _ _=>?_⟩
  have z4:=F4.size
  exact j2do_ok J4 (T3.J.other T3.T (by decide) F4) (T3.J.other (P52.ext X3 P52.lt) (by decide) F4) ((M2.keep fun g _ hg=>X3.block g (by omega)).jf (by omega) hx F4) w ck ⟨o.1,by omega,to.2.2,by omega⟩ x fun h5 T5 X5=>H h5 Y c' t T5 ((X2.mono oB.2).trans ((X3.mono (by omega)).trans ((T3.J.jext (by omega) F4).trans X5))) fun e' n' p' S' l1 l2=>by
   obtain ⟨a0,a1,a2,a3⟩:=StAt.inj S2 (Blk.ext S' X2 S'.lt)
   subst a0; subst a1; subst a2; subst a3
   exact absurd ⟨rfl,by omega,l2⟩ q
end
end Go.Q.Yk
end

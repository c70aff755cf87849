/- A part of the proof of statements of this seat: lemmas, no statement of their own. -/
import Derived.Test.YtgbbpanapnkdbaaGreatYqZad
import Derived.Test.YtgbbpanapnkdbaaGreatYqZae
import Derived.Test.YtgbbpanapnkdbaaGreatYqZao
import Derived.Test.YtgbbpanapnkdbaaGreatYqZar
import Derived.Test.YtgbbpanapnkdbaaGreatYqZah
import Derived.Test.YtgbbpanapnkdbaaGreatYqZam
import Derived.Test.YtgbbpanapnkdbaaGreatYqZan
set_option linter.unusedVariables false
set_option linter.unusedSimpArgs false
section
set_option maxRecDepth 100000
set_option maxHeartbeats 1000000
namespace Go.Q.Yq
open Go.Proofs.Tryz
/-- quaestor quaestorlaw31.QuorumStays -/
def law31_QuorumStays_j3 (t0_3:Slc) (t3_3:Option Addr) (t4_3:Int) (t5_3:Addr) (t7_3:Int) (t6_3:Slc) (k:(Bool)->Heap->Prop) (nx1:(Int)->Heap->Prop) (nx2:(Slc × Int)->Heap->Prop) (h_3:Heap):Prop :=
  ∃ x13:Int,x13=(IntKind.u64.wrap (t7_3 + 1))/\(nx2 (t6_3,x13) h_3)
def law31_QuorumStays_j6 (t0_6:Slc) (t3_6:Option Addr) (t4_6:Int) (t6_6:Slc) (t10_6:Int) (t105_6:Bool) (k:(Bool)->Heap->Prop) (nx1:(Int)->Heap->Prop) (nx2:(Slc × Int)->Heap->Prop) (nx5:(Int)->Heap->Prop) (h_6:Heap):Prop :=
  if t105_6 then (k false h_6) else (∃ x31:Int,x31=(IntKind.i64.wrap (t10_6 + 1))/\(nx5 x31 h_6))
def law31_QuorumStays_l5b (t0_5:Slc) (t3_5:Option Addr) (t4_5:Int) (t6_5:Slc) (t10_5:Int) (k:(Bool)->Heap->Prop) (nx1:(Int)->Heap->Prop) (nx2:(Slc × Int)->Heap->Prop) (nx5:(Int)->Heap->Prop) (h_5:Heap):Prop :=
  if (decide (t10_5 < (t6_5.len:Int))) then (∃ a24:Addr,t6_5.a=some a24/\(0:Int)<=t10_5/\t10_5 < (t6_5.len:Int)/\(∃ v25:Int,cellH h_5 (a24.add (t10_5.toNat * 33))=some (.int .u64 v25)/\(quorum_Desk_Result t3_5 v25 (fun (r26:S_api_Op × Int) h27=>∃ (b28:Nat) (h29:Heap),b28=h27.size/\h29=h27.push (.cells (S_api_Op.cs (⟨0,0,ByteArray.empty,(⟨none,0,0⟩:Slc),(⟨ByteArray.empty,0,0,0,0⟩:S_api_Query),(⟨0,ByteArray.empty,0,([]:List Int),(⟨none,0,0⟩:Slc),0⟩:S_api_Command),0,(⟨none,0,0⟩:Slc),(⟨none,0,0⟩:Slc),0,false,0,(⟨none,0,0⟩:Slc)⟩:S_api_Op)).toArray 39)/\(∃ h30:Heap,WrsAt h29 (⟨b28,0,none⟩:Addr) 33/\h30=setsH h29 (⟨b28,0,none⟩:Addr) 0 (S_api_Op.cs r26.1)/\(if (r26.2 != 0) then (law31_QuorumStays_j6 t0_5 t3_5 t4_5 t6_5 t10_5 true k nx1 nx2 nx5 h30) else (∃ v32:S_api_Op,CellsAt h30 (⟨b28,0,none⟩:Addr) (S_api_Op.cs v32)/\(∃ a33:Addr,t6_5.a=some a33/\(0:Int)<=t10_5/\t10_5 < (t6_5.len:Int)/\(∃ v34:S_api_Op,CellsAt h30 (a33.add (t10_5.toNat * 33)) (S_api_Op.cs v34)/\(ref31_Same v32 v34 (fun (r35:Bool) h36=>law31_QuorumStays_j6 t0_5 t3_5 t4_5 t6_5 t10_5 (!r35) k nx1 nx2 nx5 h36) h30))))))) h_5))) else (∃ x37:Int,x37=(IntKind.i64.wrap (t4_5 + 1))/\(nx1 x37 h_5))
def law31_QuorumStays_l5 (t0_5:Slc) (t3_5:Option Addr) (t4_5:Int) (t6_5:Slc) (i10:Int) (k:(Bool)->Heap->Prop) (nx1:(Int)->Heap->Prop) (nx2:(Slc × Int)->Heap->Prop) (h:Heap):Prop :=
  ∃ (I:Int->Heap->Prop) (μ:Int->Heap->Nat),I i10 h/\∀ (t10_5:Int) (h:Heap),I t10_5 h->law31_QuorumStays_l5b t0_5 t3_5 t4_5 t6_5 t10_5 k nx1 nx2 (fun s h'=>I s h'/\μ s h' < μ t10_5 h) h
def law31_QuorumStays_j4 (t0_4:Slc) (t3_4:Option Addr) (t4_4:Int) (t6_4:Slc) (k:(Bool)->Heap->Prop) (nx1:(Int)->Heap->Prop) (nx2:(Slc × Int)->Heap->Prop) (h_4:Heap):Prop :=
  law31_QuorumStays_l5 t0_4 t3_4 t4_4 t6_4 0 k nx1 nx2 h_4
def law31_QuorumStays_j7 (t0_7:Slc) (t3_7:Option Addr) (t4_7:Int) (t5_7:Addr) (t6_7:Slc) (t49_7:Int) (t54_7:Bool) (k:(Bool)->Heap->Prop) (nx1:(Int)->Heap->Prop) (nx2:(Slc × Int)->Heap->Prop) (h_7:Heap):Prop :=
  if t54_7 then (∃ v41:Int,cellH h_7 (t5_7.add 34)=some (.int .u64 v41)/\(∃ v42:Int,cellH h_7 (t5_7.add 35)=some (.int .i64 v42)/\(∃ v43:Slc,cellH h_7 (t5_7.add 36)=some (Slc.v v43)/\(quorum_Desk_Yes t3_7 v41 v42 v43 (fun (r44:Bool) h45=>law31_QuorumStays_j4 t0_7 t3_7 t4_7 t6_7 k nx1 nx2 h45) h_7)))) else (if (t49_7 == 4) then (∃ v46:Int,cellH h_7 (t5_7.add 34)=some (.int .u64 v46)/\(∃ v47:Int,cellH h_7 (t5_7.add 35)=some (.int .i64 v47)/\(∃ v48:Int,cellH h_7 (t5_7.add 37)=some (.int .i64 v48)/\(quorum_Desk_No t3_7 v46 v47 v48 (fun (r49:Bool) h50=>law31_QuorumStays_j4 t0_7 t3_7 t4_7 t6_7 k nx1 nx2 h50) h_7)))) else (if (t49_7 == 5) then (quorum_Desk_Tick t3_7 (fun (r51:Unit) h52=>law31_QuorumStays_j4 t0_7 t3_7 t4_7 t6_7 k nx1 nx2 h52) h_7) else (∃ v53:S_api_Op,CellsAt h_7 (t5_7.add 1) (S_api_Op.cs v53)/\(quorum_Desk_Start t3_7 v53 (fun (r54:Int) h55=>law31_QuorumStays_j4 t0_7 t3_7 t4_7 t6_7 k nx1 nx2 h55) h_7))))
def law31_QuorumStays_l2b (t0_2:Slc) (t3_2:Option Addr) (t4_2:Int) (t5_2:Addr) (t6_2:Slc) (t7_2:Int) (k:(Bool)->Heap->Prop) (nx1:(Int)->Heap->Prop) (nx2:(Slc × Int)->Heap->Prop) (h_2:Heap):Prop :=
  if (decide (t7_2 < 6)) then (quorum_Desk_Result t3_2 t7_2 (fun (r14:S_api_Op × Int) h15=>∃ (b16:Nat) (h17:Heap),b16=h15.size/\h17=h15.push (.cells (S_api_Op.cs (⟨0,0,ByteArray.empty,(⟨none,0,0⟩:Slc),(⟨ByteArray.empty,0,0,0,0⟩:S_api_Query),(⟨0,ByteArray.empty,0,([]:List Int),(⟨none,0,0⟩:Slc),0⟩:S_api_Command),0,(⟨none,0,0⟩:Slc),(⟨none,0,0⟩:Slc),0,false,0,(⟨none,0,0⟩:Slc)⟩:S_api_Op)).toArray 39)/\(∃ h18:Heap,WrsAt h17 (⟨b16,0,none⟩:Addr) 33/\h18=setsH h17 (⟨b16,0,none⟩:Addr) 0 (S_api_Op.cs r14.1)/\(if (r14.2 == 0) then (∃ v19:S_api_Op,CellsAt h18 (⟨b16,0,none⟩:Addr) (S_api_Op.cs v19)/\(∃ (b20:Nat) (h21:Heap),b20=h18.size/\h21=h18.push (.cells ((S_api_Op.cs v19)).toArray 39)/\(App 39 33 280 [.int .u64 0,.int .i64 0,.string ByteArray.empty,.slice none 0 0,.string ByteArray.empty,.int .i64 0,.int .i64 0,.int .i64 0,.int .i64 0,.int .i64 0,.string ByteArray.empty,.int .u32 0,.int .u8 0,.int .u8 0,.int .u8 0,.int .u8 0,.int .u8 0,.int .u8 0,.int .u8 0,.int .u8 0,.int .u8 0,.int .u8 0,.int .u8 0,.int .u8 0,.slice none 0 0,.int .i64 0,.int .i64 0,.slice none 0 0,.slice none 0 0,.int .i64 0,.bool false,.int .i64 0,.slice none 0 0] h21 t6_2 1 ((S_api_Op.cs v19)) (fun s22 h23=>law31_QuorumStays_j3 t0_2 t3_2 t4_2 t5_2 t7_2 s22 k nx1 nx2 h23)))) else (law31_QuorumStays_j3 t0_2 t3_2 t4_2 t5_2 t7_2 t6_2 k nx1 nx2 h18)))) h_2) else (∃ v38:Int,cellH h_2 t5_2=some (.int .i64 v38)/\(ref01_Pick v38 6 (fun (r39:Int) h40=>if (r39 == 2) then (law31_QuorumStays_j7 t0_2 t3_2 t4_2 t5_2 t6_2 r39 (r39 == 2) k nx1 nx2 h40) else (law31_QuorumStays_j7 t0_2 t3_2 t4_2 t5_2 t6_2 r39 (r39 == 3) k nx1 nx2 h40)) h_2))
def law31_QuorumStays_l2 (t0_2:Slc) (t3_2:Option Addr) (t4_2:Int) (t5_2:Addr) (i6:Slc) (i7:Int) (k:(Bool)->Heap->Prop) (nx1:(Int)->Heap->Prop) (h:Heap):Prop :=
  ∃ (I:(Slc × Int)->Heap->Prop) (μ:(Slc × Int)->Heap->Nat),I (i6,i7) h/\∀ (t6_2:Slc) (t7_2:Int) (h:Heap),I (t6_2,t7_2) h->law31_QuorumStays_l2b t0_2 t3_2 t4_2 t5_2 t6_2 t7_2 k nx1 (fun s h'=>I s h'/\μ s h' < μ (t6_2,t7_2) h) h
def law31_QuorumStays_l1b (t0_1:Slc) (t3_1:Option Addr) (t4_1:Int) (k:(Bool)->Heap->Prop) (nx1:(Int)->Heap->Prop) (h_1:Heap):Prop :=
  if ((decide (t4_1 < (t0_1.len:Int))) && (decide (t4_1 < 30))) then (∃ a3:Addr,t0_1.a=some a3/\(0:Int)<=t4_1/\t4_1 < (t0_1.len:Int)/\(∃ v4:S_quaestorlaw31_Act,CellsAt h_1 (a3.add (t4_1.toNat * 38)) (S_quaestorlaw31_Act.cs v4)/\(∃ (b5:Nat) (h6:Heap),b5=h_1.size/\h6=h_1.push (.cells (S_quaestorlaw31_Act.cs (⟨0,(⟨0,0,ByteArray.empty,(⟨none,0,0⟩:Slc),(⟨ByteArray.empty,0,0,0,0⟩:S_api_Query),(⟨0,ByteArray.empty,0,([]:List Int),(⟨none,0,0⟩:Slc),0⟩:S_api_Command),0,(⟨none,0,0⟩:Slc),(⟨none,0,0⟩:Slc),0,false,0,(⟨none,0,0⟩:Slc)⟩:S_api_Op),0,0,(⟨none,0,0⟩:Slc),0⟩:S_quaestorlaw31_Act)).toArray 41)/\(∃ h7:Heap,WrsAt h6 (⟨b5,0,none⟩:Addr) 38/\h7=setsH h6 (⟨b5,0,none⟩:Addr) 0 (S_quaestorlaw31_Act.cs v4)/\(∃ v8:S_quaestorlaw31_Act,CellsAt h7 (⟨b5,0,none⟩:Addr) (S_quaestorlaw31_Act.cs v8)/\(law31_great v8 (fun (r9:Bool) h10=>if r9 then (law31_awake  (fun (r11:Bool) h12=>k r11 h12) h10) else (law31_QuorumStays_l2 t0_1 t3_1 t4_1 (⟨b5,0,none⟩:Addr) (⟨none,0,0⟩:Slc) 0 k nx1 h10)) h7)))))) else (law31_awake  (fun (r56:Bool) h57=>k r56 h57) h_1)
def law31_QuorumStays_l1 (t0_1:Slc) (t3_1:Option Addr) (i4:Int) (k:(Bool)->Heap->Prop) (h:Heap):Prop :=
  ∃ (I:Int->Heap->Prop) (μ:Int->Heap->Nat),I i4 h/\∀ (t4_1:Int) (h:Heap),I t4_1 h->law31_QuorumStays_l1b t0_1 t3_1 t4_1 k (fun s h'=>I s h'/\μ s h' < μ t4_1 h) h
def law31_QuorumStays (p0:Slc) (k:(Bool)->Heap->Prop) (h:Heap):Prop :=
  quorum_New  (fun (r1:Option Addr) h2=>law31_QuorumStays_l1 p0 r1 0 k h2) h
theorem law31_QuorumStays_ref (p0 k h) (H:law31_QuorumStays p0 k h):CallsH prog 3 #[Slc.v p0] h (fun v h'=>∃ r:Bool,v = .bool r/\k r h'):=by
 refine fE func3 fun w0=>?_
 refine zF [0] (zQ ?_)
 refine w1 tok (zE (zQ ?_))
 refine wC O5 (R5  _ _ H) fun r1 h2 H=>?_
 refine w1 tok (zE (zS (zQ ?_)))
 refine w1 tok (zE (zB ?_))
 obtain ⟨I1,μ1,H0,HI⟩:=H
 refine zO (σ:=Int) [0,3] (fun (s:Int)=>[(4,.int .i64 s)]) I1 μ1 0 H0 ?_
 rintro t4_1 h_1 H
 replace H:=HI t4_1 h_1 H
 refine zF [4,0,3] (zS (zQ ?_))
 refine w5 tok ?_
 refine vU 3 [0,3,4] [(21,.bool ((decide (t4_1 < (p0.len:Int))) && (decide (t4_1 < 30))))] ?_ ?_
 refine zE ?_
 refine zI H ?_ ?_ <;> intro H
 refine zK (zX (zS (zB (zQ (w2 tok ?_)))))
 refine wD tok H fun a3 _ H=>?_
 refine wLa tok H fun v4 H=>?_
 refine wB tok H fun b5 h6 H=>?_
 refine wTa tok H fun h7 H=>?_
 refine zE (zS (zQ ?_))
 refine wLa tok H fun v8 H=>?_
 refine wC law31_great_ok (law31_great_ref _ _ _ H) fun r9 h10 H=>?_
 refine zE ?_
 refine zI H ?_ ?_ <;> intro H
 refine zQ ?_
 refine wC law31_awake_ok (law31_awake_ref  _ _ H) fun r11 h12 H=>?_
 refine w1 tok (zE (zF [2] (zT (yT (yB (yT (yT (yB (yT ?_)))))))))
 exact x_ret _ rfl _ rfl ⟨r11,rfl,H⟩
 refine zK (zX (zF [0,3,4,5] (zQ ?_)))
 refine w1 tok (zE (zS (zQ ?_)))
 refine w1 tok (zE (zB ?_))
 obtain ⟨I2,μ2,H0,HI⟩:=H
 refine zO (σ:=Slc × Int) [0,3,4,5] (fun (s:Slc × Int)=>[(6,Slc.v s.1),(7,.int .u64 s.2)]) I2 μ2 ((⟨none,0,0⟩:Slc),0) H0 ?_
 rintro ⟨t6_2,t7_2⟩ h_2 H
 replace H:=HI t6_2 t7_2 h_2 H
 refine zF [6,7,0,3,4,5] (zS (zQ ?_))
 refine w2 tok (zE ?_)
 refine zI H ?_ ?_ <;> intro H
 refine zK (zX ?_)
 refine zJ (α:=Slc) [0,3,4,5,7] (fun (s:Slc)=>[(6,Slc.v s)]) (fun (s:Slc) h=>law31_QuorumStays_j3 p0 r1 t4_1 (ad b5) t7_2 s k (fun s h'=>I1 s h'/\μ1 s h' < μ1 t4_1 h_1) (fun s h'=>I2 s h'/\μ2 s h' < μ2 (t6_2,t7_2) h_2) h) ?_ ?_
 rintro t6_3 h_3 H
 refine zF [6,0,3,4,5,7] (zR ?_)
 refine w2 tok ?_
 obtain ⟨x13,ex13,H⟩:=H
 refine w_pe tok rfl (congrArg (fun z=>(.int .u64 z:Value)) ex13) rfl rfl ?_
 refine zW ?_
 exact xJ (t6_3,x13) H
 refine zB (zQ (w2 tok ?_))
 refine wC O8 (R8 _ _ _ _ H) fun r14 h15 H=>?_
 refine w3 tok ?_
 refine wB tok H fun b16 h17 H=>?_
 refine wTa tok H fun h18 H=>?_
 refine w1 tok (zE (zF [6,7,0,3,4,5,8,9] (zQ ?_)))
 refine w2 tok (zE ?_)
 refine zI H ?_ ?_ <;> intro H
 refine zR (w1 tok ?_)
 refine wLa tok H fun v19 H=>?_
 obtain ⟨b20,h21,eb20,eh21,H⟩:=H
 refine wH (h_bs tok rfl rfl rfl rfl rfl rfl rfl eb20 eh21) ?_
 refine wA (a_app (s:=t6_2) (r:=(⟨some ⟨b20,0,none⟩,1,1⟩:Slc)) tok rfl rfl rfl rfl rfl (slcAt_push eb20 eh21) H) ?_
 rintro _ h23 ⟨s22,rfl,H⟩
 refine w1 tok (zL ?_)
 exact xJ s22 H
 refine zK (yL ?_)
 exact xJ t6_2 H
 refine zY (yE (yE (yH (zX ?_))))
 refine zJ (α:=Unit) [0,3,4,6] (fun (s:Unit)=>[]) (fun (s:Unit) h=>law31_QuorumStays_j4 p0 r1 t4_1 t6_2 k (fun s h'=>I1 s h'/\μ1 s h' < μ1 t4_1 h_1) (fun s h'=>I2 s h'/\μ2 s h' < μ2 (t6_2,t7_2) h_2) h) ?_ ?_
 rintro _ h_4 H
 refine zF [0,3,4,6] (zQ ?_)
 refine w1 tok (zE (zB ?_))
 obtain ⟨I5,μ5,H0,HI⟩:=H
 refine zO (σ:=Int) [0,3,4,6] (fun (s:Int)=>[(10,.int .i64 s)]) I5 μ5 0 H0 ?_
 rintro t10_5 h_5 H
 replace H:=HI t10_5 h_5 H
 refine zF [10,0,3,4,6] (zS (zQ ?_))
 refine w4 tok (zE ?_)
 refine zI H ?_ ?_ <;> intro H
 refine zK (zX (zS (zB (zQ (w3 tok ?_)))))
 refine wD tok H fun a24 _ H=>?_
 refine w1 tok ?_
 refine wL tok H fun v25 H=>?_
 refine wC O8 (R8 _ _ _ _ H) fun r26 h27 H=>?_
 refine w3 tok ?_
 refine wB tok H fun b28 h29 H=>?_
 refine wTa tok H fun h30 H=>?_
 refine w1 tok (zE (zF [10,0,3,4,6,11,12] ?_))
 refine zJ (α:=Bool) [0,3,4,6,10] (fun (s:Bool)=>[(105,.bool s)]) (fun (s:Bool) h=>law31_QuorumStays_j6 p0 r1 t4_1 t6_2 t10_5 s k (fun s h'=>I1 s h'/\μ1 s h' < μ1 t4_1 h_1) (fun s h'=>I2 s h'/\μ2 s h' < μ2 (t6_2,t7_2) h_2) (fun s h'=>I5 s h'/\μ5 s h' < μ5 t10_5 h_5) h) ?_ ?_
 rintro t105_6 h_6 H
 refine zF [105,0,3,4,6,10] ?_
 refine zI H ?_ ?_ <;> intro H
 refine zQ (w1 tok (zE (zT (yB (yT (yT (yB (yB (yT (yT (yB (yT ?_))))))))))))
 exact x_ret _ rfl _ rfl ⟨false,rfl,H⟩
 refine zK (yL (zX (zR (w2 tok ?_))))
 obtain ⟨x31,ex31,H⟩:=H
 refine w_pe tok rfl (congrArg (fun z=>(.int .i64 z:Value)) ex31) rfl rfl ?_
 refine zW ?_
 exact xJ x31 H
 refine gB [0,3,4,6,10,11,12] ?_
 refine gT 0 [12] tok ?_
 refine gT 1 [95] tok ?_
 refine gT 2 [96] tok ?_
 refine gI 97 H (fun hb H=>?_) (fun hb H=>?_)
 refine gS 3 [11,97] ?_
 refine gS 4 [6,97] ?_
 refine gS 5 [10,97] ?_
 refine gS 6 [97,99,100] ?_
 refine gS 7 [97,101] ?_
 refine gS 8 [97,98,102] ?_
 refine gS 9 [97,103] ?_
 refine gT 10 [97,104] tok ?_
 refine gZ ?_
 exact xJ true H
 obtain ⟨v32,hv32,H⟩:=H
 refine gL 3 [11,97] rfl (y_lda tok rfl rfl rfl rfl rfl hv32) ?_
 refine gT 4 [6,97] tok ?_
 refine gT 5 [10,97] tok ?_
 obtain ⟨a33,ha33,la33,ua33,H⟩:=H
 refine gY 6 [97,99,100] rfl (fun _=>y_ixa' tok rfl rfl ha33 rfl rfl rfl la33 ua33) ?_
 obtain ⟨v34,hv34,H⟩:=H
 refine gL 7 [97,101] rfl (y_lda tok rfl rfl rfl rfl rfl hv34) ?_
 refine gC 8 [97,98,102] O14 (R14 _ _ _ _ H) fun r35 h36 H=>?_
 refine gT 9 [97,103] tok ?_
 refine gT 10 [97,104] tok ?_
 refine gZ ?_
 exact xJ (!r35) H
 refine zY (yE (yE (yH (yL (zX (zR (w2 tok ?_)))))))
 obtain ⟨x37,ex37,H⟩:=H
 refine w_pe tok rfl (congrArg (fun z=>(.int .i64 z:Value)) ex37) rfl rfl ?_
 refine zW ?_
 exact xJ x37 H
 refine zQ (w1 tok ?_)
 refine wL tok H fun v38 H=>?_
 refine wC O9 (R9 _ _ _ _ H) fun r39 h40 H=>?_
 refine zE (zB ?_)
 refine zJ (α:=Bool) [0,3,4,5,6,49] (fun (s:Bool)=>[(54,.bool s)]) (fun (s:Bool) h=>law31_QuorumStays_j7 p0 r1 t4_1 (ad b5) t6_2 r39 s k (fun s h'=>I1 s h'/\μ1 s h' < μ1 t4_1 h_1) (fun s h'=>I2 s h'/\μ2 s h' < μ2 (t6_2,t7_2) h_2) h) ?_ ?_
 rintro t54_7 h_7 H
 refine zF [54,0,3,4,5,6,49] ?_
 refine zI H ?_ ?_ <;> intro H
 refine zR (w2 tok ?_)
 refine wL tok H fun v41 H=>?_
 refine w1 tok ?_
 refine wL tok H fun v42 H=>?_
 refine w1 tok ?_
 refine wL tok H fun v43 H=>?_
 refine wC O10 (R10 _ _ _ _ _ _ H) fun r44 h45 H=>?_
 refine zL ?_
 exact xJ () H
 refine zQ (w2 tok (zE ?_))
 refine zI H ?_ ?_ <;> intro H
 refine zR (w2 tok ?_)
 refine wL tok H fun v46 H=>?_
 refine w1 tok ?_
 refine wL tok H fun v47 H=>?_
 refine w1 tok ?_
 refine wL tok H fun v48 H=>?_
 refine wC O11 (R11 _ _ _ _ _ _ H) fun r49 h50 H=>?_
 refine zL ?_
 exact xJ () H
 refine zQ (w2 tok (zE ?_))
 refine zI H ?_ ?_ <;> intro H
 refine zR (w1 tok ?_)
 refine wC O12 (R12 _ _ _ H) fun r51 h52 H=>?_
 refine zL ?_
 exact xJ () H
 refine zR (w2 tok ?_)
 refine wLa tok H fun v53 H=>?_
 refine wC O13 (R13 _ _ _ _ H) fun r54 h55 H=>?_
 refine zL ?_
 exact xJ () H
 refine zQ (w2 tok (zE ?_))
 refine zI H ?_ ?_ <;> intro H
 refine zK ?_
 exact xJ (r39 == 2) H
 refine zR (w2 tok (zW ?_))
 exact xJ (r39 == 3) H
 refine zY (yE (yE (yH (zX (zQ ?_)))))
 refine wC law31_awake_ok (law31_awake_ref  _ _ H) fun r56 h57 H=>?_
 refine w1 tok (zE (zT ?_))
 exact x_ret _ rfl _ rfl ⟨r56,rfl,H⟩
 refine vG (d:=18) (fun hb=>?_) (fun hb=>?_)
 refine w3 tok ?_
 refine vK ?_
 exact congrArg (fun b=>some (Value.bool b)) (and_t hb)
 refine wS (wS (w1 tok ?_))
 refine vK ?_
 exact congrArg (fun b=>some (Value.bool b)) (and_f hb)
end Go.Q.Yq
end
section
/- Blocks laid and filled at once; items of slices of structs. -/
namespace Go.Q
/-- a block that is laid with these cells -/
theorem bx0 {cs:List Value} {E:Nat} {h:Heap} {K:Nat->Heap->Prop} (H:∀ h',Blk h' h.size cs E->Ext h.size h h'->K h.size h') :
  ∃ (b:Nat) (h2:Heap),b=h.size/\h2=h.push (.cells cs.toArray E)/\K b h2 :=
 ⟨_,_,rfl,rfl,H _ (Blk.push h cs E) (Ext.push h _ (Nat.le_refl _))⟩
/-- a block that is laid and filled -/
theorem bx {cs z:List Value} {E n:Nat} {h:Heap} {K:Nat->Heap->Prop} (hl:cs.length=z.length) (hn:n<=z.length) (H:∀ h',Blk h' h.size cs E->Ext h.size h h'->K h.size h') :
  ∃ (b:Nat) (h2:Heap),b=h.size/\h2=h.push (.cells z.toArray E)/\(∃ h3:Heap,WrsAt h2 (⟨b,0,none⟩:Addr) n/\h3=setsH h2 (⟨b,0,none⟩:Addr) 0 cs/\K b h3) :=
 have P:=Blk.push h z E
 ⟨_,_,rfl,rfl,_,WrsAt.of_blk P hn,rfl,H _ (P.sets_all hl) ((Ext.push h _ (Nat.le_refl _)).trans (Ext.sets _ 0 cs (by show h.size<=h.size; exact Nat.le_refl _)))⟩
/-- a block that is filled anew -/
theorem bset {cs z:List Value} {E n b:Nat} {h:Heap} {K:Heap->Prop} (P:Blk h b z E) (hl:cs.length=z.length) (hn:n<=z.length) (H:∀ h',Blk h' b cs E->Upd b h h'->K h') :
  ∃ h3:Heap,WrsAt h (⟨b,0,none⟩:Addr) n/\h3=setsH h (⟨b,0,none⟩:Addr) 0 cs/\K h3 :=
 ⟨_,WrsAt.of_blk P hn,rfl,H _ (P.sets_all hl) ⟨by rw [setsH_size]; exact Nat.le_refl _,fun i _ hi=>setsH_other _ _ hi⟩⟩
/-- a cell of a block's -/
theorem Blk.cl {h:Heap} {b E i:Nat} {cs:List Value} {v:Value} (k:Blk h b cs E) (hv:cs[i]? = some v):cellH h ((⟨b,0,none⟩:Addr).add i)=some v:=by rw [add_mk,Nat.zero_add,k.cell]; exact hv
theorem Blk.cl0 {h:Heap} {b E:Nat} {cs:List Value} {v:Value} (k:Blk h b cs E) (hv:cs[0]? = some v):cellH h (⟨b,0,none⟩:Addr)=some v:=by rw [k.cell]; exact hv
/-- cells within a block -/
theorem Blk.cls {h:Heap} {b E i:Nat} {cs ys:List Value} (k:Blk h b cs E) (hd:(cs.drop i).take ys.length=ys):CellsAt h ((⟨b,0,none⟩:Addr).add i) ys:=by
 rw [add_mk,Nat.zero_add]; exact k.part hd
theorem cls0 {h:Heap} {a:Addr} {vs:List Value} (c:CellsAt h a vs) {v:Value} (hv:vs[0]? = some v):cellH h a=some v:=by have:=c 0 v hv; rwa [show a.add 0=a from by simp [Addr.add]] at this
section
variable {α:Type} {cs:α->List Value} {w:Nat} {h:Heap} {s:Slc} {xs:List α}
/-- an item of a slice -/
theorem LsAt.it (L:LsAt cs w h s xs) {i:Int} (h0:0<=i) (h1:i < (xs.length:Int)):∃ (a:Addr) (x:α),s.a=some a/\(0:Int)<=i/\i < (s.len:Int)/\xs[i.toNat]? = some x/\CellsAt h (a.add (i.toNat * w)) (cs x):=by
 obtain ⟨x,hx⟩:∃ x,xs[i.toNat]? = some x:=⟨_,List.getElem?_eq_getElem (by omega)⟩
 obtain ⟨a,ha,hc⟩:=L.at' _ _ hx
 exact ⟨a,x,ha,h0,by rw [L.l]; exact h1,hx,hc⟩
end
/-- a part of a block is filled anew -/
theorem bsetp {vs z:List Value} {E n o b:Nat} {h:Heap} {K:Heap->Prop} (P:Blk h b z E) (hn:n=vs.length) (ho:o + vs.length<=z.length) (H:∀ h',Blk h' b (z.take o ++ vs ++ z.drop (o + vs.length)) E->Upd b h h'->K h') :
  ∃ h3:Heap,WrsAt h ((⟨b,0,none⟩:Addr).add o) n/\h3=setsH h ((⟨b,0,none⟩:Addr).add o) 0 vs/\K h3:=by
 rw [add_mk,Nat.zero_add]
 exact ⟨_,fun j hj=>by rw [add_mk]; exact P.wr (by omega),rfl,H _ (P.sets vs o 0 (by omega)) ⟨by rw [setsH_size]; exact Nat.le_refl _,fun i _ hi=>setsH_other _ _ hi⟩⟩
/-- one cell of a block is written -/
theorem bset1 {v:Value} {z:List Value} {E i b:Nat} {h:Heap} {K:Heap->Prop} (P:Blk h b z E) (hi:i < z.length) (H:∀ h',Blk h' b (z.set i v) E->Upd b h h'->K h') :
  ∃ h3:Heap,WrH h ((⟨b,0,none⟩:Addr).add i)/\h3=setH h ((⟨b,0,none⟩:Addr).add i) v/\K h3:=by
 rw [add_mk,Nat.zero_add]
 exact ⟨_,P.wr hi,rfl,H _ P.set ⟨by rw [setH_size]; exact Nat.le_refl _,fun i _ hi=>setH_other hi⟩⟩
/-- a part of a slice of structs -/
theorem LsAt.sub {α:Type} {cs:α->List Value} {w:Nat} {h:Heap} {s:Slc} {xs:List α} (L:LsAt cs w h s xs) {a b m:Nat} (h1:a<=b) (h2:b<=s.len) (h3:b<=m):LsAt cs w h (subS s w a b m) ((xs.take b).drop a):=by
 have hl:=L.l
 refine ⟨by simp only [subS,List.length_drop,List.length_take]; omega,fun i x hx=>?_⟩
 rw [List.getElem?_drop,List.getElem?_take] at hx
 split at hx
 ·obtain ⟨a',ha,hc⟩:=L.at' _ _ hx
  refine ⟨a'.add (a * w),?_,?_⟩
  ·simp only [subS]
   rw [if_neg (by omega),ha]; rfl
  ·rw [show (a'.add (a * w)).add (i * w)=a'.add ((a + i) * w) from by rw [Rw.add_add2,Nat.add_mul]]; exact hc
 ·cases hx
/-- a part of a row of one's own is written -/
theorem row_setp {B E w o:Nat} {h:Heap} {s:Slc} {xs vs:List Value} (R:Row B h E w s xs) (ho:o + vs.length<=s.len * w) (hv:0 < vs.length) {a:Addr} (ha:s.a=some a) :
  WrsAt h (a.add o) vs.length/\Row B (setsH h (a.add o) 0 vs) E w s (xs.take o ++ vs ++ xs.drop (o + vs.length))/\B<=a.block:=by
 rcases R.2.2 with ⟨k,_⟩ | ⟨g,cur,a1,a2,a3,a4,a5,a6⟩
 ·rw [k] at ha; cases ha
 ·rw [ha] at a1; cases a1
  have hcap:s.len * w<=s.cap * w:=Nat.mul_le_mul_right _ a4
  have hx:=R.1
  rw [add_mk,Nat.zero_add]
  refine ⟨fun j hj=>by rw [add_mk]; exact a3.wr (by omega),⟨by simp only [List.length_append,List.length_take,List.length_drop]; omega,R.2.1,.inr ⟨g,_,ha,a2,a3.sets vs o 0 (by omega),a4,?_,?_⟩⟩,a2⟩
  ·simp only [List.length_append,List.length_take,List.length_drop]; omega
  ·rw [Rw.tk_sets cur vs (o + 0) (s.len * w) (by omega) (by omega),a6,Nat.add_zero]
/-- an append to a row of one's own: all that was, stays -/
theorem app1 {B E w bytes:Nat} {z:List Value} {h:Heap} {s:Slc} {m:Nat} {news xs:List Value} {k:Slc->Heap->Prop} (r:Row B h E w s xs) (hB:B<=h.size) (hz:z.length=w) (hl:news.length=m * w) (h1:∀ v∈news,v.oneCell'=true)
  (hb:(s.len + m) * bytes<=140737488355328) (hm:s.len + m<=maxLen)
  (H:∀ s' h',Row B h' E w s' (xs ++ news)->s'.len=s.len + m->Ext B h h'->k s' h'):App E w bytes z h s m news k :=
 App.row r hB hz hl h1 hb hm fun s' h' a b c d e=>H s' h' a b ⟨c,fun i hi=>d i (Nat.lt_of_lt_of_le hi hB) fun e=>Nat.lt_irrefl _ (Nat.lt_of_lt_of_le hi (r.bd e).1)⟩
/-- the cells of a slice of structs -/
theorem LsAt.slcs {α:Type} {cs:α->List Value} {w:Nat} (hc:∀ x,(cs x).length=w) (hw:0 < w) {h:Heap} {s:Slc} {xs:List α} (L:LsAt cs w h s xs):SlcAt h s (xs.flatMap cs):=by
 refine ⟨fun hn=>?_,fun a ha j v hj=>?_⟩
 ·cases xs with
  | nil=>rfl
  | cons x r=>obtain ⟨a,ha,_⟩:=L.at' 0 x rfl; rw [hn] at ha; cases ha
 ·have hl:j < (xs.flatMap cs).length:=(List.getElem?_eq_some_iff.1 hj).1
  rw [Rw.fm_len hc] at hl
  have h1:j / w < xs.length:=(Nat.div_lt_iff_lt_mul hw).2 hl
  have dm:j / w * w + j % w=j:=by rw [Nat.mul_comm]; exact Nat.div_add_mod j w
  have e:=Rw.fm_get hc xs (j / w) (j % w) (Nat.mod_lt _ hw)
  rw [dm,hj] at e
  obtain ⟨x,hx⟩:∃ x,xs[j / w]? = some x:=⟨_,List.getElem?_eq_getElem h1⟩
  rw [hx] at e
  obtain ⟨a',ha',hc2⟩:=L.at' _ _ hx
  rw [ha] at ha'; cases ha'
  have:=hc2 (j % w) v e.symm
  rwa [Rw.add_add2,dm] at this
end Go.Q
end
section
/- What slices.Clone does. -/
namespace Go.Q
theorem cloned {E w bytes:Nat} {z:List Value} {p0:Slc} {vs:List Value} {k:Slc->Heap->Prop} {h:Heap} (hz:z.length=w) (w0:0 < w) (hs:SlcAt h p0 vs) (hl:vs.length=p0.len * w) (one:∀ v∈vs,v.oneCell'=true) (hb:p0.len * bytes<=140737488355328) (hm:p0.len<=maxLen)
  (H:∀ s h',Row h.size h' E w s vs->s.len=p0.len->Ext h.size h h'->k s h') :
  if p0.a.isNone then k (⟨none,0,0⟩:Slc) h else (∃ (b1:Nat) (h2:Heap),b1=h.size/\h2=h.push (.cells ([]).toArray E)/\(∃ l5:List Value,SlcAt h2 p0 l5/\App E w bytes z h2 (⟨some ⟨b1,0,none⟩,0,0⟩:Slc) p0.len l5 (fun s3 h4=>k s3 h4))):=by
 cases ha:p0.a with
 | none =>
  rw [if_pos (by simp)]
  have hn:=hs.1 ha
  subst hn
  have:p0.len=0:=by
   rcases Nat.eq_zero_or_pos p0.len with h | h
   ·exact h
   ·have:=Nat.mul_pos h w0; simp at hl; omega
  exact H _ _ (Row.nil _ _ _ _) this.symm (Ext.refl _ _)
 | some a =>
  rw [if_neg (by simp)]
  have hp:∀ o:Obj,Ext h.size h (h.push o):=fun o=>Ext.push h o (Nat.le_refl _)
  refine ⟨_,_,rfl,rfl,vs,hs.ext (hp _),?_⟩
  have R:Row h.size (h.push (.cells ([]:List Value).toArray E)) E w ⟨some ⟨h.size,0,none⟩,0,0⟩ [] :=
   ⟨by simp,by simp [maxLen],.inr ⟨h.size,[],rfl,Nat.le_refl _,Blk.push _ _ _,Nat.le_refl _,by simp,by simp⟩⟩
  refine App.row R (by simp) hz (by rw [hl]) one (by simp only [Nat.zero_add]; omega) (by simp only [Nat.zero_add]; omega) fun s' h' R' sl hsz' ho _=>?_
  refine H s' h' (by simpa using R') (by simpa using sl) ⟨by simp at hsz'; omega,fun i hi=>?_⟩
  rw [ho i (by simp; omega) (by simp [Slc.blk]; omega),(hp _).block i hi]
end Go.Q
end
section
/- What is one's own, and what stays. -/
namespace Go.Q
abbrev BSet:=Nat->Prop
/-- but for the blocks of O all is as it was -/
structure Stp (O:BSet) (h h':Heap):Prop where
 size:h.size<=h'.size
 block:∀ g,g < h.size->¬ O g->h'[g]? = h[g]?
theorem Stp.refl (O:BSet) (h:Heap):Stp O h h:=⟨Nat.le_refl _,fun _ _ _=>rfl⟩
theorem Stp.trans {O O':BSet} {a b c:Heap} (p:Stp O a b) (q:Stp O' b c) (hO:∀ g,O' g->O g∨a.size<=g):Stp O a c :=
 ⟨Nat.le_trans p.size q.size,fun g hg hn=>(q.block g (Nat.lt_of_lt_of_le hg p.size) fun h'=>(hO g h').elim hn fun h2=>by omega).trans (p.block g hg hn)⟩
theorem Stp.trans' {O:BSet} {a b c:Heap} (p:Stp O a b) (q:Stp O b c):Stp O a c:=p.trans q fun _ h=>.inl h
theorem Stp.mono {O O':BSet} {h h':Heap} (p:Stp O h h') (hO:∀ g,O g->O' g∨h.size<=g):Stp O' h h' :=
 ⟨p.size,fun g hg hn=>p.block g hg fun h'=>(hO g h').elim hn fun h2=>by omega⟩
theorem Stp.of_ext {O:BSet} {h h':Heap} (X:Ext h.size h h'):Stp O h h':=⟨X.size,fun g hg _=>X.block g hg⟩
theorem Stp.of_upd {O:BSet} {b:Nat} {h h':Heap} (U:Upd b h h') (hb:O b∨h.size<=b):Stp O h h':=⟨U.size,fun g hg hn=>U.block g hg fun e=>by subst e; exact hb.elim hn fun h2=>by omega⟩
theorem Stp.ext {O:BSet} {B:Nat} {h h':Heap} (p:Stp O h h') (hO:∀ g,O g->B<=g) (hB:B<=h.size):Ext B h h':=⟨p.size,fun g hg=>p.block g (by omega) fun h'=>by have:=hO g h'; omega⟩
theorem Stp.row {O:BSet} {B E w:Nat} {s:Slc} {xs:List Value} {h h':Heap} (p:Stp O h h') (R:Row B h E w s xs) (hb:∀ g,s.blk=some g->¬ O g):Row B h' E w s xs:=R.keep fun g hg=>p.block g (R.bd hg).2 (hb g hg)
/-- what holds whatever is done to the blocks of O, and beyond -/
def Imm (O:BSet) (h:Heap) (p:Heap->Prop):Prop:=∀ h',Stp O h h'->p h'
theorem Imm.now {O:BSet} {h:Heap} {p:Heap->Prop} (I:Imm O h p):p h:=I h (Stp.refl _ _)
theorem Imm.imp {O:BSet} {h:Heap} {p q:Heap->Prop} (I:Imm O h p) (k:∀ h',p h'->q h'):Imm O h q:=fun h' s=>k h' (I h' s)
theorem Imm.step {O O':BSet} {h h':Heap} {p:Heap->Prop} (I:Imm O h p) (s:Stp O h h') (hO:∀ g,O' g->O g∨h.size<=g):Imm O' h' p :=
 fun h2 s2=>I h2 (s.trans s2 hO)
/-- what stood when the heap was h0, and nothing of it may be written since -/
theorem Imm.of_old {O:BSet} {h0 h:Heap} {p:Heap->Prop} (I:∀ h',Ext h0.size h0 h'->p h') (X:Ext h0.size h0 h) (hO:∀ g,O g->h0.size<=g):Imm O h p :=
 fun h' s=>I h' (X.trans ⟨s.size,fun g hg=>s.block g (Nat.lt_of_lt_of_le hg X.size) fun h2=>by have:=hO g h2; omega⟩)
end Go.Q
end
section
set_option maxRecDepth 100000
/- Quorum: an op in memory, and its copy. -/
namespace Go.Q.Yq
abbrev nilS:Slc:=⟨none,0,0⟩
abbrev ints (l:List Int):List Value:=l.map (Value.int .i64)
abbrev pcv (l:List S_api_Piece):List Value:=l.flatMap S_api_Piece.cs
abbrev rwv (l:List S_api_Row):List Value:=l.flatMap S_api_Row.cs
/-- an op but for its slices -/
def bare (x:S_api_Op):S_api_Op:={ x with f_Pieces:=nilS,f_Nodes:=nilS,f_Yes:=nilS,f_Rows:=nilS,f_Cmd:={ x.f_Cmd with f_Wrapped:=nilS } }
/-- an op, plainly -/
structure OpV where
 x:S_api_Op
 ps:List S_api_Piece
 ns:List Int
 ys:List Int
 rs:List S_api_Row
 wr:List Int
/-- an op in memory -/
structure OpM (h:Heap) (x:S_api_Op) (o:OpV):Prop where
 e:bare x=o.x
 p:SlcAt h x.f_Pieces (pcv o.ps)
 pl:x.f_Pieces.len=o.ps.length
 n:SlcAt h x.f_Nodes (ints o.ns)
 nl:x.f_Nodes.len=o.ns.length
 nc:x.f_Nodes.len<=x.f_Nodes.cap
 y:SlcAt h x.f_Yes (ints o.ys)
 yl:x.f_Yes.len=o.ys.length
 r:SlcAt h x.f_Rows (rwv o.rs)
 rl:x.f_Rows.len=o.rs.length
 w:SlcAt h x.f_Cmd.f_Wrapped (b8 o.wr)
 wl:x.f_Cmd.f_Wrapped.len=o.wr.length
theorem OpM.ext {h h':Heap} {x:S_api_Op} {o:OpV} (M:OpM h x o) (X:Ext h.size h h'):OpM h' x o :=
 { M with p:=M.p.ext X,n:=M.n.ext X,y:=M.y.ext X,r:=M.r.ext X,w:=M.w.ext X }
/-- what an op has is no more than a machine bears -/
structure OpZ (o:OpV):Prop where
 p:o.ps.length * 48<=140737488355328
 n:o.ns.length * 8<=140737488355328
 y:o.ys.length * 8<=140737488355328
 r:o.rs.length * 40<=140737488355328
 w:o.wr.length * 1<=140737488355328
/-- an op's slices lie in blocks from B on -/
structure OpF (B:Nat) (x:S_api_Op):Prop where
 p:∀ g,x.f_Pieces.blk=some g->B<=g
 n:∀ g,x.f_Nodes.blk=some g->B<=g
 y:∀ g,x.f_Yes.blk=some g->B<=g
 r:∀ g,x.f_Rows.blk=some g->B<=g
 w:∀ g,x.f_Cmd.f_Wrapped.blk=some g->B<=g
theorem ints_one (l:List Int):∀ v∈ints l,v.oneCell'=true:=fun v hv=>by obtain ⟨a,_,rfl⟩:=List.mem_map.1 hv; rfl
theorem b8_one' (l:List Int):∀ v∈b8 l,v.oneCell'=true:=fun v hv=>by obtain ⟨a,_,rfl⟩:=List.mem_map.1 hv; rfl
theorem pcv_one (l:List S_api_Piece):∀ v∈pcv l,v.oneCell'=true:=fun v hv=>by
 obtain ⟨p,_,hp⟩:=List.mem_flatMap.1 hv
 simp [S_api_Piece.cs,S_api_Id.cs] at hp
 rcases hp with rfl | rfl | rfl | rfl | rfl <;> rfl
theorem rwv_one (l:List S_api_Row):∀ v∈rwv l,v.oneCell'=true:=fun v hv=>by
 obtain ⟨p,_,hp⟩:=List.mem_flatMap.1 hv
 simp [S_api_Row.cs,S_api_Wide.cs] at hp
 rcases hp with rfl | rfl | rfl | rfl <;> rfl
section
variable {p0:Slc} {k:Slc->Heap->Prop} {h:Heap}
theorem CloneP_ok {l:List S_api_Piece} (hs:SlcAt h p0 (pcv l)) (hl:p0.len=l.length) (hb:l.length * 48<=140737488355328)
  (H:∀ s h',Row h.size h' 89 5 s (pcv l)->s.len=p0.len->Ext h.size h h'->k s h'):slices_Clone_api_Piece_api_Piece p0 k h :=
 cloned rfl (by decide) hs (by rw [fm_len (w:=5) (fun _=>rfl),hl]) (pcv_one l) (by rw [hl]; exact hb) (by simp only [maxLen]; omega) H
theorem CloneR_ok {l:List S_api_Row} (hs:SlcAt h p0 (rwv l)) (hl:p0.len=l.length) (hb:l.length * 40<=140737488355328)
  (H:∀ s h',Row h.size h' 118 4 s (rwv l)->s.len=p0.len->Ext h.size h h'->k s h'):slices_Clone_api_Row_api_Row p0 k h :=
 cloned rfl (by decide) hs (by rw [fm_len (w:=4) (fun _=>rfl),hl]) (rwv_one l) (by rw [hl]; exact hb) (by simp only [maxLen]; omega) H
theorem CloneI_ok {l:List Int} (hs:SlcAt h p0 (ints l)) (hl:p0.len=l.length) (hb:l.length * 8<=140737488355328)
  (H:∀ s h',Row h.size h' 3 1 s (ints l)->s.len=p0.len->Ext h.size h h'->k s h'):slices_Clone_int_int p0 k h :=
 cloned rfl (by decide) hs (by rw [List.length_map,hl,Nat.mul_one]) (ints_one l) (by rw [hl]; exact hb) (by simp only [maxLen]; omega) H
theorem CloneB_ok {l:List Int} (hs:SlcAt h p0 (b8 l)) (hl:p0.len=l.length) (hb:l.length * 1<=140737488355328)
  (H:∀ s h',Row h.size h' 5 1 s (b8 l)->s.len=p0.len->Ext h.size h h'->k s h'):slices_Clone_byte_byte p0 k h :=
 cloned rfl (by decide) hs (by rw [List.length_map,hl,Nat.mul_one]) (b8_one' l) (by rw [hl]; exact hb) (by simp only [maxLen]; omega) H
end
theorem copied_ok {x:S_api_Op} {o:OpV} {k:S_api_Op->Heap->Prop} {h:Heap} (M:OpM h x o) (Z:OpZ o) (H:∀ x' h',OpM h' x' o->OpF h.size x'->Ext h.size h h'->k x' h'):quorum_copied x k h:=by
 have c0:=M.pl; have c1:=M.nl; have c2:=M.yl; have c3:=M.rl; have c4:=M.wl
 unfold quorum_copied
 refine bx0 fun h2 P2 X2=>bx0 fun h4 P4 X4=>?_
 have z2:=X2.size; have z4:=X4.size; have p2:=P2.lt; have p4:=P4.lt
 obtain ⟨b3,e3⟩:∃ b3,b3=h2.size:=⟨_,rfl⟩
 rw [← e3] at P4 p4 z4 X4 ⊢
 obtain ⟨b1,e1⟩:∃ b1,b1=h.size:=⟨_,rfl⟩
 rw [← e1] at P2 p2 z2 X2 H ⊢
 have Q4:=P2.ext X4 (by omega)
 have X04:Ext b1 h h4:=X2.trans (X4.mono (by omega))
 have M4:=M.ext (e1 ▸ X04)
 refine ⟨x.f_Pieces,Q4.cl rfl,x.f_Nodes,Q4.cl rfl,x.f_Yes,Q4.cl rfl,x.f_Rows,Q4.cl rfl,CloneP_ok M4.p M4.pl Z.p fun p h5 Rp lp X5=>?_⟩
 have z5:=X5.size
 have Q5:=Q4.ext X5 (by omega)
 have M5:=M4.ext X5
 refine ⟨Q5.cl rfl,Q5.cl rfl,Q5.cl rfl,CloneI_ok M5.n M5.nl Z.n fun n h6 Rn ln X6=>?_⟩
 have z6:=X6.size
 have Q6:=Q5.ext X6 (by omega)
 have M6:=M5.ext X6
 refine ⟨Q6.cl rfl,Q6.cl rfl,CloneI_ok M6.y M6.yl Z.y fun y h7 Ry ly X7=>?_⟩
 have z7:=X7.size
 have Q7:=Q6.ext X7 (by omega)
 have M7:=M6.ext X7
 refine ⟨Q7.cl rfl,CloneR_ok M7.r M7.rl Z.r fun r h8 Rr lr X8=>?_⟩
 have z8:=X8.size
 have Q8:=Q7.ext X8 (by omega)
 have M8:=M7.ext X8
 refine bset1 Q8 (by show 3 < 33; decide) fun h9 Q9 U9=>bset1 Q9 (by rw [List.length_set]; show 27 < 33; decide) fun h10 Q10 U10=>bset1 Q10 (by rw [List.length_set,List.length_set]; show 28 < 33; decide) fun h11 Q11 U11=>bset1 Q11 (by rw [List.length_set,List.length_set,List.length_set]; show 32 < 33; decide) fun h12 Q12 U12=>?_
 have X08:Ext b1 h h8:=X04.trans ((((X5.mono (by omega)).trans (X6.mono (by omega))).trans (X7.mono (by omega))).trans (X8.mono (by omega)))
 have U:Upd b1 h8 h12:=((U9.trans U10).trans U11).trans U12
 have zu:=U.size
 have X012:Ext b1 h h12:=X08.trans (U.ext (Nat.le_refl _) (by omega))
 have M12:=M.ext (e1 ▸ X012)
 refine ⟨x.f_Cmd.f_Wrapped,by rw [add_add2]; exact Q12.cl rfl,CloneB_ok M12.w M12.wl Z.w fun w h13 Rw lw X13=>?_⟩
 have z13:=X13.size
 have Q13:=Q12.ext X13 (by have:=Q12.lt; exact this)
 rw [add_add2]
 refine bset1 Q13 (by simp only [List.length_set]; show 24 < 33; decide) fun h14 Q14 U14=>?_
 have z14:=U14.size
 let x':S_api_Op:={ x with f_Pieces:=p,f_Nodes:=n,f_Yes:=y,f_Rows:=r,f_Cmd:={ x.f_Cmd with f_Wrapped:=w } }
 have Q15:Blk h14 b1 (S_api_Op.cs x') 39:=Q14
 have A1:∀ {g:Nat} {cs:List Value},Blk h4 g cs 39->g≠b1->g < h4.size->Blk h14 g cs 39:=fun {g cs} B hg hl=>by
  have B8:=(((B.ext X5 hl).ext X6 (by omega)).ext X7 (by omega)).ext X8 (by omega)
  exact (((B8.old (U.block g (by omega) hg)).ext X13 (by omega))).old (U14.block g (by omega) hg)
 refine ⟨x',CellsAt.of_blk Q15,bset (cs:=S_api_Op.cs x') (A1 P4 (by omega) p4) rfl (by show 33<=33; decide) fun h16 P16 U16=>⟨x',CellsAt.of_blk P16,?_⟩⟩
 have z16:=U16.size
 have fin:∀ {E w:Nat} {s:Slc} {vs:List Value} {hx hy:Heap},Row hx.size hy E w s vs->h4.size<=hx.size->(∀ g,hx.size<=g->g < hy.size->h16[g]? = hy[g]?)->Row b1 h16 E w s vs:=fun R q1 q2 =>
  (R.mono (by omega)).keep fun g hg=>q2 g (R.bd hg).1 (R.bd hg).2
 have o8:∀ g,h4.size<=g->g < h8.size->h16[g]? = h8[g]?:=fun g h1 h2=>by
  rw [U16.block g (by omega) (by omega),U14.block g (by omega) (by omega),X13.block g (by omega),U.block g (by omega) (by omega)]
 have r1:=fin Rp (Nat.le_refl _) fun g h1 h2=>by rw [o8 g h1 (by omega),X8.block g (by omega),X7.block g (by omega),X6.block g (by omega)]
 have r2:=fin Rn z5 fun g h1 h2=>by rw [o8 g (by omega) (by omega),X8.block g (by omega),X7.block g (by omega)]
 have r3:=fin Ry (by omega) fun g h1 h2=>by rw [o8 g (by omega) (by omega),X8.block g (by omega)]
 have r4:=fin Rr (by omega) fun g h1 h2=>o8 g (by omega) h2
 have r5:=fin Rw (by omega) fun g h1 h2=>by rw [U16.block g (by omega) (by omega),U14.block g (by omega) (by omega)]
 refine H x' h16 ⟨M.e,r1.slc,by show p.len=_; omega,r2.slc,by show n.len=_; omega,r2.cap,r3.slc,by show y.len=_; omega,r4.slc,by show r.len=_; omega,r5.slc,by show w.len=_; omega⟩ ⟨fun g hg=>(r1.bd hg).1,fun g hg=>(r2.bd hg).1,fun g hg=>(r3.bd hg).1,fun g hg=>(r4.bd hg).1,fun g hg=>(r5.bd hg).1⟩ ?_
 exact ((X012.trans (X13.mono (by omega))).trans (U14.ext (Nat.le_refl _) (by omega))).trans (U16.ext (by omega) (by omega))
end Go.Q.Yq
end
section
/- Quorum: who stands in a row of numbers. -/
namespace Go.Q.Yq
theorem slc_get {h:Heap} {s:Slc} {vs:List Value} (S:SlcAt h s vs) {i:Nat} {v:Value} (hv:vs[i]? = some v):∃ a,s.a=some a/\cellH h (a.add i)=some v:=by
 cases ha:s.a with
 | none=>have:=S.1 ha; subst this; simp at hv
 | some a=>exact ⟨a,rfl,S.2 a ha i v hv⟩
/-- a row of numbers, in memory -/
def Ints (h:Heap) (s:Slc) (l:List Int):Prop:=SlcAt h s (ints l)/\s.len=l.length/\s.len<=s.cap
theorem Index_ok {p0:Slc} {l:List Int} {x:Int} {k:Int->Heap->Prop} {h:Heap} (A:Ints h p0 l) (m:l.length<=1000000) (H:∀ r:Int,(decide (r>=0))=decide (x∈l)->k r h):slices_Index_int_int p0 x k h:=by
 obtain ⟨S,n,_⟩:=A
 unfold slices_Index_int_int slices_Index_int_int_l1
 refine ⟨fun i h'=>h'=h/\0<=i/\i<=l.length/\x ∉ l.take i.toNat,fun i _=>(l.length - i.toNat),⟨rfl,by omega,by omega,by simp⟩,?_⟩
 rintro i h' ⟨rfl,i0,i1,nx⟩
 unfold slices_Index_int_int_l1b
 by_cases c:i < l.length
 ·rw [if_pos (by rw [decide_eq_true_eq]; omega)]
  have hi:i.toNat < l.length:=by omega
  obtain ⟨a,ha,hc⟩:=slc_get S (i:=i.toNat) (v:=.int .i64 l[i.toNat]) (by simp [hi])
  refine ⟨a,ha,i0,by omega,l[i.toNat],by rw [Nat.mul_one]; exact hc,?_⟩
  by_cases e:x=l[i.toNat]
  ·rw [if_pos (by simpa using e)]
   exact H i (by rw [decide_eq_true (show i>=0 from i0),decide_eq_true]; rw [e]; exact List.getElem_mem _)
  ·rw [if_neg (by simpa using e),wrapI64 (by omega) (by omega)]
   refine ⟨⟨rfl,by omega,by omega,?_⟩,by dsimp only; omega⟩
   rw [show (i + 1).toNat=i.toNat + 1 from by omega,List.take_add_one,List.getElem?_eq_getElem hi]
   simp only [Option.toList_some,List.mem_append,List.mem_singleton]
   rintro (h1 | h1)
   ·exact nx h1
   ·exact e h1
 ·rw [if_neg (by rw [decide_eq_true_eq]; omega)]
  have e:i.toNat=l.length:=by omega
  rw [e,List.take_length] at nx
  exact ⟨_,rfl,H _ (by rw [decide_eq_false nx]; rfl)⟩
theorem Has_ok {p0:Slc} {l:List Int} {x:Int} {k:Bool->Heap->Prop} {h:Heap} (A:Ints h p0 l) (m:l.length<=1000000) (H:k (decide (x∈l)) h):slices_Contains_int_int p0 x k h:=by
 unfold slices_Contains_int_int
 exact Index_ok A m fun r hr=>by rw [hr]; exact H
theorem Twice_ok {p0:Slc} {l:List Int} {k:Bool->Heap->Prop} {h:Heap} (A:Ints h p0 l) (m:l.length<=1000000) (H:k (decide ¬ l.Nodup) h):quorum_twice p0 k h:=by
 obtain ⟨S,n,nc⟩:=A
 unfold quorum_twice quorum_twice_l1
 refine ⟨fun i h'=>h'=h/\0<=i/\i<=l.length/\(l.take i.toNat).Nodup,fun i _=>(l.length - i.toNat),⟨rfl,by omega,by omega,by simp⟩,?_⟩
 rintro i h' ⟨rfl,i0,i1,nx⟩
 unfold quorum_twice_l1b
 by_cases c:i < l.length
 ·rw [if_pos (by rw [decide_eq_true_eq]; omega)]
  have hi:i.toNat < l.length:=by omega
  obtain ⟨a,ha,hc⟩:=slc_get S (i:=i.toNat) (v:=.int .i64 l[i.toNat]) (by simp [hi])
  refine ⟨a,ha,i0,by omega,l[i.toNat],by rw [Nat.mul_one]; exact hc,_,by omega,i0,by omega,by omega,rfl,?_⟩
  have S3:Ints h' (subS p0 1 (0:Int).toNat i.toNat ((p0.cap:Int)).toNat) (l.take i.toNat):=by
   refine ⟨⟨fun hn=>?_,fun b hb j v hj=>?_⟩,?_,?_⟩
   ·unfold subS at hn
    have:p0.a=none:=by
     simp only at hn
     split at hn
     ·exact hn
     ·rw [ha] at hn; cases hn
    rw [ha] at this; cases this
   ·have eb:b=a:=by
     unfold subS at hb
     simp only at hb
     split at hb
     ·rw [ha] at hb; exact (Option.some.inj hb).symm
     ·rw [ha] at hb; simp only [Option.map_some,Int.toNat_zero,Nat.zero_mul,Option.some.injEq] at hb; rw [← hb]; rfl
    rw [eb]
    refine S.2 a ha j v ?_
    simp only [ints,List.map_take,List.getElem?_take] at hj
    split at hj
    ·exact hj
    ·cases hj
   ·show i.toNat - (0:Int).toNat=(l.take i.toNat).length
    rw [List.length_take]; simp only [Int.toNat_zero]; omega
   ·show i.toNat - (0:Int).toNat<=((p0.cap:Int)).toNat - (0:Int).toNat
    simp only [Int.toNat_zero,Int.toNat_natCast]; omega
  refine Has_ok S3 (by rw [List.length_take]; omega) ?_
  by_cases e:l[i.toNat]∈l.take i.toNat
  ·rw [decide_eq_true e,if_pos rfl]
   rw [show (decide ¬ l.Nodup)=true from decide_eq_true fun nd=>?_] at H
   ·exact H
   ·have h1:=List.nodup_iff_pairwise_ne.1 nd
    obtain ⟨j,hj,ej⟩:=List.mem_iff_getElem.1 e
    rw [List.length_take] at hj
    rw [List.getElem_take] at ej
    have h2:=(List.pairwise_iff_getElem.1 h1) j i.toNat (by omega) hi (by omega)
    exact h2 ej
  ·rw [decide_eq_false e,if_neg (by simp),wrapI64 (by omega) (by omega)]
   refine ⟨⟨rfl,by omega,by omega,?_⟩,by dsimp only; omega⟩
   rw [show (i + 1).toNat=i.toNat + 1 from by omega,List.take_add_one,List.getElem?_eq_getElem hi,Option.toList_some,List.nodup_append]
   exact ⟨nx,by simp,fun x hx y hy=>by rw [List.mem_singleton] at hy; rw [hy]; exact fun e2=>e (e2 ▸ hx)⟩
 ·rw [if_neg (by rw [decide_eq_true_eq]; omega)]
  have e:i.toNat=l.length:=by omega
  rw [e,List.take_length] at nx
  rw [show (decide ¬ l.Nodup)=false from decide_eq_false fun h=>h nx] at H
  exact H
/-- how many nodes an op needs -/
def needs (kind n:Int):Int:=if kind=1 then (if n < 2 then n else 2) else if kind=2 then (if n - 1 > 1 then n - 1 else 1) else if kind=3 then 1 else 0
theorem Needs_ok {x:S_api_Op} {k:Int->Heap->Prop} {h:Heap} (m:x.f_Nodes.len<=maxLen) (H:∀ h',Ext h.size h h'->k (needs x.f_Kind x.f_Nodes.len) h'):quorum_Needs x k h:=by
 unfold quorum_Needs
 refine ⟨_,_,rfl,rfl,x.f_Kind,?_⟩
 have P:=Blk.push h (S_api_Op.cs x) 39
 have H':=H _ (Ext.push h (.cells (S_api_Op.cs x).toArray 39) (Nat.le_refl _))
 unfold needs at H'
 simp only [maxLen] at m
 refine ⟨by rw [add_mk,P.cell]; rfl,?_⟩
 have c27:cellH (h.push (.cells (S_api_Op.cs x).toArray 39)) ((⟨h.size,0,none⟩:Addr).add 27)=some (Slc.v x.f_Nodes):=by rw [add_mk,P.cell]; rfl
 by_cases k1:x.f_Kind=1
 ·rw [if_pos (by simpa using k1)]; rw [if_pos k1] at H'
  exact ⟨_,c27,_,rfl,H'⟩
 rw [if_neg (by simpa using k1)]; rw [if_neg k1] at H'
 by_cases k2:x.f_Kind=2
 ·rw [if_pos (by simpa using k2)]; rw [if_pos k2] at H'
  refine ⟨_,c27,_,rfl,?_⟩
  rw [wrapI64 (by omega) (by omega)]
  exact H'
 rw [if_neg (by simpa using k2)]; rw [if_neg k2] at H'
 by_cases k3:x.f_Kind=3
 ·rw [if_pos (by simpa using k3)]; rw [if_pos k3] at H'; exact H'
 rw [if_neg (by simpa using k3)]; rw [if_neg k3] at H'; exact H'
end Go.Q.Yq
end

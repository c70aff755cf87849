/- A part of the proof of statements of this seat: lemmas, no statement of their own. -/
import Derived.Test.YtmmpamfadeonmaaGreatDoorYkZae
import Derived.Test.YtmmpamfadeonmaaGreatDoorYkZaf
import Derived.Test.YtmmpamfadeonmaaGreatDoorYkZbe
import Derived.Test.YtmmpamfadeonmaaGreatDoorYkZbg
import Derived.Test.YtmmpamfadeonmaaGreatDoorYkZbi
set_option linter.unusedVariables false
set_option linter.unusedSimpArgs false
section
set_option maxRecDepth 100000
set_option maxHeartbeats 1000000
namespace Go.Q.Yk
open Go.Proofs.Tryz
/-- quaestor quaestorlaw28.StrongScrubs -/
def law28_StrongScrubs_g4 (t7_4:Option Addr) (t8_4:Option Addr) (t14_4:Slc) (t15_4:Slc) (t16_4:Int) (t107_4:Bool) (k:(Bool)->Heap->Prop) (nx2:(Int)->Heap->Prop) (nx3:(Int)->Heap->Prop) (h_4:Heap):Prop :=
  if t107_4 then (k false h_4) else (∃ x44:Int,x44=(IntKind.i64.wrap (t16_4 + 1))/\(nx3 x44 h_4))
def law28_StrongScrubs_j5 (t6_5:Bool) (k:(Bool)->Heap->Prop) (nx2:(Int)->Heap->Prop) (nx3:(Int)->Heap->Prop) (h_5:Heap):Prop :=
  k t6_5 h_5
def law28_StrongScrubs_l3b (t7_3:Option Addr) (t8_3:Option Addr) (t14_3:Slc) (t15_3:Slc) (t16_3:Int) (k:(Bool)->Heap->Prop) (nx2:(Int)->Heap->Prop) (nx3:(Int)->Heap->Prop) (h_3:Heap):Prop :=
  if (decide (t16_3 < (t14_3.len:Int))) then (if (decide ((Int.tmod t16_3 128)>=8)) then (∃ a45:Addr,t14_3.a=some a45/\(0:Int)<=t16_3/\t16_3 < (t14_3.len:Int)/\(∃ v46:Int,cellH h_3 (a45.add (t16_3.toNat * 1))=some (.int .u8 v46)/\(∃ a47:Addr,t15_3.a=some a47/\(0:Int)<=t16_3/\t16_3 < (t15_3.len:Int)/\(∃ v48:Int,cellH h_3 (a47.add (t16_3.toNat * 1))=some (.int .u8 v48)/\(law28_StrongScrubs_g4 t7_3 t8_3 t14_3 t15_3 t16_3 (v46 != v48) k nx2 nx3 h_3))))) else (law28_StrongScrubs_g4 t7_3 t8_3 t14_3 t15_3 t16_3 false k nx2 nx3 h_3)) else (strong_Load t7_3 (fun (r49:S_api_Mem × Int) h50=>∃ (b51:Nat) (h52:Heap),b51=h50.size/\h52=h50.push (.cells (S_api_Mem.cs (⟨0,0,0,0,0,(⟨0,([]:List Int)⟩:S_api_Share),([]:List Int),0,0,0,0,(⟨none,0,0⟩:Slc),(⟨none,0,0⟩:Slc),(⟨none,0,0⟩:Slc),(⟨none,0,0⟩:Slc),0⟩:S_api_Mem)).toArray 33)/\(∃ h53:Heap,WrsAt h52 (⟨b51,0,none⟩:Addr) 79/\h53=setsH h52 (⟨b51,0,none⟩:Addr) 0 (S_api_Mem.cs r49.1)/\(if (r49.2 == 0) then (∃ v54:S_api_Mem,CellsAt h53 (⟨b51,0,none⟩:Addr) (S_api_Mem.cs v54)/\(strong_Store_Mem t8_3 (fun (r55:S_api_Mem) h56=>CellsAt h56 (⟨b51,0,none⟩:Addr) (S_api_Mem.cs v54)/\(ref28_Same v54 r55 (fun (r58:Bool) h59=>if r58 then (strong_Store_Do none (⟨0,0,0,(⟨0,([]:List Int)⟩:S_api_Chain),(⟨0,0,0,0,(⟨none,0,0⟩:Slc),(⟨none,0,0⟩:Slc)⟩:S_api_Keep),(⟨none,0,0⟩:Slc),(⟨none,0,0⟩:Slc),ByteArray.empty⟩:S_api_Change) (fun (r60:Int) h61=>if (r60 == 1) then (strong_Store_Scrub none (fun (r62:Int) h63=>if (r62 == 1) then (strong_Store_Mem none (fun (r64:S_api_Mem) h65=>if ((r64.f_Boxes.len:Int) == 0) then (law28_awake  (fun (r66:Bool) h67=>law28_StrongScrubs_j5 r66 k nx2 nx3 h67) h65) else (law28_StrongScrubs_j5 false k nx2 nx3 h65)) h63) else (if false then (law28_awake  (fun (r68:Bool) h69=>law28_StrongScrubs_j5 r68 k nx2 nx3 h69) h63) else (law28_StrongScrubs_j5 false k nx2 nx3 h63))) h61) else (if false then (strong_Store_Mem none (fun (r70:S_api_Mem) h71=>if ((r70.f_Boxes.len:Int) == 0) then (law28_awake  (fun (r72:Bool) h73=>law28_StrongScrubs_j5 r72 k nx2 nx3 h73) h71) else (law28_StrongScrubs_j5 false k nx2 nx3 h71)) h61) else (if false then (law28_awake  (fun (r74:Bool) h75=>law28_StrongScrubs_j5 r74 k nx2 nx3 h75) h61) else (law28_StrongScrubs_j5 false k nx2 nx3 h61)))) h59) else (if false then (strong_Store_Scrub none (fun (r76:Int) h77=>if (r76 == 1) then (strong_Store_Mem none (fun (r78:S_api_Mem) h79=>if ((r78.f_Boxes.len:Int) == 0) then (law28_awake  (fun (r80:Bool) h81=>law28_StrongScrubs_j5 r80 k nx2 nx3 h81) h79) else (law28_StrongScrubs_j5 false k nx2 nx3 h79)) h77) else (if false then (law28_awake  (fun (r82:Bool) h83=>law28_StrongScrubs_j5 r82 k nx2 nx3 h83) h77) else (law28_StrongScrubs_j5 false k nx2 nx3 h77))) h59) else (if false then (strong_Store_Mem none (fun (r84:S_api_Mem) h85=>if ((r84.f_Boxes.len:Int) == 0) then (law28_awake  (fun (r86:Bool) h87=>law28_StrongScrubs_j5 r86 k nx2 nx3 h87) h85) else (law28_StrongScrubs_j5 false k nx2 nx3 h85)) h59) else (if false then (law28_awake  (fun (r88:Bool) h89=>law28_StrongScrubs_j5 r88 k nx2 nx3 h89) h59) else (law28_StrongScrubs_j5 false k nx2 nx3 h59))))) h56)) h53)) else (if false then (strong_Store_Do none (⟨0,0,0,(⟨0,([]:List Int)⟩:S_api_Chain),(⟨0,0,0,0,(⟨none,0,0⟩:Slc),(⟨none,0,0⟩:Slc)⟩:S_api_Keep),(⟨none,0,0⟩:Slc),(⟨none,0,0⟩:Slc),ByteArray.empty⟩:S_api_Change) (fun (r90:Int) h91=>if (r90 == 1) then (strong_Store_Scrub none (fun (r92:Int) h93=>if (r92 == 1) then (strong_Store_Mem none (fun (r94:S_api_Mem) h95=>if ((r94.f_Boxes.len:Int) == 0) then (law28_awake  (fun (r96:Bool) h97=>law28_StrongScrubs_j5 r96 k nx2 nx3 h97) h95) else (law28_StrongScrubs_j5 false k nx2 nx3 h95)) h93) else (if false then (law28_awake  (fun (r98:Bool) h99=>law28_StrongScrubs_j5 r98 k nx2 nx3 h99) h93) else (law28_StrongScrubs_j5 false k nx2 nx3 h93))) h91) else (if false then (strong_Store_Mem none (fun (r100:S_api_Mem) h101=>if ((r100.f_Boxes.len:Int) == 0) then (law28_awake  (fun (r102:Bool) h103=>law28_StrongScrubs_j5 r102 k nx2 nx3 h103) h101) else (law28_StrongScrubs_j5 false k nx2 nx3 h101)) h91) else (if false then (law28_awake  (fun (r104:Bool) h105=>law28_StrongScrubs_j5 r104 k nx2 nx3 h105) h91) else (law28_StrongScrubs_j5 false k nx2 nx3 h91)))) h53) else (if false then (strong_Store_Scrub none (fun (r106:Int) h107=>if (r106 == 1) then (strong_Store_Mem none (fun (r108:S_api_Mem) h109=>if ((r108.f_Boxes.len:Int) == 0) then (law28_awake  (fun (r110:Bool) h111=>law28_StrongScrubs_j5 r110 k nx2 nx3 h111) h109) else (law28_StrongScrubs_j5 false k nx2 nx3 h109)) h107) else (if false then (law28_awake  (fun (r112:Bool) h113=>law28_StrongScrubs_j5 r112 k nx2 nx3 h113) h107) else (law28_StrongScrubs_j5 false k nx2 nx3 h107))) h53) else (if false then (strong_Store_Mem none (fun (r114:S_api_Mem) h115=>if ((r114.f_Boxes.len:Int) == 0) then (law28_awake  (fun (r116:Bool) h117=>law28_StrongScrubs_j5 r116 k nx2 nx3 h117) h115) else (law28_StrongScrubs_j5 false k nx2 nx3 h115)) h53) else (if false then (law28_awake  (fun (r118:Bool) h119=>law28_StrongScrubs_j5 r118 k nx2 nx3 h119) h53) else (law28_StrongScrubs_j5 false k nx2 nx3 h53)))))))) h_3)
def law28_StrongScrubs_l3 (t7_3:Option Addr) (t8_3:Option Addr) (t14_3:Slc) (t15_3:Slc) (i16:Int) (k:(Bool)->Heap->Prop) (nx2:(Int)->Heap->Prop) (h:Heap):Prop :=
  ∃ (I:Int->Heap->Prop) (μ:Int->Heap->Nat),I i16 h/\∀ (t16_3:Int) (h:Heap),I t16_3 h->law28_StrongScrubs_l3b t7_3 t8_3 t14_3 t15_3 t16_3 k nx2 (fun s h'=>I s h'/\μ s h' < μ t16_3 h) h
def law28_StrongScrubs_l2b (t1_2:Slc) (t2_2:ByteArray) (t7_2:Option Addr) (t8_2:Option Addr) (t10_2:Int) (k:(Bool)->Heap->Prop) (nx2:(Int)->Heap->Prop) (h_2:Heap):Prop :=
  if (decide (t10_2 < (t1_2.len:Int))) then (∃ a15:Addr,t1_2.a=some a15/\(0:Int)<=t10_2/\t10_2 < (t1_2.len:Int)/\(∃ v16:S_api_Change,CellsAt h_2 (a15.add (t10_2.toNat * 45)) (S_api_Change.cs v16)/\(ref28_GreatChange v16 (fun (r17:Bool) h18=>if r17 then (law28_awake  (fun (r19:Bool) h20=>k r19 h20) h18) else (∃ a21:Addr,t1_2.a=some a21/\(0:Int)<=t10_2/\t10_2 < (t1_2.len:Int)/\(∃ v22:S_api_Change,CellsAt h18 (a21.add (t10_2.toNat * 45)) (S_api_Change.cs v22)/\(strong_Store_Do t8_2 v22 (fun (r23:Int) h24=>∃ x25:Int,x25=(IntKind.i64.wrap (t10_2 + 1))/\(nx2 x25 h24)) h18)))) h_2))) else (strong_Store_Do t8_2 (⟨6,0,0,(⟨0,([]:List Int)⟩:S_api_Chain),(⟨0,0,0,0,(⟨none,0,0⟩:Slc),(⟨none,0,0⟩:Slc)⟩:S_api_Keep),(⟨none,0,0⟩:Slc),(⟨none,0,0⟩:Slc),t2_2⟩:S_api_Change) (fun (r26:Int) h27=>strong_Store_Scrub t8_2 (fun (r28:Int) h29=>if (r28 != 0) then (k false h29) else (disk_New  (fun (r30:Option Addr) h31=>strong_Store_Mem t8_2 (fun (r32:S_api_Mem) h33=>strong_Format r30 r32 (fun (r34:Int) h35=>strong_Open r30 (fun (r36:Option Addr × Int) h37=>strong_Store_Scrub r36.1 (fun (r38:Int) h39=>disk_Disk_Raw t7_2 (fun (r40:Slc) h41=>disk_Disk_Raw r30 (fun (r42:Slc) h43=>law28_StrongScrubs_l3 t7_2 t8_2 r40 r42 0 k nx2 h43) h41) h39) h37) h35) h33) h31) h29)) h27) h_2)
def law28_StrongScrubs_l2 (t1_2:Slc) (t2_2:ByteArray) (t7_2:Option Addr) (t8_2:Option Addr) (i10:Int) (k:(Bool)->Heap->Prop) (h:Heap):Prop :=
  ∃ (I:Int->Heap->Prop) (μ:Int->Heap->Nat),I i10 h/\∀ (t10_2:Int) (h:Heap),I t10_2 h->law28_StrongScrubs_l2b t1_2 t2_2 t7_2 t8_2 t10_2 k (fun s h'=>I s h'/\μ s h' < μ t10_2 h) h
def law28_StrongScrubs_g1 (t1_1:Slc) (t2_1:ByteArray) (t3_1:Addr) (t26_1:Bool) (k:(Bool)->Heap->Prop) (h_1:Heap):Prop :=
  if ((t26_1 || (decide ((t1_1.len:Int) > 12))) || (decide ((t2_1.size:Int) > 100))) then (law28_awake  (fun (r6:Bool) h7=>k r6 h7) h_1) else (disk_New  (fun (r8:Option Addr) h9=>∃ v10:S_api_Mem,CellsAt h9 t3_1 (S_api_Mem.cs v10)/\(strong_Format r8 v10 (fun (r11:Int) h12=>strong_Open r8 (fun (r13:Option Addr × Int) h14=>law28_StrongScrubs_l2 t1_1 t2_1 r8 r13.1 0 k h14) h12) h9)) h_1)
def law28_StrongScrubs (p0:S_api_Mem) (p1:Slc) (p2:ByteArray) (k:(Bool)->Heap->Prop) (h:Heap):Prop :=
  ∃ (b1:Nat) (h2:Heap),b1=h.size/\h2=h.push (.cells (S_api_Mem.cs p0).toArray 33)/\(∃ v3:S_api_Mem,CellsAt h2 (⟨b1,0,none⟩:Addr) (S_api_Mem.cs v3)/\(ref28_Great v3 (fun (r4:Bool) h5=>if r4 then (law28_StrongScrubs_g1 p1 p2 (⟨b1,0,none⟩:Addr) true k h5) else (∃ v120:S_api_Mem,CellsAt h5 (⟨b1,0,none⟩:Addr) (S_api_Mem.cs v120)/\(ref28_Check v120 (fun (r121:Int) h122=>law28_StrongScrubs_g1 p1 p2 (⟨b1,0,none⟩:Addr) (r121 != 0) k h122) h5))) h2))
theorem law28_StrongScrubs_ref (p0 p1 p2 k h) (H:law28_StrongScrubs p0 p1 p2 k h):CallsH prog 5 #[.agg (S_api_Mem.cs p0).toArray,Slc.v p1,.string p2] h (fun v h'=>∃ r:Bool,v = .bool r/\k r h'):=by
 refine fE func5 fun w0=>?_
 refine zF [0,1,2] (zQ ?_)
 refine wX H fun b1 h2 H=>?_
 refine w1 tok (zE (zS (zQ ?_)))
 refine wLa tok H fun v3 H=>?_
 refine wC O6 (R6 _ _ _ H) fun r4 h5 H=>?_
 refine w1 tok ?_
 refine vJ 4 (α:=Bool) [1,2,3] (fun (s:Bool)=>[(26,.bool s)]) (fun (s:Bool) h=>law28_StrongScrubs_g1 p1 p2 (ad b1) s k h) ?_ ?_
 rintro t26_1 h_1 H
 refine vF [26,1,2,3] ?_
 refine w1 tok ?_
 refine vU 4 [1,2,3] [(31,.bool (t26_1 || (decide ((p1.len:Int) > 12))))] ?_ ?_
 refine w1 tok ?_
 refine vU 4 [1,2,3] [(36,.bool ((t26_1 || (decide ((p1.len:Int) > 12))) || (decide ((p2.size:Int) > 100))))] ?_ ?_
 refine zE ?_
 refine zI H ?_ ?_ <;> intro H
 refine zQ ?_
 refine wC law28_awake_ok (law28_awake_ref  _ _ H) fun r6 h7 H=>?_
 refine w1 tok (zE (zT (yT ?_)))
 exact x_ret _ rfl _ rfl ⟨r6,rfl,H⟩
 refine zK (zX (zQ ?_))
 refine wC O21 (R21  _ _ H) fun r8 h9 H=>?_
 refine w1 tok (zE (zQ ?_))
 refine w1 tok ?_
 refine wLa tok H fun v10 H=>?_
 refine wC O22 (R22 _ _ _ _ H) fun r11 h12 H=>?_
 refine zE (zQ (w1 tok ?_))
 refine wC O23 (R23 _ _ _ H) fun r13 h14 H=>?_
 refine w5 tok (zE (zF [1,2,7,8] (zS (zQ ?_))))
 refine w1 tok (zE (zB ?_))
 obtain ⟨I2,μ2,H0,HI⟩:=H
 refine zO (σ:=Int) [1,2,7,8] (fun (s:Int)=>[(10,.int .i64 s)]) I2 μ2 0 H0 ?_
 rintro t10_2 h_2 H
 replace H:=HI t10_2 h_2 H
 refine zF [10,1,2,7,8] (zS (zQ ?_))
 refine w4 tok (zE ?_)
 refine zI H ?_ ?_ <;> intro H
 refine zK (zX (zS (zB (zS (zQ (w2 tok ?_))))))
 refine wD tok H fun a15 _ H=>?_
 refine wLa tok H fun v16 H=>?_
 refine wC O7 (R7 _ _ _ H) fun r17 h18 H=>?_
 refine zE (zF [10,1,2,7,8,57] ?_)
 refine zI H ?_ ?_ <;> intro H
 refine zQ ?_
 refine wC law28_awake_ok (law28_awake_ref  _ _ H) fun r19 h20 H=>?_
 refine w1 tok (zE (zF [6] (zT (yT (yB (yT (yT (yB (yT ?_)))))))))
 exact x_ret _ rfl _ rfl ⟨r19,rfl,H⟩
 refine zK (zX (zR (w3 tok ?_)))
 refine wD tok H fun a21 _ H=>?_
 refine wLa tok H fun v22 H=>?_
 refine wC O24 (R24 _ _ _ _ H) fun r23 h24 H=>?_
 refine zL (zX (zF [10,1,2,7,8] (zR ?_)))
 refine w2 tok ?_
 obtain ⟨x25,ex25,H⟩:=H
 refine w_pe tok rfl (congrArg (fun z=>(.int .i64 z:Value)) ex25) rfl rfl ?_
 refine zW ?_
 exact xJ x25 H
 refine zY (yE (yE (yH (zX (zQ (w2 tok ?_))))))
 refine wY (y_build tok rfl rfl rfl rfl rfl) ?_
 refine wC O24 (R24 _ _ _ _ H) fun r26 h27 H=>?_
 refine zE (zF [7,8] (zS (zQ ?_)))
 refine w1 tok ?_
 refine wC O25 (R25 _ _ _ H) fun r28 h29 H=>?_
 refine w1 tok (zE ?_)
 refine zI H ?_ ?_ <;> intro H
 refine zQ (w1 tok (zE (zT (yT ?_))))
 exact x_ret _ rfl _ rfl ⟨false,rfl,H⟩
 refine zK (zX (zQ ?_))
 refine wC O21 (R21  _ _ H) fun r30 h31 H=>?_
 refine w1 tok (zE (zQ ?_))
 refine w2 tok ?_
 refine wC O26 (R26 _ _ _ H) fun r32 h33 H=>?_
 refine wC O22 (R22 _ _ _ _ H) fun r34 h35 H=>?_
 refine zE (zF [7,8,11] (zQ ?_))
 refine w1 tok ?_
 refine wC O23 (R23 _ _ _ H) fun r36 h37 H=>?_
 refine w5 tok (zE (zQ ?_))
 refine w1 tok ?_
 refine wC O25 (R25 _ _ _ H) fun r38 h39 H=>?_
 refine zE (zF [7,8,11] (zQ ?_))
 refine w1 tok ?_
 refine wC O27 (R27 _ _ _ H) fun r40 h41 H=>?_
 refine w1 tok ?_
 refine wC O27 (R27 _ _ _ H) fun r42 h43 H=>?_
 refine w2 tok (zE (zS (zQ ?_)))
 refine w1 tok (zE (zB ?_))
 obtain ⟨I3,μ3,H0,HI⟩:=H
 refine zO (σ:=Int) [7,8,14,15] (fun (s:Int)=>[(16,.int .i64 s)]) I3 μ3 0 H0 ?_
 rintro t16_3 h_3 H
 replace H:=HI t16_3 h_3 H
 refine zF [16,7,8,14,15] (zS (zQ ?_))
 refine w4 tok (zE ?_)
 refine zI H ?_ ?_ <;> intro H
 refine zK (zX (zS (zB (zS ?_))))
 refine c_draw (by kernel_rfl) (by kernel_rfl) ?_
 refine q_p tok rfl rfl rfl ?_
 refine q_p tok rfl rfl rfl ?_
 refine q_p tok rfl rfl rfl ?_
 refine q_p tok rfl rfl rfl ?_
 refine q_cut 10 (α:=Bool) (fun (s:Bool)=>[(107,.bool s),(7,.pointer r8),(8,.pointer r13.1),(14,Slc.v r40),(15,Slc.v r42),(16,.int .i64 t16_3)]) (fun (s:Bool)=>law28_StrongScrubs_g4 r8 r13.1 r40 r42 t16_3 s k (fun s h'=>I2 s h'/\μ2 s h' < μ2 t10_2 h_2) (fun s h'=>I3 s h'/\μ3 s h' < μ3 t16_3 h_3) h_3) ?_ ?_
 rintro t107_4 H
 refine q_weak [(107,.bool t107_4),(7,.pointer r8),(8,.pointer r13.1),(14,Slc.v r40),(15,Slc.v r42),(16,.int .i64 t16_3)] ⟨rfl,rfl,rfl,rfl,rfl,rfl,trivial⟩ ?_
 refine q_end ?_
 refine zX ?_
 refine zI H ?_ ?_ <;> intro H
 refine zQ (w1 tok (zE (zT (yB (yT (yT (yB (yT ?_))))))))
 exact x_ret _ rfl _ rfl ⟨false,rfl,H⟩
 refine zK (yL (zX (zR (w2 tok ?_))))
 obtain ⟨x44,ex44,H⟩:=H
 refine w_pe tok rfl (congrArg (fun z=>(.int .i64 z:Value)) ex44) rfl rfl ?_
 refine zW ?_
 exact xJ x44 H
 refine q_gif (d:=97) H rfl (fun H=>?_) (fun H=>?_)
 refine q_p tok rfl rfl rfl ?_
 refine q_p tok rfl rfl rfl ?_
 obtain ⟨a45,ha45,la45,ua45,H⟩:=H
 refine q_y (y_ixa' tok rfl rfl ha45 rfl rfl rfl la45 ua45) rfl rfl ?_
 obtain ⟨v46,hv46,H⟩:=H
 refine q_y (y_ld tok rfl rfl rfl rfl hv46) rfl rfl ?_
 refine q_p tok rfl rfl rfl ?_
 refine q_p tok rfl rfl rfl ?_
 obtain ⟨a47,ha47,la47,ua47,H⟩:=H
 refine q_y (y_ixa' tok rfl rfl ha47 rfl rfl rfl la47 ua47) rfl rfl ?_
 obtain ⟨v48,hv48,H⟩:=H
 refine q_y (y_ld tok rfl rfl rfl rfl hv48) rfl rfl ?_
 refine q_p tok rfl rfl rfl ?_
 refine q_p tok rfl rfl rfl ?_
 exact q_jn (v46 != v48) H ⟨rfl,rfl,rfl,rfl,rfl,rfl,trivial⟩
 refine q_skip rfl rfl ?_
 refine q_skip rfl rfl ?_
 refine q_skip rfl rfl ?_
 refine q_skip rfl rfl ?_
 refine q_skip rfl rfl ?_
 refine q_skip rfl rfl ?_
 refine q_skip rfl rfl ?_
 refine q_skip rfl rfl ?_
 refine q_skip rfl rfl ?_
 refine q_p tok rfl rfl rfl ?_
 exact q_jn false H ⟨rfl,rfl,rfl,rfl,rfl,rfl,trivial⟩
 refine zY (yE (yE (yH (zX (zF [7,8] (zQ ?_))))))
 refine w1 tok ?_
 refine wC O28 (R28 _ _ _ H) fun r49 h50 H=>?_
 refine w3 tok ?_
 refine wB tok H fun b51 h52 H=>?_
 refine wTa tok H fun h53 H=>?_
 refine w1 tok (zE (zQ ?_))
 refine w1 tok (zE ?_)
 refine zJ (α:=Bool) [] (fun (s:Bool)=>[(6,.bool s)]) (fun (s:Bool) h=>law28_StrongScrubs_j5 s k (fun s h'=>I2 s h'/\μ2 s h' < μ2 t10_2 h_2) (fun s h'=>I3 s h'/\μ3 s h' < μ3 t16_3 h_3) h) ?_ ?_
 rintro t6_5 h_5 H
 refine zF [6] (zT ?_)
 exact x_ret _ rfl _ rfl ⟨t6_5,rfl,H⟩
 refine gB [8,17,18,19] ?_
 refine gT 0 [18] tok ?_
 refine gT 1 [113] tok ?_
 refine gT 2 [114] tok ?_
 refine gI 115 H (fun hb H=>?_) (fun hb H=>?_)
 obtain ⟨v54,hv54,H⟩:=H
 refine gL 3 [17,115] rfl (y_lda tok rfl rfl rfl rfl rfl hv54) ?_
 refine gT 4 [8,115] tok ?_
 refine gCr 5 [115,117] O26 (R26 _ _ _ H) fun r55 h56 H=>?_
 obtain ⟨hy57,H⟩:=H
 refine gR rfl (y_lda tok rfl rfl rfl rfl rfl hy57) ?_
 refine gZ0 ?_
 refine gC 6 [115,116,118] O17 (R17 _ _ _ _ H) fun r58 h59 H=>?_
 refine gT 7 [115,119] tok ?_
 refine gT 8 [120] tok ?_
 refine gI 121 H (fun hb H=>?_) (fun hb H=>?_)
 refine gT 9 [19,121] tok ?_
 refine gY 10 [121] rfl (fun _=>y_build tok rfl rfl rfl rfl rfl) ?_
 refine gC 11 [121,122,123] O24 (R24 _ _ _ _ H) fun r60 h61 H=>?_
 refine gT 12 [121,124] tok ?_
 refine gT 13 [121,125] tok ?_
 refine gT 14 [126] tok ?_
 refine gI 127 H (fun hb H=>?_) (fun hb H=>?_)
 refine gT 15 [19,127] tok ?_
 refine gC 16 [127,128] O25 (R25 _ _ _ H) fun r62 h63 H=>?_
 refine gT 17 [127,129] tok ?_
 refine gT 18 [127,130] tok ?_
 refine gT 19 [131] tok ?_
 refine gI 132 H (fun hb H=>?_) (fun hb H=>?_)
 refine gT 20 [19,132] tok ?_
 refine gC 21 [132,133] O26 (R26 _ _ _ H) fun r64 h65 H=>?_
 refine gT 22 [132,134] tok ?_
 refine gT 23 [132,135] tok ?_
 refine gT 24 [132,136] tok ?_
 refine gT 25 [132,137] tok ?_
 refine gT 26 [138] tok ?_
 refine gI 139 H (fun hb H=>?_) (fun hb H=>?_)
 refine gC 27 [139] law28_awake_ok (law28_awake_ref  _ _ H) fun r66 h67 H=>?_
 refine gT 28 [139,140] tok ?_
 refine gT 29 [141] tok ?_
 refine gZ ?_
 exact xJ r66 H
 refine gS 27 [139] ?_
 refine gT 28 [139,140] tok ?_
 refine gT 29 [141] tok ?_
 refine gZ ?_
 exact xJ false H
 refine gS 20 [19,132] ?_
 refine gS 21 [132,133] ?_
 refine gS 22 [132,134] ?_
 refine gS 23 [132,135] ?_
 refine gS 24 [132,136] ?_
 refine gT 25 [132,137] tok ?_
 refine gT 26 [138] tok ?_
 refine gI 139 H (fun hb H=>?_) (fun hb H=>?_)
 refine gC 27 [139] law28_awake_ok (law28_awake_ref  _ _ H) fun r68 h69 H=>?_
 refine gT 28 [139,140] tok ?_
 refine gT 29 [141] tok ?_
 refine gZ ?_
 exact xJ r68 H
 refine gS 27 [139] ?_
 refine gT 28 [139,140] tok ?_
 refine gT 29 [141] tok ?_
 refine gZ ?_
 exact xJ false H
 refine gS 15 [19,127] ?_
 refine gS 16 [127,128] ?_
 refine gS 17 [127,129] ?_
 refine gT 18 [127,130] tok ?_
 refine gT 19 [131] tok ?_
 refine gI 132 H (fun hb H=>?_) (fun hb H=>?_)
 refine gT 20 [19,132] tok ?_
 refine gC 21 [132,133] O26 (R26 _ _ _ H) fun r70 h71 H=>?_
 refine gT 22 [132,134] tok ?_
 refine gT 23 [132,135] tok ?_
 refine gT 24 [132,136] tok ?_
 refine gT 25 [132,137] tok ?_
 refine gT 26 [138] tok ?_
 refine gI 139 H (fun hb H=>?_) (fun hb H=>?_)
 refine gC 27 [139] law28_awake_ok (law28_awake_ref  _ _ H) fun r72 h73 H=>?_
 refine gT 28 [139,140] tok ?_
 refine gT 29 [141] tok ?_
 refine gZ ?_
 exact xJ r72 H
 refine gS 27 [139] ?_
 refine gT 28 [139,140] tok ?_
 refine gT 29 [141] tok ?_
 refine gZ ?_
 exact xJ false H
 refine gS 20 [19,132] ?_
 refine gS 21 [132,133] ?_
 refine gS 22 [132,134] ?_
 refine gS 23 [132,135] ?_
 refine gS 24 [132,136] ?_
 refine gT 25 [132,137] tok ?_
 refine gT 26 [138] tok ?_
 refine gI 139 H (fun hb H=>?_) (fun hb H=>?_)
 refine gC 27 [139] law28_awake_ok (law28_awake_ref  _ _ H) fun r74 h75 H=>?_
 refine gT 28 [139,140] tok ?_
 refine gT 29 [141] tok ?_
 refine gZ ?_
 exact xJ r74 H
 refine gS 27 [139] ?_
 refine gT 28 [139,140] tok ?_
 refine gT 29 [141] tok ?_
 refine gZ ?_
 exact xJ false H
 refine gS 9 [19,121] ?_
 refine gS 10 [121] ?_
 refine gS 11 [121,122,123] ?_
 refine gS 12 [121,124] ?_
 refine gT 13 [121,125] tok ?_
 refine gT 14 [126] tok ?_
 refine gI 127 H (fun hb H=>?_) (fun hb H=>?_)
 refine gT 15 [19,127] tok ?_
 refine gC 16 [127,128] O25 (R25 _ _ _ H) fun r76 h77 H=>?_
 refine gT 17 [127,129] tok ?_
 refine gT 18 [127,130] tok ?_
 refine gT 19 [131] tok ?_
 refine gI 132 H (fun hb H=>?_) (fun hb H=>?_)
 refine gT 20 [19,132] tok ?_
 refine gC 21 [132,133] O26 (R26 _ _ _ H) fun r78 h79 H=>?_
 refine gT 22 [132,134] tok ?_
 refine gT 23 [132,135] tok ?_
 refine gT 24 [132,136] tok ?_
 refine gT 25 [132,137] tok ?_
 refine gT 26 [138] tok ?_
 refine gI 139 H (fun hb H=>?_) (fun hb H=>?_)
 refine gC 27 [139] law28_awake_ok (law28_awake_ref  _ _ H) fun r80 h81 H=>?_
 refine gT 28 [139,140] tok ?_
 refine gT 29 [141] tok ?_
 refine gZ ?_
 exact xJ r80 H
 refine gS 27 [139] ?_
 refine gT 28 [139,140] tok ?_
 refine gT 29 [141] tok ?_
 refine gZ ?_
 exact xJ false H
 refine gS 20 [19,132] ?_
 refine gS 21 [132,133] ?_
 refine gS 22 [132,134] ?_
 refine gS 23 [132,135] ?_
 refine gS 24 [132,136] ?_
 refine gT 25 [132,137] tok ?_
 refine gT 26 [138] tok ?_
 refine gI 139 H (fun hb H=>?_) (fun hb H=>?_)
 refine gC 27 [139] law28_awake_ok (law28_awake_ref  _ _ H) fun r82 h83 H=>?_
 refine gT 28 [139,140] tok ?_
 refine gT 29 [141] tok ?_
 refine gZ ?_
 exact xJ r82 H
 refine gS 27 [139] ?_
 refine gT 28 [139,140] tok ?_
 refine gT 29 [141] tok ?_
 refine gZ ?_
 exact xJ false H
 refine gS 15 [19,127] ?_
 refine gS 16 [127,128] ?_
 refine gS 17 [127,129] ?_
 refine gT 18 [127,130] tok ?_
 refine gT 19 [131] tok ?_
 refine gI 132 H (fun hb H=>?_) (fun hb H=>?_)
 refine gT 20 [19,132] tok ?_
 refine gC 21 [132,133] O26 (R26 _ _ _ H) fun r84 h85 H=>?_
 refine gT 22 [132,134] tok ?_
 refine gT 23 [132,135] tok ?_
 refine gT 24 [132,136] tok ?_
 refine gT 25 [132,137] tok ?_
 refine gT 26 [138] tok ?_
 refine gI 139 H (fun hb H=>?_) (fun hb H=>?_)
 refine gC 27 [139] law28_awake_ok (law28_awake_ref  _ _ H) fun r86 h87 H=>?_
 refine gT 28 [139,140] tok ?_
 refine gT 29 [141] tok ?_
 refine gZ ?_
 exact xJ r86 H
 refine gS 27 [139] ?_
 refine gT 28 [139,140] tok ?_
 refine gT 29 [141] tok ?_
 refine gZ ?_
 exact xJ false H
 refine gS 20 [19,132] ?_
 refine gS 21 [132,133] ?_
 refine gS 22 [132,134] ?_
 refine gS 23 [132,135] ?_
 refine gS 24 [132,136] ?_
 refine gT 25 [132,137] tok ?_
 refine gT 26 [138] tok ?_
 refine gI 139 H (fun hb H=>?_) (fun hb H=>?_)
 refine gC 27 [139] law28_awake_ok (law28_awake_ref  _ _ H) fun r88 h89 H=>?_
 refine gT 28 [139,140] tok ?_
 refine gT 29 [141] tok ?_
 refine gZ ?_
 exact xJ r88 H
 refine gS 27 [139] ?_
 refine gT 28 [139,140] tok ?_
 refine gT 29 [141] tok ?_
 refine gZ ?_
 exact xJ false H
 refine gS 3 [17,115] ?_
 refine gS 4 [8,115] ?_
 refine gS 5 [115,117] ?_
 refine gS 6 [115,116,118] ?_
 refine gT 7 [115,119] tok ?_
 refine gT 8 [120] tok ?_
 refine gI 121 H (fun hb H=>?_) (fun hb H=>?_)
 refine gT 9 [19,121] tok ?_
 refine gY 10 [121] rfl (fun _=>y_build tok rfl rfl rfl rfl rfl) ?_
 refine gC 11 [121,122,123] O24 (R24 _ _ _ _ H) fun r90 h91 H=>?_
 refine gT 12 [121,124] tok ?_
 refine gT 13 [121,125] tok ?_
 refine gT 14 [126] tok ?_
 refine gI 127 H (fun hb H=>?_) (fun hb H=>?_)
 refine gT 15 [19,127] tok ?_
 refine gC 16 [127,128] O25 (R25 _ _ _ H) fun r92 h93 H=>?_
 refine gT 17 [127,129] tok ?_
 refine gT 18 [127,130] tok ?_
 refine gT 19 [131] tok ?_
 refine gI 132 H (fun hb H=>?_) (fun hb H=>?_)
 refine gT 20 [19,132] tok ?_
 refine gC 21 [132,133] O26 (R26 _ _ _ H) fun r94 h95 H=>?_
 refine gT 22 [132,134] tok ?_
 refine gT 23 [132,135] tok ?_
 refine gT 24 [132,136] tok ?_
 refine gT 25 [132,137] tok ?_
 refine gT 26 [138] tok ?_
 refine gI 139 H (fun hb H=>?_) (fun hb H=>?_)
 refine gC 27 [139] law28_awake_ok (law28_awake_ref  _ _ H) fun r96 h97 H=>?_
 refine gT 28 [139,140] tok ?_
 refine gT 29 [141] tok ?_
 refine gZ ?_
 exact xJ r96 H
 refine gS 27 [139] ?_
 refine gT 28 [139,140] tok ?_
 refine gT 29 [141] tok ?_
 refine gZ ?_
 exact xJ false H
 refine gS 20 [19,132] ?_
 refine gS 21 [132,133] ?_
 refine gS 22 [132,134] ?_
 refine gS 23 [132,135] ?_
 refine gS 24 [132,136] ?_
 refine gT 25 [132,137] tok ?_
 refine gT 26 [138] tok ?_
 refine gI 139 H (fun hb H=>?_) (fun hb H=>?_)
 refine gC 27 [139] law28_awake_ok (law28_awake_ref  _ _ H) fun r98 h99 H=>?_
 refine gT 28 [139,140] tok ?_
 refine gT 29 [141] tok ?_
 refine gZ ?_
 exact xJ r98 H
 refine gS 27 [139] ?_
 refine gT 28 [139,140] tok ?_
 refine gT 29 [141] tok ?_
 refine gZ ?_
 exact xJ false H
 refine gS 15 [19,127] ?_
 refine gS 16 [127,128] ?_
 refine gS 17 [127,129] ?_
 refine gT 18 [127,130] tok ?_
 refine gT 19 [131] tok ?_
 refine gI 132 H (fun hb H=>?_) (fun hb H=>?_)
 refine gT 20 [19,132] tok ?_
 refine gC 21 [132,133] O26 (R26 _ _ _ H) fun r100 h101 H=>?_
 refine gT 22 [132,134] tok ?_
 refine gT 23 [132,135] tok ?_
 refine gT 24 [132,136] tok ?_
 refine gT 25 [132,137] tok ?_
 refine gT 26 [138] tok ?_
 refine gI 139 H (fun hb H=>?_) (fun hb H=>?_)
 refine gC 27 [139] law28_awake_ok (law28_awake_ref  _ _ H) fun r102 h103 H=>?_
 refine gT 28 [139,140] tok ?_
 refine gT 29 [141] tok ?_
 refine gZ ?_
 exact xJ r102 H
 refine gS 27 [139] ?_
 refine gT 28 [139,140] tok ?_
 refine gT 29 [141] tok ?_
 refine gZ ?_
 exact xJ false H
 refine gS 20 [19,132] ?_
 refine gS 21 [132,133] ?_
 refine gS 22 [132,134] ?_
 refine gS 23 [132,135] ?_
 refine gS 24 [132,136] ?_
 refine gT 25 [132,137] tok ?_
 refine gT 26 [138] tok ?_
 refine gI 139 H (fun hb H=>?_) (fun hb H=>?_)
 refine gC 27 [139] law28_awake_ok (law28_awake_ref  _ _ H) fun r104 h105 H=>?_
 refine gT 28 [139,140] tok ?_
 refine gT 29 [141] tok ?_
 refine gZ ?_
 exact xJ r104 H
 refine gS 27 [139] ?_
 refine gT 28 [139,140] tok ?_
 refine gT 29 [141] tok ?_
 refine gZ ?_
 exact xJ false H
 refine gS 9 [19,121] ?_
 refine gS 10 [121] ?_
 refine gS 11 [121,122,123] ?_
 refine gS 12 [121,124] ?_
 refine gT 13 [121,125] tok ?_
 refine gT 14 [126] tok ?_
 refine gI 127 H (fun hb H=>?_) (fun hb H=>?_)
 refine gT 15 [19,127] tok ?_
 refine gC 16 [127,128] O25 (R25 _ _ _ H) fun r106 h107 H=>?_
 refine gT 17 [127,129] tok ?_
 refine gT 18 [127,130] tok ?_
 refine gT 19 [131] tok ?_
 refine gI 132 H (fun hb H=>?_) (fun hb H=>?_)
 refine gT 20 [19,132] tok ?_
 refine gC 21 [132,133] O26 (R26 _ _ _ H) fun r108 h109 H=>?_
 refine gT 22 [132,134] tok ?_
 refine gT 23 [132,135] tok ?_
 refine gT 24 [132,136] tok ?_
 refine gT 25 [132,137] tok ?_
 refine gT 26 [138] tok ?_
 refine gI 139 H (fun hb H=>?_) (fun hb H=>?_)
 refine gC 27 [139] law28_awake_ok (law28_awake_ref  _ _ H) fun r110 h111 H=>?_
 refine gT 28 [139,140] tok ?_
 refine gT 29 [141] tok ?_
 refine gZ ?_
 exact xJ r110 H
 refine gS 27 [139] ?_
 refine gT 28 [139,140] tok ?_
 refine gT 29 [141] tok ?_
 refine gZ ?_
 exact xJ false H
 refine gS 20 [19,132] ?_
 refine gS 21 [132,133] ?_
 refine gS 22 [132,134] ?_
 refine gS 23 [132,135] ?_
 refine gS 24 [132,136] ?_
 refine gT 25 [132,137] tok ?_
 refine gT 26 [138] tok ?_
 refine gI 139 H (fun hb H=>?_) (fun hb H=>?_)
 refine gC 27 [139] law28_awake_ok (law28_awake_ref  _ _ H) fun r112 h113 H=>?_
 refine gT 28 [139,140] tok ?_
 refine gT 29 [141] tok ?_
 refine gZ ?_
 exact xJ r112 H
 refine gS 27 [139] ?_
 refine gT 28 [139,140] tok ?_
 refine gT 29 [141] tok ?_
 refine gZ ?_
 exact xJ false H
 refine gS 15 [19,127] ?_
 refine gS 16 [127,128] ?_
 refine gS 17 [127,129] ?_
 refine gT 18 [127,130] tok ?_
 refine gT 19 [131] tok ?_
 refine gI 132 H (fun hb H=>?_) (fun hb H=>?_)
 refine gT 20 [19,132] tok ?_
 refine gC 21 [132,133] O26 (R26 _ _ _ H) fun r114 h115 H=>?_
 refine gT 22 [132,134] tok ?_
 refine gT 23 [132,135] tok ?_
 refine gT 24 [132,136] tok ?_
 refine gT 25 [132,137] tok ?_
 refine gT 26 [138] tok ?_
 refine gI 139 H (fun hb H=>?_) (fun hb H=>?_)
 refine gC 27 [139] law28_awake_ok (law28_awake_ref  _ _ H) fun r116 h117 H=>?_
 refine gT 28 [139,140] tok ?_
 refine gT 29 [141] tok ?_
 refine gZ ?_
 exact xJ r116 H
 refine gS 27 [139] ?_
 refine gT 28 [139,140] tok ?_
 refine gT 29 [141] tok ?_
 refine gZ ?_
 exact xJ false H
 refine gS 20 [19,132] ?_
 refine gS 21 [132,133] ?_
 refine gS 22 [132,134] ?_
 refine gS 23 [132,135] ?_
 refine gS 24 [132,136] ?_
 refine gT 25 [132,137] tok ?_
 refine gT 26 [138] tok ?_
 refine gI 139 H (fun hb H=>?_) (fun hb H=>?_)
 refine gC 27 [139] law28_awake_ok (law28_awake_ref  _ _ H) fun r118 h119 H=>?_
 refine gT 28 [139,140] tok ?_
 refine gT 29 [141] tok ?_
 refine gZ ?_
 exact xJ r118 H
 refine gS 27 [139] ?_
 refine gT 28 [139,140] tok ?_
 refine gT 29 [141] tok ?_
 refine gZ ?_
 exact xJ false H
 refine vG (d:=32) (fun hb=>?_) (fun hb=>?_)
 refine wS (wS (wS (w1 tok ?_)))
 refine vK ?_
 exact congrArg (fun b=>some (Value.bool b)) (or_t hb)
 refine w4 tok ?_
 refine vK ?_
 exact congrArg (fun b=>some (Value.bool b)) (or_f hb)
 refine vG (d:=27) (fun hb=>?_) (fun hb=>?_)
 refine wS (wS (wS (w1 tok ?_)))
 refine vK ?_
 exact congrArg (fun b=>some (Value.bool b)) (or_t hb)
 refine w4 tok ?_
 refine vK ?_
 exact congrArg (fun b=>some (Value.bool b)) (or_f hb)
 refine vI 22 H ?_ ?_ <;> intro H
 refine wS (wS (wS (w1 tok ?_)))
 exact wJ true H
 refine wLa tok H fun v120 H=>?_
 refine wC O15 (R15 _ _ _ H) fun r121 h122 H=>?_
 refine w2 tok ?_
 exact wJ (r121 != 0) H
end Go.Q.Yk
end
section
set_option maxRecDepth 100000
/- Strong: StrongScrubs walked. -/
namespace Go.Q.Yk
open Go.Q.Sg
section
variable {B c d rn rs pr sr st lo hi:Nat} {h:Heap} {X:DK} {slot i:Int} {v:S_api_Mem} {m:MemV}
theorem LoadM_ok {k:S_api_Mem × Int->Heap->Prop} (S:DS B h d rn rs X c slot i) (oB:B<=h.size) (r:R0 h) (s0:0<=slot) (out:outW X (0 + slot * 256)=memC.put m.tup) (w:WfM m) (ck:chkM m=0) (nr:¬ RecW X (numW X 0 256 slot) 0 512)
  (H:∀ v h',MemH h.size h' v m->Ext h.size h h'->k (v,0) h'):strong_Load (some ⟨d,0,none⟩) k h:=by
 unfold strong_Load
 refine bx0 fun h2 P2 X2=>?_
 have z2:=X2.size
 have p2:=P2.lt
 refine (S.ext X2).open' (by omega) fun pr sr h3 J3 X3 sB=>?_
 have z3:=X3.size
 rw [if_neg (by simp)]
 refine load0_ok J3 (r.ext (X2.trans (X3.mono z2)) r.pos) s0 out w ck nr fun v h4 M4 X4=>?_
 have z4:=X4.size
 refine bset (cs:=S_api_Mem.cs v) ((P2.ext X3 p2).ext X4 (by omega)) rfl (by show 79<=79; omega) fun h5 P5 U5=>⟨v,CellsAt.of_blk P5,H v h5 ?_ (X2.trans ((X3.mono z2).trans ((X4.mono (by omega)).trans (U5.ext (Nat.le_refl _) (by omega)))))⟩
 exact (M4.keep (fun g h1 hg=>U5.block g hg (by omega)) U5.size).down (by omega)
theorem DoNil_ok {cv:S_api_Change} {k:Int->Heap->Prop} (H:∀ h',Ext h.size h h'->k 1 h'):strong_Store_Do none cv k h:=by
 unfold strong_Store_Do
 refine bx0 fun h2 P2 X2=>?_
 rw [if_pos (by simp)]
 exact H h2 X2
/-- what is known of a change that was given -/
structure ChG (h:Heap) (cv:S_api_Change) (ch:ChgV):Prop where
 a:ChgAt h cv ch
 n:-9223372036854775808<=cv.f_Node/\cv.f_Node < 9223372036854775808
 w:(ch.ents.length<=100/\∀ e∈ch.ents,e.2.length<=300)->cv.f_Keep.f_Snap.len<=1500->cv.f_Gone.len<=80->cv.f_Tenant.size<=100->(ch.boxes.length<=70/\∀ b∈ch.boxes,b.1.length<=100/\b.2.2.2.length<=4200)->WfC ch
def c6 (t:ByteArray):ChgV:=⟨[6],0,0,(0,Z32),0,0,0,0,[],[],[],[],sB t⟩
theorem sB_isB (t:ByteArray):isB (sB t):=fun b hb=>by
 unfold sB at hb
 simp only [List.mem_map] at hb
 obtain ⟨x,_,rfl⟩:=hb
 have:=x.toNat_lt
 omega
theorem c6_ok {t:ByteArray} (ht:t.size<=100):WfC (c6 t) where
 kind:=fun b hb=>by rw [List.mem_singleton.1 (show b∈[(6:Int)] from hb)]; omega
 kindl:=rfl
 n:=u0
 node:=(by omega:(-9223372036854775808:Int)<=0/\(0:Int) < 9223372036854775808)
 chain:=u0
 chainb:=z32B
 chainl:=List.length_replicate
 kk:=(by omega:(-9223372036854775808:Int)<=0/\(0:Int) < 9223372036854775808)
 kt:=u0
 kv:=(by omega:(-9223372036854775808:Int)<=0/\(0:Int) < 9223372036854775808)
 ki:=u0
 ents:=fun e he=>by cases he
 entsl:=Nat.zero_le _
 snap:=nil_B
 snapl:=Nat.zero_le _
 gone:=fun e he=>by cases he
 gonel:=Nat.zero_le _
 boxes:=fun e he=>by cases he
 boxesl:=Nat.zero_le _
 ten:=sB_isB t
 tenl:=by show (sB t).length<=_; rw [sB_len]; omega
abbrev cv6 (t:ByteArray):S_api_Change:=⟨6,0,0,⟨0,Z32⟩,⟨0,0,0,0,⟨none,0,0⟩,⟨none,0,0⟩⟩,⟨none,0,0⟩,⟨none,0,0⟩,t⟩
theorem ca6 {h:Heap} {t:ByteArray}:ChgAt h (cv6 t) (c6 t):=⟨rfl,rfl,rfl,⟨rfl,rfl⟩,rfl,rfl,rfl,rfl,⟨[],ls_nil rfl,Many.nil⟩,slc_nil,rfl,ls_nil rfl,⟨[],ls_nil rfl,Many.nil⟩,rfl⟩
theorem law_end {hb:Heap} {p1:Slc} {d2 rn2 rs2:Nat} {sa sc:Slc} {la lc:List Int} {Y Y2:DK} {gr gr2 t1 t2 u1 u2:Int} {k:Bool->Heap->Prop} {nx2:Int->Heap->Prop} (rb:R0 hb) (Xb:Ext hb.size hb h) (T:STo hb.size h d rn rs pr sr st Y c t2 i v m lo hi) (K:ScX Y gr t1 t2 (memC.put m.tup)) (K2:ScX Y2 gr2 u1 u2 (memC.put m.tup)) (g0:0<=gr/\gr<=1000)
  (sal:sa.len=131072) (scl:sc.len=131072) (Sa:SlcAt h sa (b8 la)) (Sc:SlcAt h sc (b8 lc)) (Ra:RawL Y la) (Rc:RawL Y2 lc)
  (H:∀ h',Ext hb.size hb h'->k true h'):law28_StrongScrubs_l3 (some ⟨d,0,none⟩) (some ⟨st,0,none⟩) sa sc 0 k nx2 h:=by
 have zb:=Xb.size
 unfold law28_StrongScrubs_l3
 refine ⟨fun i h'=>0<=i/\i<=131072/\h'=h,fun i _=>(131072 - i).toNat,⟨by omega,by omega,rfl⟩,?_⟩
 rintro i h' ⟨i0,i1,eh⟩
 subst h'
 unfold law28_StrongScrubs_l3b
 rw [sal,scl]
 by_cases ci:i < 131072
 ·rw [if_pos (by rw [decide_eq_true_eq]; exact ci)]
  have nx:law28_StrongScrubs_g4 (some ⟨d,0,none⟩) (some ⟨st,0,none⟩) sa sc i false k nx2 (fun s h'=>(0<=s/\s<=131072/\h'=h)/\(131072 - s).toNat < (131072 - i).toNat) h:=by
   unfold law28_StrongScrubs_g4
   rw [if_neg (by simp),wrapI64 (x:=i + 1) (by omega) (by omega)]
   exact ⟨_,rfl,⟨by omega,by omega,rfl⟩,by omega⟩
  have em:Int.tmod i 128=((i.toNat % 128:Nat):Int):=by rw [Int.tmod_eq_emod_of_nonneg i0]; omega
  rw [em]
  by_cases q:8<=i.toNat % 128
  ·rw [if_pos (by rw [decide_eq_true_eq]; omega)]
   have same:=raw_same K K2 Ra Rc (i:=i.toNat) (by omega) q
   have ea:=List.getElem?_eq_getElem (l:=la) (i:=i.toNat) (by have:=Ra.1; omega)
   have ec:=List.getElem?_eq_getElem (l:=lc) (i:=i.toNat) (by have:=Rc.1; omega)
   rw [ea,ec] at same
   have same':=Option.some.inj same
   obtain ⟨a1,ha1,hc1⟩:=slc_get Sa (i:=i.toNat) (v:=.int .u8 (la[i.toNat]'(by have:=Ra.1; omega))) (by rw [List.getElem?_map,ea]; rfl)
   obtain ⟨a2,ha2,hc2⟩:=slc_get Sc (i:=i.toNat) (v:=.int .u8 (lc[i.toNat]'(by have:=Rc.1; omega))) (by rw [List.getElem?_map,ec]; rfl)
   refine ⟨a1,ha1,i0,by omega,_,by rw [Nat.mul_one]; exact hc1,a2,ha2,i0,by omega,_,by rw [Nat.mul_one]; exact hc2,?_⟩
   rw [same',show (lc[i.toNat]'(by have:=Rc.1; omega) != lc[i.toNat]'(by have:=Rc.1; omega))=false from by simp]
   exact nx
  ·rw [if_neg (by rw [decide_eq_true_eq]; omega)]
   exact nx
 rw [if_neg (by rw [decide_eq_true_eq]; exact ci)]
 have cb:=chkM_bd T.ck
 obtain ⟨_,o2,n2,_,nr⟩:=K.all g0 cb.2.2
 have t20:0<=t2:=by rcases K.t with ⟨_,e⟩ | ⟨_,e⟩ <;> omega
 refine LoadM_ok (m:=m) T.J.ds zb (rb.ext Xb rb.pos) t20 o2 T.w T.ck (by rw [n2]; exact nr) fun v1 h1 M1 X1=>?_
 have z1:=X1.size
 refine bx (cs:=S_api_Mem.cs v1) rfl (by show 79<=79; omega) fun h2 P2 X2=>?_
 have z2:=X2.size
 rw [if_pos (by simp)]
 refine ⟨v1,CellsAt.of_blk P2,Mem_ok (T.ext (X1.trans (X2.mono z1))) fun v3 h3 M3 X3=>⟨CellsAt.of_blk (P2.ext X3 P2.lt),?_⟩⟩
 have z3:=X3.size
 have Ma:MemAt h3 v1 m:=M1 h3 fun g _ hg=>by rw [X3.block g (by omega),X2.block g hg]
 have X03:Ext h.size h h3:=X1.trans ((X2.mono z1).trans (X3.mono (by omega)))
 refine DSame28_ok Ma M3.now T.w T.ck fun h4 X4=>?_
 have z4:=X4.size
 rw [if_pos rfl]
 refine DoNil_ok fun h5 X5=>?_
 have z5:=X5.size
 rw [if_pos (by simp)]
 unfold strong_Store_Scrub
 rw [if_pos (by simp)]
 dsimp only
 rw [if_pos (by simp)]
 refine MemNil_ok fun h6 X6=>?_
 rw [if_pos (by simp)]
 have X46:Ext hb.size hb h6:=Xb.trans ((X03.mono zb).trans ((X4.mono (by omega)).trans ((X5.mono (by omega)).trans (X6.mono (by omega)))))
 refine awake_ok (rb.ext X46 rb.pos) fun h7 X7=>?_
 unfold law28_StrongScrubs_j5
 exact H h7 (X46.trans (X7.mono X46.size))
theorem law_ok {hb:Heap} {p0:S_api_Mem} {p1:Slc} {p2:ByteArray} {cvs:List S_api_Change} {k:Bool->Heap->Prop} (r:R0 hb) (M:MemAt hb p0 m) (WM:GB p0 m.ents m.boxes->WfM m) (L:LsAt S_api_Change.cs 45 hb p1 cvs) (C:∀ cv∈cvs,∃ ch,ChG hb cv ch)
  (H:∀ h',Ext hb.size hb h'->k true h'):law28_StrongScrubs p0 p1 p2 k hb:=by
 have r0:=r.pos
 have aw:∀ {k':Bool->Heap->Prop},(∀ h',Ext hb.size hb h'->k' true h')->∀ h',Ext hb.size hb h'->law28_awake (fun r5 h6=>k' r5 h6) h':=fun {k'} Hk h' X=>awake_ok (r.ext X r0) fun h2 X2=>Hk h2 (X.trans (X2.mono X.size))
 unfold law28_StrongScrubs
 refine bx0 fun h2 P2 X2=>?_
 have z2:=X2.size
 have M2:=M.ext X2
 obtain ⟨es,E1,E2⟩:=M2.ents
 obtain ⟨bs,B1,B2⟩:=M2.boxes
 have out:∀ h',Ext hb.size hb h'->law28_StrongScrubs_g1 p1 p2 ⟨hb.size,0,none⟩ true k h':=fun h' X=>by
  unfold law28_StrongScrubs_g1
  rw [if_pos (by simp)]
  exact aw H h' X
 refine ⟨p0,CellsAt.of_blk P2,G28_ok E1 E2 B1 B2 fun b h3 X3 hg=>?_⟩
 have z3:=X3.size
 have X03:=X2.trans (X3.mono z2)
 cases b with
 | true=>rw [if_pos rfl]; exact out h3 X03
 | false =>
  rw [if_neg (by simp)]
  have w:=WM (hg rfl)
  have P3:=P2.ext X3 P2.lt
  refine ⟨p0,CellsAt.of_blk P3,DCheck_ok (M.ext X03) w fun e h4 X4 he=>?_⟩
  have z4:=X4.size
  have X04:=X03.trans (X4.mono (by omega))
  by_cases e0:e=0
  rotate_left
  ·rw [show (e != 0)=true from by simpa using e0]
   exact out h4 X04
  rw [show (e != 0)=false from by simpa using e0]
  have ck:=he e0
  unfold law28_StrongScrubs_g1
  by_cases sz:p1.len<=12/\p2.size<=100
  rotate_left
  ·rw [if_pos (by simp only [Bool.or_eq_true,decide_eq_true_eq]; omega)]
   exact aw H h4 X04
  rw [if_neg (by simp only [Bool.or_eq_true,decide_eq_true_eq]; simp; omega)]
  have P4:=P3.ext X4 P3.lt
  refine DNew_ok (B:=hb.size) (by omega) fun d rn rs h5 D5 X5=>⟨p0,CellsAt.of_blk (P4.ext X5 P4.lt),?_⟩
  have z5:=X5.size
  have X05:=X04.trans (X5.mono (by omega))
  refine Format_ok D5 (r.ext X05 r0) ⟨r0,by omega⟩ (M.ext X05) w ck fun Y c6' h6 t S6 t0 o6 n6 g6 hi6 X6=>?_
  have X06:=X05.trans X6
  have z6:=X6.size
  refine SOpen_ok S6 (by omega) (r.ext X06 r0) ⟨r0,by omega⟩ t0 o6 w ck (norec (by omega) (by omega) (by omega) (hi6 512 (by omega))) fun pr sr st v7 h7 Y2 c7 t2 lo hi T7 X7 _ _ _ _ _=>?_
  have X07:=X06.trans X7
  unfold law28_StrongScrubs_l2
  have pl:=L.l
  refine ⟨fun j h'=>0<=j/\j<=p1.len/\Ext hb.size hb h'/\∃ X c slot v m lo hi,STo hb.size h' d rn rs pr sr st X c slot (j + 2) v m lo hi,fun j _=>((p1.len:Int) - j).toNat,⟨by omega,by omega,X07,_,_,_,_,_,_,_,T7⟩,?_⟩
  rintro j h8 ⟨j0,j1,X08,X,c,slot,v,m',lo,hi,T8⟩
  have z8:=X08.size
  unfold law28_StrongScrubs_l2b
  by_cases cj:j < p1.len
  ·rw [if_pos (by rw [decide_eq_true_eq]; exact cj)]
   obtain ⟨a,cv,ha,_,hlt,hcv,hc⟩:=(L.ext X08).it j0 (by omega)
   obtain ⟨ch,G⟩:=C cv (List.mem_of_getElem? hcv)
   have CA:=G.a.ext X08
   obtain ⟨ces,F1,F2⟩:=CA.ents
   obtain ⟨cbs,F3,F4⟩:=CA.boxes
   refine ⟨a,ha,j0,hlt,cv,hc,GC_ok F1 F2 F3 F4 fun b h9 X9 hb9=>?_⟩
   have z9:=X9.size
   have X09:=X08.trans (X9.mono z8)
   cases b with
   | true=>rw [if_pos rfl]; exact aw H h9 X09
   | false =>
    rw [if_neg (by simp)]
    obtain ⟨b1,b2,b3,b4,b5⟩:=hb9 rfl
    have wc:=G.w b1 b2 b3 b4 b5
    obtain ⟨a',cv',ha',_,_,hcv',hc'⟩:=(L.ext X09).it j0 (by omega)
    rw [hcv] at hcv'; cases hcv'
    refine ⟨a',ha',j0,hlt,cv,hc',Do_ok (T8.ext X9) (by omega) (r.ext X09 r0) ⟨r0,by omega⟩ (G.a.ext X09) wc ⟨by omega,by omega⟩ G.n fun rr h10 X' c' slot' v' m'' lo' hi' T10 X10 _ _=>?_⟩
    rw [wrapI64 (x:=j + 1) (by omega) (by omega)]
    exact ⟨_,rfl,⟨by omega,by omega,X09.trans X10,X',c',slot',v',m'',lo',hi',by rw [show j + 1 + 2=j + 2 + 1 from by omega]; exact T10⟩,by dsimp only; omega⟩
  rw [if_neg (by rw [decide_eq_true_eq]; exact cj)]
  refine do_cells (b:=cv6 p2) rfl (Do_ok (ch:=c6 p2) T8 (by omega) (r.ext X08 r0) ⟨r0,by omega⟩ ca6 (c6_ok sz.2) ⟨by simp [c6],by simp [c6]⟩ (by show -9223372036854775808<=(0:Int)/\(0:Int) < _; omega) fun rr h9 X9' c9 slot9 v9 m9 lo9 hi9 T9 X9 _ _=>?_)
  have X09:=X08.trans X9
  have z9:=X9.size
  have gn:=gr_nn T9.J.g 0 512
  have gl:=T9.J.gr
  refine Scrub2_ok T9 (by omega) (r.ext X09 r0) ⟨r0,by omega⟩ fun h10 Y10 c10 t1 t2' K10 T10 X10=>?_
  have X010:=X09.trans X10
  have z10:=X10.size
  rw [if_neg (by simp)]
  -- the other disk
  refine DNew_ok (B:=h10.size) (Nat.le_refl _) fun d' rn' rs' h11 D11 X11=>?_
  have z11:=X11.size
  refine Mem_ok (T10.ext X11) fun v12 h12 M12 X12=>?_
  have z12:=X12.size
  have X1012:=X11.trans (X12.mono z11)
  have X012:=X010.trans (X1012.mono (by omega))
  refine Format_ok (D11.ext X12) (r.ext X012 r0) ⟨by omega,by omega⟩ (M12 h12 fun _ _ _=>rfl) T10.w T10.ck fun Y13 c13 h13 t13 S13 t130 o13 n13 g13 hi13 X13=>?_
  have z13:=X13.size
  have X1013:=X1012.trans X13
  have X013:=X010.trans (X1013.mono (by omega))
  refine SOpen_ok S13 (by omega) (r.ext X013 r0) ⟨by omega,by omega⟩ t130 o13 T10.w T10.ck (norec (by omega) (by omega) (by omega) (hi13 512 (by omega))) fun pr2 sr2 st2 v14 h14 Y14 c14 t14 lo14 hi14 T14 X14 _ _ _ _ _=>?_
  have z14:=X14.size
  have X1014:=X1013.trans X14
  have X014:=X010.trans (X1014.mono (by omega))
  have gn2:=gr_nn T14.J.g 0 512
  have gl2:=T14.J.gr
  refine Scrub2_ok T14 (by omega) (r.ext X014 r0) ⟨by omega,by omega⟩ fun h15 Y15 c15 u1 u2 K15 T15 X15=>?_
  have z15:=X15.size
  have X1015:=X1014.trans X15
  refine Raw_ok (T10.ext X1015).J.D K10.kn fun sa h16 la sal Sa Ra X16=>?_
  have z16:=X16.size
  have X1016:=X1015.trans (X16.mono (by omega))
  refine Raw_ok (T15.ext X16).J.D K15.kn fun sc h17 lc scl Sc Rc X17=>?_
  have z17:=X17.size
  have X1017:=X1016.trans (X17.mono (by omega))
  exact law_end (p1:=p1) (d2:=d') (rn2:=rn') (rs2:=rs') r (X010.trans (X1017.mono (by omega))) (T10.ext X1017) K10 K15 ⟨gn,by omega⟩ sal scl (Sa.ext X17) Sc Ra Rc H
end
end Go.Q.Yk
end

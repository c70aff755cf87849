/- A part of the proof of statements of this seat: lemmas, no statement of their own. -/
import Derived.Test.YtmmpamfadeonmaaGreatDoorYkZae
import Derived.Test.YtmmpamfadeonmaaGreatDoorYkZaf
import Derived.Test.YtmmpamfadeonmaaGreatDoorYkZai
import Derived.Test.YtmmpamfadeonmaaGreatDoorYkZaq
set_option linter.unusedVariables false
set_option linter.unusedSimpArgs false
section
set_option maxRecDepth 100000
set_option maxHeartbeats 1000000
namespace Go.Q.Yk
open Go.Proofs.Tryz
/-- quaestor disk.New -/
def disk_New (k:(Option Addr)->Heap->Prop) (h:Heap):Prop :=
  ∃ (b1:Nat) (h2:Heap),b1=h.size/\h2=h.push (.map #[] 0)/\(∃ (b3:Nat) (h4:Heap),b3=h2.size/\h4=h2.push (.map #[] 0)/\(∃ (b5:Nat) (h6:Heap),b5=h4.size/\h6=h4.push (.cells (S_disk_Disk.cs (⟨(some b1),(some b3),0,false,0⟩:S_disk_Disk)).toArray 100)/\(k (some (⟨b5,0,none⟩:Addr)) h6)))
/-- (*quaestor disk.Disk).power -/
def disk_Disk_power_g1 (t11_1:Bool) (k:(Bool)->Heap->Prop) (h_1:Heap):Prop :=
  k t11_1 h_1
def disk_Disk_power (p0:Option Addr) (k:(Bool)->Heap->Prop) (h:Heap):Prop :=
  if (!p0.isNone) then (∃ a1:Addr,p0=some a1/\(∃ v2:Bool,cellH h (a1.add 3)=some (.bool v2)/\(disk_Disk_power_g1 (!v2) k h))) else (disk_Disk_power_g1 false k h)
/-- (*quaestor disk.Disk).burn -/
def disk_Disk_burn (p0:Option Addr) (k:(Bool)->Heap->Prop) (h:Heap):Prop :=
  ∃ a1:Addr,p0=some a1/\(∃ v2:Int,cellH h (a1.add 4)=some (.int .i64 v2)/\(∃ h3:Heap,WrH h (a1.add 4)/\h3=setH h (a1.add 4) (.int .i64 (IntKind.i64.wrap (v2 + 1)))/\(∃ v4:Int,cellH h3 (a1.add 2)=some (.int .i64 v4)/\(if (v4 == 0) then (k false h3) else (∃ v5:Int,cellH h3 (a1.add 2)=some (.int .i64 v5)/\(∃ h6:Heap,WrH h3 (a1.add 2)/\h6=setH h3 (a1.add 2) (.int .i64 (IntKind.i64.wrap (v5 - 1)))/\(∃ v7:Int,cellH h6 (a1.add 2)=some (.int .i64 v7)/\(∃ h8:Heap,WrH h6 (a1.add 3)/\h8=setH h6 (a1.add 3) (.bool (v7 == 0))/\(∃ v9:Bool,cellH h8 (a1.add 3)=some (.bool v9)/\(k v9 h8))))))))))
/-- quaestor disk.ended -/
def disk_ended (p0:Bool) (k:(Int)->Heap->Prop) (h:Heap):Prop :=
  if p0 then (k 10 h) else (k 0 h)
/-- (*quaestor disk.Disk).Write -/
def disk_Disk_Write_j1 (t0_1:Option Addr) (t1_1:Int) (t2_1:Slc) (k:(Int)->Heap->Prop) (h_1:Heap):Prop :=
  ∃ (b3:Nat) (h4:Heap),b3=h_1.size/\h4=h_1.push (.cells (S_disk_sector.cs (⟨([]:List Int),false⟩:S_disk_sector)).toArray 115)/\(∃ s5:Slc,(0:Int)<=0/\0<=(128:Int)/\128<=(128:Int)/\s5=subS ⟨some (⟨b3,0,none⟩:Addr),128,128⟩ 1 (0:Int).toNat (128:Int).toNat 128/\(∃ l6:List Value,Cpy 1 h4 s5 t2_1 l6 (fun h7=>∃ a8:Addr,t0_1=some a8/\(∃ v9:Option Nat,cellH h7 a8=some (.map v9)/\(∃ v10:S_disk_sector,CellsAt h7 (⟨b3,0,none⟩:Addr) (S_disk_sector.cs v10)/\(∃ (r11:Nat) (l12:List (Int × S_disk_sector)) (h13:Heap),v9=some r11/\MapAt (K:=Int) (V:=S_disk_sector) (.int .i64) (Value.int .i64) (fun v:S_disk_sector=>Value.agg (S_disk_sector.cs v).toArray) h7 (some r11) l12/\h13=setM h7 r11 ((Value.int .i64) t1_1) (.agg (S_disk_sector.cs v10).toArray)/\(disk_Disk_burn t0_1 (fun (r14:Bool) h15=>disk_ended r14 (fun (r16:Int) h17=>k r16 h17) h15) h13)))))))
def disk_Disk_Write (p0:Option Addr) (p1:Int) (p2:Slc) (k:(Int)->Heap->Prop) (h:Heap):Prop :=
  disk_Disk_power p0 (fun (r1:Bool) h2=>if (!r1) then (k 10 h2) else (if ((decide (p1 < 0)) || (decide (p1>=1024))) then (k 1 h2) else (if (decide ((p2.len:Int) > 128)) then (k 3 h2) else (∃ a18:Addr,p0=some a18/\(∃ v19:Option Nat,cellH h2 (a18.add 1)=some (.map v19)/\(∃ l20:List (Int × S_disk_sector),MapAt (K:=Int) (V:=S_disk_sector) (.int .i64) (Value.int .i64) (fun v:S_disk_sector=>Value.agg (S_disk_sector.cs v).toArray) h2 v19 l20/\(∃ (b21:Nat) (h22:Heap),b21=h2.size/\h22=h2.push (.cells (S_disk_sector.cs (⟨([]:List Int),false⟩:S_disk_sector)).toArray 115)/\(∃ h23:Heap,WrsAt h22 (⟨b21,0,none⟩:Addr) 129/\h23=setsH h22 (⟨b21,0,none⟩:Addr) 0 (S_disk_sector.cs ((mget l20 p1).getD (⟨([]:List Int),false⟩:S_disk_sector)))/\(if (!(mget l20 p1).isSome) then (∃ v24:Option Nat,cellH h23 (a18.add 1)=some (.map v24)/\(∃ v25:Option Nat,cellH h23 a18=some (.map v25)/\(∃ l26:List (Int × S_disk_sector),MapAt (K:=Int) (V:=S_disk_sector) (.int .i64) (Value.int .i64) (fun v:S_disk_sector=>Value.agg (S_disk_sector.cs v).toArray) h23 v25 l26/\(∃ (r27:Nat) (l28:List (Int × S_disk_sector)) (h29:Heap),v24=some r27/\MapAt (K:=Int) (V:=S_disk_sector) (.int .i64) (Value.int .i64) (fun v:S_disk_sector=>Value.agg (S_disk_sector.cs v).toArray) h23 (some r27) l28/\h29=setM h23 r27 ((Value.int .i64) p1) (.agg (S_disk_sector.cs ((mget l26 p1).getD (⟨([]:List Int),false⟩:S_disk_sector))).toArray)/\(disk_Disk_Write_j1 p0 p1 p2 k h29))))) else (disk_Disk_Write_j1 p0 p1 p2 k h23)))))))))) h
/-- (*quaestor disk.Disk).Sync -/
def disk_Disk_Sync_j1 (t3_1:Bool) (k:(Int)->Heap->Prop) (h_1:Heap):Prop :=
  disk_ended t3_1 (fun (r5:Int) h6=>k r5 h6) h_1
def disk_Disk_Sync (p0:Option Addr) (k:(Int)->Heap->Prop) (h:Heap):Prop :=
  disk_Disk_power p0 (fun (r1:Bool) h2=>if (!r1) then (k 10 h2) else (disk_Disk_burn p0 (fun (r3:Bool) h4=>if (!r3) then (∃ a7:Addr,p0=some a7/\(∃ v8:Option Nat,cellH h4 (a7.add 1)=some (.map v8)/\(∃ (r9:Nat) (l10:List (Int × S_disk_sector)) (h11:Heap),v8=some r9/\MapAt (K:=Int) (V:=S_disk_sector) (.int .i64) (Value.int .i64) (fun v:S_disk_sector=>Value.agg (S_disk_sector.cs v).toArray) h4 (some r9) l10/\h11=clrM h4 r9/\(disk_Disk_Sync_j1 r3 k h11)))) else (disk_Disk_Sync_j1 r3 k h4)) h2)) h
/-- (*quaestor disk.Disk).Read -/
def disk_Disk_Read (p0:Option Addr) (p1:Int) (k:(Slc × Int)->Heap->Prop) (h:Heap):Prop :=
  if (((p0.isNone) || (decide (p1 < 0))) || (decide (p1>=1024))) then (k ((⟨none,0,0⟩:Slc),1) h) else (∃ a1:Addr,p0=some a1/\(∃ v2:Option Nat,cellH h a1=some (.map v2)/\(∃ l3:List (Int × S_disk_sector),MapAt (K:=Int) (V:=S_disk_sector) (.int .i64) (Value.int .i64) (fun v:S_disk_sector=>Value.agg (S_disk_sector.cs v).toArray) h v2 l3/\(∃ (b4:Nat) (h5:Heap),b4=h.size/\h5=h.push (.cells (S_disk_sector.cs (⟨([]:List Int),false⟩:S_disk_sector)).toArray 115)/\(∃ h6:Heap,WrsAt h5 (⟨b4,0,none⟩:Addr) 129/\h6=setsH h5 (⟨b4,0,none⟩:Addr) 0 (S_disk_sector.cs ((mget l3 p1).getD (⟨([]:List Int),false⟩:S_disk_sector)))/\(∃ v7:Bool,cellH h6 ((⟨b4,0,none⟩:Addr).add 128)=some (.bool v7)/\(if v7 then (k ((⟨none,0,0⟩:Slc),9) h6) else (∃ s8:Slc,(0:Int)<=0/\0<=(128:Int)/\128<=(128:Int)/\s8=subS ⟨some (⟨b4,0,none⟩:Addr),128,128⟩ 1 (0:Int).toNat (128:Int).toNat 128/\(k (s8,0) h6)))))))))
/-- (*quaestor disk.Disk).Boot -/
def disk_Disk_Boot_j2 (t0_2:Option Addr) (t1_2:Slc) (t14_2:Slc) (t15_2:Int) (t16_2:Int) (k:(Unit)->Heap->Prop) (nx1:(Int)->Heap->Prop) (h_2:Heap):Prop :=
  nx1 (IntKind.i64.wrap (t16_2 + 1)) h_2
def disk_Disk_Boot_j3 (t0_3:Option Addr) (t1_3:Slc) (t5_3:Int) (t14_3:Slc) (t15_3:Int) (t16_3:Int) (t6_3:Int) (k:(Unit)->Heap->Prop) (nx1:(Int)->Heap->Prop) (h_3:Heap):Prop :=
  if (t6_3 == 0) then (∃ a9:Addr,t0_3=some a9/\(∃ v10:Option Nat,cellH h_3 a9=some (.map v10)/\(∃ v11:Option Nat,cellH h_3 (a9.add 1)=some (.map v11)/\(∃ l12:List (Int × S_disk_sector),MapAt (K:=Int) (V:=S_disk_sector) (.int .i64) (Value.int .i64) (fun v:S_disk_sector=>Value.agg (S_disk_sector.cs v).toArray) h_3 v11 l12/\(∃ (r13:Nat) (l14:List (Int × S_disk_sector)) (h15:Heap),v10=some r13/\MapAt (K:=Int) (V:=S_disk_sector) (.int .i64) (Value.int .i64) (fun v:S_disk_sector=>Value.agg (S_disk_sector.cs v).toArray) h_3 (some r13) l14/\h15=setM h_3 r13 ((Value.int .i64) t5_3) (.agg (S_disk_sector.cs ((mget l12 t5_3).getD (⟨([]:List Int),false⟩:S_disk_sector))).toArray)/\(disk_Disk_Boot_j2 t0_3 t1_3 t14_3 t15_3 t16_3 k nx1 h15)))))) else (if (t6_3 == 2) then (∃ a16:Addr,t0_3=some a16/\(∃ v17:Option Nat,cellH h_3 a16=some (.map v17)/\(∃ (r18:Nat) (l19:List (Int × S_disk_sector)) (h20:Heap),v17=some r18/\MapAt (K:=Int) (V:=S_disk_sector) (.int .i64) (Value.int .i64) (fun v:S_disk_sector=>Value.agg (S_disk_sector.cs v).toArray) h_3 (some r18) l19/\h20=setM h_3 r18 ((Value.int .i64) t5_3) (.agg (S_disk_sector.cs (⟨([]:List Int),true⟩:S_disk_sector)).toArray)/\(disk_Disk_Boot_j2 t0_3 t1_3 t14_3 t15_3 t16_3 k nx1 h20)))) else (disk_Disk_Boot_j2 t0_3 t1_3 t14_3 t15_3 t16_3 k nx1 h_3))
def disk_Disk_Boot_l1b (t0_1:Option Addr) (t1_1:Slc) (t14_1:Slc) (t15_1:Int) (t16_1:Int) (k:(Unit)->Heap->Prop) (nx1:(Int)->Heap->Prop) (h_1:Heap):Prop :=
  if (decide (t16_1 < t15_1)) then (∃ a7:Addr,t14_1.a=some a7/\(0:Int)<=t16_1/\t16_1 < (t14_1.len:Int)/\(∃ v8:Int,cellH h_1 (a7.add (t16_1.toNat * 1))=some (.int .i64 v8)/\(if (decide ((t1_1.len:Int) > 0)) then ((t1_1.len:Int)≠0/\(∃ a22:Addr,t1_1.a=some a22/\(0:Int)<=(Int.tmod t16_1 (t1_1.len:Int))/\(Int.tmod t16_1 (t1_1.len:Int)) < (t1_1.len:Int)/\(∃ v23:Int,cellH h_1 (a22.add ((Int.tmod t16_1 (t1_1.len:Int)).toNat * 1))=some (.int .u8 v23)/\(∃ x24:Int,x24=(Int.tmod v23 3)/\(disk_Disk_Boot_j3 t0_1 t1_1 v8 t14_1 t15_1 t16_1 x24 k nx1 h_1))))) else (disk_Disk_Boot_j3 t0_1 t1_1 v8 t14_1 t15_1 t16_1 0 k nx1 h_1)))) else (∃ a25:Addr,t0_1=some a25/\(∃ v26:Option Nat,cellH h_1 (a25.add 1)=some (.map v26)/\(∃ (r27:Nat) (l28:List (Int × S_disk_sector)) (h29:Heap),v26=some r27/\MapAt (K:=Int) (V:=S_disk_sector) (.int .i64) (Value.int .i64) (fun v:S_disk_sector=>Value.agg (S_disk_sector.cs v).toArray) h_1 (some r27) l28/\h29=clrM h_1 r27/\(∃ h30:Heap,WrH h29 (a25.add 2)/\h30=setH h29 (a25.add 2) (.int .i64 0)/\(∃ h31:Heap,WrH h30 (a25.add 3)/\h31=setH h30 (a25.add 3) (.bool false)/\(k () h31))))))
def disk_Disk_Boot_l1 (t0_1:Option Addr) (t1_1:Slc) (t14_1:Slc) (t15_1:Int) (i16:Int) (k:(Unit)->Heap->Prop) (h:Heap):Prop :=
  ∃ (I:Int->Heap->Prop) (μ:Int->Heap->Nat),I i16 h/\∀ (t16_1:Int) (h:Heap),I t16_1 h->disk_Disk_Boot_l1b t0_1 t1_1 t14_1 t15_1 t16_1 k (fun s h'=>I s h'/\μ s h' < μ t16_1 h) h
def disk_Disk_Boot (p0:Option Addr) (p1:Slc) (k:(Unit)->Heap->Prop) (h:Heap):Prop :=
  if (p0.isNone) then (k () h) else (∃ a1:Addr,p0=some a1/\(∃ v2:Option Nat,cellH h (a1.add 1)=some (.map v2)/\(maps_Keys_map_int_disk_sector_int_disk_sector v2 (fun (r3:Value) h4=>slices_Sorted_int r3 (fun (r5:Slc) h6=>disk_Disk_Boot_l1 p0 p1 r5 (r5.len:Int) 0 k h6) h4) h)))
theorem O21:CallOk prog 21:=ck func21
theorem R21 ( k h) (H:disk_New k h):CallsH prog 21 #[] h (fun v h'=>∃ r:Option Addr,v = .pointer r/\k r h'):=by
 refine fE func21 fun w0=>?_
 refine zQ (w1 tok (zE (zQ ?_)))
 obtain ⟨b1,h2,eb1,eh2,H⟩:=H
 refine wH (h_mkm rfl eb1 eh2) ?_
 obtain ⟨b3,h4,eb3,eh4,H⟩:=H
 refine wH (h_mkm rfl eb3 eh4) ?_
 refine wY (y_build tok rfl rfl rfl rfl rfl) ?_
 refine wX H fun b5 h6 H=>?_
 refine w1 tok (zE (zT ?_))
 exact x_ret _ rfl _ rfl ⟨(some (ad b5)),rfl,H⟩
theorem O113:CallOk prog 113:=ck func113
theorem R113 (p0 k h) (H:disk_Disk_power p0 k h):CallsH prog 113 #[.pointer p0] h (fun v h'=>∃ r:Bool,v = .bool r/\k r h'):=by
 refine fE func113 fun w0=>?_
 refine zF [0] (zQ ?_)
 refine w1 tok (zE (zQ ?_))
 refine w3 tok ?_
 refine vJ 6 (α:=Bool) [] (fun (s:Bool)=>[(11,.bool s)]) (fun (s:Bool) h=>disk_Disk_power_g1 s k h) ?_ ?_
 rintro t11_1 h_1 H
 refine vF [11] ?_
 refine w1 tok (zE (zT ?_))
 exact x_ret _ rfl _ rfl ⟨t11_1,rfl,H⟩
 refine vI 5 H ?_ ?_ <;> intro H
 refine w1 tok ?_
 refine wN H fun a1 _ H=>?_
 refine w1 tok ?_
 refine wL tok H fun v2 H=>?_
 refine w2 tok ?_
 exact wJ (!v2) H
 refine wS (wS (wS (wS (wS (w1 tok ?_)))))
 exact wJ false H
theorem O115:CallOk prog 115:=ck func115
theorem R115 (p0 k h) (H:disk_Disk_burn p0 k h):CallsH prog 115 #[.pointer p0] h (fun v h'=>∃ r:Bool,v = .bool r/\k r h'):=by
 refine fE func115 fun w0=>?_
 refine zF [0] (zQ ?_)
 refine w1 tok (zE (zQ ?_))
 refine w1 tok ?_
 refine wN H fun a1 ha1 H=>?_
 refine w1 tok ?_
 refine wL tok H fun v2 H=>?_
 refine w1 tok ?_
 refine wY (y_nil' rfl rfl ha1) ?_
 refine w1 tok ?_
 refine wT tok H fun h3 H=>?_
 refine zE (zF [0] (zS (zQ ?_)))
 refine w1 tok ?_
 refine wY (y_nil' rfl rfl ha1) ?_
 refine w1 tok ?_
 refine wL tok H fun v4 H=>?_
 refine w1 tok (zE ?_)
 refine zI H ?_ ?_ <;> intro H
 refine zQ (w1 tok (zE (zT (yT ?_))))
 exact x_ret _ rfl _ rfl ⟨false,rfl,H⟩
 refine zK (zX (zQ (w1 tok ?_)))
 refine wY (y_nil' rfl rfl ha1) ?_
 refine w1 tok ?_
 refine wL tok H fun v5 H=>?_
 refine w1 tok ?_
 refine wY (y_nil' rfl rfl ha1) ?_
 refine w1 tok ?_
 refine wT tok H fun h6 H=>?_
 refine zE (zF [0] (zQ ?_))
 refine w2 tok ?_
 refine wY (y_nil' rfl rfl ha1) ?_
 refine w1 tok ?_
 refine wL tok H fun v7 H=>?_
 refine w1 tok ?_
 refine wY (y_nil' rfl rfl ha1) ?_
 refine w1 tok ?_
 refine wT tok H fun h8 H=>?_
 refine zE (zF [0] (zQ ?_))
 refine w1 tok ?_
 refine wY (y_nil' rfl rfl ha1) ?_
 refine w1 tok ?_
 refine wL tok H fun v9 H=>?_
 refine w1 tok (zE (zT ?_))
 exact x_ret _ rfl _ rfl ⟨v9,rfl,H⟩
theorem O114:CallOk prog 114:=ck func114
theorem R114 (p0 k h) (H:disk_ended p0 k h):CallsH prog 114 #[.bool p0] h (fun v h'=>∃ r:Int,v = .int .i64 r/\k r h'):=by
 refine fE func114 fun w0=>?_
 refine zF [0] (zQ ?_)
 refine w1 tok (zE (zS (zQ ?_)))
 refine w1 tok (zE ?_)
 refine zI H ?_ ?_ <;> intro H
 refine zQ (w1 tok (zE (zT (yT ?_))))
 exact x_ret _ rfl _ rfl ⟨10,rfl,H⟩
 refine zK (zX (zQ (w1 tok (zE (zT ?_)))))
 exact x_ret _ rfl _ rfl ⟨0,rfl,H⟩
theorem O85:CallOk prog 85:=ck func85
theorem R85 (p0 p1 p2 k h) (H:disk_Disk_Write p0 p1 p2 k h):CallsH prog 85 #[.pointer p0,.int .i64 p1,Slc.v p2] h (fun v h'=>∃ r:Int,v = .int .i64 r/\k r h'):=by
 refine fE func85 fun w0=>?_
 refine zF [0,1,2] (zQ ?_)
 refine w1 tok (zE (zS (zB (zQ ?_))))
 refine w1 tok ?_
 refine wC O113 (R113 _ _ _ H) fun r1 h2 H=>?_
 refine w2 tok (zE ?_)
 refine zI H ?_ ?_ <;> intro H
 refine zQ (w1 tok (zE (zF [6] (zT (yB (yT ?_))))))
 exact x_ret _ rfl _ rfl ⟨10,rfl,H⟩
 refine zQ (w3 tok ?_)
 refine vU 3 [0,1,2] [(20,.bool ((decide (p1 < 0)) || (decide (p1>=1024))))] ?_ ?_
 refine w1 tok (zE ?_)
 refine zI H ?_ ?_ <;> intro H
 refine zQ (w1 tok (zE (zT (yB (yT ?_)))))
 exact x_ret _ rfl _ rfl ⟨1,rfl,H⟩
 refine zQ (w4 tok (zE ?_))
 refine zI H ?_ ?_ <;> intro H
 refine zQ (w1 tok (zE (zF [6] (zT (yB (yT ?_))))))
 exact x_ret _ rfl _ rfl ⟨3,rfl,H⟩
 refine zK (yL (zX ?_))
 refine zJ (α:=Unit) [0,1,2] (fun (s:Unit)=>[]) (fun (s:Unit) h=>disk_Disk_Write_j1 p0 p1 p2 k h) ?_ ?_
 rintro _ h_1 H
 refine zF [0,1,2] (zQ ?_)
 refine wB tok H fun b3 h4 H=>?_
 refine zE (zQ (w1 tok ?_))
 obtain ⟨s5,ps5,qs5,rs5,es5,H⟩:=H
 refine wYe (y_sla (L:=0) (H:=128) tok rfl rfl rfl rfl rfl rfl ps5 qs5 rs5) (congrArg Slc.v es5) ?_
 refine w1 tok ?_
 obtain ⟨l6,H⟩:=H
 refine wA (a_cpy (d:=s5) (s:=p2) tok rfl rfl rfl rfl rfl H) ?_
 rintro _ h7 ⟨rfl,H⟩
 refine zE (zS ?_)
 refine gB [0,1,9] ?_
 refine gT 0 [0] tok ?_
 obtain ⟨a8,ha8,H⟩:=H
 refine gY 1 [51] rfl (fun _=>y_nil' rfl rfl ha8) ?_
 refine gT 2 [52] tok ?_
 obtain ⟨v9,hv9,H⟩:=H
 refine gL 3 [53] rfl (y_ld tok rfl rfl rfl rfl hv9) ?_
 refine gT 4 [1] tok ?_
 obtain ⟨v10,hv10,H⟩:=H
 refine gL 5 [9] rfl (y_lda tok rfl rfl rfl rfl rfl hv10) ?_
 obtain ⟨r11,l12,h13,er11,hl12,eh13,H⟩:=H
 refine gH 6 [54,55,56] rfl (h_mu (K:=Int) (V:=S_disk_sector) (d:=(.int .i64)) (kf:=(Value.int .i64)) (vf:=(fun v:S_disk_sector=>Value.agg (S_disk_sector.cs v).toArray)) (kt:=3) (et:=115) (k:=p1) (v:=v10) (m:=v9) (l:=l12) rfl rfl rfl rfl (by kernel_rfl) (by kernel_rfl) (kInt .i64) er11 hl12 eh13) ?_
 refine gZ ?_
 refine zX (zF [0] (zQ ?_))
 refine w1 tok ?_
 refine wC O115 (R115 _ _ _ H) fun r14 h15 H=>?_
 refine wC O114 (R114 _ _ _ H) fun r16 h17 H=>?_
 refine w1 tok (zE (zT ?_))
 exact x_ret _ rfl _ rfl ⟨r16,rfl,H⟩
 refine zQ (w1 tok ?_)
 refine wN H fun a18 ha18 H=>?_
 refine w1 tok ?_
 refine wL tok H fun v19 H=>?_
 refine w1 tok ?_
 obtain ⟨l20,hl20,H⟩:=H
 refine wY (y_lk2 (K:=Int) (V:=S_disk_sector) (d:=(.int .i64)) (kf:=(Value.int .i64)) (vf:=(fun v:S_disk_sector=>Value.agg (S_disk_sector.cs v).toArray)) (kt:=3) (et:=115) (k:=p1) (z:=(⟨([]:List Int),false⟩:S_disk_sector)) (m:=v19) (l:=l20) rfl rfl rfl (by kernel_rfl) (by kernel_rfl) (kInt .i64) (zero_a tok (T:=tab) rfl rfl rfl) hl20) ?_
 refine w3 tok ?_
 refine wB tok H fun b21 h22 H=>?_
 refine wTa tok H fun h23 H=>?_
 refine w1 tok (zE (zF [0,1,2,8] (zQ ?_)))
 refine w2 tok (zE ?_)
 refine zI H ?_ ?_ <;> intro H
 refine gB [0,1,2] ?_
 refine gT 0 [0] tok ?_
 refine gY 1 [36] rfl (fun _=>y_nil' rfl rfl ha18) ?_
 refine gT 2 [37] tok ?_
 obtain ⟨v24,hv24,H⟩:=H
 refine gL 3 [38] rfl (y_ld tok rfl rfl rfl rfl hv24) ?_
 refine gT 4 [1] tok ?_
 refine gT 5 [0] tok ?_
 refine gY 6 [41] rfl (fun _=>y_nil' rfl rfl ha18) ?_
 refine gT 7 [42] tok ?_
 obtain ⟨v25,hv25,H⟩:=H
 refine gL 8 [43] rfl (y_ld tok rfl rfl rfl rfl hv25) ?_
 refine gT 9 [1] tok ?_
 obtain ⟨l26,hl26,H⟩:=H
 refine gL 10 [44,45] rfl (y_lk (K:=Int) (V:=S_disk_sector) (d:=(.int .i64)) (kf:=(Value.int .i64)) (vf:=(fun v:S_disk_sector=>Value.agg (S_disk_sector.cs v).toArray)) (kt:=3) (et:=115) (k:=p1) (z:=(⟨([]:List Int),false⟩:S_disk_sector)) (m:=v25) (l:=l26) rfl rfl rfl (by kernel_rfl) (by kernel_rfl) (kInt .i64) (zero_a tok (T:=tab) rfl rfl rfl) hl26) ?_
 obtain ⟨r27,l28,h29,er27,hl28,eh29,H⟩:=H
 refine gH 11 [39,40,46] rfl (h_mu (K:=Int) (V:=S_disk_sector) (d:=(.int .i64)) (kf:=(Value.int .i64)) (vf:=(fun v:S_disk_sector=>Value.agg (S_disk_sector.cs v).toArray)) (kt:=3) (et:=115) (k:=p1) (v:=((mget l26 p1).getD (⟨([]:List Int),false⟩:S_disk_sector))) (m:=v24) (l:=l28) rfl rfl rfl rfl (by kernel_rfl) (by kernel_rfl) (kInt .i64) er27 hl28 eh29) ?_
 refine gZ ?_
 exact xJ () H
 refine zK ?_
 exact xJ () H
 refine vG (d:=17) (fun hb=>?_) (fun hb=>?_)
 refine wS (wS (w1 tok ?_))
 refine vK ?_
 exact congrArg (fun b=>some (Value.bool b)) (or_t hb)
 refine w3 tok ?_
 refine vK ?_
 exact congrArg (fun b=>some (Value.bool b)) (or_f hb)
theorem O88:CallOk prog 88:=ck func88
theorem R88 (p0 k h) (H:disk_Disk_Sync p0 k h):CallsH prog 88 #[.pointer p0] h (fun v h'=>∃ r:Int,v = .int .i64 r/\k r h'):=by
 refine fE func88 fun w0=>?_
 refine zF [0] (zQ ?_)
 refine w1 tok (zE (zS (zQ ?_)))
 refine w1 tok ?_
 refine wC O113 (R113 _ _ _ H) fun r1 h2 H=>?_
 refine w1 tok (zE ?_)
 refine zI H ?_ ?_ <;> intro H
 refine zQ (w1 tok (zE (zT (yT ?_))))
 exact x_ret _ rfl _ rfl ⟨10,rfl,H⟩
 refine zK (zX (zQ (w1 tok ?_)))
 refine wC O115 (R115 _ _ _ H) fun r3 h4 H=>?_
 refine w1 tok (zE ?_)
 refine zJ (α:=Unit) [3] (fun (s:Unit)=>[]) (fun (s:Unit) h=>disk_Disk_Sync_j1 r3 k h) ?_ ?_
 rintro _ h_1 H
 refine zF [3] (zQ ?_)
 refine w1 tok ?_
 refine wC O114 (R114 _ _ _ H) fun r5 h6 H=>?_
 refine w1 tok (zE (zT ?_))
 exact x_ret _ rfl _ rfl ⟨r5,rfl,H⟩
 refine zQ (w2 tok (zE (zF [0,3,10] ?_)))
 refine zI H ?_ ?_ <;> intro H
 refine zR (w1 tok ?_)
 refine wN H fun a7 _ H=>?_
 refine w1 tok ?_
 refine wL tok H fun v8 H=>?_
 obtain ⟨r9,l10,h11,er9,hl10,eh11,H⟩:=H
 refine wH (h_clr (K:=Int) (V:=S_disk_sector) (d:=(.int .i64)) (kf:=(Value.int .i64)) (vf:=(fun v:S_disk_sector=>Value.agg (S_disk_sector.cs v).toArray)) (kt:=3) (et:=115) (m:=v8) (l:=l10) rfl rfl (by kernel_rfl) er9 hl10 eh11) ?_
 refine zW ?_
 exact xJ () H
 refine zK ?_
 exact xJ () H
theorem O90:CallOk prog 90:=ck func90
theorem R90 (p0 p1 k h) (H:disk_Disk_Read p0 p1 k h):CallsH prog 90 #[.pointer p0,.int .i64 p1] h (fun v h'=>∃ r:Slc × Int,v = .tuple #[Slc.v r.1,.int .i64 r.2]/\k r h'):=by
 refine fE func90 fun w0=>?_
 refine zF [0,1] (zQ ?_)
 refine w2 tok (zE (zS (zQ ?_)))
 refine w3 tok ?_
 refine vU 3 [0,1] [(12,.bool ((p0.isNone) || (decide (p1 < 0))))] ?_ ?_
 refine w1 tok ?_
 refine vU 3 [0,1] [(16,.bool (((p0.isNone) || (decide (p1 < 0))) || (decide (p1>=1024))))] ?_ ?_
 refine zE ?_
 refine zI H ?_ ?_ <;> intro H
 refine zQ (w2 tok (zE (zT (yT ?_))))
 exact x_ret _ rfl _ rfl ⟨((⟨none,0,0⟩:Slc),1),rfl,H⟩
 refine zK (zX (zQ (w1 tok ?_)))
 refine wN H fun a1 _ H=>?_
 refine w1 tok ?_
 refine wL tok H fun v2 H=>?_
 refine w1 tok ?_
 obtain ⟨l3,hl3,H⟩:=H
 refine wY (y_lk (K:=Int) (V:=S_disk_sector) (d:=(.int .i64)) (kf:=(Value.int .i64)) (vf:=(fun v:S_disk_sector=>Value.agg (S_disk_sector.cs v).toArray)) (kt:=3) (et:=115) (k:=p1) (z:=(⟨([]:List Int),false⟩:S_disk_sector)) (m:=v2) (l:=l3) rfl rfl rfl (by kernel_rfl) (by kernel_rfl) (kInt .i64) (zero_a tok (T:=tab) rfl rfl rfl) hl3) ?_
 refine wB tok H fun b4 h5 H=>?_
 refine wTa tok H fun h6 H=>?_
 refine zE (zF [6] (zS (zQ ?_)))
 refine w1 tok ?_
 refine wL tok H fun v7 H=>?_
 refine zE ?_
 refine zI H ?_ ?_ <;> intro H
 refine zQ (w2 tok (zE (zT (yT ?_))))
 exact x_ret _ rfl _ rfl ⟨((⟨none,0,0⟩:Slc),9),rfl,H⟩
 refine zK (zX (zQ (w1 tok ?_)))
 obtain ⟨s8,ps8,qs8,rs8,es8,H⟩:=H
 refine wYe (y_sla (L:=0) (H:=128) tok rfl rfl rfl rfl rfl rfl ps8 qs8 rs8) (congrArg Slc.v es8) ?_
 refine w2 tok (zE (zT ?_))
 exact x_ret _ rfl _ rfl ⟨(s8,0),rfl,H⟩
 refine vG (d:=13) (fun hb=>?_) (fun hb=>?_)
 refine wS (wS (w1 tok ?_))
 refine vK ?_
 exact congrArg (fun b=>some (Value.bool b)) (or_t hb)
 refine w3 tok ?_
 refine vK ?_
 exact congrArg (fun b=>some (Value.bool b)) (or_f hb)
 refine vG (d:=9) (fun hb=>?_) (fun hb=>?_)
 refine wS (wS (w1 tok ?_))
 refine vK ?_
 exact congrArg (fun b=>some (Value.bool b)) (or_t hb)
 refine w3 tok ?_
 refine vK ?_
 exact congrArg (fun b=>some (Value.bool b)) (or_f hb)
theorem O31:CallOk prog 31:=ck func31
theorem R31 (p0 p1 k h) (H:disk_Disk_Boot p0 p1 k h):CallsH prog 31 #[.pointer p0,Slc.v p1] h (fun v h'=>∃ r:Unit,v = .tuple #[]/\k r h'):=by
 refine fE func31 fun w0=>?_
 refine zF [0,1] (zS (zQ ?_))
 refine w2 tok (zE ?_)
 refine zI H ?_ ?_ <;> intro H
 refine zT (yT ?_)
 exact x_ret _ rfl _ rfl ⟨(),rfl,H⟩
 refine zK (zX (zS (zQ (w1 tok ?_))))
 refine wN H fun a1 _ H=>?_
 refine w1 tok ?_
 refine wL tok H fun v2 H=>?_
 refine wC maps_Keys_map_int_disk_sector_int_disk_sector_ok (maps_Keys_map_int_disk_sector_int_disk_sector_ref _ _ _ H) fun r3 h4 H=>?_
 refine wC slices_Sorted_int_ok (slices_Sorted_int_ref _ _ _ H) fun r5 h6 H=>?_
 refine w2 tok (zE (zF [0,1,14,15,16] (zB ?_)))
 obtain ⟨I1,μ1,H0,HI⟩:=H
 refine zO (σ:=Int) [0,1,14,15] (fun (s:Int)=>[(16,.int .i64 s)]) I1 μ1 0 H0 ?_
 rintro t16_1 h_1 H
 replace H:=HI t16_1 h_1 H
 refine zF [16,0,1,14,15] (zQ ?_)
 refine w1 tok (zE (zS ?_))
 refine zI H ?_ ?_ <;> intro H
 refine zK (zX ?_)
 refine zJ (α:=Unit) [0,1,14,15,16] (fun (s:Unit)=>[]) (fun (s:Unit) h=>disk_Disk_Boot_j2 p0 p1 r5 (r5.len:Int) t16_1 k (fun s h'=>I1 s h'/\μ1 s h' < μ1 t16_1 h_1) h) ?_ ?_
 rintro _ h_2 H
 refine zF [0,1,14,15,16] (zR ?_)
 refine w2 tok (zW ?_)
 exact xJ (IntKind.i64.wrap (t16_1 + 1)) H
 refine zB (zQ (w1 tok ?_))
 refine wD tok H fun a7 _ H=>?_
 refine wL tok H fun v8 H=>?_
 refine w2 tok (zE (zQ ?_))
 refine w1 tok (zE ?_)
 refine zJ (α:=Int) [0,1,5,14,15,16] (fun (s:Int)=>[(6,.int .u8 s)]) (fun (s:Int) h=>disk_Disk_Boot_j3 p0 p1 v8 r5 (r5.len:Int) t16_1 s k (fun s h'=>I1 s h'/\μ1 s h' < μ1 t16_1 h_1) h) ?_ ?_
 rintro t6_3 h_3 H
 refine zF [6,0,1,5,14,15,16] (zQ ?_)
 refine w1 tok (zE (zB (zQ ?_)))
 refine w2 tok (zE ?_)
 refine zI H ?_ ?_ <;> intro H
 refine gB [0,1,5,14,15,16] ?_
 refine gT 0 [0] tok ?_
 obtain ⟨a9,ha9,H⟩:=H
 refine gY 1 [35] rfl (fun _=>y_nil' rfl rfl ha9) ?_
 refine gT 2 [36] tok ?_
 obtain ⟨v10,hv10,H⟩:=H
 refine gL 3 [37] rfl (y_ld tok rfl rfl rfl rfl hv10) ?_
 refine gT 4 [5] tok ?_
 refine gT 5 [0] tok ?_
 refine gY 6 [40] rfl (fun _=>y_nil' rfl rfl ha9) ?_
 refine gT 7 [41] tok ?_
 obtain ⟨v11,hv11,H⟩:=H
 refine gL 8 [42] rfl (y_ld tok rfl rfl rfl rfl hv11) ?_
 refine gT 9 [5] tok ?_
 obtain ⟨l12,hl12,H⟩:=H
 refine gL 10 [43,44] rfl (y_lk (K:=Int) (V:=S_disk_sector) (d:=(.int .i64)) (kf:=(Value.int .i64)) (vf:=(fun v:S_disk_sector=>Value.agg (S_disk_sector.cs v).toArray)) (kt:=3) (et:=115) (k:=v8) (z:=(⟨([]:List Int),false⟩:S_disk_sector)) (m:=v11) (l:=l12) rfl rfl rfl (by kernel_rfl) (by kernel_rfl) (kInt .i64) (zero_a tok (T:=tab) rfl rfl rfl) hl12) ?_
 obtain ⟨r13,l14,h15,er13,hl14,eh15,H⟩:=H
 refine gH 11 [38,39,45] rfl (h_mu (K:=Int) (V:=S_disk_sector) (d:=(.int .i64)) (kf:=(Value.int .i64)) (vf:=(fun v:S_disk_sector=>Value.agg (S_disk_sector.cs v).toArray)) (kt:=3) (et:=115) (k:=v8) (v:=((mget l12 v8).getD (⟨([]:List Int),false⟩:S_disk_sector))) (m:=v10) (l:=l14) rfl rfl rfl rfl (by kernel_rfl) (by kernel_rfl) (kInt .i64) er13 hl14 eh15) ?_
 refine gZ ?_
 refine yL (yL ?_)
 exact xJ () H
 refine zQ (w2 tok (zE ?_))
 refine zI H ?_ ?_ <;> intro H
 refine zR (w1 tok ?_)
 refine wN H fun a16 _ H=>?_
 refine w1 tok ?_
 refine wL tok H fun v17 H=>?_
 refine w1 tok ?_
 refine wY (y_build tok rfl rfl rfl rfl rfl) ?_
 obtain ⟨r18,l19,h20,er18,hl19,eh20,H⟩:=H
 refine wH (h_mu (K:=Int) (V:=S_disk_sector) (d:=(.int .i64)) (kf:=(Value.int .i64)) (vf:=(fun v:S_disk_sector=>Value.agg (S_disk_sector.cs v).toArray)) (kt:=3) (et:=115) (k:=v8) (v:=(⟨([]:List Int),true⟩:S_disk_sector)) (m:=v17) (l:=l19) rfl rfl rfl rfl (by kernel_rfl) (by kernel_rfl) (kInt .i64) er18 hl19 eh20) ?_
 refine zL (yL ?_)
 exact xJ () H
 refine zK (yL (yL ?_))
 exact xJ () H
 refine zQ (w3 tok (zE ?_))
 refine zI H ?_ ?_ <;> intro H
 refine zR (w4 tok ?_)
 obtain ⟨z21,H⟩:=H
 refine wY (y_rem rfl rfl rfl z21) ?_
 refine wD tok H fun a22 _ H=>?_
 refine wL tok H fun v23 H=>?_
 refine w1 tok ?_
 obtain ⟨x24,ex24,H⟩:=H
 refine w_pe tok rfl (congrArg (fun z=>(.int .u8 z:Value)) ex24) rfl rfl ?_
 refine zW ?_
 exact xJ x24 H
 refine zK ?_
 exact xJ 0 H
 refine zY (yE (yE (yH (zX (zQ (w1 tok ?_))))))
 refine wN H fun a25 ha25 H=>?_
 refine w1 tok ?_
 refine wL tok H fun v26 H=>?_
 obtain ⟨r27,l28,h29,er27,hl28,eh29,H⟩:=H
 refine wH (h_clr (K:=Int) (V:=S_disk_sector) (d:=(.int .i64)) (kf:=(Value.int .i64)) (vf:=(fun v:S_disk_sector=>Value.agg (S_disk_sector.cs v).toArray)) (kt:=3) (et:=115) (m:=v26) (l:=l28) rfl rfl (by kernel_rfl) er27 hl28 eh29) ?_
 refine zE (zF [0] (zR ?_))
 refine w2 tok ?_
 refine wY (y_nil' rfl rfl ha25) ?_
 refine w1 tok ?_
 refine wT tok H fun h30 H=>?_
 refine wY (y_nil' rfl rfl ha25) ?_
 refine w1 tok ?_
 refine wT tok H fun h31 H=>?_
 refine zW ?_
 exact x_end _ rfl _ rfl ⟨(),rfl,H⟩
end Go.Q.Yk
end

/- A part of the proof of statements of this seat: lemmas, no statement of their own. -/
import Derived.Test.YtmmpamfadeonmaaGreatDoorYkZae
import Derived.Test.YtmmpamfadeonmaaGreatDoorYkZaf
import Derived.Test.YtmmpamfadeonmaaGreatDoorYkZas
import Derived.Test.YtmmpamfadeonmaaGreatDoorYkZat
import Derived.Test.YtmmpamfadeonmaaGreatDoorYkZai
set_option linter.unusedVariables false
set_option linter.unusedSimpArgs false
section
set_option maxRecDepth 100000
set_option maxHeartbeats 1000000
namespace Go.Q.Yk
open Go.Proofs.Tryz
open Go.RowKit in
theorem eqv152_S_journal_head (a b:S_journal_head) (w:World):(Op.equal 152 (.agg (S_journal_head.cs a).toArray) (.agg (S_journal_head.cs b).toArray)).run Go.Proofs.Tryz.prog w = .ok ((a.f_epoch == b.f_epoch) && (a.f_number == b.f_number) && (a.f_part == b.f_part) && (a.f_parts == b.f_parts) && (a.f_size == b.f_size)) w:=by
  have hS:Go.Proofs.Tryz.prog.underlying 152=some (.struct (Go.Proofs.Tryz.prog.fieldsOf 152)):=by kernel_rfl
  have hp:Go.Proofs.Tryz.prog.stoodInHeld 152=false:=by kernel_rfl
  have u3:=Go.Proofs.Tryz.underlying3
  have a3:∀ w,(isAgg 3).run Go.Proofs.Tryz.prog w = .ok false w:=Go.Proofs.Tryz.isAgg3
  have u22:=Go.Proofs.Tryz.underlying22
  have a22:∀ w,(isAgg 22).run Go.Proofs.Tryz.prog w = .ok false w:=Go.Proofs.Tryz.isAgg22
  unfold Op.equal Op.maxDepth
  rw [show (10000:Nat)=9999 + 1 from rfl,run_equalIn_struct w 9999 152 _ _ hS hp]
  simp only [Program.fieldsOf,Go.Proofs.Tryz.underlying152,S_journal_head.cs]
  go_simp
  by_cases h0:(a.f_epoch=b.f_epoch) <;> by_cases h1:(a.f_number=b.f_number) <;> by_cases h2:(a.f_part=b.f_part) <;> by_cases h3:(a.f_parts=b.f_parts) <;> by_cases h4:(a.f_size=b.f_size) <;> simp [h0,h1,h2,h3,h4]
/-- quaestor journal.Open -/
def journal_Open (p0:Option Addr) (k:(Option Addr × Int)->Heap->Prop) (h:Heap):Prop :=
  slot_Open p0 0 256 (fun (r1:Option Addr × Int) h2=>if (r1.2 != 0) then (k (none,r1.2) h2) else (∃ (b3:Nat) (h4:Heap),b3=h2.size/\h4=h2.push (.cells (S_journal_Store.cs (⟨p0,r1.1,false,0,0,0⟩:S_journal_Store)).toArray 137)/\(k ((some (⟨b3,0,none⟩:Addr)),0) h4))) h
/-- quaestor journal.field -/
def journal_field (p0:Slc) (p1:Int) (p2:Int) (k:(Int)->Heap->Prop) (h:Heap):Prop :=
  ∃ s1:Slc,(0:Int)<=p1/\(p1:Int)<=(p0.len:Int)/\((p0.len:Int):Int)<=(p0.cap:Int)/\(p0.cap:Int)<=(p0.cap:Int)/\s1=subS p0 1 p1.toNat (p0.len:Int).toNat (p0.cap:Int).toNat/\(num_Get s1 p2 (fun (r2:Int × Int) h3=>k r2.1 h3) h)
/-- quaestor journal.headOf -/
def journal_headOf (p0:Slc) (k:(S_journal_head)->Heap->Prop) (h:Heap):Prop :=
  ∃ (b1:Nat) (h2:Heap),b1=h.size/\h2=h.push (.cells (S_journal_head.cs (⟨0,0,0,0,0⟩:S_journal_head)).toArray 152)/\(journal_field p0 0 8 (fun (r3:Int) h4=>journal_field p0 8 4 (fun (r5:Int) h6=>journal_field p0 12 2 (fun (r7:Int) h8=>journal_field p0 14 2 (fun (r9:Int) h10=>journal_field p0 16 4 (fun (r11:Int) h12=>∃ h13:Heap,WrsAt h12 (⟨b1,0,none⟩:Addr) 5/\h13=setsH h12 (⟨b1,0,none⟩:Addr) 0 (S_journal_head.cs (⟨r3,r5,(IntKind.i64.wrap r7),(IntKind.i64.wrap r9),(IntKind.i64.wrap r11)⟩:S_journal_head))/\(∃ v14:S_journal_head,CellsAt h13 (⟨b1,0,none⟩:Addr) (S_journal_head.cs v14)/\k v14 h13)) h10) h8) h6) h4) h2)
/-- (quaestor journal.head).bytes -/
def journal_head_bytes (p0:S_journal_head) (k:(Slc)->Heap->Prop) (h:Heap):Prop :=
  ∃ (b1:Nat) (h2:Heap),b1=h.size/\h2=h.push (.cells (S_journal_head.cs p0).toArray 152)/\(∃ v3:Int,cellH h2 (⟨b1,0,none⟩:Addr)=some (.int .u64 v3)/\(∃ v4:Int,cellH h2 ((⟨b1,0,none⟩:Addr).add 1)=some (.int .u64 v4)/\(num_Put (⟨none,0,0⟩:Slc) v3 8 (fun (r5:Slc) h6=>cellH h6 ((⟨b1,0,none⟩:Addr).add 1)=some (.int .u64 v4)/\(num_Put r5 v4 4 (fun (r8:Slc) h9=>∃ v10:Int,cellH h9 ((⟨b1,0,none⟩:Addr).add 2)=some (.int .i64 v10)/\(∃ v11:Int,cellH h9 ((⟨b1,0,none⟩:Addr).add 3)=some (.int .i64 v11)/\(num_Put r8 (IntKind.u64.wrap v10) 2 (fun (r12:Slc) h13=>cellH h13 ((⟨b1,0,none⟩:Addr).add 3)=some (.int .i64 v11)/\(num_Put r12 (IntKind.u64.wrap v11) 2 (fun (r15:Slc) h16=>∃ v17:Int,cellH h16 ((⟨b1,0,none⟩:Addr).add 4)=some (.int .i64 v17)/\(num_Put r15 (IntKind.u64.wrap v17) 4 (fun (r18:Slc) h19=>k r18 h19) h16)) h13)) h9))) h6)) h2)))
/-- quaestor journal.parts -/
def journal_parts (p0:Int) (k:(Int)->Heap->Prop) (h:Heap):Prop :=
  ∃ x1:Int,x1=(if (IntKind.i64.wrap (Int.tdiv (IntKind.i64.wrap ((IntKind.i64.wrap (p0 + 108)) - 1)) 108)) > 1 then (IntKind.i64.wrap (Int.tdiv (IntKind.i64.wrap ((IntKind.i64.wrap (p0 + 108)) - 1)) 108)) else 1)/\(k x1 h)
/-- (*quaestor journal.Store).record -/
def journal_Store_record_j3 (t0_3:Option Addr) (t3_3:Int) (t10_3:Slc) (t11_3:Addr) (t12_3:Int) (t13_3:Slc) (t60_3:Bool) (k:(Slc × Bool)->Heap->Prop) (nx1:(Slc × Int)->Heap->Prop) (h_3:Heap):Prop :=
  if t60_3 then (k ((⟨none,0,0⟩:Slc),false) h_3) else (∃ s15:Slc,(0:Int)<=(IntKind.i64.wrap ((t13_3.len:Int) - 108))/\((IntKind.i64.wrap ((t13_3.len:Int) - 108)):Int)<=(t13_3.len:Int)/\((t13_3.len:Int):Int)<=(t13_3.cap:Int)/\(t13_3.cap:Int)<=(t13_3.cap:Int)/\s15=subS t13_3 1 (IntKind.i64.wrap ((t13_3.len:Int) - 108)).toNat (t13_3.len:Int).toNat (t13_3.cap:Int).toNat/\(∃ l18:List Value,SlcAt h_3 s15 l18/\App 5 1 1 [.int .u8 0] h_3 t10_3 s15.len l18 (fun s16 h17=>∃ x19:Int,x19=(IntKind.i64.wrap (t12_3 + 1))/\(nx1 (s16,x19) h17))))
def journal_Store_record_j2 (t0_2:Option Addr) (t3_2:Int) (t10_2:Slc) (t11_2:Addr) (t12_2:Int) (t13_2:Slc) (t15_2:Addr) (k:(Slc × Bool)->Heap->Prop) (nx1:(Slc × Int)->Heap->Prop) (h_2:Heap):Prop :=
  ∃ h14:Heap,WrH h_2 (t11_2.add 2)/\h14=setH h_2 (t11_2.add 2) (.int .i64 t12_2)/\(∃ v20:S_journal_head,CellsAt h14 t15_2 (S_journal_head.cs v20)/\(∃ v21:S_journal_head,CellsAt h14 t11_2 (S_journal_head.cs v21)/\(if (if BinOp.neq = .eql then ((v20.f_epoch == v21.f_epoch) && (v20.f_number == v21.f_number) && (v20.f_part == v21.f_part) && (v20.f_parts == v21.f_parts) && (v20.f_size == v21.f_size)) else !((v20.f_epoch == v21.f_epoch) && (v20.f_number == v21.f_number) && (v20.f_part == v21.f_part) && (v20.f_parts == v21.f_parts) && (v20.f_size == v21.f_size))) then (journal_Store_record_j3 t0_2 t3_2 t10_2 t11_2 t12_2 t13_2 true k nx1 h14) else (∃ v22:Int,cellH h14 (t15_2.add 3)=some (.int .i64 v22)/\(∃ v23:Int,cellH h14 (t15_2.add 4)=some (.int .i64 v23)/\(journal_parts v23 (fun (r24:Int) h25=>cellH h25 (t15_2.add 3)=some (.int .i64 v22)/\(journal_Store_record_j3 t0_2 t3_2 t10_2 t11_2 t12_2 t13_2 (v22 != r24) k nx1 h25)) h14))))))
def journal_Store_record_l1b (t0_1:Option Addr) (t3_1:Int) (t11_1:Addr) (t10_1:Slc) (t12_1:Int) (k:(Slc × Bool)->Heap->Prop) (nx1:(Slc × Int)->Heap->Prop) (h_1:Heap):Prop :=
  ∃ v4:Int,cellH h_1 (t11_1.add 3)=some (.int .i64 v4)/\(if (decide (t12_1 < v4)) then (∃ a5:Addr,t0_1=some a5/\(∃ v6:Option Addr,cellH h_1 a5=some (.pointer v6)/\(disk_Disk_Read v6 (IntKind.i64.wrap (t3_1 + t12_1)) (fun (r7:Slc × Int) h8=>if (r7.2 != 0) then (k ((⟨none,0,0⟩:Slc),false) h8) else (journal_headOf r7.1 (fun (r9:S_journal_head) h10=>∃ (b11:Nat) (h12:Heap),b11=h10.size/\h12=h10.push (.cells (S_journal_head.cs (⟨0,0,0,0,0⟩:S_journal_head)).toArray 152)/\(∃ h13:Heap,WrsAt h12 (⟨b11,0,none⟩:Addr) 5/\h13=setsH h12 (⟨b11,0,none⟩:Addr) 0 (S_journal_head.cs r9)/\(if (t12_1 == 0) then (∃ v27:Int,cellH h13 ((⟨b11,0,none⟩:Addr).add 3)=some (.int .i64 v27)/\(∃ v28:Int,cellH h13 ((⟨b11,0,none⟩:Addr).add 4)=some (.int .i64 v28)/\(∃ h29:Heap,WrH h13 (t11_1.add 3)/\h29=setH h13 (t11_1.add 3) (.int .i64 v27)/\(cellH h29 ((⟨b11,0,none⟩:Addr).add 4)=some (.int .i64 v28)/\(∃ h31:Heap,WrH h29 (t11_1.add 4)/\h31=setH h29 (t11_1.add 4) (.int .i64 v28)/\(journal_Store_record_j2 t0_1 t3_1 t10_1 t11_1 t12_1 r7.1 (⟨b11,0,none⟩:Addr) k nx1 h31)))))) else (journal_Store_record_j2 t0_1 t3_1 t10_1 t11_1 t12_1 r7.1 (⟨b11,0,none⟩:Addr) k nx1 h13)))) h8)) h_1))) else (∃ v32:Int,cellH h_1 (t11_1.add 4)=some (.int .i64 v32)/\(∃ s33:Slc,(0:Int)<=0/\(0:Int)<=v32/\(v32:Int)<=(t10_1.cap:Int)/\(t10_1.cap:Int)<=(t10_1.cap:Int)/\s33=subS t10_1 1 (0:Int).toNat v32.toNat (t10_1.cap:Int).toNat/\(k (s33,true) h_1))))
def journal_Store_record_l1 (t0_1:Option Addr) (t3_1:Int) (t11_1:Addr) (i10:Slc) (i12:Int) (k:(Slc × Bool)->Heap->Prop) (h:Heap):Prop :=
  ∃ (I:(Slc × Int)->Heap->Prop) (μ:(Slc × Int)->Heap->Nat),I (i10,i12) h/\∀ (t10_1:Slc) (t12_1:Int) (h:Heap),I (t10_1,t12_1) h->journal_Store_record_l1b t0_1 t3_1 t11_1 t10_1 t12_1 k (fun s h'=>I s h'/\μ s h' < μ (t10_1,t12_1) h) h
def journal_Store_record (p0:Option Addr) (p1:Int) (p2:Int) (p3:Int) (k:(Slc × Bool)->Heap->Prop) (h:Heap):Prop :=
  ∃ (b1:Nat) (h2:Heap),b1=h.size/\h2=h.push (.cells (S_journal_head.cs (⟨0,0,0,0,0⟩:S_journal_head)).toArray 152)/\(∃ h3:Heap,WrsAt h2 (⟨b1,0,none⟩:Addr) 5/\h3=setsH h2 (⟨b1,0,none⟩:Addr) 0 (S_journal_head.cs (⟨p1,p2,0,1,0⟩:S_journal_head))/\(journal_Store_record_l1 p0 p3 (⟨b1,0,none⟩:Addr) (⟨none,0,0⟩:Slc) 0 k h3))
/-- (*quaestor journal.Store).begin -/
def journal_Store_begin (p0:Option Addr) (p1:Int) (k:(Unit)->Heap->Prop) (h:Heap):Prop :=
  ∃ a1:Addr,p0=some a1/\(∃ h2:Heap,WrH h (a1.add 3)/\h2=setH h (a1.add 3) (.int .u64 p1)/\(∃ h3:Heap,WrH h2 (a1.add 4)/\h3=setH h2 (a1.add 4) (.int .u64 0)/\(∃ h4:Heap,WrH h3 (a1.add 5)/\h4=setH h3 (a1.add 5) (.int .i64 512)/\(∃ h5:Heap,WrH h4 (a1.add 2)/\h5=setH h4 (a1.add 2) (.bool true)/\(k () h5)))))
/-- (*quaestor journal.Store).Save -/
def journal_Store_Save (p0:Option Addr) (p1:Slc) (k:(Int)->Heap->Prop) (h:Heap):Prop :=
  if (p0.isNone) then (k 1 h) else (∃ a1:Addr,p0=some a1/\(∃ v2:Option Addr,cellH h (a1.add 1)=some (.pointer v2)/\(slot_Pair_Save v2 p1 (fun (r3:Int × Int) h4=>if (r3.2 != 0) then (∃ h5:Heap,WrH h4 (a1.add 2)/\h5=setH h4 (a1.add 2) (.bool false)/\(k r3.2 h5)) else (journal_Store_begin p0 r3.1 (fun (r6:Unit) h7=>k 0 h7) h4)) h)))
/-- (*quaestor journal.Store).Append -/
def journal_Store_Append_l3b (t0_3:Option Addr) (t1_3:Slc) (t5_3:Addr) (t51_3:Int) (t52_3:Int) (k:(Int)->Heap->Prop) (nx3:(Int)->Heap->Prop) (h_3:Heap):Prop :=
  if (decide (t52_3 < t51_3)) then (∃ h8:Heap,WrH h_3 (t5_3.add 2)/\h8=setH h_3 (t5_3.add 2) (.int .i64 t52_3)/\(∃ a9:Addr,t0_3=some a9/\(∃ v10:Option Addr,cellH h8 a9=some (.pointer v10)/\(∃ v11:Int,cellH h8 (a9.add 5)=some (.int .i64 v11)/\(∃ v12:S_journal_head,CellsAt h8 t5_3 (S_journal_head.cs v12)/\(∃ s13:Slc,(0:Int)<=(IntKind.i64.wrap (t52_3 * 108))/\((IntKind.i64.wrap (t52_3 * 108)):Int)<=(if (IntKind.i64.wrap ((IntKind.i64.wrap (t52_3 * 108)) + 108)) < (t1_3.len:Int) then (IntKind.i64.wrap ((IntKind.i64.wrap (t52_3 * 108)) + 108)) else (t1_3.len:Int))/\((if (IntKind.i64.wrap ((IntKind.i64.wrap (t52_3 * 108)) + 108)) < (t1_3.len:Int) then (IntKind.i64.wrap ((IntKind.i64.wrap (t52_3 * 108)) + 108)) else (t1_3.len:Int)):Int)<=(t1_3.cap:Int)/\(t1_3.cap:Int)<=(t1_3.cap:Int)/\s13=subS t1_3 1 (IntKind.i64.wrap (t52_3 * 108)).toNat (if (IntKind.i64.wrap ((IntKind.i64.wrap (t52_3 * 108)) + 108)) < (t1_3.len:Int) then (IntKind.i64.wrap ((IntKind.i64.wrap (t52_3 * 108)) + 108)) else (t1_3.len:Int)).toNat (t1_3.cap:Int).toNat/\(journal_head_bytes v12 (fun (r14:Slc) h15=>cellH h15 (a9.add 5)=some (.int .i64 v11)/\cellH h15 a9=some (.pointer v10)/\(∃ (b18:Nat) (h19:Heap),b18=h15.size/\h19=h15.push (.cells ([Slc.v r14,Slc.v s13]).toArray 28)/\(cellH h19 (a9.add 5)=some (.int .i64 v11)/\cellH h19 a9=some (.pointer v10)/\(slices_Concat_byte_byte (⟨some ⟨b18,0,none⟩,2,2⟩:Slc) (fun (r22:Slc) h23=>cellH h23 (a9.add 5)=some (.int .i64 v11)/\cellH h23 a9=some (.pointer v10)/\(disk_Disk_Write v10 (IntKind.i64.wrap (v11 + t52_3)) r22 (fun (r26:Int) h27=>if (r26 != 0) then (k r26 h27) else (nx3 (IntKind.i64.wrap (t52_3 + 1)) h27)) h23)) h19)))) h8))))))) else (∃ a28:Addr,t0_3=some a28/\(∃ v29:Option Addr,cellH h_3 a28=some (.pointer v29)/\(disk_Disk_Sync v29 (fun (r30:Int) h31=>if (r30 != 0) then (k r30 h31) else (∃ v32:Int,cellH h31 (a28.add 4)=some (.int .u64 v32)/\(∃ v33:Int,cellH h31 (a28.add 5)=some (.int .i64 v33)/\(∃ v34:Int,cellH h31 (t5_3.add 3)=some (.int .i64 v34)/\(∃ h35:Heap,WrH h31 (a28.add 2)/\h35=setH h31 (a28.add 2) (.bool true)/\(cellH h35 (t5_3.add 3)=some (.int .i64 v34)/\(∃ h37:Heap,WrH h35 (a28.add 4)/\h37=setH h35 (a28.add 4) (.int .u64 (IntKind.u64.wrap (v32 + 1)))/\(cellH h37 (t5_3.add 3)=some (.int .i64 v34)/\(∃ h39:Heap,WrH h37 (a28.add 5)/\h39=setH h37 (a28.add 5) (.int .i64 (IntKind.i64.wrap (v33 + v34)))/\(k 0 h39)))))))))) h_3)))
def journal_Store_Append_l3 (t0_3:Option Addr) (t1_3:Slc) (t5_3:Addr) (t51_3:Int) (i52:Int) (k:(Int)->Heap->Prop) (h:Heap):Prop :=
  ∃ (I:Int->Heap->Prop) (μ:Int->Heap->Nat),I i52 h/\∀ (t52_3:Int) (h:Heap),I t52_3 h->journal_Store_Append_l3b t0_3 t1_3 t5_3 t51_3 t52_3 k (fun s h'=>I s h'/\μ s h' < μ t52_3 h) h
def journal_Store_Append_j2 (t0_2:Option Addr) (t1_2:Slc) (t5_2:Addr) (k:(Int)->Heap->Prop) (h_2:Heap):Prop :=
  ∃ v7:Int,cellH h_2 (t5_2.add 3)=some (.int .i64 v7)/\(journal_Store_Append_l3 t0_2 t1_2 t5_2 v7 0 k h_2)
def journal_Store_Append_g1 (t0_1:Option Addr) (t1_1:Slc) (t18_1:Bool) (k:(Int)->Heap->Prop) (h_1:Heap):Prop :=
  if t18_1 then (k 13 h_1) else (if (decide ((t1_1.len:Int) > 4096)) then (k 3 h_1) else (∃ a1:Addr,t0_1=some a1/\(∃ v2:Int,cellH h_1 (a1.add 5)=some (.int .i64 v2)/\(journal_parts (t1_1.len:Int) (fun (r3:Int) h4=>cellH h4 (a1.add 5)=some (.int .i64 v2)/\(if (decide ((IntKind.i64.wrap (v2 + r3)) > 1024)) then (k 8 h4) else (∃ h6:Heap,WrH h4 (a1.add 2)/\h6=setH h4 (a1.add 2) (.bool false)/\(∃ v40:Int,cellH h6 (a1.add 3)=some (.int .u64 v40)/\(∃ v41:Int,cellH h6 (a1.add 4)=some (.int .u64 v41)/\((journal_parts (t1_1.len:Int) (fun (r42:Int) h43=>cellH h43 (a1.add 4)=some (.int .u64 v41)/\cellH h43 (a1.add 3)=some (.int .u64 v40)/\(∃ (b46:Nat) (h47:Heap),b46=h43.size/\h47=h43.push (.cells (S_journal_head.cs (⟨0,0,0,0,0⟩:S_journal_head)).toArray 152)/\(cellH h47 (a1.add 4)=some (.int .u64 v41)/\cellH h47 (a1.add 3)=some (.int .u64 v40)/\(∃ h50:Heap,WrsAt h47 (⟨b46,0,none⟩:Addr) 5/\h50=setsH h47 (⟨b46,0,none⟩:Addr) 0 (S_journal_head.cs (⟨v40,v41,0,r42,(t1_1.len:Int)⟩:S_journal_head))/\(journal_Store_Append_j2 t0_1 t1_1 (⟨b46,0,none⟩:Addr) k h50))))) h6)/\(∃ (b51:Nat) (h52:Heap),b51=h6.size/\h52=h6.push (.cells (S_journal_head.cs (⟨0,0,0,0,0⟩:S_journal_head)).toArray 152)/\(cellH h52 (a1.add 4)=some (.int .u64 v41)/\cellH h52 (a1.add 3)=some (.int .u64 v40)/\(journal_parts (t1_1.len:Int) (fun (r55:Int) h56=>cellH h56 (a1.add 4)=some (.int .u64 v41)/\cellH h56 (a1.add 3)=some (.int .u64 v40)/\(∃ h59:Heap,WrsAt h56 (⟨b51,0,none⟩:Addr) 5/\h59=setsH h56 (⟨b51,0,none⟩:Addr) 0 (S_journal_head.cs (⟨v40,v41,0,r55,(t1_1.len:Int)⟩:S_journal_head))/\(journal_Store_Append_j2 t0_1 t1_1 (⟨b51,0,none⟩:Addr) k h59))) h52))))))))) h_1))))
def journal_Store_Append (p0:Option Addr) (p1:Slc) (k:(Int)->Heap->Prop) (h:Heap):Prop :=
  if (p0.isNone) then (journal_Store_Append_g1 p0 p1 true k h) else (∃ a60:Addr,p0=some a60/\(∃ v61:Bool,cellH h (a60.add 2)=some (.bool v61)/\(journal_Store_Append_g1 p0 p1 (!v61) k h)))
/-- (*quaestor journal.Store).Recover -/
def journal_Store_Recover_l1b (t0_1:Option Addr) (t2_1:Slc) (t5_1:Int) (t3_1:Slc) (t6_1:Int) (t7_1:Int) (k:(Slc × Slc × Int)->Heap->Prop) (nx1:(Slc × Int × Int)->Heap->Prop) (h_1:Heap):Prop :=
  journal_Store_record t0_1 t5_1 t7_1 t6_1 (fun (r5:Slc × Bool) h6=>if (!r5.2) then (k (t2_1,t3_1,0) h6) else (∃ (b7:Nat) (h8:Heap),b7=h6.size/\h8=h6.push (.cells ([Slc.v r5.1]).toArray 28)/\(App 28 1 24 [.slice none 0 0] h8 t3_1 1 ([Slc.v r5.1]) (fun s9 h10=>journal_parts (r5.1.len:Int) (fun (r11:Int) h12=>∃ x13:Int,x13=(IntKind.i64.wrap (t6_1 + r11))/\(∃ x14:Int,x14=(IntKind.u64.wrap (t7_1 + 1))/\(nx1 (s9,x13,x14) h12))) h10)))) h_1
def journal_Store_Recover_l1 (t0_1:Option Addr) (t2_1:Slc) (t5_1:Int) (i3:Slc) (i6:Int) (i7:Int) (k:(Slc × Slc × Int)->Heap->Prop) (h:Heap):Prop :=
  ∃ (I:(Slc × Int × Int)->Heap->Prop) (μ:(Slc × Int × Int)->Heap->Nat),I (i3,i6,i7) h/\∀ (t3_1:Slc) (t6_1:Int) (t7_1:Int) (h:Heap),I (t3_1,t6_1,t7_1) h->journal_Store_Recover_l1b t0_1 t2_1 t5_1 t3_1 t6_1 t7_1 k (fun s h'=>I s h'/\μ s h' < μ (t3_1,t6_1,t7_1) h) h
def journal_Store_Recover (p0:Option Addr) (k:(Slc × Slc × Int)->Heap->Prop) (h:Heap):Prop :=
  if (p0.isNone) then (k ((⟨none,0,0⟩:Slc),(⟨none,0,0⟩:Slc),6) h) else (∃ a1:Addr,p0=some a1/\(∃ v2:Option Addr,cellH h (a1.add 1)=some (.pointer v2)/\(slot_Pair_Load v2 (fun (r3:Slc × Int × Int) h4=>if (r3.2.2 != 0) then (k ((⟨none,0,0⟩:Slc),(⟨none,0,0⟩:Slc),r3.2.2) h4) else (journal_Store_Recover_l1 p0 r3.1 r3.2.1 (⟨none,0,0⟩:Slc) 512 0 k h4)) h)))
/-- (*quaestor journal.Store).Room -/
def journal_Store_Room_g1 (t0_1:Option Addr) (t11_1:Bool) (k:(Int)->Heap->Prop) (h_1:Heap):Prop :=
  if t11_1 then (k 0 h_1) else (∃ a1:Addr,t0_1=some a1/\(∃ v2:Int,cellH h_1 (a1.add 5)=some (.int .i64 v2)/\(∃ x3:Int,x3=(if (IntKind.i64.wrap ((IntKind.i64.wrap (1024 - v2)) * 108)) < 4096 then (IntKind.i64.wrap ((IntKind.i64.wrap (1024 - v2)) * 108)) else 4096)/\(k x3 h_1))))
def journal_Store_Room (p0:Option Addr) (k:(Int)->Heap->Prop) (h:Heap):Prop :=
  if (p0.isNone) then (journal_Store_Room_g1 p0 true k h) else (∃ a4:Addr,p0=some a4/\(∃ v5:Bool,cellH h (a4.add 2)=some (.bool v5)/\(journal_Store_Room_g1 p0 (!v5) k h)))
/-- quaestor journal.empty 1 -/
def journal_empty_1 (p0:Int) (k:(Bool)->Heap->Prop) (h:Heap):Prop :=
  k (p0 != 0) h
/-- slices.IndexFunc   byte byte  -/
def slices_IndexFunc_byte_byte__journal_empty_1_l1b (t0_1:Slc) (t7_1:Int) (t8_1:Int) (k:(Int)->Heap->Prop) (nx1:(Int)->Heap->Prop) (h_1:Heap):Prop :=
  if (decide (t8_1 < t7_1)) then (∃ a1:Addr,t0_1.a=some a1/\(0:Int)<=t8_1/\t8_1 < (t0_1.len:Int)/\(∃ v2:Int,cellH h_1 (a1.add (t8_1.toNat * 1))=some (.int .u8 v2)/\(journal_empty_1 v2 (fun (r3:Bool) h4=>if r3 then (k t8_1 h4) else (nx1 (IntKind.i64.wrap (t8_1 + 1)) h4)) h_1))) else (∃ x5:Int,x5=(-1)/\(k x5 h_1))
def slices_IndexFunc_byte_byte__journal_empty_1_l1 (t0_1:Slc) (t7_1:Int) (i8:Int) (k:(Int)->Heap->Prop) (h:Heap):Prop :=
  ∃ (I:Int->Heap->Prop) (μ:Int->Heap->Nat),I i8 h/\∀ (t8_1:Int) (h:Heap),I t8_1 h->slices_IndexFunc_byte_byte__journal_empty_1_l1b t0_1 t7_1 t8_1 k (fun s h'=>I s h'/\μ s h' < μ t8_1 h) h
def slices_IndexFunc_byte_byte__journal_empty_1 (p0:Slc) (k:(Int)->Heap->Prop) (h:Heap):Prop :=
  slices_IndexFunc_byte_byte__journal_empty_1_l1 p0 (p0.len:Int) 0 k h
/-- slices.ContainsFunc   byte byte  -/
def slices_ContainsFunc_byte_byte__journal_empty_1 (p0:Slc) (k:(Bool)->Heap->Prop) (h:Heap):Prop :=
  slices_IndexFunc_byte_byte__journal_empty_1 p0 (fun (r1:Int) h2=>k (decide (r1>=0)) h2) h
/-- quaestor journal.empty -/
def journal_empty (p0:Slc) (k:(Bool)->Heap->Prop) (h:Heap):Prop :=
  slices_ContainsFunc_byte_byte__journal_empty_1 p0 (fun (r1:Bool) h2=>k (!r1) h2) h
/-- (*quaestor journal.Store).Scrub -/
def journal_Store_Scrub_j2 (t0_2:Option Addr) (t5_2:Int) (t7_2:Int) (k:(Int)->Heap->Prop) (nx1:(Int)->Heap->Prop) (h_2:Heap):Prop :=
  ∃ x6:Int,x6=(IntKind.i64.wrap (t7_2 + 1))/\(nx1 x6 h_2)
def journal_Store_Scrub_g3 (t0_3:Option Addr) (t5_3:Int) (t7_3:Int) (t47_3:Bool) (k:(Int)->Heap->Prop) (nx1:(Int)->Heap->Prop) (h_3:Heap):Prop :=
  if t47_3 then (journal_Store_Scrub_j2 t0_3 t5_3 t7_3 k nx1 h_3) else (∃ a11:Addr,t0_3=some a11/\(∃ v12:Option Addr,cellH h_3 a11=some (.pointer v12)/\(disk_Disk_Write v12 t7_3 (⟨none,0,0⟩:Slc) (fun (r13:Int) h14=>if (r13 != 0) then (k r13 h14) else (journal_Store_Scrub_j2 t0_3 t5_3 t7_3 k nx1 h14)) h_3)))
def journal_Store_Scrub_l1b (t0_1:Option Addr) (t5_1:Int) (t7_1:Int) (k:(Int)->Heap->Prop) (nx1:(Int)->Heap->Prop) (h_1:Heap):Prop :=
  if (decide (t7_1 < 1024)) then (∃ a7:Addr,t0_1=some a7/\(∃ v8:Option Addr,cellH h_1 a7=some (.pointer v8)/\(disk_Disk_Read v8 t7_1 (fun (r9:Slc × Int) h10=>if (r9.2 == 0) then (journal_empty r9.1 (fun (r15:Bool) h16=>journal_Store_Scrub_g3 t0_1 t5_1 t7_1 r15 k nx1 h16) h10) else (journal_Store_Scrub_g3 t0_1 t5_1 t7_1 false k nx1 h10)) h_1))) else (∃ a17:Addr,t0_1=some a17/\(∃ v18:Option Addr,cellH h_1 a17=some (.pointer v18)/\(disk_Disk_Sync v18 (fun (r19:Int) h20=>if (r19 != 0) then (k r19 h20) else (journal_Store_begin t0_1 t5_1 (fun (r21:Unit) h22=>k 0 h22) h20)) h_1)))
def journal_Store_Scrub_l1 (t0_1:Option Addr) (t5_1:Int) (i7:Int) (k:(Int)->Heap->Prop) (h:Heap):Prop :=
  ∃ (I:Int->Heap->Prop) (μ:Int->Heap->Nat),I i7 h/\∀ (t7_1:Int) (h:Heap),I t7_1 h->journal_Store_Scrub_l1b t0_1 t5_1 t7_1 k (fun s h'=>I s h'/\μ s h' < μ t7_1 h) h
def journal_Store_Scrub (p0:Option Addr) (p1:Slc) (k:(Int)->Heap->Prop) (h:Heap):Prop :=
  if (p0.isNone) then (k 1 h) else (∃ a1:Addr,p0=some a1/\(∃ h2:Heap,WrH h (a1.add 2)/\h2=setH h (a1.add 2) (.bool false)/\(∃ v3:Option Addr,cellH h2 (a1.add 1)=some (.pointer v3)/\(slot_Pair_Wipe v3 p1 (fun (r4:Int × Int) h5=>if (r4.2 != 0) then (k r4.2 h5) else (journal_Store_Scrub_l1 p0 r4.1 512 k h5)) h2))))
/-- (*quaestor disk.Disk).Raw -/
def disk_Disk_Raw_l1b (t3_1:Slc) (t13_1:Addr) (k:(Slc)->Heap->Prop) (nx1:(Unit)->Heap->Prop) (h_1:Heap):Prop :=
  ∃ (bn10 rn10 ckn10 sincen10 lastn10:Nat) (esn10:Array MapEntry) (seenn10:Array Nat),t13_1=(⟨bn10,0,none⟩:Addr)/\h_1[bn10]? = some (.mapIter (some rn10) sincen10 seenn10 lastn10)/\h_1[rn10]? = some (.map esn10 ckn10)/\(∀ x∈esn10.toList,x.born < sincen10)/\sincen10<=lastn10/\((∀ x∈esn10.toList,seenn10.contains x.born=true)->(if false then (∃ (bn12 rn12 ckn12 sincen12:Nat) (esn12:Array MapEntry) (seenn12:Array Nat) (xn12:MapEntry) (kn12:Int) (vn12:S_disk_sector),t13_1=(⟨bn12,0,none⟩:Addr)/\h_1[bn12]? = some (.mapIter (some rn12) sincen12 (seenn12.push xn12.born) ckn12)/\h_1[rn12]? = some (.map esn12 ckn12)/\xn12∈esn12.toList/\(esn12.toList.map (·.born)).Nodup/\xn12.key = .int .i64 kn12/\xn12.val = .agg (S_disk_sector.cs vn12).toArray/\(∃ (b13:Nat) (h14:Heap),b13=h_1.size/\h14=h_1.push (.cells (S_disk_sector.cs (⟨([]:List Int),false⟩:S_disk_sector)).toArray 115)/\(∃ h15:Heap,WrsAt h14 (⟨b13,0,none⟩:Addr) 129/\h15=setsH h14 (⟨b13,0,none⟩:Addr) 0 (S_disk_sector.cs vn12)/\(∃ s16:Slc,(0:Int)<=(IntKind.i64.wrap (kn12 * 128))/\((IntKind.i64.wrap (kn12 * 128)):Int)<=(t3_1.len:Int)/\((t3_1.len:Int):Int)<=(t3_1.cap:Int)/\(t3_1.cap:Int)<=(t3_1.cap:Int)/\s16=subS t3_1 1 (IntKind.i64.wrap (kn12 * 128)).toNat (t3_1.len:Int).toNat (t3_1.cap:Int).toNat/\(∃ s17:Slc,(0:Int)<=0/\0<=(128:Int)/\128<=(128:Int)/\s17=subS ⟨some (⟨b13,0,none⟩:Addr),128,128⟩ 1 (0:Int).toNat (128:Int).toNat 128/\(∃ l18:List Value,Cpy 1 h15 s16 s17 l18 (fun h19=>nx1 () h19))))))) else (k t3_1 h_1)))/\(∀ xn10∈esn10.toList,seenn10.contains xn10.born=false->∀ h11:Heap,h11=nxH h_1 bn10 rn10 sincen10 seenn10 xn10 ckn10->(if true then (∃ (bn20 rn20 ckn20 sincen20:Nat) (esn20:Array MapEntry) (seenn20:Array Nat) (xn20:MapEntry) (kn20:Int) (vn20:S_disk_sector),t13_1=(⟨bn20,0,none⟩:Addr)/\h11[bn20]? = some (.mapIter (some rn20) sincen20 (seenn20.push xn20.born) ckn20)/\h11[rn20]? = some (.map esn20 ckn20)/\xn20∈esn20.toList/\(esn20.toList.map (·.born)).Nodup/\xn20.key = .int .i64 kn20/\xn20.val = .agg (S_disk_sector.cs vn20).toArray/\(∃ (b21:Nat) (h22:Heap),b21=h11.size/\h22=h11.push (.cells (S_disk_sector.cs (⟨([]:List Int),false⟩:S_disk_sector)).toArray 115)/\(∃ h23:Heap,WrsAt h22 (⟨b21,0,none⟩:Addr) 129/\h23=setsH h22 (⟨b21,0,none⟩:Addr) 0 (S_disk_sector.cs vn20)/\(∃ s24:Slc,(0:Int)<=(IntKind.i64.wrap (kn20 * 128))/\((IntKind.i64.wrap (kn20 * 128)):Int)<=(t3_1.len:Int)/\((t3_1.len:Int):Int)<=(t3_1.cap:Int)/\(t3_1.cap:Int)<=(t3_1.cap:Int)/\s24=subS t3_1 1 (IntKind.i64.wrap (kn20 * 128)).toNat (t3_1.len:Int).toNat (t3_1.cap:Int).toNat/\(∃ s25:Slc,(0:Int)<=0/\0<=(128:Int)/\128<=(128:Int)/\s25=subS ⟨some (⟨b21,0,none⟩:Addr),128,128⟩ 1 (0:Int).toNat (128:Int).toNat 128/\(∃ l26:List Value,Cpy 1 h23 s24 s25 l26 (fun h27=>nx1 () h27))))))) else (k t3_1 h11)))
def disk_Disk_Raw_l1 (t3_1:Slc) (t13_1:Addr) (k:(Slc)->Heap->Prop) (h:Heap):Prop :=
  ∃ (I:Unit->Heap->Prop) (μ:Unit->Heap->Nat),I () h/\∀ (h:Heap),I () h->disk_Disk_Raw_l1b t3_1 t13_1 k (fun s h'=>I s h'/\μ s h' < μ () h) h
def disk_Disk_Raw (p0:Option Addr) (k:(Slc)->Heap->Prop) (h:Heap):Prop :=
  if (p0.isNone) then (k (⟨none,0,0⟩:Slc) h) else (∃ (b1:Nat) (h2:Heap),(0:Int)<=131072/\(131072:Int)<=131072/\(131072:Int) * 1<=281474976710656/\(131072:Int)<=9223372036854775807/\b1=h.size/\h2=h.push (.cells (zrow [.int .u8 0] (131072:Int).toNat).toArray 5)/\(∃ a3:Addr,p0=some a3/\(∃ v4:Option Nat,cellH h2 a3=some (.map v4)/\(∃ (r5:Nat) (e6:Array MapEntry) (c7:Nat) (b8:Nat) (h9:Heap),v4=some r5/\h2[r5]? = some (.map e6 c7)/\b8=h2.size/\h9=h2.push (.mapIter (some r5) c7 #[] c7)/\(disk_Disk_Raw_l1 (⟨some ⟨b1,0,none⟩,(131072:Int).toNat,(131072:Int).toNat⟩:Slc) (⟨b8,0,none⟩:Addr) k h9)))))
theorem O53:CallOk prog 53:=ck func53
theorem R53 (p0 k h) (H:journal_Open p0 k h):CallsH prog 53 #[.pointer p0] h (fun v h'=>∃ r:Option Addr × Int,v = .tuple #[.pointer r.1,.int .i64 r.2]/\k r h'):=by
 refine fE func53 fun w0=>?_
 refine zF [0] (zQ ?_)
 refine w2 tok (zE (zQ ?_))
 refine w1 tok ?_
 refine wC O73 (R73 _ _ _ _ _ H) fun r1 h2 H=>?_
 refine w5 tok (zE (zF [0,4,5] (zS (zQ ?_))))
 refine w2 tok (zE ?_)
 refine zI H ?_ ?_ <;> intro H
 refine zQ (w3 tok (zE (zT (yT ?_))))
 exact x_ret _ rfl _ rfl ⟨(none,r1.2),rfl,H⟩
 refine zK (zX (zQ (w2 tok ?_)))
 refine wY (y_build tok rfl rfl rfl rfl rfl) ?_
 refine wX H fun b3 h4 H=>?_
 refine w2 tok (zE (zF [2,3] (zT ?_)))
 exact x_ret _ rfl _ rfl ⟨((some (ad b3)),0),rfl,H⟩
theorem O125:CallOk prog 125:=ck func125
theorem R125 (p0 p1 p2 k h) (H:journal_field p0 p1 p2 k h):CallsH prog 125 #[Slc.v p0,.int .i64 p1,.int .i64 p2] h (fun v h'=>∃ r:Int,v = .int .u64 r/\k r h'):=by
 refine fE func125 fun w0=>?_
 refine zF [0,1,2] (zQ ?_)
 refine w1 tok (zE (zQ ?_))
 refine w2 tok ?_
 obtain ⟨s1,ps1,qs1,rs1,ts1,es1,H⟩:=H
 refine wYe (y_sl (s:=p0) (L:=p1) (H:=(p0.len:Int)) (M:=(p0.cap:Int)) tok rfl rfl rfl rfl rfl rfl rfl (by simp) ps1 qs1 rs1 ts1) (congrArg Slc.v es1) ?_
 refine w1 tok ?_
 refine wC O104 (R104 _ _ _ _ H) fun r2 h3 H=>?_
 refine w5 tok (zE (zF [7] (zQ ?_)))
 refine w2 tok (zE (zT ?_))
 exact x_ret _ rfl _ rfl ⟨r2.1,rfl,H⟩
theorem O106:CallOk prog 106:=ck func106
theorem R106 (p0 k h) (H:journal_headOf p0 k h):CallsH prog 106 #[Slc.v p0] h (fun v h'=>∃ r:S_journal_head,v = .agg (S_journal_head.cs r).toArray/\k r h'):=by
 refine fE func106 fun w0=>?_
 refine zF [0] (zQ ?_)
 refine wB tok H fun b1 h2 H=>?_
 refine zE (zQ (w1 tok ?_))
 refine wC O125 (R125 _ _ _ _ _ H) fun r3 h4 H=>?_
 refine w1 tok ?_
 refine wC O125 (R125 _ _ _ _ _ H) fun r5 h6 H=>?_
 refine w1 tok ?_
 refine wC O125 (R125 _ _ _ _ _ H) fun r7 h8 H=>?_
 refine w2 tok ?_
 refine wC O125 (R125 _ _ _ _ _ H) fun r9 h10 H=>?_
 refine w2 tok ?_
 refine wC O125 (R125 _ _ _ _ _ H) fun r11 h12 H=>?_
 refine w1 tok ?_
 refine wY (y_build tok rfl rfl rfl rfl rfl) ?_
 refine wTa tok H fun h13 H=>?_
 refine zE (zF [2] (zT ?_))
 obtain ⟨v14,hv14,H⟩:=H
 exact x_retc tok _ rfl [.agg (S_journal_head.cs v14).toArray] ⟨⟨_,_,rfl,rfl,.inr ⟨rfl,_,rfl,rfl,hv14⟩⟩,trivial⟩ ⟨v14,rfl,H⟩
theorem O87:CallOk prog 87:=ck func87
theorem R87 (p0 k h) (H:journal_head_bytes p0 k h):CallsH prog 87 #[.agg (S_journal_head.cs p0).toArray] h (fun v h'=>∃ r:Slc,v=Slc.v r/\k r h'):=by
 refine fE func87 fun w0=>?_
 refine zF [0] (zQ ?_)
 refine wX H fun b1 h2 H=>?_
 refine w1 tok (zE (zS ?_))
 refine gB [1] ?_
 refine gT 0 [1] tok ?_
 obtain ⟨v3,hv3,H⟩:=H
 refine gL 1 [4] rfl (y_ld tok rfl rfl rfl rfl hv3) ?_
 refine gT 3 [1] tok ?_
 obtain ⟨v4,hv4,H⟩:=H
 refine gL 4 [7] rfl (y_ld tok rfl rfl rfl rfl hv4) ?_
 refine gCr 2 [5] O99 (R99 _ _ _ _ _ H) fun r5 h6 H=>?_
 obtain ⟨hy7,H⟩:=H
 refine gR rfl (y_ld tok rfl rfl rfl rfl hy7) ?_
 refine gZ0 ?_
 refine gC 5 [6,8] O99 (R99 _ _ _ _ _ H) fun r8 h9 H=>?_
 refine gT 6 [9] tok ?_
 refine gZ ?_
 refine zX (zS ?_)
 refine gB [1,3] ?_
 refine gT 0 [3] tok ?_
 refine gT 1 [1] tok ?_
 obtain ⟨v10,hv10,H⟩:=H
 refine gL 2 [11] rfl (y_ld tok rfl rfl rfl rfl hv10) ?_
 refine gT 3 [12] tok ?_
 refine gT 5 [1] tok ?_
 obtain ⟨v11,hv11,H⟩:=H
 refine gL 6 [15] rfl (y_ld tok rfl rfl rfl rfl hv11) ?_
 refine gT 7 [16] tok ?_
 refine gCr 4 [10,13] O99 (R99 _ _ _ _ _ H) fun r12 h13 H=>?_
 obtain ⟨hy14,H⟩:=H
 refine gR rfl (y_ld tok rfl rfl rfl rfl hy14) ?_
 refine gZ0 ?_
 refine gC 8 [14,17] O99 (R99 _ _ _ _ _ H) fun r15 h16 H=>?_
 refine gT 9 [18] tok ?_
 refine gZ ?_
 refine zX (zF [1,3] (zQ ?_))
 refine w2 tok ?_
 refine wL tok H fun v17 H=>?_
 refine w1 tok ?_
 refine wC O99 (R99 _ _ _ _ _ H) fun r18 h19 H=>?_
 refine w1 tok (zE (zF [2] (zT ?_)))
 exact x_ret _ rfl _ rfl ⟨r18,rfl,H⟩
theorem O76:CallOk prog 76:=ck func76
theorem R76 (p0 k h) (H:journal_parts p0 k h):CallsH prog 76 #[.int .i64 p0] h (fun v h'=>∃ r:Int,v = .int .i64 r/\k r h'):=by
 refine fE func76 fun w0=>?_
 refine zF [0] (zQ ?_)
 refine w1 tok (zE (zQ ?_))
 refine w5 tok ?_
 obtain ⟨x1,ex1,H⟩:=H
 refine w_pe tok rfl (congrArg (fun z=>(.int .i64 z:Value)) ex1) rfl rfl ?_
 refine zE (zT ?_)
 exact x_ret _ rfl _ rfl ⟨x1,rfl,H⟩
theorem O75:CallOk prog 75:=ck func75
theorem R75 (p0 p1 p2 p3 k h) (H:journal_Store_record p0 p1 p2 p3 k h):CallsH prog 75 #[.pointer p0,.int .u64 p1,.int .u64 p2,.int .i64 p3] h (fun v h'=>∃ r:Slc × Bool,v = .tuple #[Slc.v r.1,.bool r.2]/\k r h'):=by
 refine fE func75 fun w0=>?_
 refine zF [0,1,2,3] (zQ ?_)
 refine w2 tok (zE (zQ ?_))
 refine w1 tok (zE (zQ ?_))
 refine w2 tok ?_
 refine wY (y_build tok rfl rfl rfl rfl rfl) ?_
 refine wB tok H fun b1 h2 H=>?_
 refine wTa tok H fun h3 H=>?_
 refine zE (zF [0,3,10,11] (zS (zQ ?_)))
 refine w1 tok (zE (zB ?_))
 obtain ⟨I1,μ1,H0,HI⟩:=H
 refine zO (σ:=Slc × Int) [0,3,11] (fun (s:Slc × Int)=>[(10,Slc.v s.1),(12,.int .i64 s.2)]) I1 μ1 ((⟨none,0,0⟩:Slc),0) H0 ?_
 rintro ⟨t10_1,t12_1⟩ h_1 H
 replace H:=HI t10_1 t12_1 h_1 H
 refine zF [10,12,0,3,11] (zS (zQ ?_))
 refine w2 tok ?_
 refine wL tok H fun v4 H=>?_
 refine w1 tok (zE ?_)
 refine zI H ?_ ?_ <;> intro H
 refine zK (zX (zS (zB (zQ (w1 tok ?_)))))
 refine wN H fun a5 _ H=>?_
 refine w1 tok ?_
 refine wL tok H fun v6 H=>?_
 refine w3 tok ?_
 refine wC O90 (R90 _ _ _ _ H) fun r7 h8 H=>?_
 refine w5 tok (zE (zF [10,12,0,3,11,13,14] (zS (zQ ?_))))
 refine w2 tok (zE ?_)
 refine zI H ?_ ?_ <;> intro H
 refine zQ (w2 tok (zE (zF [8,9] (zT (yT (yB (yT (yT (yB (yT ?_))))))))))
 exact x_ret _ rfl _ rfl ⟨((⟨none,0,0⟩:Slc),false),rfl,H⟩
 refine zK (zX (zQ (w1 tok ?_)))
 refine wC O106 (R106 _ _ _ H) fun r9 h10 H=>?_
 refine wB tok H fun b11 h12 H=>?_
 refine wTa tok H fun h13 H=>?_
 refine zE ?_
 refine zJ (α:=Unit) [0,3,10,11,12,13,15] (fun (s:Unit)=>[]) (fun (s:Unit) h=>journal_Store_record_j2 p0 p3 t10_1 (ad b1) t12_1 r7.1 (ad b11) k (fun s h'=>I1 s h'/\μ1 s h' < μ1 (t10_1,t12_1) h_1) h) ?_ ?_
 rintro _ h_2 H
 refine zF [0,3,10,11,12,13,15] (zQ ?_)
 refine w2 tok ?_
 refine wT tok H fun h14 H=>?_
 refine zE (zS ?_)
 refine zJ (α:=Bool) [0,3,10,11,12,13] (fun (s:Bool)=>[(60,.bool s)]) (fun (s:Bool) h=>journal_Store_record_j3 p0 p3 t10_1 (ad b1) t12_1 r7.1 s k (fun s h'=>I1 s h'/\μ1 s h' < μ1 (t10_1,t12_1) h_1) h) ?_ ?_
 rintro t60_3 h_3 H
 refine zF [60,0,3,10,11,12,13] ?_
 refine zI H ?_ ?_ <;> intro H
 refine zQ (w2 tok (zE (zF [8,9] (zT (yT (yB (yT (yT (yB (yT ?_))))))))))
 exact x_ret _ rfl _ rfl ⟨((⟨none,0,0⟩:Slc),false),rfl,H⟩
 refine zK (zX (zR (w5 tok ?_)))
 obtain ⟨s15,ps15,qs15,rs15,ts15,es15,H⟩:=H
 refine wYe (y_sl (s:=r7.1) (L:=(IntKind.i64.wrap ((r7.1.len:Int) - 108))) (H:=(r7.1.len:Int)) (M:=(r7.1.cap:Int)) tok rfl rfl rfl rfl rfl rfl rfl (by simp) ps15 qs15 rs15 ts15) (congrArg Slc.v es15) ?_
 obtain ⟨l18,hl18,H⟩:=H
 refine wA (a_app (s:=t10_1) (r:=s15) tok rfl rfl rfl rfl rfl hl18 H) ?_
 rintro _ h17 ⟨s16,rfl,H⟩
 refine w1 tok (zL (zX (zF [0,3,10,11,12] (zR ?_))))
 refine w2 tok ?_
 obtain ⟨x19,ex19,H⟩:=H
 refine w_pe tok rfl (congrArg (fun z=>(.int .i64 z:Value)) ex19) rfl rfl ?_
 refine zW ?_
 exact xJ (s16,x19) H
 refine gB [0,3,10,11,12,13,15] ?_
 obtain ⟨v20,hv20,H⟩:=H
 refine gL 0 [15] rfl (y_lda tok rfl rfl rfl rfl rfl hv20) ?_
 obtain ⟨v21,hv21,H⟩:=H
 refine gL 1 [11] rfl (y_lda tok rfl rfl rfl rfl rfl hv21) ?_
 refine gY 2 [50,51] rfl (fun _=>y_eqs (op:=.neq) (xs:=S_journal_head.cs v20) (ys:=S_journal_head.cs v21) (.inr rfl) rfl rfl rfl (eqv152_S_journal_head v20 v21) (by kernel_rfl)) ?_
 refine gT 3 [52] tok ?_
 refine gI 53 H (fun hb H=>?_) (fun hb H=>?_)
 refine gS 4 [15,53] ?_
 refine gS 5 [53,54] ?_
 refine gS 6 [15,53] ?_
 refine gS 7 [53,56] ?_
 refine gS 8 [53,57] ?_
 refine gS 9 [53,55,58] ?_
 refine gT 10 [53,59] tok ?_
 refine gZ ?_
 exact xJ true H
 refine gT 4 [15,53] tok ?_
 obtain ⟨v22,hv22,H⟩:=H
 refine gL 5 [53,54] rfl (y_ld tok rfl rfl rfl rfl hv22) ?_
 refine gT 6 [15,53] tok ?_
 obtain ⟨v23,hv23,H⟩:=H
 refine gL 7 [53,56] rfl (y_ld tok rfl rfl rfl rfl hv23) ?_
 refine gCr 8 [53,57] O76 (R76 _ _ _ H) fun r24 h25 H=>?_
 obtain ⟨hy26,H⟩:=H
 refine gR rfl (y_ld tok rfl rfl rfl rfl hy26) ?_
 refine gZ0 ?_
 refine gT 9 [53,55,58] tok ?_
 refine gT 10 [53,59] tok ?_
 refine gZ ?_
 exact xJ (v22 != r24) H
 refine zQ (w2 tok (zE ?_))
 refine zI H ?_ ?_ <;> intro H
 refine gB [0,3,10,11,12,13,15] ?_
 refine gT 0 [15] tok ?_
 obtain ⟨v27,hv27,H⟩:=H
 refine gL 1 [42] rfl (y_ld tok rfl rfl rfl rfl hv27) ?_
 refine gT 2 [15] tok ?_
 obtain ⟨v28,hv28,H⟩:=H
 refine gL 3 [44] rfl (y_ld tok rfl rfl rfl rfl hv28) ?_
 refine gT 4 [11] tok ?_
 obtain ⟨h29,wh29,eh29,H⟩:=H
 refine gHr 5 [43,46] rfl (h_st tok rfl rfl rfl rfl rfl rfl wh29 eh29) ?_
 obtain ⟨hy30,H⟩:=H
 refine gR rfl (y_ld tok rfl rfl rfl rfl hy30) ?_
 refine gZ0 ?_
 refine gT 6 [11] tok ?_
 obtain ⟨h31,wh31,eh31,H⟩:=H
 refine gH 7 [45,47] rfl (h_st tok rfl rfl rfl rfl rfl rfl wh31 eh31) ?_
 refine gZ ?_
 exact xJ () H
 refine zK ?_
 exact xJ () H
 refine zY (yE (yE (yH (zX (zF [10,11] (zQ ?_))))))
 refine w2 tok ?_
 refine wL tok H fun v32 H=>?_
 obtain ⟨s33,ps33,qs33,rs33,ts33,es33,H⟩:=H
 refine wYe (y_sl (s:=t10_1) (L:=0) (H:=v32) (M:=(t10_1.cap:Int)) tok rfl rfl rfl rfl rfl rfl rfl (by simp) ps33 qs33 rs33 ts33) (congrArg Slc.v es33) ?_
 refine w2 tok (zE (zT ?_))
 exact x_ret _ rfl _ rfl ⟨(s33,true),rfl,H⟩
theorem O78:CallOk prog 78:=ck func78
theorem R78 (p0 p1 k h) (H:journal_Store_begin p0 p1 k h):CallsH prog 78 #[.pointer p0,.int .u64 p1] h (fun v h'=>∃ r:Unit,v = .tuple #[]/\k r h'):=by
 refine fE func78 fun w0=>?_
 refine zF [0,1] (zR ?_)
 refine w5 tok ?_
 refine wN H fun a1 ha1 H=>?_
 refine w1 tok ?_
 refine wT tok H fun h2 H=>?_
 refine wY (y_nil' rfl rfl ha1) ?_
 refine w1 tok ?_
 refine wT tok H fun h3 H=>?_
 refine wY (y_nil' rfl rfl ha1) ?_
 refine w1 tok ?_
 refine wT tok H fun h4 H=>?_
 refine wY (y_nil' rfl rfl ha1) ?_
 refine w1 tok ?_
 refine wT tok H fun h5 H=>?_
 refine zW ?_
 exact x_end _ rfl _ rfl ⟨(),rfl,H⟩
theorem O55:CallOk prog 55:=ck func55
theorem R55 (p0 p1 k h) (H:journal_Store_Save p0 p1 k h):CallsH prog 55 #[.pointer p0,Slc.v p1] h (fun v h'=>∃ r:Int,v = .int .i64 r/\k r h'):=by
 refine fE func55 fun w0=>?_
 refine zF [0,1] (zQ ?_)
 refine w1 tok (zE (zS (zQ ?_)))
 refine w2 tok (zE ?_)
 refine zI H ?_ ?_ <;> intro H
 refine zQ (w1 tok (zE (zT (yT ?_))))
 exact x_ret _ rfl _ rfl ⟨1,rfl,H⟩
 refine zK (zX (zQ (w1 tok ?_)))
 refine wN H fun a1 ha1 H=>?_
 refine w1 tok ?_
 refine wL tok H fun v2 H=>?_
 refine w1 tok ?_
 refine wC O77 (R77 _ _ _ _ H) fun r3 h4 H=>?_
 refine w5 tok (zE (zF [0,5,6] (zS (zQ ?_))))
 refine w2 tok (zE ?_)
 refine zI H ?_ ?_ <;> intro H
 refine zQ (w1 tok ?_)
 refine wY (y_nil' rfl rfl ha1) ?_
 refine w1 tok ?_
 refine wT tok H fun h5 H=>?_
 refine zE (zF [6] (zQ ?_))
 refine w2 tok (zE (zT (yT ?_)))
 exact x_ret _ rfl _ rfl ⟨r3.2,rfl,H⟩
 refine zK (zX (zQ (w2 tok ?_)))
 refine wC O78 (R78 _ _ _ _ H) fun r6 h7 H=>?_
 refine zE (zF [] (zQ ?_))
 refine w1 tok (zE (zT ?_))
 exact x_ret _ rfl _ rfl ⟨0,rfl,H⟩
theorem O59:CallOk prog 59:=ck func59
theorem R59 (p0 p1 k h) (H:journal_Store_Append p0 p1 k h):CallsH prog 59 #[.pointer p0,Slc.v p1] h (fun v h'=>∃ r:Int,v = .int .i64 r/\k r h'):=by
 refine fE func59 fun w0=>?_
 refine zF [0,1] (zQ ?_)
 refine w1 tok (zE (zS (zB (zQ ?_))))
 refine w3 tok ?_
 refine vJ 6 (α:=Bool) [0,1] (fun (s:Bool)=>[(18,.bool s)]) (fun (s:Bool) h=>journal_Store_Append_g1 p0 p1 s k h) ?_ ?_
 rintro t18_1 h_1 H
 refine vF [18,0,1] ?_
 refine w1 tok (zE ?_)
 refine zI H ?_ ?_ <;> intro H
 refine zQ (w1 tok (zE (zT (yB (yT ?_)))))
 exact x_ret _ rfl _ rfl ⟨13,rfl,H⟩
 refine zQ (w4 tok (zE ?_))
 refine zI H ?_ ?_ <;> intro H
 refine zQ (w1 tok (zE (zF [4] (zT (yB (yT ?_))))))
 exact x_ret _ rfl _ rfl ⟨3,rfl,H⟩
 refine zS ?_
 refine gB [0,1] ?_
 refine gT 0 [0] tok ?_
 obtain ⟨a1,ha1,H⟩:=H
 refine gY 1 [24] rfl (fun _=>y_nil' rfl rfl ha1) ?_
 refine gT 2 [25] tok ?_
 obtain ⟨v2,hv2,H⟩:=H
 refine gL 3 [26] rfl (y_ld tok rfl rfl rfl rfl hv2) ?_
 refine gT 4 [1] tok ?_
 refine gT 5 [28] tok ?_
 refine gCr 6 [29] O76 (R76 _ _ _ H) fun r3 h4 H=>?_
 obtain ⟨hy5,H⟩:=H
 refine gR rfl (y_ld tok rfl rfl rfl rfl hy5) ?_
 refine gZ0 ?_
 refine gT 7 [27,30] tok ?_
 refine gT 8 [31] tok ?_
 refine gT 9 [32] tok ?_
 refine gZ ?_
 refine zX (zF [0,1,23] ?_)
 refine zI H ?_ ?_ <;> intro H
 refine zQ (w1 tok (zE (zT (yB (yT ?_)))))
 exact x_ret _ rfl _ rfl ⟨8,rfl,H⟩
 refine zK (yL (zX (zQ (w1 tok ?_))))
 refine wY (y_nil' rfl rfl ha1) ?_
 refine w1 tok ?_
 refine wT tok H fun h6 H=>?_
 refine zE ?_
 refine zJ (α:=Addr) [0,1] (fun (s:Addr)=>[(5,.pointer (some s))]) (fun (s:Addr) h=>journal_Store_Append_j2 p0 p1 s k h) ?_ ?_
 rintro t5_2 h_2 H
 refine zF [5,0,1] (zS (zQ ?_))
 refine w1 tok ?_
 refine wL tok H fun v7 H=>?_
 refine w1 tok (zE (zB ?_))
 obtain ⟨I3,μ3,H0,HI⟩:=H
 refine zO (σ:=Int) [0,1,5,51] (fun (s:Int)=>[(52,.int .i64 s)]) I3 μ3 0 H0 ?_
 rintro t52_3 h_3 H
 replace H:=HI t52_3 h_3 H
 refine zF [52,0,1,5,51] (zQ ?_)
 refine w1 tok (zE (zS ?_))
 refine zI H ?_ ?_ <;> intro H
 refine zK (zX (zS (zB (zQ (w2 tok (zE (zQ ?_)))))))
 refine w2 tok ?_
 refine wT tok H fun h8 H=>?_
 refine zE (zS ?_)
 refine gB [0,1,5,6,51,52] ?_
 refine gT 0 [0] tok ?_
 obtain ⟨a9,ha9,H⟩:=H
 refine gY 1 [57] rfl (fun _=>y_nil' rfl rfl ha9) ?_
 refine gT 2 [58] tok ?_
 obtain ⟨v10,hv10,H⟩:=H
 refine gL 3 [59] rfl (y_ld tok rfl rfl rfl rfl hv10) ?_
 refine gT 4 [0] tok ?_
 refine gY 5 [61] rfl (fun _=>y_nil' rfl rfl ha9) ?_
 refine gT 6 [62] tok ?_
 obtain ⟨v11,hv11,H⟩:=H
 refine gL 7 [63] rfl (y_ld tok rfl rfl rfl rfl hv11) ?_
 refine gT 8 [6] tok ?_
 refine gT 9 [64,65] tok ?_
 obtain ⟨v12,hv12,H⟩:=H
 refine gL 10 [5] rfl (y_lda tok rfl rfl rfl rfl rfl hv12) ?_
 refine gT 12 [1] tok ?_
 refine gT 13 [6] tok ?_
 refine gT 14 [70] tok ?_
 refine gT 15 [1] tok ?_
 refine gT 16 [72] tok ?_
 refine gT 17 [6] tok ?_
 refine gT 18 [74] tok ?_
 refine gT 19 [75] tok ?_
 refine gT 20 [73,76] tok ?_
 obtain ⟨s13,ps13,qs13,rs13,ts13,es13,H⟩:=H
 refine gYe 21 [69,71,77] rfl (fun _=>y_sl (s:=p1) (L:=(IntKind.i64.wrap (t52_3 * 108))) (H:=(if (IntKind.i64.wrap ((IntKind.i64.wrap (t52_3 * 108)) + 108)) < (p1.len:Int) then (IntKind.i64.wrap ((IntKind.i64.wrap (t52_3 * 108)) + 108)) else (p1.len:Int))) (M:=(p1.cap:Int)) tok rfl rfl rfl rfl rfl rfl rfl (by simp) ps13 qs13 rs13 ts13) (congrArg Slc.v es13) ?_
 refine gCr 11 [67] O87 (R87 _ _ _ H) fun r14 h15 H=>?_
 obtain ⟨hy16,hy17,H⟩:=H
 refine gR rfl (y_ld tok rfl rfl rfl rfl hy16) ?_
 refine gR rfl (y_ld tok rfl rfl rfl rfl hy17) ?_
 refine gZ0 ?_
 obtain ⟨b18,h19,eb18,eh19,H⟩:=H
 refine gHr 22 [68,78] rfl (h_bs tok rfl rfl rfl rfl rfl rfl rfl eb18 eh19) ?_
 obtain ⟨hy20,hy21,H⟩:=H
 refine gR rfl (y_ld tok rfl rfl rfl rfl hy20) ?_
 refine gR rfl (y_ld tok rfl rfl rfl rfl hy21) ?_
 refine gZ0 ?_
 refine gCr 23 [79] O86 (R86 _ _ _ H) fun r22 h23 H=>?_
 obtain ⟨hy24,hy25,H⟩:=H
 refine gR rfl (y_ld tok rfl rfl rfl rfl hy24) ?_
 refine gR rfl (y_ld tok rfl rfl rfl rfl hy25) ?_
 refine gZ0 ?_
 refine gC 24 [60,66,80] O85 (R85 _ _ _ _ _ H) fun r26 h27 H=>?_
 refine gT 25 [81] tok ?_
 refine gZ ?_
 refine zX (zF [0,1,5,51,52,7] (zQ ?_))
 refine w2 tok (zE ?_)
 refine zI H ?_ ?_ <;> intro H
 refine zQ (w2 tok (zE (zF [4] (zT (yB (yT (yT (yB (yT ?_)))))))))
 exact x_ret _ rfl _ rfl ⟨r26,rfl,H⟩
 refine zK (yL (zX (zR (w2 tok (zW ?_)))))
 exact xJ (IntKind.i64.wrap (t52_3 + 1)) H
 refine zY (yE (yE (yH (zX (zS (zQ (w1 tok ?_)))))))
 refine wN H fun a28 ha28 H=>?_
 refine w1 tok ?_
 refine wL tok H fun v29 H=>?_
 refine wC O88 (R88 _ _ _ H) fun r30 h31 H=>?_
 refine w1 tok (zE (zF [0,5,8] (zQ ?_)))
 refine w2 tok (zE ?_)
 refine zI H ?_ ?_ <;> intro H
 refine zQ (w2 tok (zE (zT (yT ?_))))
 exact x_ret _ rfl _ rfl ⟨r30,rfl,H⟩
 refine zK (zX (zS ?_))
 refine gB [0,5] ?_
 refine gT 0 [0] tok ?_
 refine gT 1 [0] tok ?_
 refine gT 2 [0] tok ?_
 refine gT 3 [0] tok ?_
 refine gY 4 [97] rfl (fun _=>y_nil' rfl rfl ha28) ?_
 refine gT 5 [98] tok ?_
 obtain ⟨v32,hv32,H⟩:=H
 refine gL 6 [99] rfl (y_ld tok rfl rfl rfl rfl hv32) ?_
 refine gT 7 [100] tok ?_
 refine gT 8 [0] tok ?_
 refine gY 9 [102] rfl (fun _=>y_nil' rfl rfl ha28) ?_
 refine gT 10 [103] tok ?_
 obtain ⟨v33,hv33,H⟩:=H
 refine gL 11 [104] rfl (y_ld tok rfl rfl rfl rfl hv33) ?_
 refine gT 12 [5] tok ?_
 obtain ⟨v34,hv34,H⟩:=H
 refine gL 13 [106] rfl (y_ld tok rfl rfl rfl rfl hv34) ?_
 refine gT 14 [105,107] tok ?_
 refine gY 15 [94] rfl (fun _=>y_nil' rfl rfl ha28) ?_
 refine gT 16 [109] tok ?_
 obtain ⟨h35,wh35,eh35,H⟩:=H
 refine gHr 17 [110] rfl (h_st tok rfl rfl rfl rfl rfl rfl wh35 eh35) ?_
 obtain ⟨hy36,H⟩:=H
 refine gR rfl (y_ld tok rfl rfl rfl rfl hy36) ?_
 refine gZ0 ?_
 refine gY 18 [95] rfl (fun _=>y_nil' rfl rfl ha28) ?_
 refine gT 19 [111] tok ?_
 obtain ⟨h37,wh37,eh37,H⟩:=H
 refine gHr 20 [101,112] rfl (h_st tok rfl rfl rfl rfl rfl rfl wh37 eh37) ?_
 obtain ⟨hy38,H⟩:=H
 refine gR rfl (y_ld tok rfl rfl rfl rfl hy38) ?_
 refine gZ0 ?_
 refine gY 21 [96] rfl (fun _=>y_nil' rfl rfl ha28) ?_
 refine gT 22 [113] tok ?_
 obtain ⟨h39,wh39,eh39,H⟩:=H
 refine gH 23 [108,114] rfl (h_st tok rfl rfl rfl rfl rfl rfl wh39 eh39) ?_
 refine gZ ?_
 refine zX (zF [] (zQ ?_))
 refine w1 tok (zE (zT ?_))
 exact x_ret _ rfl _ rfl ⟨0,rfl,H⟩
 refine gB [0,1] ?_
 refine gT 0 [0] tok ?_
 refine gY 1 [36] rfl (fun _=>y_nil' rfl rfl ha1) ?_
 refine gT 2 [37] tok ?_
 obtain ⟨v40,hv40,H⟩:=H
 refine gL 3 [38] rfl (y_ld tok rfl rfl rfl rfl hv40) ?_
 refine gT 4 [0] tok ?_
 refine gY 5 [40] rfl (fun _=>y_nil' rfl rfl ha1) ?_
 refine gT 6 [41] tok ?_
 obtain ⟨v41,hv41,H⟩:=H
 refine gL 7 [42] rfl (y_ld tok rfl rfl rfl rfl hv41) ?_
 refine gT 8 [1] tok ?_
 refine gT 9 [44] tok ?_
 refine gT 11 [1] tok ?_
 refine gT 12 [47] tok ?_
 refine gO 10 14 H (fun H=>?_) (fun H=>?_)
 refine gCrI 10 [45] O76 (R76 _ _ _ H) fun r42 h43 H=>?_
 obtain ⟨hy44,hy45,H⟩:=H
 refine gR rfl (y_ld tok rfl rfl rfl rfl hy44) ?_
 refine gR rfl (y_ld tok rfl rfl rfl rfl hy45) ?_
 refine gZ0 ?_
 refine gY 13 [39,43,46,48] rfl (fun _=>y_build tok rfl rfl rfl rfl rfl) ?_
 obtain ⟨b46,h47,eb46,eh47,H⟩:=H
 refine gHr 14 [] rfl (h_alloc tok rfl rfl eb46 eh47) ?_
 obtain ⟨hy48,hy49,H⟩:=H
 refine gR rfl (y_ld tok rfl rfl rfl rfl hy48) ?_
 refine gR rfl (y_ld tok rfl rfl rfl rfl hy49) ?_
 refine gZ0 ?_
 obtain ⟨h50,wh50,eh50,H⟩:=H
 refine gH 15 [5,49] rfl (h_sts tok rfl rfl rfl rfl rfl (oneC (by kernel_rfl)) wh50 eh50) ?_
 refine gZ ?_
 exact xJ (ad b46) H
 obtain ⟨b51,h52,eb51,eh52,H⟩:=H
 refine gHrI 14 [] rfl (h_alloc tok rfl rfl eb51 eh52) ?_
 obtain ⟨hy53,hy54,H⟩:=H
 refine gR rfl (y_ld tok rfl rfl rfl rfl hy53) ?_
 refine gR rfl (y_ld tok rfl rfl rfl rfl hy54) ?_
 refine gZ0 ?_
 refine gCr 10 [45] O76 (R76 _ _ _ H) fun r55 h56 H=>?_
 obtain ⟨hy57,hy58,H⟩:=H
 refine gR rfl (y_ld tok rfl rfl rfl rfl hy57) ?_
 refine gR rfl (y_ld tok rfl rfl rfl rfl hy58) ?_
 refine gZ0 ?_
 refine gY 13 [39,43,46,48] rfl (fun _=>y_build tok rfl rfl rfl rfl rfl) ?_
 obtain ⟨h59,wh59,eh59,H⟩:=H
 refine gH 15 [5,49] rfl (h_sts tok rfl rfl rfl rfl rfl (oneC (by kernel_rfl)) wh59 eh59) ?_
 refine gZ ?_
 exact xJ (ad b51) H
 refine vI 12 H ?_ ?_ <;> intro H
 refine wS (wS (wS (wS (wS (w1 tok ?_)))))
 exact wJ true H
 refine w1 tok ?_
 refine wN H fun a60 _ H=>?_
 refine w1 tok ?_
 refine wL tok H fun v61 H=>?_
 refine w2 tok ?_
 exact wJ (!v61) H
theorem O54:CallOk prog 54:=ck func54
theorem R54 (p0 k h) (H:journal_Store_Recover p0 k h):CallsH prog 54 #[.pointer p0] h (fun v h'=>∃ r:Slc × Slc × Int,v = .tuple #[Slc.v r.1,Slc.v r.2.1,.int .i64 r.2.2]/\k r h'):=by
 refine fE func54 fun w0=>?_
 refine zF [0] (zQ ?_)
 refine w3 tok (zE (zC (zS (zQ ?_))))
 refine w2 tok (zE ?_)
 refine zI H ?_ ?_ <;> intro H
 refine zQ (w3 tok (zE (zT (yT (yR ?_)))))
 exact x_ret _ rfl _ rfl ⟨((⟨none,0,0⟩:Slc),(⟨none,0,0⟩:Slc),6),rfl,H⟩
 refine zK (zX (zQ (w1 tok ?_)))
 refine wN H fun a1 _ H=>?_
 refine w1 tok ?_
 refine wL tok H fun v2 H=>?_
 refine wC O74 (R74 _ _ _ H) fun r3 h4 H=>?_
 refine w6 tok ?_
 refine w1 tok (zE (zF [0,2,3,4,5] (zS (zQ ?_))))
 refine w2 tok (zE ?_)
 refine zI H ?_ ?_ <;> intro H
 refine zQ (w4 tok (zE (zT (yT (yR ?_)))))
 exact x_ret _ rfl _ rfl ⟨((⟨none,0,0⟩:Slc),(⟨none,0,0⟩:Slc),r3.2.2),rfl,H⟩
 refine zK (zX (zQ (w1 tok (zE (zS (zA (zX (zS (zQ ?_)))))))))
 refine w1 tok (zE (zB ?_))
 obtain ⟨I1,μ1,H0,HI⟩:=H
 refine zO (σ:=Slc × Int × Int) [0,2,5] (fun (s:Slc × Int × Int)=>[(3,Slc.v s.1),(6,.int .i64 s.2.1),(7,.int .u64 s.2.2)]) I1 μ1 ((⟨none,0,0⟩:Slc),512,0) H0 ?_
 rintro ⟨t3_1,t6_1,t7_1⟩ h_1 H
 replace H:=HI t3_1 t6_1 t7_1 h_1 H
 refine zF [3,6,7,0,2,5] (zS (zB (zQ ?_)))
 refine w4 tok ?_
 refine wC O75 (R75 _ _ _ _ _ _ H) fun r5 h6 H=>?_
 refine w5 tok (zE (zF [3,6,7,0,2,5,8,9] (zS (zQ ?_))))
 refine w2 tok (zE ?_)
 refine zI H ?_ ?_ <;> intro H
 refine zY (yE (zM (yE (yE (yH (zX (zF [3,2] (zQ ?_))))))))
 refine w5 tok (zE (zT (yR ?_)))
 exact x_ret _ rfl _ rfl ⟨(r3.1,t3_1,0),rfl,H⟩
 refine zK (zX (zQ (w2 tok ?_)))
 obtain ⟨b7,h8,eb7,eh8,H⟩:=H
 refine wH (h_bs tok rfl rfl rfl rfl rfl rfl rfl eb7 eh8) ?_
 refine wA (a_app (s:=t3_1) (r:=(⟨some ⟨b7,0,none⟩,1,1⟩:Slc)) tok rfl rfl rfl rfl rfl (slcAt_push eb7 eh8) H) ?_
 rintro _ h10 ⟨s9,rfl,H⟩
 refine w1 tok (zE (zF [3,6,7,0,2,5,8] (zR ?_)))
 refine w3 tok ?_
 refine wC O76 (R76 _ _ _ H) fun r11 h12 H=>?_
 refine w1 tok ?_
 obtain ⟨x13,ex13,H⟩:=H
 refine w_pe tok rfl (congrArg (fun z=>(.int .i64 z:Value)) ex13) rfl rfl ?_
 refine zL (zX (zR (w2 tok ?_)))
 obtain ⟨x14,ex14,H⟩:=H
 refine w_pe tok rfl (congrArg (fun z=>(.int .u64 z:Value)) ex14) rfl rfl ?_
 refine zW ?_
 exact xJ (s9,x13,x14) H
theorem O58:CallOk prog 58:=ck func58
theorem R58 (p0 k h) (H:journal_Store_Room p0 k h):CallsH prog 58 #[.pointer p0] h (fun v h'=>∃ r:Int,v = .int .i64 r/\k r h'):=by
 refine fE func58 fun w0=>?_
 refine zF [0] (zQ ?_)
 refine w1 tok (zE (zS (zQ ?_)))
 refine w3 tok ?_
 refine vJ 6 (α:=Bool) [0] (fun (s:Bool)=>[(11,.bool s)]) (fun (s:Bool) h=>journal_Store_Room_g1 p0 s k h) ?_ ?_
 rintro t11_1 h_1 H
 refine vF [11,0] (zE ?_)
 refine zI H ?_ ?_ <;> intro H
 refine zQ (w1 tok (zE (zT (yT ?_))))
 exact x_ret _ rfl _ rfl ⟨0,rfl,H⟩
 refine zK (zX (zQ (w1 tok ?_)))
 refine wN H fun a1 _ H=>?_
 refine w1 tok ?_
 refine wL tok H fun v2 H=>?_
 refine w3 tok ?_
 obtain ⟨x3,ex3,H⟩:=H
 refine w_pe tok rfl (congrArg (fun z=>(.int .i64 z:Value)) ex3) rfl rfl ?_
 refine zE (zF [2] (zT ?_))
 exact x_ret _ rfl _ rfl ⟨x3,rfl,H⟩
 refine vI 5 H ?_ ?_ <;> intro H
 refine wS (wS (wS (wS (wS (w1 tok ?_)))))
 exact wJ true H
 refine w1 tok ?_
 refine wN H fun a4 _ H=>?_
 refine w1 tok ?_
 refine wL tok H fun v5 H=>?_
 refine w2 tok ?_
 exact wJ (!v5) H
theorem O118:CallOk prog 118:=ck func118
theorem R118 (p0 k h) (H:journal_empty_1 p0 k h):CallsH prog 118 #[.int .u8 p0] h (fun v h'=>∃ r:Bool,v = .bool r/\k r h'):=by
 refine fE func118 fun w0=>?_
 refine zF [0] (zQ ?_)
 refine w1 tok (zE (zQ ?_))
 refine w3 tok (zE (zT ?_))
 exact x_ret _ rfl _ rfl ⟨(p0 != 0),rfl,H⟩
theorem O135_1_118:CallOk prog 135:=ck func135
theorem R135_1_118 (p0 k h) (H:slices_IndexFunc_byte_byte__journal_empty_1 p0 k h):CallsH prog 135 #[Slc.v p0,(Value.func (.func 118) #[] #[])] h (fun v h'=>∃ r:Int,v = .int .i64 r/\k r h'):=by
 refine fE func135 fun w0=>?_
 refine zF [0,1] (zQ ?_)
 refine w1 tok (zE (zS (zQ ?_)))
 refine w3 tok (zE (zB ?_))
 obtain ⟨I1,μ1,H0,HI⟩:=H
 refine zO (σ:=Int) [0,1,7] (fun (s:Int)=>[(8,.int .i64 s)]) I1 μ1 0 H0 ?_
 rintro t8_1 h_1 H
 replace H:=HI t8_1 h_1 H
 refine zF [8,0,1,7] (zQ ?_)
 refine w1 tok (zE (zS ?_))
 refine zI H ?_ ?_ <;> intro H
 refine zK (zX (zS (zB (zQ (w2 tok (zE (zQ ?_)))))))
 refine w3 tok ?_
 refine wD tok H fun a1 _ H=>?_
 refine wL tok H fun v2 H=>?_
 refine w_callv (vs:=[.int .u8 v2]) (cap:=[]) O118 (R118 _ _ _ H) rfl rfl rfl rfl rfl ?_
 rintro _ h4 ⟨r3,rfl,H⟩
 refine zE (zF [8,0,1,7,5,16] ?_)
 refine zI H ?_ ?_ <;> intro H
 refine zQ (w2 tok (zE (zF [4] (zT (yB (yT (yT (yB (yT ?_)))))))))
 exact x_ret _ rfl _ rfl ⟨t8_1,rfl,H⟩
 refine zK (yL (zX (zR (w2 tok (zW ?_)))))
 exact xJ (IntKind.i64.wrap (t8_1 + 1)) H
 refine zY (yE (yE (yH (zX (zQ ?_)))))
 obtain ⟨x5,ex5,H⟩:=H
 refine w_pe tok rfl (congrArg (fun z=>(.int .i64 z:Value)) ex5) rfl rfl ?_
 refine zE (zT ?_)
 exact x_ret _ rfl _ rfl ⟨x5,rfl,H⟩
theorem O117_1_118:CallOk prog 117:=ck func117
theorem R117_1_118 (p0 k h) (H:slices_ContainsFunc_byte_byte__journal_empty_1 p0 k h):CallsH prog 117 #[Slc.v p0,(Value.func (.func 118) #[] #[])] h (fun v h'=>∃ r:Bool,v = .bool r/\k r h'):=by
 refine fE func117 fun w0=>?_
 refine zF [0,1] (zQ ?_)
 refine w1 tok (zE (zQ ?_))
 refine w2 tok ?_
 refine wC O135_1_118 (R135_1_118 _ _ _ H) fun r1 h2 H=>?_
 refine w2 tok (zE (zT ?_))
 exact x_ret _ rfl _ rfl ⟨(decide (r1>=0)),rfl,H⟩
theorem O91:CallOk prog 91:=ck func91
theorem R91 (p0 k h) (H:journal_empty p0 k h):CallsH prog 91 #[Slc.v p0] h (fun v h'=>∃ r:Bool,v = .bool r/\k r h'):=by
 refine fE func91 fun w0=>?_
 refine zF [0] (zQ ?_)
 refine w1 tok (zE (zQ ?_))
 refine w1 tok ?_
 refine wC O117_1_118 (R117_1_118 _ _ _ H) fun r1 h2 H=>?_
 refine w2 tok (zE (zT ?_))
 exact x_ret _ rfl _ rfl ⟨(!r1),rfl,H⟩
theorem O60:CallOk prog 60:=ck func60
theorem R60 (p0 p1 k h) (H:journal_Store_Scrub p0 p1 k h):CallsH prog 60 #[.pointer p0,Slc.v p1] h (fun v h'=>∃ r:Int,v = .int .i64 r/\k r h'):=by
 refine fE func60 fun w0=>?_
 refine zF [0,1] (zQ ?_)
 refine w1 tok (zE (zS (zQ ?_)))
 refine w2 tok (zE ?_)
 refine zI H ?_ ?_ <;> intro H
 refine zQ (w1 tok (zE (zT (yT ?_))))
 exact x_ret _ rfl _ rfl ⟨1,rfl,H⟩
 refine zK (zX (zQ (w1 tok ?_)))
 refine wN H fun a1 ha1 H=>?_
 refine w1 tok ?_
 refine wT tok H fun h2 H=>?_
 refine zE (zQ (w1 tok ?_))
 refine wY (y_nil' rfl rfl ha1) ?_
 refine w1 tok ?_
 refine wL tok H fun v3 H=>?_
 refine w1 tok ?_
 refine wC O89 (R89 _ _ _ _ H) fun r4 h5 H=>?_
 refine w5 tok (zE (zF [0,5,6] (zS (zQ ?_))))
 refine w2 tok (zE ?_)
 refine zI H ?_ ?_ <;> intro H
 refine zQ (w2 tok (zE (zT (yT ?_))))
 exact x_ret _ rfl _ rfl ⟨r4.2,rfl,H⟩
 refine zK (zX (zS (zQ (w1 tok (zE (zB ?_))))))
 obtain ⟨I1,μ1,H0,HI⟩:=H
 refine zO (σ:=Int) [0,5] (fun (s:Int)=>[(7,.int .i64 s)]) I1 μ1 512 H0 ?_
 rintro t7_1 h_1 H
 replace H:=HI t7_1 h_1 H
 refine zF [7,0,5] (zS (zQ ?_))
 refine w2 tok (zE ?_)
 refine zI H ?_ ?_ <;> intro H
 refine zK (zX ?_)
 refine zJ (α:=Unit) [0,5,7] (fun (s:Unit)=>[]) (fun (s:Unit) h=>journal_Store_Scrub_j2 p0 r4.1 t7_1 k (fun s h'=>I1 s h'/\μ1 s h' < μ1 t7_1 h_1) h) ?_ ?_
 rintro _ h_2 H
 refine zF [0,5,7] (zR ?_)
 refine w2 tok ?_
 obtain ⟨x6,ex6,H⟩:=H
 refine w_pe tok rfl (congrArg (fun z=>(.int .i64 z:Value)) ex6) rfl rfl ?_
 refine zW ?_
 exact xJ x6 H
 refine zB (zS (zQ (w1 tok ?_)))
 refine wN H fun a7 _ H=>?_
 refine w1 tok ?_
 refine wL tok H fun v8 H=>?_
 refine w1 tok ?_
 refine wC O90 (R90 _ _ _ _ H) fun r9 h10 H=>?_
 refine w5 tok (zE (zF [7,0,5,8,9] (zQ ?_)))
 refine w3 tok ?_
 refine vJ 3 (α:=Bool) [0,5,7] (fun (s:Bool)=>[(47,.bool s)]) (fun (s:Bool) h=>journal_Store_Scrub_g3 p0 r4.1 t7_1 s k (fun s h'=>I1 s h'/\μ1 s h' < μ1 t7_1 h_1) h) ?_ ?_
 rintro t47_3 h_3 H
 refine vF [47,0,5,7] (zE ?_)
 refine zI H ?_ ?_ <;> intro H
 refine zY (yE (yH ?_))
 exact xJ () H
 refine zK (zX (zQ (w1 tok ?_)))
 refine wN H fun a11 _ H=>?_
 refine w1 tok ?_
 refine wL tok H fun v12 H=>?_
 refine w1 tok ?_
 refine wC O85 (R85 _ _ _ _ _ H) fun r13 h14 H=>?_
 refine w1 tok (zE (zF [0,5,7,10] (zQ ?_)))
 refine w2 tok (zE ?_)
 refine zI H ?_ ?_ <;> intro H
 refine zQ (w2 tok (zE (zF [4] (zT (yB (yT (yT (yB (yT ?_)))))))))
 exact x_ret _ rfl _ rfl ⟨r13,rfl,H⟩
 refine zK (yL ?_)
 exact xJ () H
 refine vI 44 H ?_ ?_ <;> intro H
 refine w1 tok ?_
 refine wC O91 (R91 _ _ _ H) fun r15 h16 H=>?_
 refine w1 tok ?_
 exact wJ r15 H
 refine wS (wS (w1 tok ?_))
 exact wJ false H
 refine zY (yE (yE (yH (zX (zS (zQ (w1 tok ?_)))))))
 refine wN H fun a17 _ H=>?_
 refine w1 tok ?_
 refine wL tok H fun v18 H=>?_
 refine wC O88 (R88 _ _ _ H) fun r19 h20 H=>?_
 refine w1 tok (zE (zF [0,5,11] (zQ ?_)))
 refine w2 tok (zE ?_)
 refine zI H ?_ ?_ <;> intro H
 refine zQ (w2 tok (zE (zT (yT ?_))))
 exact x_ret _ rfl _ rfl ⟨r19,rfl,H⟩
 refine zK (zX (zQ (w2 tok ?_)))
 refine wC O78 (R78 _ _ _ _ H) fun r21 h22 H=>?_
 refine zE (zF [] (zQ ?_))
 refine w1 tok (zE (zT ?_))
 exact x_ret _ rfl _ rfl ⟨0,rfl,H⟩
theorem O27:CallOk prog 27:=ck func27
theorem R27 (p0 k h) (H:disk_Disk_Raw p0 k h):CallsH prog 27 #[.pointer p0] h (fun v h'=>∃ r:Slc,v=Slc.v r/\k r h'):=by
 refine fE func27 fun w0=>?_
 refine zF [0] (zQ ?_)
 refine w1 tok (zE (zS (zQ ?_)))
 refine w2 tok (zE ?_)
 refine zI H ?_ ?_ <;> intro H
 refine zQ (w1 tok (zE (zT (yT ?_))))
 exact x_ret _ rfl _ rfl ⟨(⟨none,0,0⟩:Slc),rfl,H⟩
 refine zK (zX (zQ ?_))
 obtain ⟨b1,h2,ph2,qh2,rh2,th2,eb1,eh2,H⟩:=H
 refine wH (h_mk tok rfl rfl rfl rfl rfl rfl ph2 qh2 rh2 th2 eb1 eh2) ?_
 refine w1 tok (zE (zS (zQ ?_)))
 refine w1 tok ?_
 refine wN H fun a3 _ H=>?_
 refine w1 tok ?_
 refine wL tok H fun v4 H=>?_
 obtain ⟨r5,e6,c7,b8,h9,er5,mr5,eb8,eh9,H⟩:=H
 refine wH (h_rng (kt:=3) (et:=115) (m:=v4) rfl rfl (by kernel_rfl) er5 mr5 eb8 eh9) ?_
 refine zE (zF [3,13] (zB ?_))
 obtain ⟨I1,μ1,H0,HI⟩:=H
 refine zO (σ:=Unit) [3,13] (fun (s:Unit)=>[]) I1 μ1 () H0 ?_
 rintro _ h_1 H
 replace H:=HI  h_1 H
 refine zF [3,13] (zQ ?_)
 obtain ⟨bn10,rn10,ckn10,sincen10,lastn10,esn10,seenn10,han10,h1n10,h2n10,h3n10,h4n10,HAn10,HBn10⟩:=H
 refine wA (a_nx rfl rfl han10 h1n10 h2n10 h3n10 h4n10) ?_
 rintro _ h11 (⟨rfl,rfl,hsn10⟩ | ⟨xn10,hxn10,hnn10,rfl,ehn10⟩)
 replace H:=HAn10 hsn10
 refine w1 tok (zE (zS ?_))
 refine zI H ?_ ?_ <;> intro H
 refine zK (zX (zB (zQ ?_)))
 obtain ⟨bn12,rn12,ckn12,sincen12,esn12,seenn12,xn12,kn12,vn12,han12,h1n12,h2n12,hmn12,hnn12,hkn12,hvn12,H⟩:=H
 refine wY (y_en rfl rfl han12 h1n12 h2n12 hmn12 hnn12 hkn12 hvn12) ?_
 refine w2 tok ?_
 refine wB tok H fun b13 h14 H=>?_
 refine w1 tok ?_
 refine wTa tok H fun h15 H=>?_
 refine zE ?_
 refine gB [3,4,5,13] ?_
 refine gT 0 [3] tok ?_
 refine gT 1 [4] tok ?_
 refine gT 2 [20] tok ?_
 obtain ⟨s16,ps16,qs16,rs16,ts16,es16,H⟩:=H
 refine gYe 3 [19,21] rfl (fun _=>y_sl (s:=(⟨some ⟨b1,0,none⟩,(131072:Int).toNat,(131072:Int).toNat⟩:Slc)) (L:=(IntKind.i64.wrap (kn12 * 128))) (H:=((⟨some ⟨b1,0,none⟩,(131072:Int).toNat,(131072:Int).toNat⟩:Slc).len:Int)) (M:=((⟨some ⟨b1,0,none⟩,(131072:Int).toNat,(131072:Int).toNat⟩:Slc).cap:Int)) tok rfl rfl rfl rfl rfl rfl rfl (by simp) ps16 qs16 rs16 ts16) (congrArg Slc.v es16) ?_
 refine gT 4 [5] tok ?_
 obtain ⟨s17,ps17,qs17,rs17,es17,H⟩:=H
 refine gYe 5 [23] rfl (fun _=>y_sla (L:=0) (H:=128) tok rfl rfl rfl rfl rfl rfl ps17 qs17 rs17) (congrArg Slc.v es17) ?_
 obtain ⟨l18,H⟩:=H
 refine gA 6 [22,24] rfl (a_cpy (d:=s16) (s:=s17) tok rfl rfl rfl rfl rfl H) ?_
 rintro _ h19 ⟨rfl,H⟩
 refine gZ ?_
 refine yL ?_
 exact xJ () H
 refine zY (yE (yE (yH (zX (zQ (w2 tok (zE (zT ?_))))))))
 exact x_ret _ rfl _ rfl ⟨(⟨some ⟨b1,0,none⟩,(131072:Int).toNat,(131072:Int).toNat⟩:Slc),rfl,H⟩
 replace H:=HBn10 xn10 hxn10 hnn10 h11 ehn10
 refine w1 tok (zE (zS ?_))
 refine zI H ?_ ?_ <;> intro H
 refine zK (zX (zB (zQ ?_)))
 obtain ⟨bn20,rn20,ckn20,sincen20,esn20,seenn20,xn20,kn20,vn20,han20,h1n20,h2n20,hmn20,hnn20,hkn20,hvn20,H⟩:=H
 refine wY (y_en rfl rfl han20 h1n20 h2n20 hmn20 hnn20 hkn20 hvn20) ?_
 refine w2 tok ?_
 refine wB tok H fun b21 h22 H=>?_
 refine w1 tok ?_
 refine wTa tok H fun h23 H=>?_
 refine zE ?_
 refine gB [3,4,5,13] ?_
 refine gT 0 [3] tok ?_
 refine gT 1 [4] tok ?_
 refine gT 2 [20] tok ?_
 obtain ⟨s24,ps24,qs24,rs24,ts24,es24,H⟩:=H
 refine gYe 3 [19,21] rfl (fun _=>y_sl (s:=(⟨some ⟨b1,0,none⟩,(131072:Int).toNat,(131072:Int).toNat⟩:Slc)) (L:=(IntKind.i64.wrap (kn20 * 128))) (H:=((⟨some ⟨b1,0,none⟩,(131072:Int).toNat,(131072:Int).toNat⟩:Slc).len:Int)) (M:=((⟨some ⟨b1,0,none⟩,(131072:Int).toNat,(131072:Int).toNat⟩:Slc).cap:Int)) tok rfl rfl rfl rfl rfl rfl rfl (by simp) ps24 qs24 rs24 ts24) (congrArg Slc.v es24) ?_
 refine gT 4 [5] tok ?_
 obtain ⟨s25,ps25,qs25,rs25,es25,H⟩:=H
 refine gYe 5 [23] rfl (fun _=>y_sla (L:=0) (H:=128) tok rfl rfl rfl rfl rfl rfl ps25 qs25 rs25) (congrArg Slc.v es25) ?_
 obtain ⟨l26,H⟩:=H
 refine gA 6 [22,24] rfl (a_cpy (d:=s24) (s:=s25) tok rfl rfl rfl rfl rfl H) ?_
 rintro _ h27 ⟨rfl,H⟩
 refine gZ ?_
 refine yL ?_
 exact xJ () H
 refine zY (yE (yE (yH (zX (zQ (w2 tok (zE (zT ?_))))))))
 exact x_ret _ rfl _ rfl ⟨(⟨some ⟨b1,0,none⟩,(131072:Int).toNat,(131072:Int).toNat⟩:Slc),rfl,H⟩
end Go.Q.Yk
end

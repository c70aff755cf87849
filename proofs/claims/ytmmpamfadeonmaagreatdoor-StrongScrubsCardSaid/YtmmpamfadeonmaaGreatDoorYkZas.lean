/- A part of the proof of statements of this seat: lemmas, no statement of their own. -/
import Derived.Test.YtmmpamfadeonmaaGreatDoorYkZae
import Derived.Test.YtmmpamfadeonmaaGreatDoorYkZaf
import Derived.Test.YtmmpamfadeonmaaGreatDoorYkZag
import Derived.Test.YtmmpamfadeonmaaGreatDoorYkZar
set_option linter.unusedVariables false
set_option linter.unusedSimpArgs false
section
set_option maxRecDepth 100000
set_option maxHeartbeats 1000000
namespace Go.Q.Yk
open Go.Proofs.Tryz
open Go.RowKit in
theorem eqv201_S_slot_head (a b:S_slot_head) (w:World):(Op.equal 201 (.agg (S_slot_head.cs a).toArray) (.agg (S_slot_head.cs b).toArray)).run Go.Proofs.Tryz.prog w = .ok ((a.f_n == b.f_n) && (a.f_part == b.f_part) && (a.f_parts == b.f_parts) && (a.f_size == b.f_size) && (a.f_sum == b.f_sum)) w:=by
  have hS:Go.Proofs.Tryz.prog.underlying 201=some (.struct (Go.Proofs.Tryz.prog.fieldsOf 201)):=by kernel_rfl
  have hp:Go.Proofs.Tryz.prog.stoodInHeld 201=false:=by kernel_rfl
  have u3:=Go.Proofs.Tryz.underlying3
  have a3:∀ w,(isAgg 3).run Go.Proofs.Tryz.prog w = .ok false w:=Go.Proofs.Tryz.isAgg3
  have u22:=Go.Proofs.Tryz.underlying22
  have a22:∀ w,(isAgg 22).run Go.Proofs.Tryz.prog w = .ok false w:=Go.Proofs.Tryz.isAgg22
  unfold Op.equal Op.maxDepth
  rw [show (10000:Nat)=9999 + 1 from rfl,run_equalIn_struct w 9999 201 _ _ hS hp]
  simp only [Program.fieldsOf,Go.Proofs.Tryz.underlying201,S_slot_head.cs]
  go_simp
  by_cases h0:(a.f_n=b.f_n) <;> by_cases h1:(a.f_part=b.f_part) <;> by_cases h2:(a.f_parts=b.f_parts) <;> by_cases h3:(a.f_size=b.f_size) <;> by_cases h4:(a.f_sum=b.f_sum) <;> simp [h0,h1,h2,h3,h4]
/-- quaestor slot.field -/
def slot_field (p0:Slc) (p1:Int) (p2:Int) (k:(Int)->Heap->Prop) (h:Heap):Prop :=
  ∃ s1:Slc,(0:Int)<=p1/\(p1:Int)<=(p0.len:Int)/\((p0.len:Int):Int)<=(p0.cap:Int)/\(p0.cap:Int)<=(p0.cap:Int)/\s1=subS p0 1 p1.toNat (p0.len:Int).toNat (p0.cap:Int).toNat/\(num_Get s1 p2 (fun (r2:Int × Int) h3=>∃ x4:Int,x4=(IntKind.i64.wrap r2.1)/\(k x4 h3)) h)
/-- quaestor slot.headOf -/
def slot_headOf (p0:Slc) (k:(S_slot_head)->Heap->Prop) (h:Heap):Prop :=
  ∃ (b1:Nat) (h2:Heap),b1=h.size/\h2=h.push (.cells (S_slot_head.cs (⟨0,0,0,0,0⟩:S_slot_head)).toArray 201)/\(num_Get p0 8 (fun (r3:Int × Int) h4=>∃ s5:Slc,(0:Int)<=16/\(16:Int)<=(p0.len:Int)/\((p0.len:Int):Int)<=(p0.cap:Int)/\(p0.cap:Int)<=(p0.cap:Int)/\s5=subS p0 1 (16:Int).toNat (p0.len:Int).toNat (p0.cap:Int).toNat/\(num_Get s5 8 (fun (r6:Int × Int) h7=>slot_field p0 8 2 (fun (r8:Int) h9=>slot_field p0 10 2 (fun (r10:Int) h11=>slot_field p0 12 4 (fun (r12:Int) h13=>∃ h14:Heap,WrsAt h13 (⟨b1,0,none⟩:Addr) 5/\h14=setsH h13 (⟨b1,0,none⟩:Addr) 0 (S_slot_head.cs (⟨r3.1,r8,r10,r12,r6.1⟩:S_slot_head))/\(∃ v15:S_slot_head,CellsAt h14 (⟨b1,0,none⟩:Addr) (S_slot_head.cs v15)/\k v15 h14)) h11) h9) h7) h4)) h2)
/-- (quaestor slot.head).bytes -/
def slot_head_bytes (p0:S_slot_head) (k:(Slc)->Heap->Prop) (h:Heap):Prop :=
  ∃ (b1:Nat) (h2:Heap),b1=h.size/\h2=h.push (.cells (S_slot_head.cs p0).toArray 201)/\(∃ v3:Int,cellH h2 (⟨b1,0,none⟩:Addr)=some (.int .u64 v3)/\(num_Put (⟨none,0,0⟩:Slc) v3 8 (fun (r4:Slc) h5=>∃ v6:Int,cellH h5 ((⟨b1,0,none⟩:Addr).add 1)=some (.int .i64 v6)/\(num_Put r4 (IntKind.u64.wrap v6) 2 (fun (r7:Slc) h8=>∃ v9:Int,cellH h8 ((⟨b1,0,none⟩:Addr).add 2)=some (.int .i64 v9)/\(num_Put r7 (IntKind.u64.wrap v9) 2 (fun (r10:Slc) h11=>∃ v12:Int,cellH h11 ((⟨b1,0,none⟩:Addr).add 3)=some (.int .i64 v12)/\(num_Put r10 (IntKind.u64.wrap v12) 4 (fun (r13:Slc) h14=>∃ v15:Int,cellH h14 ((⟨b1,0,none⟩:Addr).add 4)=some (.int .u64 v15)/\(num_Put r13 v15 8 (fun (r16:Slc) h17=>k r16 h17) h14)) h11)) h8)) h5)) h2))
/-- (*quaestor slot.Pair).place -/
def slot_Pair_place (p0:Option Addr) (p1:Int) (p2:Int) (k:(Int)->Heap->Prop) (h:Heap):Prop :=
  ∃ a1:Addr,p0=some a1/\(∃ v2:Int,cellH h (a1.add 1)=some (.int .i64 v2)/\(∃ v3:Int,cellH h (a1.add 2)=some (.int .i64 v3)/\(k (IntKind.i64.wrap ((IntKind.i64.wrap (v2 + (IntKind.i64.wrap (p1 * v3)))) + p2)) h)))
/-- quaestor slot.parts -/
def slot_parts (p0:Int) (k:(Int)->Heap->Prop) (h:Heap):Prop :=
  ∃ x1:Int,x1=(if (IntKind.i64.wrap (Int.tdiv (IntKind.i64.wrap ((IntKind.i64.wrap (p0 + 104)) - 1)) 104)) > 1 then (IntKind.i64.wrap (Int.tdiv (IntKind.i64.wrap ((IntKind.i64.wrap (p0 + 104)) - 1)) 104)) else 1)/\(k x1 h)
/-- (*quaestor slot.Pair).whole -/
def slot_Pair_whole_j4 (t0_4:Option Addr) (t1_4:Int) (t7_4:Slc) (t8_4:Addr) (t9_4:Int) (t10_4:Slc) (t70_4:Bool) (k:(Slc × Int × Bool)->Heap->Prop) (nx1:(Slc × Int)->Heap->Prop) (h_4:Heap):Prop :=
  if t70_4 then (k ((⟨none,0,0⟩:Slc),0,false) h_4) else (∃ s20:Slc,(0:Int)<=(IntKind.i64.wrap ((t10_4.len:Int) - 104))/\((IntKind.i64.wrap ((t10_4.len:Int) - 104)):Int)<=(t10_4.len:Int)/\((t10_4.len:Int):Int)<=(t10_4.cap:Int)/\(t10_4.cap:Int)<=(t10_4.cap:Int)/\s20=subS t10_4 1 (IntKind.i64.wrap ((t10_4.len:Int) - 104)).toNat (t10_4.len:Int).toNat (t10_4.cap:Int).toNat/\(∃ l23:List Value,SlcAt h_4 s20 l23/\App 5 1 1 [.int .u8 0] h_4 t7_4 s20.len l23 (fun s21 h22=>∃ x24:Int,x24=(IntKind.i64.wrap (t9_4 + 1))/\(nx1 (s21,x24) h22))))
def slot_Pair_whole_j3 (t0_3:Option Addr) (t1_3:Int) (t7_3:Slc) (t8_3:Addr) (t9_3:Int) (t10_3:Slc) (t12_3:Addr) (k:(Slc × Int × Bool)->Heap->Prop) (nx1:(Slc × Int)->Heap->Prop) (h_3:Heap):Prop :=
  ∃ v15:S_slot_head,CellsAt h_3 t8_3 (S_slot_head.cs v15)/\(∃ (b16:Nat) (h17:Heap),b16=h_3.size/\h17=h_3.push (.cells (S_slot_head.cs (⟨0,0,0,0,0⟩:S_slot_head)).toArray 201)/\(∃ h18:Heap,WrsAt h17 (⟨b16,0,none⟩:Addr) 5/\h18=setsH h17 (⟨b16,0,none⟩:Addr) 0 (S_slot_head.cs v15)/\(∃ h19:Heap,WrH h18 ((⟨b16,0,none⟩:Addr).add 1)/\h19=setH h18 ((⟨b16,0,none⟩:Addr).add 1) (.int .i64 t9_3)/\(∃ v25:S_slot_head,CellsAt h19 t12_3 (S_slot_head.cs v25)/\(∃ v26:S_slot_head,CellsAt h19 (⟨b16,0,none⟩:Addr) (S_slot_head.cs v26)/\(if (if BinOp.neq = .eql then ((v25.f_n == v26.f_n) && (v25.f_part == v26.f_part) && (v25.f_parts == v26.f_parts) && (v25.f_size == v26.f_size) && (v25.f_sum == v26.f_sum)) else !((v25.f_n == v26.f_n) && (v25.f_part == v26.f_part) && (v25.f_parts == v26.f_parts) && (v25.f_size == v26.f_size) && (v25.f_sum == v26.f_sum))) then (if true then (if true then (slot_Pair_whole_j4 t0_3 t1_3 t7_3 t8_3 t9_3 t10_3 true k nx1 h19) else (∃ v27:Int,cellH h19 (t12_3.add 2)=some (.int .i64 v27)/\(∃ v28:Int,cellH h19 (t12_3.add 3)=some (.int .i64 v28)/\(slot_parts v28 (fun (r29:Int) h30=>cellH h30 (t12_3.add 2)=some (.int .i64 v27)/\(slot_Pair_whole_j4 t0_3 t1_3 t7_3 t8_3 t9_3 t10_3 (v27 != r29) k nx1 h30)) h19)))) else (∃ v32:Int,cellH h19 (t12_3.add 2)=some (.int .i64 v32)/\(∃ a33:Addr,t0_3=some a33/\(∃ v34:Int,cellH h19 (a33.add 2)=some (.int .i64 v34)/\(if (decide (v32 > v34)) then (slot_Pair_whole_j4 t0_3 t1_3 t7_3 t8_3 t9_3 t10_3 true k nx1 h19) else (∃ v35:Int,cellH h19 (t12_3.add 2)=some (.int .i64 v35)/\(∃ v36:Int,cellH h19 (t12_3.add 3)=some (.int .i64 v36)/\(slot_parts v36 (fun (r37:Int) h38=>cellH h38 (t12_3.add 2)=some (.int .i64 v35)/\(slot_Pair_whole_j4 t0_3 t1_3 t7_3 t8_3 t9_3 t10_3 (v35 != r37) k nx1 h38)) h19)))))))) else (∃ v40:Int,cellH h19 (t12_3.add 2)=some (.int .i64 v40)/\(if (decide (v40 < 1)) then (if true then (slot_Pair_whole_j4 t0_3 t1_3 t7_3 t8_3 t9_3 t10_3 true k nx1 h19) else (∃ v41:Int,cellH h19 (t12_3.add 2)=some (.int .i64 v41)/\(∃ v42:Int,cellH h19 (t12_3.add 3)=some (.int .i64 v42)/\(slot_parts v42 (fun (r43:Int) h44=>cellH h44 (t12_3.add 2)=some (.int .i64 v41)/\(slot_Pair_whole_j4 t0_3 t1_3 t7_3 t8_3 t9_3 t10_3 (v41 != r43) k nx1 h44)) h19)))) else (∃ v46:Int,cellH h19 (t12_3.add 2)=some (.int .i64 v46)/\(∃ a47:Addr,t0_3=some a47/\(∃ v48:Int,cellH h19 (a47.add 2)=some (.int .i64 v48)/\(if (decide (v46 > v48)) then (slot_Pair_whole_j4 t0_3 t1_3 t7_3 t8_3 t9_3 t10_3 true k nx1 h19) else (∃ v49:Int,cellH h19 (t12_3.add 2)=some (.int .i64 v49)/\(∃ v50:Int,cellH h19 (t12_3.add 3)=some (.int .i64 v50)/\(slot_parts v50 (fun (r51:Int) h52=>cellH h52 (t12_3.add 2)=some (.int .i64 v49)/\(slot_Pair_whole_j4 t0_3 t1_3 t7_3 t8_3 t9_3 t10_3 (v49 != r51) k nx1 h52)) h19)))))))))))))))
def slot_Pair_whole_g2 (t0_2:Option Addr) (t1_2:Int) (t7_2:Slc) (t8_2:Addr) (t9_2:Int) (t21_2:Bool) (k:(Slc × Int × Bool)->Heap->Prop) (nx1:(Slc × Int)->Heap->Prop) (h_2:Heap):Prop :=
  if t21_2 then (∃ a3:Addr,t0_2=some a3/\(∃ v4:Option Addr,cellH h_2 a3=some (.pointer v4)/\(slot_Pair_place t0_2 t1_2 t9_2 (fun (r5:Int) h6=>cellH h6 a3=some (.pointer v4)/\(disk_Disk_Read v4 r5 (fun (r8:Slc × Int) h9=>if (r8.2 != 0) then (k ((⟨none,0,0⟩:Slc),0,false) h9) else (slot_headOf r8.1 (fun (r10:S_slot_head) h11=>∃ (b12:Nat) (h13:Heap),b12=h11.size/\h13=h11.push (.cells (S_slot_head.cs (⟨0,0,0,0,0⟩:S_slot_head)).toArray 201)/\(∃ h14:Heap,WrsAt h13 (⟨b12,0,none⟩:Addr) 5/\h14=setsH h13 (⟨b12,0,none⟩:Addr) 0 (S_slot_head.cs r10)/\(if (t9_2 == 0) then (∃ v54:S_slot_head,CellsAt h14 (⟨b12,0,none⟩:Addr) (S_slot_head.cs v54)/\(∃ h55:Heap,WrsAt h14 t8_2 5/\h55=setsH h14 t8_2 0 (S_slot_head.cs v54)/\(slot_Pair_whole_j3 t0_2 t1_2 t7_2 t8_2 t9_2 r8.1 (⟨b12,0,none⟩:Addr) k nx1 h55))) else (slot_Pair_whole_j3 t0_2 t1_2 t7_2 t8_2 t9_2 r8.1 (⟨b12,0,none⟩:Addr) k nx1 h14)))) h9)) h6)) h_2))) else (∃ v56:Int,cellH h_2 (t8_2.add 3)=some (.int .i64 v56)/\(∃ s57:Slc,(0:Int)<=0/\(0:Int)<=v56/\(v56:Int)<=(t7_2.cap:Int)/\(t7_2.cap:Int)<=(t7_2.cap:Int)/\s57=subS t7_2 1 (0:Int).toNat v56.toNat (t7_2.cap:Int).toNat/\(∃ v58:Int,cellH h_2 (t8_2.add 4)=some (.int .u64 v58)/\(∃ (b59:Nat) (h60:Heap),b59=h_2.size/\h60=h_2.push (.cells ([Slc.v s57]).toArray 28)/\(cellH h60 (t8_2.add 4)=some (.int .u64 v58)/\(sha_Of (⟨some ⟨b59,0,none⟩,1,1⟩:Slc) (fun (r62:List Int) h63=>cellH h63 (t8_2.add 4)=some (.int .u64 v58)/\(sha_Short r62 (fun (r65:Int) h66=>cellH h66 (t8_2.add 4)=some (.int .u64 v58)/\(if (r65 != v58) then (k ((⟨none,0,0⟩:Slc),0,false) h66) else (∃ v68:Int,cellH h66 t8_2=some (.int .u64 v68)/\(k (s57,v68,true) h66)))) h63)) h60))))))
def slot_Pair_whole_l1b (t0_1:Option Addr) (t1_1:Int) (t8_1:Addr) (t7_1:Slc) (t9_1:Int) (k:(Slc × Int × Bool)->Heap->Prop) (nx1:(Slc × Int)->Heap->Prop) (h_1:Heap):Prop :=
  if (t9_1 == 0) then (slot_Pair_whole_g2 t0_1 t1_1 t7_1 t8_1 t9_1 true k nx1 h_1) else (∃ v69:Int,cellH h_1 (t8_1.add 2)=some (.int .i64 v69)/\(slot_Pair_whole_g2 t0_1 t1_1 t7_1 t8_1 t9_1 (decide (t9_1 < v69)) k nx1 h_1))
def slot_Pair_whole_l1 (t0_1:Option Addr) (t1_1:Int) (t8_1:Addr) (i7:Slc) (i9:Int) (k:(Slc × Int × Bool)->Heap->Prop) (h:Heap):Prop :=
  ∃ (I:(Slc × Int)->Heap->Prop) (μ:(Slc × Int)->Heap->Nat),I (i7,i9) h/\∀ (t7_1:Slc) (t9_1:Int) (h:Heap),I (t7_1,t9_1) h->slot_Pair_whole_l1b t0_1 t1_1 t8_1 t7_1 t9_1 k (fun s h'=>I s h'/\μ s h' < μ (t7_1,t9_1) h) h
def slot_Pair_whole (p0:Option Addr) (p1:Int) (k:(Slc × Int × Bool)->Heap->Prop) (h:Heap):Prop :=
  ∃ (b1:Nat) (h2:Heap),b1=h.size/\h2=h.push (.cells (S_slot_head.cs (⟨0,0,0,0,0⟩:S_slot_head)).toArray 201)/\(slot_Pair_whole_l1 p0 p1 (⟨b1,0,none⟩:Addr) (⟨none,0,0⟩:Slc) 0 k h2)
/-- (*quaestor slot.Pair).best -/
def slot_Pair_best_j2 (t0_2:Option Addr) (t9_2:Int) (t2_2:Int) (t3_2:Slc) (t4_2:Int) (k:(Int × Slc × Int)->Heap->Prop) (nx1:(Int × Slc × Int × Int)->Heap->Prop) (h_2:Heap):Prop :=
  nx1 (t2_2,t3_2,t4_2,(IntKind.i64.wrap (t9_2 + 1))) h_2
def slot_Pair_best_l1b (t0_1:Option Addr) (t2_1:Int) (t3_1:Slc) (t4_1:Int) (t9_1:Int) (k:(Int × Slc × Int)->Heap->Prop) (nx1:(Int × Slc × Int × Int)->Heap->Prop) (h_1:Heap):Prop :=
  if (decide (t9_1 < 2)) then (slot_Pair_whole t0_1 t9_1 (fun (r2:Slc × Int × Bool) h3=>if (r2.2.2 && ((decide (t2_1 < 0)) || (decide (r2.2.1 > t4_1)))) then (slot_Pair_best_j2 t0_1 t9_1 t9_1 r2.1 r2.2.1 k nx1 h3) else (slot_Pair_best_j2 t0_1 t9_1 t2_1 t3_1 t4_1 k nx1 h3)) h_1) else (k (t2_1,t3_1,t4_1) h_1)
def slot_Pair_best_l1 (t0_1:Option Addr) (i2:Int) (i3:Slc) (i4:Int) (i9:Int) (k:(Int × Slc × Int)->Heap->Prop) (h:Heap):Prop :=
  ∃ (I:(Int × Slc × Int × Int)->Heap->Prop) (μ:(Int × Slc × Int × Int)->Heap->Nat),I (i2,i3,i4,i9) h/\∀ (t2_1:Int) (t3_1:Slc) (t4_1:Int) (t9_1:Int) (h:Heap),I (t2_1,t3_1,t4_1,t9_1) h->slot_Pair_best_l1b t0_1 t2_1 t3_1 t4_1 t9_1 k (fun s h'=>I s h'/\μ s h' < μ (t2_1,t3_1,t4_1,t9_1) h) h
def slot_Pair_best (p0:Option Addr) (k:(Int × Slc × Int)->Heap->Prop) (h:Heap):Prop :=
  ∃ x1:Int,x1=(-1)/\(slot_Pair_best_l1 p0 x1 (⟨none,0,0⟩:Slc) 0 0 k h)
/-- (*quaestor slot.Pair).Load -/
def slot_Pair_Load (p0:Option Addr) (k:(Slc × Int × Int)->Heap->Prop) (h:Heap):Prop :=
  if (p0.isNone) then (k ((⟨none,0,0⟩:Slc),0,6) h) else (slot_Pair_best p0 (fun (r1:Int × Slc × Int) h2=>if (decide (r1.1 < 0)) then (k ((⟨none,0,0⟩:Slc),0,6) h2) else (k (r1.2.1,r1.2.2,0) h2)) h)
/-- (*quaestor slot.Pair).greatest -/
def slot_Pair_greatest_j2 (t0_2:Option Addr) (t11_2:Int) (t12_2:Int) (t3_2:Int) (k:(Int)->Heap->Prop) (nx1:(Int × Int)->Heap->Prop) (h_2:Heap):Prop :=
  nx1 (t3_2,(IntKind.i64.wrap (t12_2 + 1))) h_2
def slot_Pair_greatest_l1b (t0_1:Option Addr) (t11_1:Int) (t3_1:Int) (t12_1:Int) (k:(Int)->Heap->Prop) (nx1:(Int × Int)->Heap->Prop) (h_1:Heap):Prop :=
  if (decide (t12_1 < t11_1)) then (∃ a3:Addr,t0_1=some a3/\(∃ v4:Option Addr,cellH h_1 a3=some (.pointer v4)/\(∃ v5:Int,cellH h_1 (a3.add 1)=some (.int .i64 v5)/\(disk_Disk_Read v4 (IntKind.i64.wrap (v5 + t12_1)) (fun (r6:Slc × Int) h7=>if (r6.2 == 0) then (slot_headOf r6.1 (fun (r8:S_slot_head) h9=>∃ x10:Int,x10=(if r8.f_n > t3_1 then r8.f_n else t3_1)/\(slot_Pair_greatest_j2 t0_1 t11_1 t12_1 x10 k nx1 h9)) h7) else (slot_Pair_greatest_j2 t0_1 t11_1 t12_1 t3_1 k nx1 h7)) h_1)))) else (k t3_1 h_1)
def slot_Pair_greatest_l1 (t0_1:Option Addr) (t11_1:Int) (i3:Int) (i12:Int) (k:(Int)->Heap->Prop) (h:Heap):Prop :=
  ∃ (I:(Int × Int)->Heap->Prop) (μ:(Int × Int)->Heap->Nat),I (i3,i12) h/\∀ (t3_1:Int) (t12_1:Int) (h:Heap),I (t3_1,t12_1) h->slot_Pair_greatest_l1b t0_1 t11_1 t3_1 t12_1 k (fun s h'=>I s h'/\μ s h' < μ (t3_1,t12_1) h) h
def slot_Pair_greatest (p0:Option Addr) (k:(Int)->Heap->Prop) (h:Heap):Prop :=
  ∃ a1:Addr,p0=some a1/\(∃ v2:Int,cellH h (a1.add 2)=some (.int .i64 v2)/\(slot_Pair_greatest_l1 p0 (IntKind.i64.wrap (2 * v2)) 0 0 k h))
/-- (*quaestor slot.Pair).lay -/
def slot_Pair_lay_j2 (t0_2:Option Addr) (t13_2:Addr) (k:(Int × Int)->Heap->Prop) (h_2:Heap):Prop :=
  ∃ a20:Addr,t0_2=some a20/\(∃ v21:Option Addr,cellH h_2 a20=some (.pointer v21)/\(disk_Disk_Sync v21 (fun (r22:Int) h23=>if (r22 != 0) then (k (0,r22) h23) else (∃ v24:Int,cellH h23 t13_2=some (.int .u64 v24)/\(k (v24,0) h23))) h_2))
def slot_Pair_lay_j4 (t0_4:Option Addr) (t1_4:Slc) (t2_4:Bool) (t8_4:Int) (t12_4:Int) (t13_4:Addr) (t14_4:Int) (t54_4:Int) (t55_4:Int) (t15_4:Slc) (k:(Int × Int)->Heap->Prop) (nx3:(Int)->Heap->Prop) (h_4:Heap):Prop :=
  ∃ a27:Addr,t0_4=some a27/\(∃ v28:Option Addr,cellH h_4 a27=some (.pointer v28)/\(slot_Pair_place t0_4 t12_4 t14_4 (fun (r29:Int) h30=>cellH h30 a27=some (.pointer v28)/\(disk_Disk_Write v28 r29 t15_4 (fun (r32:Int) h33=>if (r32 != 0) then (k (0,r32) h33) else (nx3 (IntKind.i64.wrap (t55_4 + 1)) h33)) h30)) h_4))
def slot_Pair_lay_l3b (t0_3:Option Addr) (t1_3:Slc) (t2_3:Bool) (t8_3:Int) (t12_3:Int) (t13_3:Addr) (t54_3:Int) (t55_3:Int) (k:(Int × Int)->Heap->Prop) (nx3:(Int)->Heap->Prop) (h_3:Heap):Prop :=
  if (decide (t55_3 < t54_3)) then (if (decide (t55_3 < t8_3)) then (∃ h34:Heap,WrH h_3 (t13_3.add 1)/\h34=setH h_3 (t13_3.add 1) (.int .i64 t55_3)/\(∃ v35:S_slot_head,CellsAt h34 t13_3 (S_slot_head.cs v35)/\(∃ s36:Slc,(0:Int)<=(IntKind.i64.wrap (t55_3 * 104))/\((IntKind.i64.wrap (t55_3 * 104)):Int)<=(if (IntKind.i64.wrap ((IntKind.i64.wrap (t55_3 * 104)) + 104)) < (t1_3.len:Int) then (IntKind.i64.wrap ((IntKind.i64.wrap (t55_3 * 104)) + 104)) else (t1_3.len:Int))/\((if (IntKind.i64.wrap ((IntKind.i64.wrap (t55_3 * 104)) + 104)) < (t1_3.len:Int) then (IntKind.i64.wrap ((IntKind.i64.wrap (t55_3 * 104)) + 104)) else (t1_3.len:Int)):Int)<=(t1_3.cap:Int)/\(t1_3.cap:Int)<=(t1_3.cap:Int)/\s36=subS t1_3 1 (IntKind.i64.wrap (t55_3 * 104)).toNat (if (IntKind.i64.wrap ((IntKind.i64.wrap (t55_3 * 104)) + 104)) < (t1_3.len:Int) then (IntKind.i64.wrap ((IntKind.i64.wrap (t55_3 * 104)) + 104)) else (t1_3.len:Int)).toNat (t1_3.cap:Int).toNat/\(slot_head_bytes v35 (fun (r37:Slc) h38=>bytes_Clone s36 (fun (r39:Slc) h40=>∃ (b41:Nat) (h42:Heap),b41=h40.size/\h42=h40.push (.cells ([Slc.v r37,Slc.v r39]).toArray 28)/\(slices_Concat_byte_byte (⟨some ⟨b41,0,none⟩,2,2⟩:Slc) (fun (r43:Slc) h44=>slot_Pair_lay_j4 t0_3 t1_3 t2_3 t8_3 t12_3 t13_3 t55_3 t54_3 t55_3 r43 k nx3 h44) h42)) h38) h34)))) else (if (!t2_3) then (slot_Pair_lay_j2 t0_3 t13_3 k h_3) else (slot_Pair_lay_j4 t0_3 t1_3 t2_3 t8_3 t12_3 t13_3 t55_3 t54_3 t55_3 (⟨none,0,0⟩:Slc) k nx3 h_3))) else (slot_Pair_lay_j2 t0_3 t13_3 k h_3)
def slot_Pair_lay_l3 (t0_3:Option Addr) (t1_3:Slc) (t2_3:Bool) (t8_3:Int) (t12_3:Int) (t13_3:Addr) (t54_3:Int) (i55:Int) (k:(Int × Int)->Heap->Prop) (h:Heap):Prop :=
  ∃ (I:Int->Heap->Prop) (μ:Int->Heap->Nat),I i55 h/\∀ (t55_3:Int) (h:Heap),I t55_3 h->slot_Pair_lay_l3b t0_3 t1_3 t2_3 t8_3 t12_3 t13_3 t54_3 t55_3 k (fun s h'=>I s h'/\μ s h' < μ t55_3 h) h
def slot_Pair_lay_j1 (t0_1:Option Addr) (t1_1:Slc) (t2_1:Bool) (t8_1:Int) (t12_1:Int) (k:(Int × Int)->Heap->Prop) (h_1:Heap):Prop :=
  slot_Pair_greatest t0_1 (fun (r9:Int) h10=>∃ (b11:Nat) (h12:Heap),b11=h10.size/\h12=h10.push (.cells ([Slc.v t1_1]).toArray 28)/\(sha_Of (⟨some ⟨b11,0,none⟩,1,1⟩:Slc) (fun (r13:List Int) h14=>sha_Short r13 (fun (r15:Int) h16=>∃ (b17:Nat) (h18:Heap),b17=h16.size/\h18=h16.push (.cells (S_slot_head.cs (⟨0,0,0,0,0⟩:S_slot_head)).toArray 201)/\(∃ h19:Heap,WrsAt h18 (⟨b17,0,none⟩:Addr) 5/\h19=setsH h18 (⟨b17,0,none⟩:Addr) 0 (S_slot_head.cs (⟨(IntKind.u64.wrap (r9 + 1)),0,t8_1,(t1_1.len:Int),r15⟩:S_slot_head))/\(∃ a25:Addr,t0_1=some a25/\(∃ v26:Int,cellH h19 (a25.add 2)=some (.int .i64 v26)/\(slot_Pair_lay_l3 t0_1 t1_1 t2_1 t8_1 t12_1 (⟨b17,0,none⟩:Addr) v26 0 k h19))))) h14) h12)) h_1
def slot_Pair_lay (p0:Option Addr) (p1:Slc) (p2:Bool) (k:(Int × Int)->Heap->Prop) (h:Heap):Prop :=
  slot_parts (p1.len:Int) (fun (r1:Int) h2=>∃ a3:Addr,p0=some a3/\(∃ v4:Int,cellH h2 (a3.add 2)=some (.int .i64 v4)/\(if (decide (r1 > v4)) then (k (0,3) h2) else (slot_Pair_greatest p0 (fun (r5:Int) h6=>if (decide (r5>=4611686018427387904)) then (k (0,12) h6) else (slot_Pair_best p0 (fun (r7:Int × Slc × Int) h8=>if (r7.1 == 0) then (slot_Pair_lay_j1 p0 p1 p2 r1 1 k h8) else (slot_Pair_lay_j1 p0 p1 p2 r1 0 k h8)) h6)) h2)))) h
/-- (*quaestor slot.Pair).Save -/
def slot_Pair_Save (p0:Option Addr) (p1:Slc) (k:(Int × Int)->Heap->Prop) (h:Heap):Prop :=
  if (p0.isNone) then (k (0,10) h) else (slot_Pair_lay p0 p1 false (fun (r1:Int × Int) h2=>k (r1.1,r1.2) h2) h)
/-- (*quaestor slot.Pair).Wipe -/
def slot_Pair_Wipe (p0:Option Addr) (p1:Slc) (k:(Int × Int)->Heap->Prop) (h:Heap):Prop :=
  if (p0.isNone) then (k (0,10) h) else (slot_Pair_lay p0 p1 true (fun (r1:Int × Int) h2=>if (r1.2 != 0) then (k (0,r1.2) h2) else (slot_Pair_lay p0 p1 true (fun (r3:Int × Int) h4=>k (r3.1,r3.2) h4) h2)) h)
/-- quaestor slot.Open -/
def slot_Open (p0:Option Addr) (p1:Int) (p2:Int) (k:(Option Addr × Int)->Heap->Prop) (h:Heap):Prop :=
  if (((((p0.isNone) || (decide (p2 < 1))) || (decide (p2 > 1024))) || (decide (p1 < 0))) || (decide (p1 > (IntKind.i64.wrap (1024 - (IntKind.i64.wrap (2 * p2))))))) then (k (none,1) h) else (∃ (b1:Nat) (h2:Heap),b1=h.size/\h2=h.push (.cells (S_slot_Pair.cs (⟨p0,p1,p2⟩:S_slot_Pair)).toArray 174)/\(k ((some (⟨b1,0,none⟩:Addr)),0) h2))
theorem O158:CallOk prog 158:=ck func158
theorem R158 (p0 p1 p2 k h) (H:slot_field p0 p1 p2 k h):CallsH prog 158 #[Slc.v p0,.int .i64 p1,.int .i64 p2] h (fun v h'=>∃ r:Int,v = .int .i64 r/\k r h'):=by
 refine fE func158 fun w0=>?_
 refine zF [0,1,2] (zQ ?_)
 refine w1 tok (zE (zQ ?_))
 refine w2 tok ?_
 obtain ⟨s1,ps1,qs1,rs1,ts1,es1,H⟩:=H
 refine wYe (y_sl (s:=p0) (L:=p1) (H:=(p0.len:Int)) (M:=(p0.cap:Int)) tok rfl rfl rfl rfl rfl rfl rfl (by simp) ps1 qs1 rs1 ts1) (congrArg Slc.v es1) ?_
 refine w1 tok ?_
 refine wC O104 (R104 _ _ _ _ H) fun r2 h3 H=>?_
 refine w5 tok (zE (zF [7] (zQ ?_)))
 refine w2 tok ?_
 obtain ⟨x4,ex4,H⟩:=H
 refine w_pe tok rfl (congrArg (fun z=>(.int .i64 z:Value)) ex4) rfl rfl ?_
 refine zE (zT ?_)
 exact x_ret _ rfl _ rfl ⟨x4,rfl,H⟩
theorem O147:CallOk prog 147:=ck func147
theorem R147 (p0 k h) (H:slot_headOf p0 k h):CallsH prog 147 #[Slc.v p0] h (fun v h'=>∃ r:S_slot_head,v = .agg (S_slot_head.cs r).toArray/\k r h'):=by
 refine fE func147 fun w0=>?_
 refine zF [0] (zQ ?_)
 refine wB tok H fun b1 h2 H=>?_
 refine zE (zQ (w1 tok ?_))
 refine wC O104 (R104 _ _ _ _ H) fun r3 h4 H=>?_
 refine w5 tok (zE (zQ ?_))
 refine w1 tok ?_
 obtain ⟨s5,ps5,qs5,rs5,ts5,es5,H⟩:=H
 refine wYe (y_sl (s:=p0) (L:=16) (H:=(p0.len:Int)) (M:=(p0.cap:Int)) tok rfl rfl rfl rfl rfl rfl rfl (by simp) ps5 qs5 rs5 ts5) (congrArg Slc.v es5) ?_
 refine wC O104 (R104 _ _ _ _ H) fun r6 h7 H=>?_
 refine w5 tok (zE (zF [0,2,3,5] (zQ ?_)))
 refine w2 tok ?_
 refine wC O158 (R158 _ _ _ _ _ H) fun r8 h9 H=>?_
 refine w1 tok ?_
 refine wC O158 (R158 _ _ _ _ _ H) fun r10 h11 H=>?_
 refine w1 tok ?_
 refine wC O158 (R158 _ _ _ _ _ H) fun r12 h13 H=>?_
 refine w1 tok ?_
 refine wY (y_build tok rfl rfl rfl rfl rfl) ?_
 refine wTa tok H fun h14 H=>?_
 refine zE (zF [2] (zT ?_))
 obtain ⟨v15,hv15,H⟩:=H
 exact x_retc tok _ rfl [.agg (S_slot_head.cs v15).toArray] ⟨⟨_,_,rfl,rfl,.inr ⟨rfl,_,rfl,rfl,hv15⟩⟩,trivial⟩ ⟨v15,rfl,H⟩
theorem O130:CallOk prog 130:=ck func130
theorem R130 (p0 k h) (H:slot_head_bytes p0 k h):CallsH prog 130 #[.agg (S_slot_head.cs p0).toArray] h (fun v h'=>∃ r:Slc,v=Slc.v r/\k r h'):=by
 refine fE func130 fun w0=>?_
 refine zF [0] (zQ ?_)
 refine wX H fun b1 h2 H=>?_
 refine w1 tok (zE (zQ ?_))
 refine w1 tok ?_
 refine wL tok H fun v3 H=>?_
 refine wC O99 (R99 _ _ _ _ _ H) fun r4 h5 H=>?_
 refine w1 tok (zE (zQ ?_))
 refine w2 tok ?_
 refine wL tok H fun v6 H=>?_
 refine w1 tok ?_
 refine wC O99 (R99 _ _ _ _ _ H) fun r7 h8 H=>?_
 refine w1 tok (zE (zF [1,3] (zQ ?_)))
 refine w2 tok ?_
 refine wL tok H fun v9 H=>?_
 refine w1 tok ?_
 refine wC O99 (R99 _ _ _ _ _ H) fun r10 h11 H=>?_
 refine w1 tok (zE (zQ ?_))
 refine w2 tok ?_
 refine wL tok H fun v12 H=>?_
 refine w1 tok ?_
 refine wC O99 (R99 _ _ _ _ _ H) fun r13 h14 H=>?_
 refine w1 tok (zE (zF [1,3] (zQ ?_)))
 refine w2 tok ?_
 refine wL tok H fun v15 H=>?_
 refine wC O99 (R99 _ _ _ _ _ H) fun r16 h17 H=>?_
 refine w1 tok (zE (zT ?_))
 exact x_ret _ rfl _ rfl ⟨r16,rfl,H⟩
theorem O132:CallOk prog 132:=ck func132
theorem R132 (p0 p1 p2 k h) (H:slot_Pair_place p0 p1 p2 k h):CallsH prog 132 #[.pointer p0,.int .i64 p1,.int .i64 p2] h (fun v h'=>∃ r:Int,v = .int .i64 r/\k r h'):=by
 refine fE func132 fun w0=>?_
 refine zF [0,1,2] (zQ ?_)
 refine w1 tok (zE (zS ?_))
 refine c_draw (by kernel_rfl) (by kernel_rfl) ?_
 refine q_p tok rfl rfl rfl ?_
 obtain ⟨a1,ha1,H⟩:=H
 refine q_y (y_nil' rfl rfl ha1) rfl rfl ?_
 refine q_p tok rfl rfl rfl ?_
 obtain ⟨v2,hv2,H⟩:=H
 refine q_y (y_ld tok rfl rfl rfl rfl hv2) rfl rfl ?_
 refine q_p tok rfl rfl rfl ?_
 refine q_p tok rfl rfl rfl ?_
 refine q_y (y_nil' rfl rfl ha1) rfl rfl ?_
 refine q_p tok rfl rfl rfl ?_
 obtain ⟨v3,hv3,H⟩:=H
 refine q_y (y_ld tok rfl rfl rfl rfl hv3) rfl rfl ?_
 refine q_p tok rfl rfl rfl ?_
 refine q_p tok rfl rfl rfl ?_
 refine q_p tok rfl rfl rfl ?_
 refine q_p tok rfl rfl rfl ?_
 refine q_p tok rfl rfl rfl ?_
 refine q_end ?_
 refine zX (zF [6] (zT ?_))
 exact x_ret _ rfl _ rfl ⟨(IntKind.i64.wrap ((IntKind.i64.wrap (v2 + (IntKind.i64.wrap (p1 * v3)))) + p2)),rfl,H⟩
theorem O126:CallOk prog 126:=ck func126
theorem R126 (p0 k h) (H:slot_parts p0 k h):CallsH prog 126 #[.int .i64 p0] h (fun v h'=>∃ r:Int,v = .int .i64 r/\k r h'):=by
 refine fE func126 fun w0=>?_
 refine zF [0] (zQ ?_)
 refine w1 tok (zE (zQ ?_))
 refine w5 tok ?_
 obtain ⟨x1,ex1,H⟩:=H
 refine w_pe tok rfl (congrArg (fun z=>(.int .i64 z:Value)) ex1) rfl rfl ?_
 refine zE (zT ?_)
 exact x_ret _ rfl _ rfl ⟨x1,rfl,H⟩
theorem O124:CallOk prog 124:=ck func124
theorem R124 (p0 p1 k h) (H:slot_Pair_whole p0 p1 k h):CallsH prog 124 #[.pointer p0,.int .i64 p1] h (fun v h'=>∃ r:Slc × Int × Bool,v = .tuple #[Slc.v r.1,.int .u64 r.2.1,.bool r.2.2]/\k r h'):=by
 refine fE func124 fun w0=>?_
 refine zF [0,1] (zQ ?_)
 refine w3 tok (zE (zQ ?_))
 refine w1 tok (zE (zQ ?_))
 refine wB tok H fun b1 h2 H=>?_
 refine zE (zS (zQ (w1 tok (zE (zB ?_)))))
 obtain ⟨I1,μ1,H0,HI⟩:=H
 refine zO (σ:=Slc × Int) [0,1,8] (fun (s:Slc × Int)=>[(7,Slc.v s.1),(9,.int .i64 s.2)]) I1 μ1 ((⟨none,0,0⟩:Slc),0) H0 ?_
 rintro ⟨t7_1,t9_1⟩ h_1 H
 replace H:=HI t7_1 t9_1 h_1 H
 refine zF [7,9,0,1,8] (zS (zQ ?_))
 refine w3 tok ?_
 refine vJ 5 (α:=Bool) [0,1,7,8,9] (fun (s:Bool)=>[(21,.bool s)]) (fun (s:Bool) h=>slot_Pair_whole_g2 p0 p1 t7_1 (ad b1) t9_1 s k (fun s h'=>I1 s h'/\μ1 s h' < μ1 (t7_1,t9_1) h_1) h) ?_ ?_
 rintro t21_2 h_2 H
 refine vF [21,0,1,7,8,9] (zE ?_)
 refine zI H ?_ ?_ <;> intro H
 refine zK (zX (zS (zB (zS ?_))))
 refine gB [0,1,7,8,9] ?_
 refine gT 0 [0] tok ?_
 obtain ⟨a3,ha3,H⟩:=H
 refine gY 1 [25] rfl (fun _=>y_nil' rfl rfl ha3) ?_
 refine gT 2 [26] tok ?_
 obtain ⟨v4,hv4,H⟩:=H
 refine gL 3 [27] rfl (y_ld tok rfl rfl rfl rfl hv4) ?_
 refine gT 4 [0] tok ?_
 refine gT 5 [1] tok ?_
 refine gT 6 [9] tok ?_
 refine gCr 7 [29,30,31] O132 (R132 _ _ _ _ _ H) fun r5 h6 H=>?_
 obtain ⟨hy7,H⟩:=H
 refine gR rfl (y_ld tok rfl rfl rfl rfl hy7) ?_
 refine gZ0 ?_
 refine gC 8 [28,32] O90 (R90 _ _ _ _ H) fun r8 h9 H=>?_
 refine gT 9 [33] tok ?_
 refine gT 10 [24] tok ?_
 refine gT 11 [24] tok ?_
 refine gT 12 [34] tok ?_
 refine gT 13 [35] tok ?_
 refine gZ ?_
 refine zX (zF [0,1,7,8,9,10,11] (zS (zQ ?_)))
 refine w2 tok (zE ?_)
 refine zI H ?_ ?_ <;> intro H
 refine zQ (w3 tok (zE (zF [4,5,6] (zT (yT (yB (yT (yT (yB (yT ?_))))))))))
 exact x_ret _ rfl _ rfl ⟨((⟨none,0,0⟩:Slc),0,false),rfl,H⟩
 refine zK (zX (zQ (w1 tok ?_)))
 refine wC O147 (R147 _ _ _ H) fun r10 h11 H=>?_
 refine wB tok H fun b12 h13 H=>?_
 refine wTa tok H fun h14 H=>?_
 refine zE ?_
 refine zJ (α:=Unit) [0,1,7,8,9,10,12] (fun (s:Unit)=>[]) (fun (s:Unit) h=>slot_Pair_whole_j3 p0 p1 t7_1 (ad b1) t9_1 r8.1 (ad b12) k (fun s h'=>I1 s h'/\μ1 s h' < μ1 (t7_1,t9_1) h_1) h) ?_ ?_
 rintro _ h_3 H
 refine zF [0,1,7,8,9,10,12] (zQ ?_)
 refine wLa tok H fun v15 H=>?_
 refine wB tok H fun b16 h17 H=>?_
 refine wTa tok H fun h18 H=>?_
 refine zE (zQ (w2 tok ?_))
 refine wT tok H fun h19 H=>?_
 refine zE (zS ?_)
 refine zJ (α:=Bool) [0,1,7,8,9,10] (fun (s:Bool)=>[(70,.bool s)]) (fun (s:Bool) h=>slot_Pair_whole_j4 p0 p1 t7_1 (ad b1) t9_1 r8.1 s k (fun s h'=>I1 s h'/\μ1 s h' < μ1 (t7_1,t9_1) h_1) h) ?_ ?_
 rintro t70_4 h_4 H
 refine zF [70,0,1,7,8,9,10] ?_
 refine zI H ?_ ?_ <;> intro H
 refine zQ (w3 tok (zE (zF [4,5,6] (zT (yT (yB (yT (yT (yB (yT ?_))))))))))
 exact x_ret _ rfl _ rfl ⟨((⟨none,0,0⟩:Slc),0,false),rfl,H⟩
 refine zK (zX (zR (w5 tok ?_)))
 obtain ⟨s20,ps20,qs20,rs20,ts20,es20,H⟩:=H
 refine wYe (y_sl (s:=r8.1) (L:=(IntKind.i64.wrap ((r8.1.len:Int) - 104))) (H:=(r8.1.len:Int)) (M:=(r8.1.cap:Int)) tok rfl rfl rfl rfl rfl rfl rfl (by simp) ps20 qs20 rs20 ts20) (congrArg Slc.v es20) ?_
 obtain ⟨l23,hl23,H⟩:=H
 refine wA (a_app (s:=t7_1) (r:=s20) tok rfl rfl rfl rfl rfl hl23 H) ?_
 rintro _ h22 ⟨s21,rfl,H⟩
 refine w1 tok (zL (zX (zF [0,1,7,8,9] (zR ?_))))
 refine w2 tok ?_
 obtain ⟨x24,ex24,H⟩:=H
 refine w_pe tok rfl (congrArg (fun z=>(.int .i64 z:Value)) ex24) rfl rfl ?_
 refine zW ?_
 exact xJ (s21,x24) H
 refine gB [0,1,7,8,9,10,12,13] ?_
 obtain ⟨v25,hv25,H⟩:=H
 refine gL 0 [12] rfl (y_lda tok rfl rfl rfl rfl rfl hv25) ?_
 obtain ⟨v26,hv26,H⟩:=H
 refine gL 1 [13] rfl (y_lda tok rfl rfl rfl rfl rfl hv26) ?_
 refine gY 2 [46,47] rfl (fun _=>y_eqs (op:=.neq) (xs:=S_slot_head.cs v25) (ys:=S_slot_head.cs v26) (.inr rfl) rfl rfl rfl (eqv201_S_slot_head v25 v26) (by kernel_rfl)) ?_
 refine gT 3 [48] tok ?_
 refine gI 49 H (fun hb H=>?_) (fun hb H=>?_)
 refine gS 4 [12,49] ?_
 refine gS 5 [49,50] ?_
 refine gS 6 [49,51] ?_
 refine gT 7 [49,52] tok ?_
 refine gT 8 [53] tok ?_
 refine gI 54 H (fun hb H=>?_) (fun hb H=>?_)
 refine gS 9 [12,54] ?_
 refine gS 10 [54,55] ?_
 refine gS 11 [0,54] ?_
 refine gS 12 [54,57] ?_
 refine gS 13 [54,58] ?_
 refine gS 14 [54,59] ?_
 refine gS 15 [54,56,60] ?_
 refine gT 16 [54,61] tok ?_
 refine gT 17 [62] tok ?_
 refine gI 63 H (fun hb H=>?_) (fun hb H=>?_)
 refine gS 18 [12,63] ?_
 refine gS 19 [63,64] ?_
 refine gS 20 [12,63] ?_
 refine gS 21 [63,66] ?_
 refine gS 22 [63,67] ?_
 refine gS 23 [63,65,68] ?_
 refine gT 24 [63,69] tok ?_
 refine gZ ?_
 exact xJ true H
 refine gT 18 [12,63] tok ?_
 obtain ⟨v27,hv27,H⟩:=H
 refine gL 19 [63,64] rfl (y_ld tok rfl rfl rfl rfl hv27) ?_
 refine gT 20 [12,63] tok ?_
 obtain ⟨v28,hv28,H⟩:=H
 refine gL 21 [63,66] rfl (y_ld tok rfl rfl rfl rfl hv28) ?_
 refine gCr 22 [63,67] O126 (R126 _ _ _ H) fun r29 h30 H=>?_
 obtain ⟨hy31,H⟩:=H
 refine gR rfl (y_ld tok rfl rfl rfl rfl hy31) ?_
 refine gZ0 ?_
 refine gT 23 [63,65,68] tok ?_
 refine gT 24 [63,69] tok ?_
 refine gZ ?_
 exact xJ (v27 != r29) H
 refine gT 9 [12,54] tok ?_
 obtain ⟨v32,hv32,H⟩:=H
 refine gL 10 [54,55] rfl (y_ld tok rfl rfl rfl rfl hv32) ?_
 refine gT 11 [0,54] tok ?_
 obtain ⟨a33,ha33,H⟩:=H
 refine gY 12 [54,57] rfl (fun _=>y_nil' rfl rfl ha33) ?_
 refine gT 13 [54,58] tok ?_
 obtain ⟨v34,hv34,H⟩:=H
 refine gL 14 [54,59] rfl (y_ld tok rfl rfl rfl rfl hv34) ?_
 refine gT 15 [54,56,60] tok ?_
 refine gT 16 [54,61] tok ?_
 refine gT 17 [62] tok ?_
 refine gI 63 H (fun hb H=>?_) (fun hb H=>?_)
 refine gS 18 [12,63] ?_
 refine gS 19 [63,64] ?_
 refine gS 20 [12,63] ?_
 refine gS 21 [63,66] ?_
 refine gS 22 [63,67] ?_
 refine gS 23 [63,65,68] ?_
 refine gT 24 [63,69] tok ?_
 refine gZ ?_
 exact xJ true H
 refine gT 18 [12,63] tok ?_
 obtain ⟨v35,hv35,H⟩:=H
 refine gL 19 [63,64] rfl (y_ld tok rfl rfl rfl rfl hv35) ?_
 refine gT 20 [12,63] tok ?_
 obtain ⟨v36,hv36,H⟩:=H
 refine gL 21 [63,66] rfl (y_ld tok rfl rfl rfl rfl hv36) ?_
 refine gCr 22 [63,67] O126 (R126 _ _ _ H) fun r37 h38 H=>?_
 obtain ⟨hy39,H⟩:=H
 refine gR rfl (y_ld tok rfl rfl rfl rfl hy39) ?_
 refine gZ0 ?_
 refine gT 23 [63,65,68] tok ?_
 refine gT 24 [63,69] tok ?_
 refine gZ ?_
 exact xJ (v35 != r37) H
 refine gT 4 [12,49] tok ?_
 obtain ⟨v40,hv40,H⟩:=H
 refine gL 5 [49,50] rfl (y_ld tok rfl rfl rfl rfl hv40) ?_
 refine gT 6 [49,51] tok ?_
 refine gT 7 [49,52] tok ?_
 refine gT 8 [53] tok ?_
 refine gI 54 H (fun hb H=>?_) (fun hb H=>?_)
 refine gS 9 [12,54] ?_
 refine gS 10 [54,55] ?_
 refine gS 11 [0,54] ?_
 refine gS 12 [54,57] ?_
 refine gS 13 [54,58] ?_
 refine gS 14 [54,59] ?_
 refine gS 15 [54,56,60] ?_
 refine gT 16 [54,61] tok ?_
 refine gT 17 [62] tok ?_
 refine gI 63 H (fun hb H=>?_) (fun hb H=>?_)
 refine gS 18 [12,63] ?_
 refine gS 19 [63,64] ?_
 refine gS 20 [12,63] ?_
 refine gS 21 [63,66] ?_
 refine gS 22 [63,67] ?_
 refine gS 23 [63,65,68] ?_
 refine gT 24 [63,69] tok ?_
 refine gZ ?_
 exact xJ true H
 refine gT 18 [12,63] tok ?_
 obtain ⟨v41,hv41,H⟩:=H
 refine gL 19 [63,64] rfl (y_ld tok rfl rfl rfl rfl hv41) ?_
 refine gT 20 [12,63] tok ?_
 obtain ⟨v42,hv42,H⟩:=H
 refine gL 21 [63,66] rfl (y_ld tok rfl rfl rfl rfl hv42) ?_
 refine gCr 22 [63,67] O126 (R126 _ _ _ H) fun r43 h44 H=>?_
 obtain ⟨hy45,H⟩:=H
 refine gR rfl (y_ld tok rfl rfl rfl rfl hy45) ?_
 refine gZ0 ?_
 refine gT 23 [63,65,68] tok ?_
 refine gT 24 [63,69] tok ?_
 refine gZ ?_
 exact xJ (v41 != r43) H
 refine gT 9 [12,54] tok ?_
 obtain ⟨v46,hv46,H⟩:=H
 refine gL 10 [54,55] rfl (y_ld tok rfl rfl rfl rfl hv46) ?_
 refine gT 11 [0,54] tok ?_
 obtain ⟨a47,ha47,H⟩:=H
 refine gY 12 [54,57] rfl (fun _=>y_nil' rfl rfl ha47) ?_
 refine gT 13 [54,58] tok ?_
 obtain ⟨v48,hv48,H⟩:=H
 refine gL 14 [54,59] rfl (y_ld tok rfl rfl rfl rfl hv48) ?_
 refine gT 15 [54,56,60] tok ?_
 refine gT 16 [54,61] tok ?_
 refine gT 17 [62] tok ?_
 refine gI 63 H (fun hb H=>?_) (fun hb H=>?_)
 refine gS 18 [12,63] ?_
 refine gS 19 [63,64] ?_
 refine gS 20 [12,63] ?_
 refine gS 21 [63,66] ?_
 refine gS 22 [63,67] ?_
 refine gS 23 [63,65,68] ?_
 refine gT 24 [63,69] tok ?_
 refine gZ ?_
 exact xJ true H
 refine gT 18 [12,63] tok ?_
 obtain ⟨v49,hv49,H⟩:=H
 refine gL 19 [63,64] rfl (y_ld tok rfl rfl rfl rfl hv49) ?_
 refine gT 20 [12,63] tok ?_
 obtain ⟨v50,hv50,H⟩:=H
 refine gL 21 [63,66] rfl (y_ld tok rfl rfl rfl rfl hv50) ?_
 refine gCr 22 [63,67] O126 (R126 _ _ _ H) fun r51 h52 H=>?_
 obtain ⟨hy53,H⟩:=H
 refine gR rfl (y_ld tok rfl rfl rfl rfl hy53) ?_
 refine gZ0 ?_
 refine gT 23 [63,65,68] tok ?_
 refine gT 24 [63,69] tok ?_
 refine gZ ?_
 exact xJ (v49 != r51) H
 refine zQ (w2 tok (zE ?_))
 refine zI H ?_ ?_ <;> intro H
 refine zR ?_
 refine wLa tok H fun v54 H=>?_
 refine wTa tok H fun h55 H=>?_
 refine zW ?_
 exact xJ () H
 refine zK ?_
 exact xJ () H
 refine zY (yE (yE (yH (zX (zQ (w2 tok ?_))))))
 refine wL tok H fun v56 H=>?_
 obtain ⟨s57,ps57,qs57,rs57,ts57,es57,H⟩:=H
 refine wYe (y_sl (s:=t7_1) (L:=0) (H:=v56) (M:=(t7_1.cap:Int)) tok rfl rfl rfl rfl rfl rfl rfl (by simp) ps57 qs57 rs57 ts57) (congrArg Slc.v es57) ?_
 refine w1 tok (zE (zF [7,8] (zS (zS ?_))))
 refine gB [7,8] ?_
 refine gT 0 [7] tok ?_
 refine gT 4 [8] tok ?_
 obtain ⟨v58,hv58,H⟩:=H
 refine gL 5 [86] rfl (y_ld tok rfl rfl rfl rfl hv58) ?_
 obtain ⟨b59,h60,eb59,eh60,H⟩:=H
 refine gHr 1 [82] rfl (h_bs tok rfl rfl rfl rfl rfl rfl rfl eb59 eh60) ?_
 obtain ⟨hy61,H⟩:=H
 refine gR rfl (y_ld tok rfl rfl rfl rfl hy61) ?_
 refine gZ0 ?_
 refine gCr 2 [83] O129 (R129 _ _ _ H) fun r62 h63 H=>?_
 obtain ⟨hy64,H⟩:=H
 refine gR rfl (y_ld tok rfl rfl rfl rfl hy64) ?_
 refine gZ0 ?_
 refine gCr 3 [84] O128 (R128 _ _ _ H) fun r65 h66 H=>?_
 obtain ⟨hy67,H⟩:=H
 refine gR rfl (y_ld tok rfl rfl rfl rfl hy67) ?_
 refine gZ0 ?_
 refine gT 6 [85,87] tok ?_
 refine gZ ?_
 refine zX ?_
 refine zI H ?_ ?_ <;> intro H
 refine zQ (w3 tok (zE (zF [4,5,6] (zT (yT ?_)))))
 exact x_ret _ rfl _ rfl ⟨((⟨none,0,0⟩:Slc),0,false),rfl,H⟩
 refine zK (zX (zF [7,8] (zS ?_)))
 refine c_draw (by kernel_rfl) (by kernel_rfl) ?_
 refine q_p tok rfl rfl rfl ?_
 refine q_p tok rfl rfl rfl ?_
 obtain ⟨v68,hv68,H⟩:=H
 refine q_y (y_ld tok rfl rfl rfl rfl hv68) rfl rfl ?_
 refine q_p tok rfl rfl rfl ?_
 refine q_p tok rfl rfl rfl ?_
 refine q_p tok rfl rfl rfl ?_
 refine q_end ?_
 refine zX (zT ?_)
 exact x_ret _ rfl _ rfl ⟨(s57,v68,true),rfl,H⟩
 refine vI 16 H ?_ ?_ <;> intro H
 refine wS (wS (wS (wS (w1 tok ?_))))
 exact wJ true H
 refine w2 tok ?_
 refine wL tok H fun v69 H=>?_
 refine w2 tok ?_
 exact wJ (decide (t9_1 < v69)) H
theorem O105:CallOk prog 105:=ck func105
theorem R105 (p0 k h) (H:slot_Pair_best p0 k h):CallsH prog 105 #[.pointer p0] h (fun v h'=>∃ r:Int × Slc × Int,v = .tuple #[.int .i64 r.1,Slc.v r.2.1,.int .u64 r.2.2]/\k r h'):=by
 refine fE func105 fun w0=>?_
 refine zF [0] (zQ ?_)
 refine w3 tok (zE (zQ ?_))
 obtain ⟨x1,ex1,H⟩:=H
 refine w_pe tok rfl (congrArg (fun z=>(.int .i64 z:Value)) ex1) rfl rfl ?_
 refine zE (zS (zQ (w1 tok (zE (zB ?_)))))
 obtain ⟨I1,μ1,H0,HI⟩:=H
 refine zO (σ:=Int × Slc × Int × Int) [0] (fun (s:Int × Slc × Int × Int)=>[(2,.int .i64 s.1),(3,Slc.v s.2.1),(4,.int .u64 s.2.2.1),(9,.int .i64 s.2.2.2)]) I1 μ1 (x1,(⟨none,0,0⟩:Slc),0,0) H0 ?_
 rintro ⟨t2_1,t3_1,t4_1,t9_1⟩ h_1 H
 replace H:=HI t2_1 t3_1 t4_1 t9_1 h_1 H
 refine zF [2,3,4,9,0] (zQ ?_)
 refine w1 tok (zE (zS ?_))
 refine zI H ?_ ?_ <;> intro H
 refine zK (zX ?_)
 refine zJ (α:=Int × Slc × Int) [0,9] (fun (s:Int × Slc × Int)=>[(2,.int .i64 s.1),(3,Slc.v s.2.1),(4,.int .u64 s.2.2)]) (fun (s:Int × Slc × Int) h=>slot_Pair_best_j2 p0 t9_1 s.1 s.2.1 s.2.2 k (fun s h'=>I1 s h'/\μ1 s h' < μ1 (t2_1,t3_1,t4_1,t9_1) h_1) h) ?_ ?_
 rintro ⟨t2_2,t3_2,t4_2⟩ h_2 H
 refine zF [2,3,4,0,9] (zR ?_)
 refine w2 tok (zW ?_)
 exact xJ (t2_2,t3_2,t4_2,(IntKind.i64.wrap (t9_1 + 1))) H
 refine zB (zQ (w2 tok (zE (zQ ?_))))
 refine w2 tok ?_
 refine wC O124 (R124 _ _ _ _ H) fun r2 h3 H=>?_
 refine w6 tok ?_
 refine w1 tok (zE (zF [2,3,4,9,0,5,6,7,8] (zQ ?_)))
 refine w2 tok ?_
 refine vU 8 [0,2,3,4,5,6,7,9] [(28,.bool (r2.2.2 && ((decide (t2_1 < 0)) || (decide (r2.2.1 > t4_1)))))] ?_ ?_
 refine zE ?_
 refine zI H ?_ ?_ <;> intro H
 refine zR (w6 tok (zL ?_))
 exact xJ (t9_1,r2.1,r2.2.1) H
 refine zK (yL ?_)
 exact xJ (t2_1,t3_1,t4_1) H
 refine vG (d:=20) (fun hb=>?_) (fun hb=>?_)
 refine w3 tok ?_
 refine vU 4 [0,2,3,4,5,6,7,9,20] [(27,.bool ((decide (t2_1 < 0)) || (decide (r2.2.1 > t4_1))))] ?_ ?_
 refine w1 tok ?_
 refine vK ?_
 exact congrArg (fun b=>some (Value.bool b)) (and_t hb)
 refine vG (d:=23) (fun hb=>?_) (fun hb=>?_)
 refine wS (wS (wS (w1 tok ?_)))
 refine vK ?_
 exact congrArg (fun b=>some (Value.bool b)) (or_t hb)
 refine w4 tok ?_
 refine vK ?_
 exact congrArg (fun b=>some (Value.bool b)) (or_f hb)
 refine wS (wS (wS (wS (wS (wS (wS (w1 tok ?_)))))))
 refine vK ?_
 exact congrArg (fun b=>some (Value.bool b)) (and_f hb)
 refine zY (yE (yE (yH (zX (zQ (w6 tok (zE (zT ?_))))))))
 exact x_ret _ rfl _ rfl ⟨(t2_1,t3_1,t4_1),rfl,H⟩
theorem O74:CallOk prog 74:=ck func74
theorem R74 (p0 k h) (H:slot_Pair_Load p0 k h):CallsH prog 74 #[.pointer p0] h (fun v h'=>∃ r:Slc × Int × Int,v = .tuple #[Slc.v r.1,.int .u64 r.2.1,.int .i64 r.2.2]/\k r h'):=by
 refine fE func74 fun w0=>?_
 refine zF [0] (zQ ?_)
 refine w3 tok (zE (zS (zQ ?_)))
 refine w2 tok (zE ?_)
 refine zI H ?_ ?_ <;> intro H
 refine zQ (w3 tok (zE (zT (yT ?_))))
 exact x_ret _ rfl _ rfl ⟨((⟨none,0,0⟩:Slc),0,6),rfl,H⟩
 refine zK (zX (zQ (w1 tok ?_)))
 refine wC O105 (R105 _ _ _ H) fun r1 h2 H=>?_
 refine w6 tok ?_
 refine w1 tok (zE (zF [2,3,5] (zS (zQ ?_))))
 refine w2 tok (zE ?_)
 refine zI H ?_ ?_ <;> intro H
 refine zQ (w3 tok (zE (zT (yT ?_))))
 exact x_ret _ rfl _ rfl ⟨((⟨none,0,0⟩:Slc),0,6),rfl,H⟩
 refine zK (zX (zQ (w5 tok (zE (zT ?_)))))
 exact x_ret _ rfl _ rfl ⟨(r1.2.1,r1.2.2,0),rfl,H⟩
theorem O127:CallOk prog 127:=ck func127
theorem R127 (p0 k h) (H:slot_Pair_greatest p0 k h):CallsH prog 127 #[.pointer p0] h (fun v h'=>∃ r:Int,v = .int .u64 r/\k r h'):=by
 refine fE func127 fun w0=>?_
 refine zF [0] (zQ ?_)
 refine w1 tok (zE (zQ ?_))
 refine w1 tok (zE (zS (zQ ?_)))
 refine w1 tok ?_
 refine wN H fun a1 _ H=>?_
 refine w1 tok ?_
 refine wL tok H fun v2 H=>?_
 refine w2 tok (zE (zB ?_))
 obtain ⟨I1,μ1,H0,HI⟩:=H
 refine zO (σ:=Int × Int) [0,11] (fun (s:Int × Int)=>[(3,.int .u64 s.1),(12,.int .i64 s.2)]) I1 μ1 (0,0) H0 ?_
 rintro ⟨t3_1,t12_1⟩ h_1 H
 replace H:=HI t3_1 t12_1 h_1 H
 refine zF [3,12,0,11] (zQ ?_)
 refine w1 tok (zE (zS ?_))
 refine zI H ?_ ?_ <;> intro H
 refine zK (zX ?_)
 refine zJ (α:=Int) [0,11,12] (fun (s:Int)=>[(3,.int .u64 s)]) (fun (s:Int) h=>slot_Pair_greatest_j2 p0 (IntKind.i64.wrap (2 * v2)) t12_1 s k (fun s h'=>I1 s h'/\μ1 s h' < μ1 (t3_1,t12_1) h_1) h) ?_ ?_
 rintro t3_2 h_2 H
 refine zF [3,0,11,12] (zR ?_)
 refine w2 tok (zW ?_)
 exact xJ (t3_2,(IntKind.i64.wrap (t12_1 + 1))) H
 refine zB (zQ (w2 tok (zE (zS ?_))))
 refine gB [0,3,4,11,12] ?_
 refine gT 0 [0] tok ?_
 obtain ⟨a3,ha3,H⟩:=H
 refine gY 1 [16] rfl (fun _=>y_nil' rfl rfl ha3) ?_
 refine gT 2 [17] tok ?_
 obtain ⟨v4,hv4,H⟩:=H
 refine gL 3 [18] rfl (y_ld tok rfl rfl rfl rfl hv4) ?_
 refine gT 4 [0] tok ?_
 refine gY 5 [20] rfl (fun _=>y_nil' rfl rfl ha3) ?_
 refine gT 6 [21] tok ?_
 obtain ⟨v5,hv5,H⟩:=H
 refine gL 7 [22] rfl (y_ld tok rfl rfl rfl rfl hv5) ?_
 refine gT 8 [4] tok ?_
 refine gT 9 [23,24] tok ?_
 refine gC 10 [19,25] O90 (R90 _ _ _ _ H) fun r6 h7 H=>?_
 refine gT 11 [26] tok ?_
 refine gT 12 [15] tok ?_
 refine gT 13 [15] tok ?_
 refine gT 14 [27] tok ?_
 refine gT 15 [28] tok ?_
 refine gZ ?_
 refine zX (zF [0,3,11,12,5,6] (zQ ?_))
 refine w2 tok (zE ?_)
 refine zI H ?_ ?_ <;> intro H
 refine zR (w2 tok ?_)
 refine wC O147 (R147 _ _ _ H) fun r8 h9 H=>?_
 refine w2 tok ?_
 obtain ⟨x10,ex10,H⟩:=H
 refine w_pe tok rfl (congrArg (fun z=>(.int .u64 z:Value)) ex10) rfl rfl ?_
 refine zL ?_
 exact xJ x10 H
 refine zK (yL ?_)
 exact xJ t3_1 H
 refine zY (yE (yE (yH (zX (zQ (w2 tok (zE (zT ?_))))))))
 exact x_ret _ rfl _ rfl ⟨t3_1,rfl,H⟩
theorem O107:CallOk prog 107:=ck func107
theorem R107 (p0 p1 p2 k h) (H:slot_Pair_lay p0 p1 p2 k h):CallsH prog 107 #[.pointer p0,Slc.v p1,.bool p2] h (fun v h'=>∃ r:Int × Int,v = .tuple #[.int .u64 r.1,.int .i64 r.2]/\k r h'):=by
 refine fE func107 fun w0=>?_
 refine zF [0,1,2] (zQ ?_)
 refine w2 tok (zE (zC (zQ ?_)))
 refine w2 tok ?_
 refine wC O126 (R126 _ _ _ H) fun r1 h2 H=>?_
 refine w1 tok (zE (zS (zB (zQ ?_))))
 refine w2 tok ?_
 refine wN H fun a3 _ H=>?_
 refine w1 tok ?_
 refine wL tok H fun v4 H=>?_
 refine w2 tok (zE (zF [0,1,2,8,21] ?_))
 refine zI H ?_ ?_ <;> intro H
 refine zQ (w2 tok (zE (zT (yB (yT (yR ?_))))))
 exact x_ret _ rfl _ rfl ⟨(0,3),rfl,H⟩
 refine zQ (w1 tok ?_)
 refine wC O127 (R127 _ _ _ H) fun r5 h6 H=>?_
 refine w2 tok (zE ?_)
 refine zI H ?_ ?_ <;> intro H
 refine zQ (w2 tok (zE (zF [6,7] (zT (yB (yT (yR ?_)))))))
 exact x_ret _ rfl _ rfl ⟨(0,12),rfl,H⟩
 refine zK (yL (zX (zQ (w1 tok ?_))))
 refine wC O105 (R105 _ _ _ H) fun r7 h8 H=>?_
 refine w6 tok ?_
 refine w1 tok (zE (zF [0,1,2,8,9] (zQ ?_)))
 refine w1 tok (zE ?_)
 refine zJ (α:=Int) [0,1,2,8] (fun (s:Int)=>[(12,.int .i64 s)]) (fun (s:Int) h=>slot_Pair_lay_j1 p0 p1 p2 r1 s k h) ?_ ?_
 rintro t12_1 h_1 H
 refine zF [12,0,1,2,8] (zQ ?_)
 refine w1 tok ?_
 refine wC O127 (R127 _ _ _ H) fun r9 h10 H=>?_
 refine w5 tok ?_
 obtain ⟨b11,h12,eb11,eh12,H⟩:=H
 refine wH (h_bs tok rfl rfl rfl rfl rfl rfl rfl eb11 eh12) ?_
 refine wC O129 (R129 _ _ _ H) fun r13 h14 H=>?_
 refine wC O128 (R128 _ _ _ H) fun r15 h16 H=>?_
 refine wY (y_build tok rfl rfl rfl rfl rfl) ?_
 refine wB tok H fun b17 h18 H=>?_
 refine wTa tok H fun h19 H=>?_
 refine zE (zF [12,0,1,2,8,13] (zS (zA (zX ?_))))
 refine zJ (α:=Unit) [0,13] (fun (s:Unit)=>[]) (fun (s:Unit) h=>slot_Pair_lay_j2 p0 (ad b17) k h) ?_ ?_
 rintro _ h_2 H
 refine zF [0,13] (zS (zQ ?_))
 refine w1 tok ?_
 refine wN H fun a20 _ H=>?_
 refine w1 tok ?_
 refine wL tok H fun v21 H=>?_
 refine wC O88 (R88 _ _ _ H) fun r22 h23 H=>?_
 refine w1 tok (zE (zQ ?_))
 refine w2 tok (zE (zF [13,17,102] ?_))
 refine zI H ?_ ?_ <;> intro H
 refine zQ (w3 tok (zE (zT (yT (yR ?_)))))
 exact x_ret _ rfl _ rfl ⟨(0,r22),rfl,H⟩
 refine zK (zX (zQ (w1 tok ?_)))
 refine wL tok H fun v24 H=>?_
 refine w2 tok (zE (zT (yR ?_)))
 exact x_ret _ rfl _ rfl ⟨(v24,0),rfl,H⟩
 refine zQ (w1 tok ?_)
 refine wN H fun a25 _ H=>?_
 refine w1 tok ?_
 refine wL tok H fun v26 H=>?_
 refine w1 tok (zE (zB ?_))
 obtain ⟨I3,μ3,H0,HI⟩:=H
 refine zO (σ:=Int) [0,1,2,8,12,13,54] (fun (s:Int)=>[(55,.int .i64 s)]) I3 μ3 0 H0 ?_
 rintro t55_3 h_3 H
 replace H:=HI t55_3 h_3 H
 refine zF [55,0,1,2,8,12,13,54] (zQ ?_)
 refine w1 tok (zE (zS ?_))
 refine zI H ?_ ?_ <;> intro H
 refine zK (zX (zS (zB (zQ (w2 tok (zE (zQ ?_)))))))
 refine w1 tok (zE ?_)
 refine zJ (α:=Slc) [0,1,2,8,12,13,14,54,55] (fun (s:Slc)=>[(15,Slc.v s)]) (fun (s:Slc) h=>slot_Pair_lay_j4 p0 p1 p2 r1 t12_1 (ad b17) t55_3 v26 t55_3 s k (fun s h'=>I3 s h'/\μ3 s h' < μ3 t55_3 h_3) h) ?_ ?_
 rintro t15_4 h_4 H
 refine zF [15,0,1,2,8,12,13,14,54,55] (zS ?_)
 refine gB [0,1,2,8,12,13,14,15,54,55] ?_
 refine gT 0 [0] tok ?_
 obtain ⟨a27,ha27,H⟩:=H
 refine gY 1 [82] rfl (fun _=>y_nil' rfl rfl ha27) ?_
 refine gT 2 [83] tok ?_
 obtain ⟨v28,hv28,H⟩:=H
 refine gL 3 [84] rfl (y_ld tok rfl rfl rfl rfl hv28) ?_
 refine gT 4 [0] tok ?_
 refine gT 5 [12] tok ?_
 refine gT 6 [14] tok ?_
 refine gT 8 [15] tok ?_
 refine gCr 7 [86,87,88] O132 (R132 _ _ _ _ _ H) fun r29 h30 H=>?_
 obtain ⟨hy31,H⟩:=H
 refine gR rfl (y_ld tok rfl rfl rfl rfl hy31) ?_
 refine gZ0 ?_
 refine gC 9 [85,89,90] O85 (R85 _ _ _ _ _ H) fun r32 h33 H=>?_
 refine gT 10 [91] tok ?_
 refine gZ ?_
 refine zX (zF [0,1,2,8,12,13,54,55,16] (zQ ?_))
 refine w2 tok (zE ?_)
 refine zI H ?_ ?_ <;> intro H
 refine zQ (w3 tok (zE (zF [6,7] (zT (yB (yT (yT (yB (yT (yR ?_))))))))))
 exact x_ret _ rfl _ rfl ⟨(0,r32),rfl,H⟩
 refine zK (yL (zX (zR (w2 tok (zW ?_)))))
 exact xJ (IntKind.i64.wrap (t55_3 + 1)) H
 refine zB (zQ (w4 tok (zE ?_)))
 refine zI H ?_ ?_ <;> intro H
 refine zQ (w2 tok ?_)
 refine wT tok H fun h34 H=>?_
 refine zE (zF [55,0,1,2,8,12,13,54,14] ?_)
 refine gB [0,1,2,8,12,13,14,54,55] ?_
 obtain ⟨v35,hv35,H⟩:=H
 refine gL 0 [13] rfl (y_lda tok rfl rfl rfl rfl rfl hv35) ?_
 refine gT 2 [1] tok ?_
 refine gT 3 [14] tok ?_
 refine gT 4 [67] tok ?_
 refine gT 5 [1] tok ?_
 refine gT 6 [69] tok ?_
 refine gT 7 [14] tok ?_
 refine gT 8 [71] tok ?_
 refine gT 9 [72] tok ?_
 refine gT 10 [70,73] tok ?_
 obtain ⟨s36,ps36,qs36,rs36,ts36,es36,H⟩:=H
 refine gYe 11 [66,68,74] rfl (fun _=>y_sl (s:=p1) (L:=(IntKind.i64.wrap (t55_3 * 104))) (H:=(if (IntKind.i64.wrap ((IntKind.i64.wrap (t55_3 * 104)) + 104)) < (p1.len:Int) then (IntKind.i64.wrap ((IntKind.i64.wrap (t55_3 * 104)) + 104)) else (p1.len:Int))) (M:=(p1.cap:Int)) tok rfl rfl rfl rfl rfl rfl rfl (by simp) ps36 qs36 rs36 ts36) (congrArg Slc.v es36) ?_
 refine gC 1 [64] O130 (R130 _ _ _ H) fun r37 h38 H=>?_
 refine gC 12 [75] O131 (R131 _ _ _ H) fun r39 h40 H=>?_
 obtain ⟨b41,h42,eb41,eh42,H⟩:=H
 refine gH 13 [65,76] rfl (h_bs tok rfl rfl rfl rfl rfl rfl rfl eb41 eh42) ?_
 refine gC 14 [77] O86 (R86 _ _ _ H) fun r43 h44 H=>?_
 refine gT 15 [78] tok ?_
 refine gZ ?_
 refine yL ?_
 exact xJ r43 H
 refine zQ (w3 tok (zE (zF [55,0,1,2,8,12,13,54,14,15,79] ?_)))
 refine zI H ?_ ?_ <;> intro H
 refine zY (zM (yE (zM (yE (yE (yH ?_))))))
 exact xJ () H
 refine zK (yL ?_)
 exact xJ (⟨none,0,0⟩:Slc) H
 refine zY (yE (yE (yH ?_)))
 exact xJ () H
 refine zQ (w2 tok (zE ?_))
 refine zI H ?_ ?_ <;> intro H
 refine zR (w1 tok (zW ?_))
 exact xJ 1 H
 refine zK ?_
 exact xJ 0 H
theorem O77:CallOk prog 77:=ck func77
theorem R77 (p0 p1 k h) (H:slot_Pair_Save p0 p1 k h):CallsH prog 77 #[.pointer p0,Slc.v p1] h (fun v h'=>∃ r:Int × Int,v = .tuple #[.int .u64 r.1,.int .i64 r.2]/\k r h'):=by
 refine fE func77 fun w0=>?_
 refine zF [0,1] (zQ ?_)
 refine w2 tok (zE (zS (zQ ?_)))
 refine w2 tok (zE ?_)
 refine zI H ?_ ?_ <;> intro H
 refine zQ (w2 tok (zE (zT (yT ?_))))
 exact x_ret _ rfl _ rfl ⟨(0,10),rfl,H⟩
 refine zK (zX (zQ (w2 tok ?_)))
 refine wC O107 (R107 _ _ _ _ _ H) fun r1 h2 H=>?_
 refine w4 tok (zE (zF [4,5] (zT ?_)))
 exact x_ret _ rfl _ rfl ⟨(r1.1,r1.2),rfl,H⟩
theorem O89:CallOk prog 89:=ck func89
theorem R89 (p0 p1 k h) (H:slot_Pair_Wipe p0 p1 k h):CallsH prog 89 #[.pointer p0,Slc.v p1] h (fun v h'=>∃ r:Int × Int,v = .tuple #[.int .u64 r.1,.int .i64 r.2]/\k r h'):=by
 refine fE func89 fun w0=>?_
 refine zF [0,1] (zQ ?_)
 refine w2 tok (zE (zS (zQ ?_)))
 refine w2 tok (zE ?_)
 refine zI H ?_ ?_ <;> intro H
 refine zQ (w2 tok (zE (zT (yT ?_))))
 exact x_ret _ rfl _ rfl ⟨(0,10),rfl,H⟩
 refine zK (zX (zS (zQ (w2 tok ?_))))
 refine wC O107 (R107 _ _ _ _ _ H) fun r1 h2 H=>?_
 refine w5 tok (zE (zF [0,1,7] (zQ ?_)))
 refine w2 tok (zE ?_)
 refine zI H ?_ ?_ <;> intro H
 refine zQ (w3 tok (zE (zT (yT ?_))))
 exact x_ret _ rfl _ rfl ⟨(0,r1.2),rfl,H⟩
 refine zK (zX (zQ (w2 tok ?_)))
 refine wC O107 (R107 _ _ _ _ _ H) fun r3 h4 H=>?_
 refine w4 tok (zE (zF [4,5] (zT ?_)))
 exact x_ret _ rfl _ rfl ⟨(r3.1,r3.2),rfl,H⟩
theorem O73:CallOk prog 73:=ck func73
theorem R73 (p0 p1 p2 k h) (H:slot_Open p0 p1 p2 k h):CallsH prog 73 #[.pointer p0,.int .i64 p1,.int .i64 p2] h (fun v h'=>∃ r:Option Addr × Int,v = .tuple #[.pointer r.1,.int .i64 r.2]/\k r h'):=by
 refine fE func73 fun w0=>?_
 refine zF [0,1,2] (zQ ?_)
 refine w2 tok (zE (zS (zQ ?_)))
 refine w3 tok ?_
 refine vU 3 [0,1,2] [(13,.bool ((p0.isNone) || (decide (p2 < 1))))] ?_ ?_
 refine w1 tok ?_
 refine vU 3 [0,1,2] [(17,.bool (((p0.isNone) || (decide (p2 < 1))) || (decide (p2 > 1024))))] ?_ ?_
 refine w1 tok ?_
 refine vU 3 [0,1,2] [(21,.bool ((((p0.isNone) || (decide (p2 < 1))) || (decide (p2 > 1024))) || (decide (p1 < 0))))] ?_ ?_
 refine w1 tok ?_
 refine vU 6 [0,1,2] [(28,.bool (((((p0.isNone) || (decide (p2 < 1))) || (decide (p2 > 1024))) || (decide (p1 < 0))) || (decide (p1 > (IntKind.i64.wrap (1024 - (IntKind.i64.wrap (2 * p2))))))))] ?_ ?_
 refine zE ?_
 refine zI H ?_ ?_ <;> intro H
 refine zQ (w2 tok (zE (zT (yT ?_))))
 exact x_ret _ rfl _ rfl ⟨(none,1),rfl,H⟩
 refine zK (zX (zQ (w3 tok ?_)))
 refine wY (y_build tok rfl rfl rfl rfl rfl) ?_
 refine wX H fun b1 h2 H=>?_
 refine w2 tok (zE (zF [6,7] (zT ?_)))
 exact x_ret _ rfl _ rfl ⟨((some (ad b1)),0),rfl,H⟩
 refine vG (d:=22) (fun hb=>?_) (fun hb=>?_)
 refine wS (wS (wS (wS (wS (w1 tok ?_)))))
 refine vK ?_
 exact congrArg (fun b=>some (Value.bool b)) (or_t hb)
 refine w6 tok ?_
 refine vK ?_
 exact congrArg (fun b=>some (Value.bool b)) (or_f hb)
 refine vG (d:=18) (fun hb=>?_) (fun hb=>?_)
 refine wS (wS (w1 tok ?_))
 refine vK ?_
 exact congrArg (fun b=>some (Value.bool b)) (or_t hb)
 refine w3 tok ?_
 refine vK ?_
 exact congrArg (fun b=>some (Value.bool b)) (or_f hb)
 refine vG (d:=14) (fun hb=>?_) (fun hb=>?_)
 refine wS (wS (w1 tok ?_))
 refine vK ?_
 exact congrArg (fun b=>some (Value.bool b)) (or_t hb)
 refine w3 tok ?_
 refine vK ?_
 exact congrArg (fun b=>some (Value.bool b)) (or_f hb)
 refine vG (d:=10) (fun hb=>?_) (fun hb=>?_)
 refine wS (wS (w1 tok ?_))
 refine vK ?_
 exact congrArg (fun b=>some (Value.bool b)) (or_t hb)
 refine w3 tok ?_
 refine vK ?_
 exact congrArg (fun b=>some (Value.bool b)) (or_f hb)
end Go.Q.Yk
end

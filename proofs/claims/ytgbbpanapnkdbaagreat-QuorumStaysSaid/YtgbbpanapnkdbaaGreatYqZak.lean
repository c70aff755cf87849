/- A part of the proof of statements of this seat: lemmas, no statement of their own. -/
import Derived.Test.YtgbbpanapnkdbaaGreatYqZad
import Derived.Test.YtgbbpanapnkdbaaGreatYqZae
import Derived.Test.YtgbbpanapnkdbaaGreatYqZaj
set_option linter.unusedVariables false
set_option linter.unusedSimpArgs false
section
set_option maxRecDepth 100000
set_option maxHeartbeats 1000000
namespace Go.Q.Yq
open Go.Proofs.Tryz
open Go.RowKit in
theorem eqv178_S_api_Label (a b:S_api_Label) (w:World):(Op.equal 178 (.agg (S_api_Label.cs a).toArray) (.agg (S_api_Label.cs b).toArray)).run Go.Proofs.Tryz.prog w = .ok ((a.f_Name.toList == b.f_Name.toList) && (a.f_Value.toList == b.f_Value.toList)) w:=by
  have hS:Go.Proofs.Tryz.prog.underlying 178=some (.struct (Go.Proofs.Tryz.prog.fieldsOf 178)):=by kernel_rfl
  have hp:Go.Proofs.Tryz.prog.stoodInHeld 178=false:=by kernel_rfl
  have u9:=Go.Proofs.Tryz.underlying9
  have a9:∀ w,(isAgg 9).run Go.Proofs.Tryz.prog w = .ok false w:=Go.Proofs.Tryz.isAgg9
  unfold Op.equal Op.maxDepth
  rw [show (10000:Nat)=9999 + 1 from rfl,run_equalIn_struct w 9999 178 _ _ hS hp]
  simp only [Program.fieldsOf,Go.Proofs.Tryz.underlying178,S_api_Label.cs]
  go_simp
  by_cases h0:(a.f_Name.toList=b.f_Name.toList) <;> by_cases h1:(a.f_Value.toList=b.f_Value.toList) <;> simp [h0,h1]
/-- slices.Index   quaestor api.Label quaestor api.Label  -/
def slices_Index_api_Label_api_Label_l1b (t0_1:Slc) (t3_1:Addr) (t7_1:Int) (t8_1:Int) (k:(Int)->Heap->Prop) (nx1:(Int)->Heap->Prop) (h_1:Heap):Prop :=
  if (decide (t8_1 < t7_1)) then (∃ v3:S_api_Label,CellsAt h_1 t3_1 (S_api_Label.cs v3)/\(∃ a4:Addr,t0_1.a=some a4/\(0:Int)<=t8_1/\t8_1 < (t0_1.len:Int)/\(∃ v5:S_api_Label,CellsAt h_1 (a4.add (t8_1.toNat * 2)) (S_api_Label.cs v5)/\(if (if BinOp.eql = .eql then ((v3.f_Name.toList == v5.f_Name.toList) && (v3.f_Value.toList == v5.f_Value.toList)) else !((v3.f_Name.toList == v5.f_Name.toList) && (v3.f_Value.toList == v5.f_Value.toList))) then (k t8_1 h_1) else (nx1 (IntKind.i64.wrap (t8_1 + 1)) h_1))))) else (∃ x6:Int,x6=(-1)/\(k x6 h_1))
def slices_Index_api_Label_api_Label_l1 (t0_1:Slc) (t3_1:Addr) (t7_1:Int) (i8:Int) (k:(Int)->Heap->Prop) (h:Heap):Prop :=
  ∃ (I:Int->Heap->Prop) (μ:Int->Heap->Nat),I i8 h/\∀ (t8_1:Int) (h:Heap),I t8_1 h->slices_Index_api_Label_api_Label_l1b t0_1 t3_1 t7_1 t8_1 k (fun s h'=>I s h'/\μ s h' < μ t8_1 h) h
def slices_Index_api_Label_api_Label (p0:Slc) (p1:S_api_Label) (k:(Int)->Heap->Prop) (h:Heap):Prop :=
  ∃ (b1:Nat) (h2:Heap),b1=h.size/\h2=h.push (.cells (S_api_Label.cs p1).toArray 178)/\(slices_Index_api_Label_api_Label_l1 p0 (⟨b1,0,none⟩:Addr) (p0.len:Int) 0 k h2)
/-- slices.Contains   quaestor api.Label quaestor api.Label  -/
def slices_Contains_api_Label_api_Label (p0:Slc) (p1:S_api_Label) (k:(Bool)->Heap->Prop) (h:Heap):Prop :=
  ∃ (b1:Nat) (h2:Heap),b1=h.size/\h2=h.push (.cells (S_api_Label.cs p1).toArray 178)/\(∃ v3:S_api_Label,CellsAt h2 (⟨b1,0,none⟩:Addr) (S_api_Label.cs v3)/\(slices_Index_api_Label_api_Label p0 v3 (fun (r4:Int) h5=>k (decide (r4>=0)) h5) h2))
/-- quaestor label.answers 1 -/
def label_answers_1_g1 (t15_1:Bool) (k:(Bool)->Heap->Prop) (h_1:Heap):Prop :=
  k t15_1 h_1
def label_answers_1 (p0:S_api_Label) (p1:Addr) (k:(Bool)->Heap->Prop) (h:Heap):Prop :=
  ∃ (b1:Nat) (h2:Heap),b1=h.size/\h2=h.push (.cells (S_api_Label.cs p0).toArray 178)/\(∃ v3:ByteArray,cellH h2 (⟨b1,0,none⟩:Addr)=some (.string v3)/\(∃ v4:ByteArray,cellH h2 p1=some (.string v4)/\(if (v3.toList == v4.toList) then (∃ v5:ByteArray,cellH h2 ((⟨b1,0,none⟩:Addr).add 1)=some (.string v5)/\(∃ v6:ByteArray,cellH h2 (p1.add 2)=some (.string v6)/\(strings_HasPrefix v5 v6 (fun (r7:Bool) h8=>label_answers_1_g1 r7 k h8) h2))) else (label_answers_1_g1 false k h2))))
/-- slices.IndexFunc   quaestor api.Label quaestor api.Label  -/
def slices_IndexFunc_api_Label_api_Label__label_answers_1_l1b (t0_1:Slc) (t1c0_1:Addr) (t7_1:Int) (t8_1:Int) (k:(Int)->Heap->Prop) (nx1:(Int)->Heap->Prop) (h_1:Heap):Prop :=
  if (decide (t8_1 < t7_1)) then (∃ a1:Addr,t0_1.a=some a1/\(0:Int)<=t8_1/\t8_1 < (t0_1.len:Int)/\(∃ v2:S_api_Label,CellsAt h_1 (a1.add (t8_1.toNat * 2)) (S_api_Label.cs v2)/\(label_answers_1 v2 t1c0_1 (fun (r3:Bool) h4=>if r3 then (k t8_1 h4) else (nx1 (IntKind.i64.wrap (t8_1 + 1)) h4)) h_1))) else (∃ x5:Int,x5=(-1)/\(k x5 h_1))
def slices_IndexFunc_api_Label_api_Label__label_answers_1_l1 (t0_1:Slc) (t1c0_1:Addr) (t7_1:Int) (i8:Int) (k:(Int)->Heap->Prop) (h:Heap):Prop :=
  ∃ (I:Int->Heap->Prop) (μ:Int->Heap->Nat),I i8 h/\∀ (t8_1:Int) (h:Heap),I t8_1 h->slices_IndexFunc_api_Label_api_Label__label_answers_1_l1b t0_1 t1c0_1 t7_1 t8_1 k (fun s h'=>I s h'/\μ s h' < μ t8_1 h) h
def slices_IndexFunc_api_Label_api_Label__label_answers_1 (p0:Slc) (p1c0:Addr) (k:(Int)->Heap->Prop) (h:Heap):Prop :=
  slices_IndexFunc_api_Label_api_Label__label_answers_1_l1 p0 p1c0 (p0.len:Int) 0 k h
/-- slices.ContainsFunc   quaestor api.Label quaestor api.Label  -/
def slices_ContainsFunc_api_Label_api_Label__label_answers_1 (p0:Slc) (p1c0:Addr) (k:(Bool)->Heap->Prop) (h:Heap):Prop :=
  slices_IndexFunc_api_Label_api_Label__label_answers_1 p0 p1c0 (fun (r1:Int) h2=>k (decide (r1>=0)) h2) h
/-- quaestor label.answers -/
def label_answers (p0:S_api_Question) (p1:S_api_Series) (k:(Bool)->Heap->Prop) (h:Heap):Prop :=
  ∃ (b1:Nat) (h2:Heap),b1=h.size/\h2=h.push (.cells (S_api_Question.cs p0).toArray 174)/\(∃ (b3:Nat) (h4:Heap),b3=h2.size/\h4=h2.push (.cells (S_api_Series.cs p1).toArray 147)/\(∃ v5:Int,cellH h4 ((⟨b1,0,none⟩:Addr).add 1)=some (.int .i64 v5)/\(if (v5 == 0) then (∃ v6:Slc,cellH h4 ((⟨b3,0,none⟩:Addr).add 1)=some (Slc.v v6)/\(∃ v7:ByteArray,cellH h4 (⟨b1,0,none⟩:Addr)=some (.string v7)/\(∃ v8:ByteArray,cellH h4 ((⟨b1,0,none⟩:Addr).add 2)=some (.string v8)/\(slices_Contains_api_Label_api_Label v6 (⟨v7,v8⟩:S_api_Label) (fun (r9:Bool) h10=>k r9 h10) h4)))) else (if (v5 == 1) then (∃ v11:Slc,cellH h4 ((⟨b3,0,none⟩:Addr).add 1)=some (Slc.v v11)/\(∃ v12:ByteArray,cellH h4 (⟨b1,0,none⟩:Addr)=some (.string v12)/\(∃ v13:ByteArray,cellH h4 ((⟨b1,0,none⟩:Addr).add 2)=some (.string v13)/\(slices_Contains_api_Label_api_Label v11 (⟨v12,v13⟩:S_api_Label) (fun (r14:Bool) h15=>k (!r14) h15) h4)))) else (if (v5 == 2) then (∃ v16:Slc,cellH h4 ((⟨b3,0,none⟩:Addr).add 1)=some (Slc.v v16)/\(slices_ContainsFunc_api_Label_api_Label__label_answers_1 v16 (⟨b1,0,none⟩:Addr) (fun (r17:Bool) h18=>k r17 h18) h4)) else (k false h4))))))
/-- quaestor label.Chooses 1 -/
def label_Chooses_1 (p0:S_api_Question) (p1:Addr) (k:(Bool)->Heap->Prop) (h:Heap):Prop :=
  ∃ (b1:Nat) (h2:Heap),b1=h.size/\h2=h.push (.cells (S_api_Question.cs p0).toArray 174)/\(∃ v3:S_api_Question,CellsAt h2 (⟨b1,0,none⟩:Addr) (S_api_Question.cs v3)/\(∃ v4:S_api_Series,CellsAt h2 p1 (S_api_Series.cs v4)/\(label_answers v3 v4 (fun (r5:Bool) h6=>k (!r5) h6) h2)))
/-- slices.IndexFunc   quaestor api.Question quaestor api.Question  -/
def slices_IndexFunc_api_Question_api_Question__label_Chooses_1_l1b (t0_1:Slc) (t1c0_1:Addr) (t7_1:Int) (t8_1:Int) (k:(Int)->Heap->Prop) (nx1:(Int)->Heap->Prop) (h_1:Heap):Prop :=
  if (decide (t8_1 < t7_1)) then (∃ a1:Addr,t0_1.a=some a1/\(0:Int)<=t8_1/\t8_1 < (t0_1.len:Int)/\(∃ v2:S_api_Question,CellsAt h_1 (a1.add (t8_1.toNat * 3)) (S_api_Question.cs v2)/\(label_Chooses_1 v2 t1c0_1 (fun (r3:Bool) h4=>if r3 then (k t8_1 h4) else (nx1 (IntKind.i64.wrap (t8_1 + 1)) h4)) h_1))) else (∃ x5:Int,x5=(-1)/\(k x5 h_1))
def slices_IndexFunc_api_Question_api_Question__label_Chooses_1_l1 (t0_1:Slc) (t1c0_1:Addr) (t7_1:Int) (i8:Int) (k:(Int)->Heap->Prop) (h:Heap):Prop :=
  ∃ (I:Int->Heap->Prop) (μ:Int->Heap->Nat),I i8 h/\∀ (t8_1:Int) (h:Heap),I t8_1 h->slices_IndexFunc_api_Question_api_Question__label_Chooses_1_l1b t0_1 t1c0_1 t7_1 t8_1 k (fun s h'=>I s h'/\μ s h' < μ t8_1 h) h
def slices_IndexFunc_api_Question_api_Question__label_Chooses_1 (p0:Slc) (p1c0:Addr) (k:(Int)->Heap->Prop) (h:Heap):Prop :=
  slices_IndexFunc_api_Question_api_Question__label_Chooses_1_l1 p0 p1c0 (p0.len:Int) 0 k h
/-- slices.ContainsFunc   quaestor api.Question quaestor api.Question  -/
def slices_ContainsFunc_api_Question_api_Question__label_Chooses_1 (p0:Slc) (p1c0:Addr) (k:(Bool)->Heap->Prop) (h:Heap):Prop :=
  slices_IndexFunc_api_Question_api_Question__label_Chooses_1 p0 p1c0 (fun (r1:Int) h2=>k (decide (r1>=0)) h2) h
/-- quaestor label.Chooses -/
def label_Chooses_g1 (t2_1:Addr) (t3_1:Addr) (t14_1:Bool) (k:(Bool)->Heap->Prop) (h_1:Heap):Prop :=
  if t14_1 then (k false h_1) else (∃ v6:Slc,cellH h_1 (t2_1.add 1)=some (Slc.v v6)/\(slices_ContainsFunc_api_Question_api_Question__label_Chooses_1 v6 t3_1 (fun (r7:Bool) h8=>k (!r7) h8) h_1))
def label_Chooses (p0:S_api_Selector) (p1:S_api_Series) (k:(Bool)->Heap->Prop) (h:Heap):Prop :=
  ∃ (b1:Nat) (h2:Heap),b1=h.size/\h2=h.push (.cells (S_api_Selector.cs p0).toArray 139)/\(∃ (b3:Nat) (h4:Heap),b3=h2.size/\h4=h2.push (.cells (S_api_Series.cs p1).toArray 147)/\(∃ v5:ByteArray,cellH h4 (⟨b1,0,none⟩:Addr)=some (.string v5)/\(if (!(v5.toList == (⟨#[]⟩:ByteArray).toList)) then (∃ v9:ByteArray,cellH h4 (⟨b1,0,none⟩:Addr)=some (.string v9)/\(∃ v10:ByteArray,cellH h4 (⟨b3,0,none⟩:Addr)=some (.string v10)/\(label_Chooses_g1 (⟨b1,0,none⟩:Addr) (⟨b3,0,none⟩:Addr) (!(v9.toList == v10.toList)) k h4))) else (label_Chooses_g1 (⟨b1,0,none⟩:Addr) (⟨b3,0,none⟩:Addr) false k h4))))
theorem O154:CallOk prog 154:=ck func154
theorem R154 (p0 p1 k h) (H:slices_Index_api_Label_api_Label p0 p1 k h):CallsH prog 154 #[Slc.v p0,.agg (S_api_Label.cs p1).toArray] h (fun v h'=>∃ r:Int,v = .int .i64 r/\k r h'):=by
 refine fE func154 fun w0=>?_
 refine zF [0,1] (zQ ?_)
 refine wX H fun b1 h2 H=>?_
 refine w1 tok (zE (zS (zQ ?_)))
 refine w3 tok (zE (zB ?_))
 obtain ⟨I1,μ1,H0,HI⟩:=H
 refine zO (σ:=Int) [0,3,7] (fun (s:Int)=>[(8,.int .i64 s)]) I1 μ1 0 H0 ?_
 rintro t8_1 h_1 H
 replace H:=HI t8_1 h_1 H
 refine zF [8,0,3,7] (zQ ?_)
 refine w1 tok (zE (zS ?_))
 refine zI H ?_ ?_ <;> intro H
 refine zK (zX (zS (zB (zQ (w2 tok (zE (zS ?_)))))))
 refine c_draw (by kernel_rfl) (by kernel_rfl) ?_
 obtain ⟨v3,hv3,H⟩:=H
 refine q_y (y_lda tok rfl rfl rfl rfl rfl hv3) rfl rfl ?_
 refine q_p tok rfl rfl rfl ?_
 refine q_p tok rfl rfl rfl ?_
 obtain ⟨a4,ha4,la4,ua4,H⟩:=H
 refine q_y (y_ixa' tok rfl rfl ha4 rfl rfl rfl la4 ua4) rfl rfl ?_
 obtain ⟨v5,hv5,H⟩:=H
 refine q_y (y_lda tok rfl rfl rfl rfl rfl hv5) rfl rfl ?_
 refine q_y (y_eqs (op:=.eql) (xs:=S_api_Label.cs v3) (ys:=S_api_Label.cs v5) (.inl rfl) rfl rfl rfl (eqv178_S_api_Label v3 v5) (by kernel_rfl)) rfl rfl ?_
 refine q_end ?_
 refine zX (zF [8,0,3,7,5,16] ?_)
 refine zI H ?_ ?_ <;> intro H
 refine zQ (w2 tok (zE (zF [4] (zT (yB (yT (yT (yB (yT ?_)))))))))
 exact x_ret _ rfl _ rfl ⟨t8_1,rfl,H⟩
 refine zK (yL (zX (zR (w2 tok (zW ?_)))))
 exact xJ (IntKind.i64.wrap (t8_1 + 1)) H
 refine zY (yE (yE (yH (zX (zQ ?_)))))
 obtain ⟨x6,ex6,H⟩:=H
 refine w_pe tok rfl (congrArg (fun z=>(.int .i64 z:Value)) ex6) rfl rfl ?_
 refine zE (zT ?_)
 exact x_ret _ rfl _ rfl ⟨x6,rfl,H⟩
theorem O130:CallOk prog 130:=ck func130
theorem R130 (p0 p1 k h) (H:slices_Contains_api_Label_api_Label p0 p1 k h):CallsH prog 130 #[Slc.v p0,.agg (S_api_Label.cs p1).toArray] h (fun v h'=>∃ r:Bool,v = .bool r/\k r h'):=by
 refine fE func130 fun w0=>?_
 refine zF [0,1] (zQ ?_)
 refine wX H fun b1 h2 H=>?_
 refine w1 tok (zE (zQ ?_))
 refine w1 tok ?_
 refine wLa tok H fun v3 H=>?_
 refine wC O154 (R154 _ _ _ _ H) fun r4 h5 H=>?_
 refine w2 tok (zE (zF [4] (zT ?_)))
 exact x_ret _ rfl _ rfl ⟨(decide (r4>=0)),rfl,H⟩
theorem O132:CallOk prog 132:=ck func132
theorem R132 (p0 p1 k h) (H:label_answers_1 p0 p1 k h):CallsH prog 132 #[.agg (S_api_Label.cs p0).toArray,.pointer (some p1)] h (fun v h'=>∃ r:Bool,v = .bool r/\k r h'):=by
 refine fE func132 fun w0=>?_
 refine zF [0,1] (zQ ?_)
 refine wX H fun b1 h2 H=>?_
 refine w1 tok (zE (zQ ?_))
 refine w1 tok ?_
 refine wL tok H fun v3 H=>?_
 refine w1 tok ?_
 refine wL tok H fun v4 H=>?_
 refine w2 tok ?_
 refine vJ 6 (α:=Bool) [] (fun (s:Bool)=>[(15,.bool s)]) (fun (s:Bool) h=>label_answers_1_g1 s k h) ?_ ?_
 rintro t15_1 h_1 H
 refine vF [15] ?_
 refine w1 tok (zE (zT ?_))
 exact x_ret _ rfl _ rfl ⟨t15_1,rfl,H⟩
 refine vI 9 H ?_ ?_ <;> intro H
 refine w1 tok ?_
 refine wL tok H fun v5 H=>?_
 refine w1 tok ?_
 refine wL tok H fun v6 H=>?_
 refine wC O133 (R133 _ _ _ _ H) fun r7 h8 H=>?_
 refine w1 tok ?_
 exact wJ r7 H
 refine wS (wS (wS (wS (wS (w1 tok ?_)))))
 exact wJ false H
theorem O155_1_132:CallOk prog 155:=ck func155
theorem R155_1_132 (p0 p1c0 k h) (H:slices_IndexFunc_api_Label_api_Label__label_answers_1 p0 p1c0 k h):CallsH prog 155 #[Slc.v p0,(Value.func (.func 132) #[] #[.pointer (some p1c0)])] h (fun v h'=>∃ r:Int,v = .int .i64 r/\k r h'):=by
 refine fE func155 fun w0=>?_
 refine zF [0,1] (zQ ?_)
 refine w1 tok (zE (zS (zQ ?_)))
 refine w3 tok (zE (zB ?_))
 obtain ⟨I1,μ1,H0,HI⟩:=H
 refine zO (σ:=Int) [0,1,7] (fun (s:Int)=>[(8,.int .i64 s)]) I1 μ1 0 H0 ?_
 rintro t8_1 h_1 H
 replace H:=HI t8_1 h_1 H
 refine zF [8,0,1,7] (zQ ?_)
 refine w1 tok (zE (zS ?_))
 refine zI H ?_ ?_ <;> intro H
 refine zK (zX (zS (zB (zQ (w2 tok (zE (zQ ?_)))))))
 refine w3 tok ?_
 refine wD tok H fun a1 _ H=>?_
 refine wLa tok H fun v2 H=>?_
 refine w_callv (vs:=[.agg (S_api_Label.cs v2).toArray]) (cap:=[.pointer (some p1c0)]) O132 (R132 _ _ _ _ H) rfl rfl rfl rfl rfl ?_
 rintro _ h4 ⟨r3,rfl,H⟩
 refine zE (zF [8,0,1,7,5,16] ?_)
 refine zI H ?_ ?_ <;> intro H
 refine zQ (w2 tok (zE (zF [4] (zT (yB (yT (yT (yB (yT ?_)))))))))
 exact x_ret _ rfl _ rfl ⟨t8_1,rfl,H⟩
 refine zK (yL (zX (zR (w2 tok (zW ?_)))))
 exact xJ (IntKind.i64.wrap (t8_1 + 1)) H
 refine zY (yE (yE (yH (zX (zQ ?_)))))
 obtain ⟨x5,ex5,H⟩:=H
 refine w_pe tok rfl (congrArg (fun z=>(.int .i64 z:Value)) ex5) rfl rfl ?_
 refine zE (zT ?_)
 exact x_ret _ rfl _ rfl ⟨x5,rfl,H⟩
theorem O131_1_132:CallOk prog 131:=ck func131
theorem R131_1_132 (p0 p1c0 k h) (H:slices_ContainsFunc_api_Label_api_Label__label_answers_1 p0 p1c0 k h):CallsH prog 131 #[Slc.v p0,(Value.func (.func 132) #[] #[.pointer (some p1c0)])] h (fun v h'=>∃ r:Bool,v = .bool r/\k r h'):=by
 refine fE func131 fun w0=>?_
 refine zF [0,1] (zQ ?_)
 refine w1 tok (zE (zQ ?_))
 refine w2 tok ?_
 refine wC O155_1_132 (R155_1_132 _ _ _ _ H) fun r1 h2 H=>?_
 refine w2 tok (zE (zT ?_))
 exact x_ret _ rfl _ rfl ⟨(decide (r1>=0)),rfl,H⟩
theorem O105:CallOk prog 105:=ck func105
theorem R105 (p0 p1 k h) (H:label_answers p0 p1 k h):CallsH prog 105 #[.agg (S_api_Question.cs p0).toArray,.agg (S_api_Series.cs p1).toArray] h (fun v h'=>∃ r:Bool,v = .bool r/\k r h'):=by
 refine fE func105 fun w0=>?_
 refine zF [0,1] (zQ ?_)
 refine wX H fun b1 h2 H=>?_
 refine wX H fun b3 h4 H=>?_
 refine w1 tok (zE (zS (zQ ?_)))
 refine w1 tok ?_
 refine wL tok H fun v5 H=>?_
 refine zE (zB (zQ (w2 tok (zE ?_))))
 refine zI H ?_ ?_ <;> intro H
 refine zQ (w1 tok ?_)
 refine wL tok H fun v6 H=>?_
 refine w1 tok ?_
 refine wL tok H fun v7 H=>?_
 refine w1 tok ?_
 refine wL tok H fun v8 H=>?_
 refine wY (y_build tok rfl rfl rfl rfl rfl) ?_
 refine wC O130 (R130 _ _ _ _ H) fun r9 h10 H=>?_
 refine w1 tok (zE (zF [4] (zT (yB (yT ?_)))))
 exact x_ret _ rfl _ rfl ⟨r9,rfl,H⟩
 refine zQ (w2 tok (zE (zF [2,3,6,17] ?_)))
 refine zI H ?_ ?_ <;> intro H
 refine zQ (w1 tok ?_)
 refine wL tok H fun v11 H=>?_
 refine w1 tok ?_
 refine wL tok H fun v12 H=>?_
 refine w1 tok ?_
 refine wL tok H fun v13 H=>?_
 refine wY (y_build tok rfl rfl rfl rfl rfl) ?_
 refine wC O130 (R130 _ _ _ _ H) fun r14 h15 H=>?_
 refine w2 tok (zE (zF [4] (zT (yB (yT ?_)))))
 exact x_ret _ rfl _ rfl ⟨(!r14),rfl,H⟩
 refine zQ (w2 tok (zE ?_))
 refine zI H ?_ ?_ <;> intro H
 refine zQ (w1 tok ?_)
 refine wL tok H fun v16 H=>?_
 refine wY (y_mkf rfl rfl) ?_
 refine wC O131_1_132 (R131_1_132 _ _ _ _ H) fun r17 h18 H=>?_
 refine w1 tok (zE (zF [4] (zT (yB (yT ?_)))))
 exact x_ret _ rfl _ rfl ⟨r17,rfl,H⟩
 refine zK (yL (zX (zQ (w1 tok (zE (zT ?_))))))
 exact x_ret _ rfl _ rfl ⟨false,rfl,H⟩
theorem O104:CallOk prog 104:=ck func104
theorem R104 (p0 p1 k h) (H:label_Chooses_1 p0 p1 k h):CallsH prog 104 #[.agg (S_api_Question.cs p0).toArray,.pointer (some p1)] h (fun v h'=>∃ r:Bool,v = .bool r/\k r h'):=by
 refine fE func104 fun w0=>?_
 refine zF [0,1] (zQ ?_)
 refine wX H fun b1 h2 H=>?_
 refine w1 tok (zE (zQ ?_))
 refine wLa tok H fun v3 H=>?_
 refine wLa tok H fun v4 H=>?_
 refine wC O105 (R105 _ _ _ _ H) fun r5 h6 H=>?_
 refine w2 tok (zE (zF [3] (zT ?_)))
 exact x_ret _ rfl _ rfl ⟨(!r5),rfl,H⟩
theorem O129_1_104:CallOk prog 129:=ck func129
theorem R129_1_104 (p0 p1c0 k h) (H:slices_IndexFunc_api_Question_api_Question__label_Chooses_1 p0 p1c0 k h):CallsH prog 129 #[Slc.v p0,(Value.func (.func 104) #[] #[.pointer (some p1c0)])] h (fun v h'=>∃ r:Int,v = .int .i64 r/\k r h'):=by
 refine fE func129 fun w0=>?_
 refine zF [0,1] (zQ ?_)
 refine w1 tok (zE (zS (zQ ?_)))
 refine w3 tok (zE (zB ?_))
 obtain ⟨I1,μ1,H0,HI⟩:=H
 refine zO (σ:=Int) [0,1,7] (fun (s:Int)=>[(8,.int .i64 s)]) I1 μ1 0 H0 ?_
 rintro t8_1 h_1 H
 replace H:=HI t8_1 h_1 H
 refine zF [8,0,1,7] (zQ ?_)
 refine w1 tok (zE (zS ?_))
 refine zI H ?_ ?_ <;> intro H
 refine zK (zX (zS (zB (zQ (w2 tok (zE (zQ ?_)))))))
 refine w3 tok ?_
 refine wD tok H fun a1 _ H=>?_
 refine wLa tok H fun v2 H=>?_
 refine w_callv (vs:=[.agg (S_api_Question.cs v2).toArray]) (cap:=[.pointer (some p1c0)]) O104 (R104 _ _ _ _ H) rfl rfl rfl rfl rfl ?_
 rintro _ h4 ⟨r3,rfl,H⟩
 refine zE (zF [8,0,1,7,5,16] ?_)
 refine zI H ?_ ?_ <;> intro H
 refine zQ (w2 tok (zE (zF [4] (zT (yB (yT (yT (yB (yT ?_)))))))))
 exact x_ret _ rfl _ rfl ⟨t8_1,rfl,H⟩
 refine zK (yL (zX (zR (w2 tok (zW ?_)))))
 exact xJ (IntKind.i64.wrap (t8_1 + 1)) H
 refine zY (yE (yE (yH (zX (zQ ?_)))))
 obtain ⟨x5,ex5,H⟩:=H
 refine w_pe tok rfl (congrArg (fun z=>(.int .i64 z:Value)) ex5) rfl rfl ?_
 refine zE (zT ?_)
 exact x_ret _ rfl _ rfl ⟨x5,rfl,H⟩
theorem O103_1_104:CallOk prog 103:=ck func103
theorem R103_1_104 (p0 p1c0 k h) (H:slices_ContainsFunc_api_Question_api_Question__label_Chooses_1 p0 p1c0 k h):CallsH prog 103 #[Slc.v p0,(Value.func (.func 104) #[] #[.pointer (some p1c0)])] h (fun v h'=>∃ r:Bool,v = .bool r/\k r h'):=by
 refine fE func103 fun w0=>?_
 refine zF [0,1] (zQ ?_)
 refine w1 tok (zE (zQ ?_))
 refine w2 tok ?_
 refine wC O129_1_104 (R129_1_104 _ _ _ _ H) fun r1 h2 H=>?_
 refine w2 tok (zE (zT ?_))
 exact x_ret _ rfl _ rfl ⟨(decide (r1>=0)),rfl,H⟩
theorem O77:CallOk prog 77:=ck func77
theorem R77 (p0 p1 k h) (H:label_Chooses p0 p1 k h):CallsH prog 77 #[.agg (S_api_Selector.cs p0).toArray,.agg (S_api_Series.cs p1).toArray] h (fun v h'=>∃ r:Bool,v = .bool r/\k r h'):=by
 refine fE func77 fun w0=>?_
 refine zF [0,1] (zQ ?_)
 refine wX H fun b1 h2 H=>?_
 refine wX H fun b3 h4 H=>?_
 refine w1 tok (zE (zS (zQ ?_)))
 refine w1 tok ?_
 refine wL tok H fun v5 H=>?_
 refine w2 tok ?_
 refine vJ 6 (α:=Bool) [2,3] (fun (s:Bool)=>[(14,.bool s)]) (fun (s:Bool) h=>label_Chooses_g1 (ad b1) (ad b3) s k h) ?_ ?_
 rintro t14_1 h_1 H
 refine vF [14,2,3] (zE ?_)
 refine zI H ?_ ?_ <;> intro H
 refine zQ (w1 tok (zE (zT (yT ?_))))
 exact x_ret _ rfl _ rfl ⟨false,rfl,H⟩
 refine zK (zX (zQ (w1 tok ?_)))
 refine wL tok H fun v6 H=>?_
 refine wY (y_mkf rfl rfl) ?_
 refine wC O103_1_104 (R103_1_104 _ _ _ _ H) fun r7 h8 H=>?_
 refine w2 tok (zE (zF [4] (zT ?_)))
 exact x_ret _ rfl _ rfl ⟨(!r7),rfl,H⟩
 refine vI 8 H ?_ ?_ <;> intro H
 refine w1 tok ?_
 refine wL tok H fun v9 H=>?_
 refine w1 tok ?_
 refine wL tok H fun v10 H=>?_
 refine w2 tok ?_
 exact wJ (!(v9.toList == v10.toList)) H
 refine wS (wS (wS (wS (wS (w1 tok ?_)))))
 exact wJ false H
end Go.Q.Yq
end

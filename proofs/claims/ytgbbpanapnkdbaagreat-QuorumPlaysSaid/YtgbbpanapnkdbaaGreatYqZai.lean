/- A part of the proof of statements of this seat: lemmas, no statement of their own. -/
import Derived.Test.YtgbbpanapnkdbaaGreatYqZad
import Derived.Test.YtgbbpanapnkdbaaGreatYqZae
import Derived.Test.YtgbbpanapnkdbaaGreatYqZah
set_option linter.unusedVariables false
set_option linter.unusedSimpArgs false
set_option maxRecDepth 100000
set_option maxHeartbeats 1000000
section
namespace Go.Q.Yq
open Go.Proofs.Tryz
open Go.RowKit in
theorem Co (a b:aD) (w:World):(Op.equal 178 (.agg (aD.cs a).toArray) (.agg (aD.cs b).toArray)).run Go.Proofs.Tryz.prog w = .ok ((a.qG.toList == b.qG.toList) && (a.rP.toList == b.rP.toList)) w:=by
  have hS:Go.Proofs.Tryz.prog.underlying 178=some (.struct (Go.Proofs.Tryz.prog.fieldsOf 178)):=by kernel_rfl
  have hp:Go.Proofs.Tryz.prog.stoodInHeld 178=false:=by kernel_rfl
  have u9:=Go.Proofs.Tryz.underlying9
  have a9:∀ w,(isAgg 9).run Go.Proofs.Tryz.prog w = .ok false w:=Go.Proofs.Tryz.isAgg9
  unfold Op.equal Op.maxDepth
  rw [show (10000:Nat)=9999 + 1 from rfl,run_equalIn_struct w 9999 178 _ _ hS hp]
  simp only [Program.fieldsOf,Go.Proofs.Tryz.underlying178,aD.cs]
  go_simp
  by_cases h0:(a.qG.toList=b.qG.toList) <;> by_cases h1:(a.rP.toList=b.rP.toList) <;> simp [h0,h1]
/-- slices.Index   quaestor api.Label quaestor api.Label  -/
def jR (b_:Slc) (d_:Addr) (f_:Int) (a_:Int) (k:KP Int) (nx1:KP Int) (h_1:Heap):Prop :=
  if (decide (a_ < f_)) then (∃ v3,ai h_1 d_ (aD.cs v3)/\(∃ a4,b_.a=some a4/\(0:Int)<=a_/\a_ < (b_.len:Int)/\(∃ v5,ai h_1 (a4.add (a_.toNat * 2)) (aD.cs v5)/\(if (if BinOp.eql = .eql then ((v3.qG.toList == v5.qG.toList) && (v3.rP.toList == v5.rP.toList)) else !((v3.qG.toList == v5.qG.toList) && (v3.rP.toList == v5.rP.toList))) then (k a_ h_1) else (nx1 (IntKind.i64.wrap (a_ + 1)) h_1))))) else (∃ x6,x6=(-1)/\(k x6 h_1))
def qc (b_:Slc) (d_:Addr) (f_:Int) (i8:Int) (k:KP Int) (h:Heap):Prop :=
  ∃ (I:KP Int) (μ:Int->Heap->Nat),I i8 h/\∀ (a_:Int) (h:Heap),I a_ h->jR b_ d_ f_ a_ k (fun s h'=>I s h'/\μ s h' < μ a_ h) h
def gD (p0:Slc) (p1:aD) (k:KP Int) (h:Heap):Prop :=
  ∃ b1 h2,b1=h.size/\h2=h.push (.cells (aD.cs p1).toArray 178)/\(qc p0 (ad b1) (p0.len:Int) 0 k h2)
/-- slices.Contains   quaestor api.Label quaestor api.Label  -/
def bX (p0:Slc) (p1:aD) (k:KP Bool) (h:Heap):Prop :=
  ∃ b1 h2,b1=h.size/\h2=h.push (.cells (aD.cs p1).toArray 178)/\(∃ v3,ai h2 (ad b1) (aD.cs v3)/\(gD p0 v3 (fun r4 h5=>k (decide (r4>=0)) h5) h2))
/-- quaestor label.answers 1 -/
def kH (a_:Bool) (k:KP Bool) (h_1:Heap):Prop :=
  k a_ h_1
def uG (p0:aD) (p1:Addr) (k:KP Bool) (h:Heap):Prop :=
  ∃ b1 h2,b1=h.size/\h2=h.push (.cells (aD.cs p0).toArray 178)/\(∃ v3,ah h2 (ad b1)=some (.string v3)/\(∃ v4,ah h2 p1=some (.string v4)/\(if (v3.toList == v4.toList) then (∃ v5,ah h2 ((ad b1).add 1)=some (.string v5)/\(∃ v6,ah h2 (p1.add 2)=some (.string v6)/\(strings_HasPrefix v5 v6 (fun r7 h8=>kH r7 k h8) h2))) else (kH false k h2))))
/-- slices.IndexFunc   quaestor api.Label quaestor api.Label  -/
def dK (b_:Slc) (t1c0_1:Addr) (d_:Int) (a_:Int) (k:KP Int) (nx1:KP Int) (h_1:Heap):Prop :=
  if (decide (a_ < d_)) then (∃ a1,b_.a=some a1/\(0:Int)<=a_/\a_ < (b_.len:Int)/\(∃ v2,ai h_1 (a1.add (a_.toNat * 2)) (aD.cs v2)/\(uG v2 t1c0_1 (fun r3 h4=>if r3 then (k a_ h4) else (nx1 (IntKind.i64.wrap (a_ + 1)) h4)) h_1))) else (∃ x5,x5=(-1)/\(k x5 h_1))
def jh (b_:Slc) (t1c0_1:Addr) (d_:Int) (i8:Int) (k:KP Int) (h:Heap):Prop :=
  ∃ (I:KP Int) (μ:Int->Heap->Nat),I i8 h/\∀ (a_:Int) (h:Heap),I a_ h->dK b_ t1c0_1 d_ a_ k (fun s h'=>I s h'/\μ s h' < μ a_ h) h
def bQ (p0:Slc) (p1c0:Addr) (k:KP Int) (h:Heap):Prop :=
  jh p0 p1c0 (p0.len:Int) 0 k h
/-- slices.ContainsFunc   quaestor api.Label quaestor api.Label  -/
def aV (p0:Slc) (p1c0:Addr) (k:KP Bool) (h:Heap):Prop :=
  bQ p0 p1c0 (fun r1 h2=>k (decide (r1>=0)) h2) h
/-- quaestor label.answers -/
def tO (p0:az) (p1:ay) (k:KP Bool) (h:Heap):Prop :=
  ∃ b1 h2,b1=h.size/\h2=h.push (.cells (az.cs p0).toArray 174)/\(∃ b3 h4,b3=h2.size/\h4=h2.push (.cells (ay.cs p1).toArray 147)/\(∃ v5,ah h4 ((ad b1).add 1)=some (.int .i64 v5)/\(if (v5 == 0) then (∃ v6,ah h4 ((ad b3).add 1)=some (Slc.v v6)/\(∃ v7,ah h4 (ad b1)=some (.string v7)/\(∃ v8,ah h4 ((ad b1).add 2)=some (.string v8)/\(bX v6 (⟨v7,v8⟩:aD) (fun r9 h10=>k r9 h10) h4)))) else (if (v5 == 1) then (∃ v11,ah h4 ((ad b3).add 1)=some (Slc.v v11)/\(∃ v12,ah h4 (ad b1)=some (.string v12)/\(∃ v13,ah h4 ((ad b1).add 2)=some (.string v13)/\(bX v11 (⟨v12,v13⟩:aD) (fun r14 h15=>k (!r14) h15) h4)))) else (if (v5 == 2) then (∃ v16,ah h4 ((ad b3).add 1)=some (Slc.v v16)/\(aV v16 (ad b1) (fun r17 h18=>k r17 h18) h4)) else (k false h4))))))
/-- quaestor label.Chooses 1 -/
def uM (p0:az) (p1:Addr) (k:KP Bool) (h:Heap):Prop :=
  ∃ b1 h2,b1=h.size/\h2=h.push (.cells (az.cs p0).toArray 174)/\(∃ v3,ai h2 (ad b1) (az.cs v3)/\(∃ v4,ai h2 p1 (ay.cs v4)/\(tO v3 v4 (fun r5 h6=>k (!r5) h6) h2)))
/-- slices.IndexFunc   quaestor api.Question quaestor api.Question  -/
def df (b_:Slc) (t1c0_1:Addr) (d_:Int) (a_:Int) (k:KP Int) (nx1:KP Int) (h_1:Heap):Prop :=
  if (decide (a_ < d_)) then (∃ a1,b_.a=some a1/\(0:Int)<=a_/\a_ < (b_.len:Int)/\(∃ v2,ai h_1 (a1.add (a_.toNat * 3)) (az.cs v2)/\(uM v2 t1c0_1 (fun r3 h4=>if r3 then (k a_ h4) else (nx1 (IntKind.i64.wrap (a_ + 1)) h4)) h_1))) else (∃ x5,x5=(-1)/\(k x5 h_1))
def fU (b_:Slc) (t1c0_1:Addr) (d_:Int) (i8:Int) (k:KP Int) (h:Heap):Prop :=
  ∃ (I:KP Int) (μ:Int->Heap->Nat),I i8 h/\∀ (a_:Int) (h:Heap),I a_ h->df b_ t1c0_1 d_ a_ k (fun s h'=>I s h'/\μ s h' < μ a_ h) h
def bC (p0:Slc) (p1c0:Addr) (k:KP Int) (h:Heap):Prop :=
  fU p0 p1c0 (p0.len:Int) 0 k h
/-- slices.ContainsFunc   quaestor api.Question quaestor api.Question  -/
def bu (p0:Slc) (p1c0:Addr) (k:KP Bool) (h:Heap):Prop :=
  bC p0 p1c0 (fun r1 h2=>k (decide (r1>=0)) h2) h
/-- quaestor label.Chooses -/
def ni (a_:Addr) (b_:Addr) (d_:Bool) (k:KP Bool) (h_1:Heap):Prop :=
  if d_ then (k false h_1) else (∃ v6,ah h_1 (a_.add 1)=some (Slc.v v6)/\(bu v6 b_ (fun r7 h8=>k (!r7) h8) h_1))
def sU (p0:af) (p1:ay) (k:KP Bool) (h:Heap):Prop :=
  ∃ b1 h2,b1=h.size/\h2=h.push (.cells (af.cs p0).toArray 139)/\(∃ b3 h4,b3=h2.size/\h4=h2.push (.cells (ay.cs p1).toArray 147)/\(∃ v5,ah h4 (ad b1)=some (.string v5)/\(if (!(v5.toList == (⟨#[]⟩:ByteArray).toList)) then (∃ v9,ah h4 (ad b1)=some (.string v9)/\(∃ v10,ah h4 (ad b3)=some (.string v10)/\(ni (ad b1) (ad b3) (!(v9.toList == v10.toList)) k h4))) else (ni (ad b1) (ad b3) false k h4))))
theorem SN:aF prog 154:=ck func154
theorem Sa (p0 p1 k h) (H:gD p0 p1 k h):CallsH prog 154 #[Slc.v p0,.agg (aD.cs p1).toArray] h (rI .i64 k):=by
 refine fE func154 fun w0=>?_
 refine zF [0,1] (zQ ?_)
 refine wX H fun b1 h2 H=>?_
 refine w1 Z (zE (zS (zQ ?_)))
 refine w3 Z (zE (zB ?_))
 obtain ⟨I1,μ1,H0,HI⟩:=H
 refine zO (σ:=Int) [0,3,7] (fun (s:Int)=>[(8,.int .i64 s)]) I1 μ1 0 H0 ?_
 rintro a_ h_1 H
 replace H:=HI a_ h_1 H
 refine zF [8,0,3,7] (zQ ?_)
 refine w1 Z (zE (zS ?_))
 refine zI H ?_ ?_ <;> intro H
 refine zK (zX (zS (zB (zQ (w2 Z (zE (zS ?_)))))))
 refine qZ (by kernel_rfl) (by kernel_rfl) ?_
 obtain ⟨v3,hv3,H⟩:=H
 refine q_y (fC Z rfl rfl rfl rfl rfl hv3) rfl rfl ?_
 refine qp Z ?_
 refine qp Z ?_
 obtain ⟨a4,ha4,la4,ua4,H⟩:=H
 refine q_y (lh Z rfl rfl ha4 rfl rfl rfl la4 ua4) rfl rfl ?_
 obtain ⟨v5,hv5,H⟩:=H
 refine q_y (fC Z rfl rfl rfl rfl rfl hv5) rfl rfl ?_
 refine q_y (GR (op:=.eql) (xs:=aD.cs v3) (ys:=aD.cs v5) (.inl rfl) rfl rfl rfl (Co v3 v5) (by kernel_rfl)) rfl rfl ?_
 refine xK ?_
 refine zX (zF [8,0,3,7,5,16] ?_)
 refine zI H ?_ ?_ <;> intro H
 refine zQ (w2 Z (zE (zF [4] (zT (yB (yT (yT (yB (yT ?_)))))))))
 exact aB _ rfl _ rfl ⟨a_,rfl,H⟩
 refine zK (yL (zX (zR (w2 Z (zW ?_)))))
 exact xJ (IntKind.i64.wrap (a_ + 1)) H
 refine zY (yE (yE (yH (zX (zQ ?_)))))
 refine wQ Z H fun x6 H=>?_
 refine zE (zT ?_)
 exact aB _ rfl _ rfl ⟨x6,rfl,H⟩
theorem Qr:aF prog 130:=ck func130
theorem QS (p0 p1 k h) (H:bX p0 p1 k h):CallsH prog 130 #[Slc.v p0,.agg (aD.cs p1).toArray] h (rB k):=by
 refine fE func130 fun w0=>?_
 refine zF [0,1] (zQ ?_)
 refine wX H fun b1 h2 H=>?_
 refine w1 Z (zE (zQ ?_))
 refine w1 Z ?_
 refine wLa Z H fun v3 H=>?_
 refine wC SN (Sa _ _ _ _ H) fun r4 h5 H=>?_
 refine w2 Z (zE (zF [4] (zT ?_)))
 exact aB _ rfl _ rfl ⟨(decide (r4>=0)),rfl,H⟩
theorem RP:aF prog 132:=ck func132
theorem QZ (p0 p1 k h) (H:uG p0 p1 k h):CallsH prog 132 #[.agg (aD.cs p0).toArray,.pointer (some p1)] h (rB k):=by
 refine fE func132 fun w0=>?_
 refine zF [0,1] (zQ ?_)
 refine wX H fun b1 h2 H=>?_
 refine w1 Z (zE (zQ ?_))
 refine w1 Z ?_
 refine wL Z H fun v3 H=>?_
 refine w1 Z ?_
 refine wL Z H fun v4 H=>?_
 refine w2 Z ?_
 refine vJ 6 (α:=Bool) [] (fun (s:Bool)=>[(15,.bool s)]) (fun (s:Bool) h=>kH s k h) ?_ ?_
 rintro a_ h_1 H
 refine vF [15] ?_
 refine w1 Z (zE (zT ?_))
 exact aB _ rfl _ rfl ⟨a_,rfl,H⟩
 refine vI 9 H ?_ ?_ <;> intro H
 refine w1 Z ?_
 refine wL Z H fun v5 H=>?_
 refine w1 Z ?_
 refine wL Z H fun v6 H=>?_
 refine wC RF (Sl _ _ _ _ H) fun r7 h8 H=>?_
 refine w1 Z ?_
 exact wJ r7 H
 refine wS (wS (wS (wS (wS (w1 Z ?_)))))
 exact wJ false H
theorem IQ:aF prog 155:=ck func155
theorem Jd (p0 p1c0 k h) (H:bQ p0 p1c0 k h):CallsH prog 155 #[Slc.v p0,(Value.func (.func 132) #[] #[.pointer (some p1c0)])] h (rI .i64 k):=by
 refine fE func155 fun w0=>?_
 refine zF [0,1] (zQ ?_)
 refine w1 Z (zE (zS (zQ ?_)))
 refine w3 Z (zE (zB ?_))
 obtain ⟨I1,μ1,H0,HI⟩:=H
 refine zO (σ:=Int) [0,1,7] (fun (s:Int)=>[(8,.int .i64 s)]) I1 μ1 0 H0 ?_
 rintro a_ h_1 H
 replace H:=HI a_ h_1 H
 refine zF [8,0,1,7] (zQ ?_)
 refine w1 Z (zE (zS ?_))
 refine zI H ?_ ?_ <;> intro H
 refine zK (zX (zS (zB (zQ (w2 Z (zE (zQ ?_)))))))
 refine w3 Z ?_
 refine wD Z H fun a1 _ H=>?_
 refine wLa Z H fun v2 H=>?_
 refine JO (vs:=[.agg (aD.cs v2).toArray]) (cap:=[.pointer (some p1c0)]) RP (QZ _ _ _ _ H) rfl rfl rfl rfl rfl ?_
 rintro _ h4 ⟨r3,rfl,H⟩
 refine zE (zF [8,0,1,7,5,16] ?_)
 refine zI H ?_ ?_ <;> intro H
 refine zQ (w2 Z (zE (zF [4] (zT (yB (yT (yT (yB (yT ?_)))))))))
 exact aB _ rfl _ rfl ⟨a_,rfl,H⟩
 refine zK (yL (zX (zR (w2 Z (zW ?_)))))
 exact xJ (IntKind.i64.wrap (a_ + 1)) H
 refine zY (yE (yE (yH (zX (zQ ?_)))))
 refine wQ Z H fun x5 H=>?_
 refine zE (zT ?_)
 exact aB _ rfl _ rfl ⟨x5,rfl,H⟩
theorem Jf:aF prog 131:=ck func131
theorem IV (p0 p1c0 k h) (H:aV p0 p1c0 k h):CallsH prog 131 #[Slc.v p0,(Value.func (.func 132) #[] #[.pointer (some p1c0)])] h (rB k):=by
 refine fE func131 fun w0=>?_
 refine zF [0,1] (zQ ?_)
 refine w1 Z (zE (zQ ?_))
 refine w2 Z ?_
 refine wC IQ (Jd _ _ _ _ H) fun r1 h2 H=>?_
 refine w2 Z (zE (zT ?_))
 exact aB _ rfl _ rfl ⟨(decide (r1>=0)),rfl,H⟩
theorem SQ:aF prog 105:=ck func105
theorem SE (p0 p1 k h) (H:tO p0 p1 k h):CallsH prog 105 #[.agg (az.cs p0).toArray,.agg (ay.cs p1).toArray] h (rB k):=by
 refine fE func105 fun w0=>?_
 refine zF [0,1] (zQ ?_)
 refine wX H fun b1 h2 H=>?_
 refine wX H fun b3 h4 H=>?_
 refine w1 Z (zE (zS (zQ ?_)))
 refine w1 Z ?_
 refine wL Z H fun v5 H=>?_
 refine zE (zB (zQ (w2 Z (zE ?_))))
 refine zI H ?_ ?_ <;> intro H
 refine zQ (w1 Z ?_)
 refine wL Z H fun v6 H=>?_
 refine w1 Z ?_
 refine wL Z H fun v7 H=>?_
 refine w1 Z ?_
 refine wL Z H fun v8 H=>?_
 refine wY (bU Z rfl rfl rfl rfl rfl) ?_
 refine wC Qr (QS _ _ _ _ H) fun r9 h10 H=>?_
 refine w1 Z (zE (zF [4] (zT (yB (yT ?_)))))
 exact aB _ rfl _ rfl ⟨r9,rfl,H⟩
 refine zQ (w2 Z (zE (zF [2,3,6,17] ?_)))
 refine zI H ?_ ?_ <;> intro H
 refine zQ (w1 Z ?_)
 refine wL Z H fun v11 H=>?_
 refine w1 Z ?_
 refine wL Z H fun v12 H=>?_
 refine w1 Z ?_
 refine wL Z H fun v13 H=>?_
 refine wY (bU Z rfl rfl rfl rfl rfl) ?_
 refine wC Qr (QS _ _ _ _ H) fun r14 h15 H=>?_
 refine w2 Z (zE (zF [4] (zT (yB (yT ?_)))))
 exact aB _ rfl _ rfl ⟨(!r14),rfl,H⟩
 refine zQ (w2 Z (zE ?_))
 refine zI H ?_ ?_ <;> intro H
 refine zQ (w1 Z ?_)
 refine wL Z H fun v16 H=>?_
 refine wY (JK rfl rfl) ?_
 refine wC Jf (IV _ _ _ _ H) fun r17 h18 H=>?_
 refine w1 Z (zE (zF [4] (zT (yB (yT ?_)))))
 exact aB _ rfl _ rfl ⟨r17,rfl,H⟩
 refine zK (yL (zX (zQ (w1 Z (zE (zT ?_))))))
 exact aB _ rfl _ rfl ⟨false,rfl,H⟩
theorem RZ:aF prog 104:=ck func104
theorem RL (p0 p1 k h) (H:uM p0 p1 k h):CallsH prog 104 #[.agg (az.cs p0).toArray,.pointer (some p1)] h (rB k):=by
 refine fE func104 fun w0=>?_
 refine zF [0,1] (zQ ?_)
 refine wX H fun b1 h2 H=>?_
 refine w1 Z (zE (zQ ?_))
 refine wLa Z H fun v3 H=>?_
 refine wLa Z H fun v4 H=>?_
 refine wC SQ (SE _ _ _ _ H) fun r5 h6 H=>?_
 refine w2 Z (zE (zF [3] (zT ?_)))
 exact aB _ rfl _ rfl ⟨(!r5),rfl,H⟩
theorem Ja:aF prog 129:=ck func129
theorem IR (p0 p1c0 k h) (H:bC p0 p1c0 k h):CallsH prog 129 #[Slc.v p0,(Value.func (.func 104) #[] #[.pointer (some p1c0)])] h (rI .i64 k):=by
 refine fE func129 fun w0=>?_
 refine zF [0,1] (zQ ?_)
 refine w1 Z (zE (zS (zQ ?_)))
 refine w3 Z (zE (zB ?_))
 obtain ⟨I1,μ1,H0,HI⟩:=H
 refine zO (σ:=Int) [0,1,7] (fun (s:Int)=>[(8,.int .i64 s)]) I1 μ1 0 H0 ?_
 rintro a_ h_1 H
 replace H:=HI a_ h_1 H
 refine zF [8,0,1,7] (zQ ?_)
 refine w1 Z (zE (zS ?_))
 refine zI H ?_ ?_ <;> intro H
 refine zK (zX (zS (zB (zQ (w2 Z (zE (zQ ?_)))))))
 refine w3 Z ?_
 refine wD Z H fun a1 _ H=>?_
 refine wLa Z H fun v2 H=>?_
 refine JO (vs:=[.agg (az.cs v2).toArray]) (cap:=[.pointer (some p1c0)]) RZ (RL _ _ _ _ H) rfl rfl rfl rfl rfl ?_
 rintro _ h4 ⟨r3,rfl,H⟩
 refine zE (zF [8,0,1,7,5,16] ?_)
 refine zI H ?_ ?_ <;> intro H
 refine zQ (w2 Z (zE (zF [4] (zT (yB (yT (yT (yB (yT ?_)))))))))
 exact aB _ rfl _ rfl ⟨a_,rfl,H⟩
 refine zK (yL (zX (zR (w2 Z (zW ?_)))))
 exact xJ (IntKind.i64.wrap (a_ + 1)) H
 refine zY (yE (yE (yH (zX (zQ ?_)))))
 refine wQ Z H fun x5 H=>?_
 refine zE (zT ?_)
 exact aB _ rfl _ rfl ⟨x5,rfl,H⟩
theorem IY:aF prog 103:=ck func103
theorem IL (p0 p1c0 k h) (H:bu p0 p1c0 k h):CallsH prog 103 #[Slc.v p0,(Value.func (.func 104) #[] #[.pointer (some p1c0)])] h (rB k):=by
 refine fE func103 fun w0=>?_
 refine zF [0,1] (zQ ?_)
 refine w1 Z (zE (zQ ?_))
 refine w2 Z ?_
 refine wC Ja (IR _ _ _ _ H) fun r1 h2 H=>?_
 refine w2 Z (zE (zT ?_))
 exact aB _ rfl _ rfl ⟨(decide (r1>=0)),rfl,H⟩
theorem O77:aF prog 77:=ck func77
theorem R77 (p0 p1 k h) (H:sU p0 p1 k h):CallsH prog 77 #[.agg (af.cs p0).toArray,.agg (ay.cs p1).toArray] h (rB k):=by
 refine fE func77 fun w0=>?_
 refine zF [0,1] (zQ ?_)
 refine wX H fun b1 h2 H=>?_
 refine wX H fun b3 h4 H=>?_
 refine w1 Z (zE (zS (zQ ?_)))
 refine w1 Z ?_
 refine wL Z H fun v5 H=>?_
 refine w2 Z ?_
 refine vJ 6 (α:=Bool) [2,3] (fun (s:Bool)=>[(14,.bool s)]) (fun (s:Bool) h=>ni (ad b1) (ad b3) s k h) ?_ ?_
 rintro a_ h_1 H
 refine vF [14,2,3] (zE ?_)
 refine zI H ?_ ?_ <;> intro H
 refine zQ (w1 Z (zE (zT (yT ?_))))
 exact aB _ rfl _ rfl ⟨false,rfl,H⟩
 refine zK (zX (zQ (w1 Z ?_)))
 refine wL Z H fun v6 H=>?_
 refine wY (JK rfl rfl) ?_
 refine wC IY (IL _ _ _ _ H) fun r7 h8 H=>?_
 refine w2 Z (zE (zF [4] (zT ?_)))
 exact aB _ rfl _ rfl ⟨(!r7),rfl,H⟩
 refine vI 8 H ?_ ?_ <;> intro H
 refine w1 Z ?_
 refine wL Z H fun v9 H=>?_
 refine w1 Z ?_
 refine wL Z H fun v10 H=>?_
 refine w2 Z ?_
 exact wJ (!(v9.toList == v10.toList)) H
 refine wS (wS (wS (wS (wS (w1 Z ?_)))))
 exact wJ false H
end Go.Q.Yq
end

/- A part of the proof of statements of this seat: lemmas, no statement of their own. -/
import Derived.Test.YthjafnfadiijgaaYiZad
import Derived.Test.YthjafnfadiijgaaYiZae
import Derived.Test.YthjafnfadiijgaaYiZap
import Derived.OpenShut
import Derived.Sort.AssemblyPlain
import Derived.Test.YthjafnfadiijgaaYiZak
import Derived.Test.YthjafnfadiijgaaYiZaj
import Derived.Test.YthjafnfadiijgaaYiZaf
set_option linter.unusedVariables false
set_option linter.unusedSimpArgs false
set_option maxRecDepth 100000
set_option maxHeartbeats 1000000
section
namespace Go.Q.Yi
open Go.Proofs.Try
/-- quaestor quaestorlaw26.RaftLives -/
def ig (f_:Option Addr) (g_:Int) (a_:Int) (b_:Int) (d_:Bool) (k:KP Bool) (nx1:KP Int) (nx2:KP (Int × Bool × Int)) (nx3:KP (Int × Bool × Int)) (h_4:Heap):Prop :=
  ∃ x10,x10=(IntKind.i64.wrap (a_ + 1))/\(nx3 (b_,d_,x10) h_4)
def jq (a_:Option Addr) (d_:Int) (b_:Int) (f_:Int) (g_:Bool) (k:KP Bool) (nx1:KP Int) (nx2:KP (Int × Bool × Int)) (nx3:KP (Int × Bool × Int)) (h_5:Heap):Prop :=
  bF a_ b_ (⟨none,0,0⟩:Slc) (fun r31 h32=>ig a_ d_ b_ f_ g_ k nx1 nx2 nx3 h32) h_5
def ic (a_:Option Addr) (b_:Int) (d_:Bool) (f_:Int) (g_:Int) (h_:Bool) (k:KP Bool) (nx1:KP Int) (nx2:KP (Int × Bool × Int)) (nx3:KP (Int × Bool × Int)) (nx6:KP Int) (h_7:Heap):Prop :=
  if h_ then (jf a_ 0 false (fun r33 h34=>∃ x35,x35=(IntKind.i64.wrap (g_ + 1))/\(nx6 x35 h34)) h_7) else (∃ a36,a_=some a36/\(∃ v37,af h_7 (a36.add 4)=some (.bool v37)/\(if v37 then (k false h_7) else (∃ x38,x38=(IntKind.i64.wrap (f_ + 1))/\(nx2 (b_,d_,x38) h_7)))))
def qN (a_:Option Addr) (d_:Int) (f_:Bool) (g_:Int) (b_:Int) (k:KP Bool) (nx1:KP Int) (nx2:KP (Int × Bool × Int)) (nx3:KP (Int × Bool × Int)) (nx6:KP Int) (h_6:Heap):Prop :=
  if (decide (b_ < 2000)) then (∃ a39,a_=some a39/\(∃ v40,af h_6 (a39.add 1)=some (Slc.v v40)/\(ic a_ d_ f_ g_ b_ (decide ((v40.len:Int) > 0)) k nx1 nx2 nx3 nx6 h_6))) else (ic a_ d_ f_ g_ b_ false k nx1 nx2 nx3 nx6 h_6)
def oz (b_:Option Addr) (d_:Int) (f_:Bool) (g_:Int) (i13:Int) (k:KP Bool) (nx1:KP Int) (nx2:KP (Int × Bool × Int)) (nx3:KP (Int × Bool × Int)) (h:Heap):Prop :=
  ∃ (I:KP Int) (μ:Int->Heap->Nat),I i13 h/\∀ (a_:Int) (h:Heap),I a_ h->qN b_ d_ f_ g_ a_ k nx1 nx2 nx3 (fun s h'=>I s h'/\μ s h' < μ a_ h) h
def qQ (b_:Option Addr) (d_:Int) (g_:Int) (f_:Bool) (a_:Int) (k:KP Bool) (nx1:KP Int) (nx2:KP (Int × Bool × Int)) (nx3:KP (Int × Bool × Int)) (h_3:Heap):Prop :=
  ∃ a8,b_=some a8/\(∃ v9,af h_3 a8=some (Slc.v v9)/\(if (decide (a_ < (v9.len:Int))) then (∃ v11,af h_3 a8=some (Slc.v v11)/\(∃ a12,v11.a=some a12/\(0:Int)<=a_/\a_ < (v11.len:Int)/\(∃ v13:Option Addr,af h_3 (a12.add (a_.toNat * 2))=some (.pointer v13)/\(jm v13 (fun r14 h15=>bF b_ a_ r14 (fun r16 h17=>∃ v18,af h17 a8=some (Slc.v v18)/\(∃ a19,v18.a=some a19/\(0:Int)<=a_/\a_ < (v18.len:Int)/\(∃ v20:Option Addr,af h17 (a19.add (a_.toNat * 2))=some (.pointer v20)/\(gm v20 (fun r21 h22=>if ((r21 && (!f_)) && (decide (d_ > 200))) then (∃ v23,af h22 a8=some (Slc.v v23)/\(∃ a24,v23.a=some a24/\(0:Int)<=a_/\a_ < (v23.len:Int)/\(∃ v25:Option Addr,af h22 (a24.add (a_.toNat * 2))=some (.pointer v25)/\(∃ b26 h27,b26=h22.size/\h27=h22.push (.cells ([.int .u8 108,.int .u8 97,.int .u8 115,.int .u8 116]).toArray 5)/\(∃ h28,h28=h22.push (.cells ([.int .u8 108,.int .u8 97,.int .u8 115,.int .u8 116]).toArray 5 (4,5))/\(fH v25 (⟨some ⟨b26,0,none⟩,4,4⟩:Slc) (fun r29 h30=>if (r29.2 == 0) then (jq b_ d_ a_ r29.1 true k nx1 nx2 nx3 h30) else (jq b_ d_ a_ g_ f_ k nx1 nx2 nx3 h30)) h28)))))) else (ig b_ d_ a_ g_ f_ k nx1 nx2 nx3 h22)) h17)))) h15) h_3)))) else (oz b_ g_ f_ d_ 0 k nx1 nx2 nx3 h_3)))
def oF (f_:Option Addr) (g_:Int) (i7:Int) (i8:Bool) (i10:Int) (k:KP Bool) (nx1:KP Int) (nx2:KP (Int × Bool × Int)) (h:Heap):Prop :=
  ∃ (I:KP (Int × Bool × Int)) (μ:(Int × Bool × Int)->Heap->Nat),I (i7,i8,i10) h/\∀ (a_:Int) (b_:Bool) (d_:Int) (h:Heap),I (a_,b_,d_) h->qQ f_ g_ a_ b_ d_ k nx1 nx2 (fun s h'=>I s h'/\μ s h' < μ (a_,b_,d_) h) h
def iP (f_:Option Addr) (g_:Int) (h_:Bool) (a_:Int) (b_:Int) (d_:Bool) (k:KP Bool) (nx1:KP Int) (nx2:KP (Int × Bool × Int)) (nx8:KP (Int × Int)) (h_10:Heap):Prop :=
  if d_ then (k false h_10) else (∃ x53,x53=(IntKind.i64.wrap (b_ + 1))/\(nx8 (a_,x53) h_10))
def iW (a_:Option Addr) (b_:Int) (d_:Bool) (f_:Int) (g_:Int) (j_:Bool) (h_:Bool) (k:KP Bool) (nx1:KP Int) (nx2:KP (Int × Bool × Int)) (nx8:KP (Int × Int)) (h_11:Heap):Prop :=
  iP a_ b_ d_ f_ g_ h_ k nx1 nx2 nx8 h_11
def jD (b_:Option Addr) (a_:Int) (d_:Bool) (f_:Int) (h_:Option Addr) (g_:Int) (k:KP Bool) (nx1:KP Int) (nx2:KP (Int × Bool × Int)) (nx8:KP (Int × Int)) (h_9:Heap):Prop :=
  jS h_ a_ (fun r46 h47=>∃ b48 h49,b48=h47.size/\h49=h47.push (.cells (ae.cs (⟨0,(⟨none,0,0⟩:Slc)⟩:ae)).toArray 65)/\(∃ h50,dE h49 (ad b48) 2/\h50=aU h49 (ad b48) 0 (ae.cs r46.1)/\(dA h_ (fun r51 h52=>if (decide (r51 < a_)) then (iP b_ a_ d_ g_ f_ true k nx1 nx2 nx8 h52) else (if (r46.2 == 0) then (∃ v54,af h52 ((ad b48).add 1)=some (Slc.v v54)/\(∃ l55:List Int,l55.length=v54.len/\SlcAt h52 v54 (b8 l55)/\(iW b_ a_ d_ g_ f_ false (!((BN l55).toList == (⟨#[108,97,115,116]⟩:ByteArray).toList)) k nx1 nx2 nx8 h52))) else (iW b_ a_ d_ g_ f_ false false k nx1 nx2 nx8 h52))) h50))) h_9
def kV (a_:Bool) (k:KP Bool) (nx1:KP Int) (nx2:KP (Int × Bool × Int)) (nx8:KP (Int × Int)) (h_12:Heap):Prop :=
  k a_ h_12
def qL (b_:Option Addr) (g_:Int) (d_:Bool) (f_:Int) (a_:Int) (k:KP Bool) (nx1:KP Int) (nx2:KP (Int × Bool × Int)) (nx8:KP (Int × Int)) (h_8:Heap):Prop :=
  ∃ a41,b_=some a41/\(∃ v42,af h_8 a41=some (Slc.v v42)/\(if (decide (a_ < (v42.len:Int))) then (∃ v43,af h_8 a41=some (Slc.v v43)/\(∃ a44,v43.a=some a44/\(0:Int)<=a_/\a_ < (v43.len:Int)/\(∃ v45:Option Addr,af h_8 (a44.add (a_.toNat * 2))=some (.pointer v45)/\(gm v45 (fun r56 h57=>if r56 then (∃ x58,x58=(IntKind.i64.wrap (f_ + 1))/\(jD b_ g_ d_ a_ v45 x58 k nx1 nx2 nx8 h57)) else (jD b_ g_ d_ a_ v45 f_ k nx1 nx2 nx8 h57)) h_8)))) else (if ((f_ == 1) && d_) then (rV  (fun r59 h60=>kV r59 k nx1 nx2 nx8 h60) h_8) else (kV false k nx1 nx2 nx8 h_8))))
def lH (d_:Option Addr) (f_:Int) (g_:Bool) (i14:Int) (i15:Int) (k:KP Bool) (nx1:KP Int) (nx2:KP (Int × Bool × Int)) (h:Heap):Prop :=
  ∃ (I:KP (Int × Int)) (μ:(Int × Int)->Heap->Nat),I (i14,i15) h/\∀ (a_:Int) (b_:Int) (h:Heap),I (a_,b_) h->qL d_ f_ g_ a_ b_ k nx1 nx2 (fun s h'=>I s h'/\μ s h' < μ (a_,b_) h) h
def qI (a_:Option Addr) (b_:Int) (d_:Bool) (f_:Int) (k:KP Bool) (nx1:KP Int) (nx2:KP (Int × Bool × Int)) (h_2:Heap):Prop :=
  if (decide (f_ < 400)) then (oF a_ f_ b_ d_ 0 k nx1 nx2 h_2) else (lH a_ b_ d_ 0 0 k nx1 nx2 h_2)
def oG (f_:Option Addr) (i7:Int) (i8:Bool) (i9:Int) (k:KP Bool) (nx1:KP Int) (h:Heap):Prop :=
  ∃ (I:KP (Int × Bool × Int)) (μ:(Int × Bool × Int)->Heap->Nat),I (i7,i8,i9) h/\∀ (a_:Int) (b_:Bool) (d_:Int) (h:Heap),I (a_,b_,d_) h->qI f_ a_ b_ d_ k nx1 (fun s h'=>I s h'/\μ s h' < μ (a_,b_,d_) h) h
def qR (b_:Slc) (d_:Option Addr) (a_:Int) (k:KP Bool) (nx1:KP Int) (h_1:Heap):Prop :=
  if ((decide (a_ < (b_.len:Int))) && (decide (a_ < 60))) then (∃ a3,b_.a=some a3/\(0:Int)<=a_/\a_ < (b_.len:Int)/\(∃ v4,aJ h_1 (a3.add (a_.toNat * 3)) (S_quaestorlaw26_Act.cs v4)/\(pE d_ v4 a_ (fun r5 h6=>∃ x7,x7=(IntKind.i64.wrap (a_ + 1))/\(nx1 x7 h6)) h_1))) else (oG d_ 0 false 0 k nx1 h_1)
def ru (b_:Slc) (d_:Option Addr) (i6:Int) (k:KP Bool) (h:Heap):Prop :=
  ∃ (I:KP Int) (μ:Int->Heap->Nat),I i6 h/\∀ (a_:Int) (h:Heap),I a_ h->qR b_ d_ a_ k (fun s h'=>I s h'/\μ s h' < μ a_ h) h
def qD (p0:Int) (p1:Slc) (k:KP Bool) (h:Heap):Prop :=
  rQ (IntKind.i64.wrap (1 + (IntKind.i64.wrap (Int.tmod p0 5)))) (fun r1 h2=>ru p1 r1 0 k h2) h
theorem law26_RaftLives_ref (p0 p1 k h) (H:qD p0 p1 k h):CallsH prog 5 #[.int .u8 p0,Slc.v p1] h (rB k):=by
 refine fE func5 fun w0=>?_
 refine zF [0,1] (zQ ?_)
 refine w1 Z (zE (zQ ?_))
 refine w4 Z ?_
 refine wC yX (xQ _ _ _ H) fun r1 h2 H=>?_
 refine w1 Z (zE (zF [1,5] (zS (zQ ?_))))
 refine w1 Z (zE (zB ?_))
 obtain ⟨I1,μ1,H0,HI⟩:=H
 refine zO (σ:=Int) [1,5] (fun (s:Int)=>[(6,.int .i64 s)]) I1 μ1 0 H0 ?_
 rintro f_ h_1 H
 replace H:=HI f_ h_1 H
 refine zF [6,1,5] (zS (zQ ?_))
 refine w5 Z ?_
 refine vU 3 [1,5,6] [(31,.bool ((decide (f_ < (p1.len:Int))) && (decide (f_ < 60))))] ?_ ?_
 refine zE ?_
 refine zI H ?_ ?_ <;> intro H
 refine zK (zX (zS (zB (zR (w3 Z ?_)))))
 refine wD Z H fun a3 _ H=>?_
 refine wLa Z H fun v4 H=>?_
 refine w1 Z ?_
 refine wC wo (vL _ _ _ _ _ H) fun r5 h6 H=>?_
 refine zL (zX (zF [1,5,6] (zR ?_)))
 refine w2 Z ?_
 refine wQ Z H fun x7 H=>?_
 refine zW ?_
 exact xJ x7 H
 refine zY (yE (yE (yH (zX (zQ (w1 Z (zE (zQ ?_))))))))
 refine w1 Z (zE (zS (zQ ?_)))
 refine w1 Z (zE (zB ?_))
 obtain ⟨I2,μ2,H0,HI⟩:=H
 refine zO (σ:=Int × Bool × Int) [5] (fun (s:Int × Bool × Int)=>[(7,.int .u64 s.1),(8,.bool s.2.1),(9,.int .i64 s.2.2)]) I2 μ2 (0,false,0) H0 ?_
 rintro ⟨b_,a_,d_⟩ h_2 H
 replace H:=HI b_ a_ d_ h_2 H
 refine zF [7,8,9,5] (zS (zQ ?_))
 refine w2 Z (zE ?_)
 refine zI H ?_ ?_ <;> intro H
 refine zK (zX (zS (zB (zS (zQ (w1 Z (zE (zB ?_))))))))
 obtain ⟨I3,μ3,H0,HI⟩:=H
 refine zO (σ:=Int × Bool × Int) [5,9] (fun (s:Int × Bool × Int)=>[(7,.int .u64 s.1),(8,.bool s.2.1),(10,.int .i64 s.2.2)]) I3 μ3 (b_,a_,0) H0 ?_
 rintro ⟨h_,g_,m_⟩ h_3 H
 replace H:=HI h_ g_ m_ h_3 H
 refine zF [7,8,10,5,9] (zS (zQ ?_))
 refine w2 Z ?_
 refine wN H fun a8 ha8 H=>?_
 refine w1 Z ?_
 refine wL Z H fun v9 H=>?_
 refine w2 Z (zE ?_)
 refine zI H ?_ ?_ <;> intro H
 refine zK (zX (zF [7,8,10,5,9] ?_))
 refine zJ (α:=Int × Bool) [5,9,10] (fun (s:Int × Bool)=>[(7,.int .u64 s.1),(8,.bool s.2)]) (fun (s:Int × Bool) h=>ig r1 d_ m_ s.1 s.2 k (fun s h'=>I1 s h'/\μ1 s h' < μ1 f_ h_1) (fun s h'=>I2 s h'/\μ2 s h' < μ2 (b_,a_,d_) h_2) (fun s h'=>I3 s h'/\μ3 s h' < μ3 (h_,g_,m_) h_3) h) ?_ ?_
 rintro ⟨p_,r_⟩ h_4 H
 refine zF [7,8,5,9,10] (zR ?_)
 refine w2 Z ?_
 refine wQ Z H fun x10 H=>?_
 refine zW ?_
 exact xJ (p_,r_,x10) H
 refine zB (zQ (w3 Z ?_))
 refine wY (au rfl rfl ha8) ?_
 refine w1 Z ?_
 refine wL Z H fun v11 H=>?_
 refine w1 Z ?_
 refine wD Z H fun a12 _ H=>?_
 refine w1 Z ?_
 refine wL Z H fun v13 H=>?_
 refine wC O14 (R14 _ _ _ H) fun r14 h15 H=>?_
 refine wC fV (eU _ _ _ _ _ H) fun r16 h17 H=>?_
 refine zE (zF [7,8,10,5,9] (zQ ?_))
 refine w1 Z ?_
 refine wY (au rfl rfl ha8) ?_
 refine w1 Z ?_
 refine wL Z H fun v18 H=>?_
 refine w1 Z ?_
 refine wD Z H fun a19 _ H=>?_
 refine w1 Z ?_
 refine wL Z H fun v20 H=>?_
 refine wC O22 (R22 _ _ _ H) fun r21 h22 H=>?_
 refine w1 Z ?_
 refine vU 3 [5,7,8,9,10] [(78,.bool (r21 && (!g_)))] ?_ ?_
 refine w1 Z ?_
 refine vU 3 [5,7,8,9,10] [(82,.bool ((r21 && (!g_)) && (decide (d_ > 200))))] ?_ ?_
 refine zE ?_
 refine zI H ?_ ?_ <;> intro H
 refine zQ (w1 Z ?_)
 refine wY (au rfl rfl ha8) ?_
 refine w1 Z ?_
 refine wL Z H fun v23 H=>?_
 refine w1 Z ?_
 refine wD Z H fun a24 _ H=>?_
 refine w1 Z ?_
 refine wL Z H fun v25 H=>?_
 obtain ⟨b26,h27,eb26,eh27,H⟩:=H
 refine wH (nV Z rfl rfl rfl rfl rfl rfl rfl eb26 eh27) ?_
 obtain ⟨h28,eh28,H⟩:=H
 refine wH (H5 Z rfl rfl rfl rfl eb26 eh27 rfl eh28) ?_
 refine wC O23 (R23 _ _ _ _ H) fun r29 h30 H=>?_
 refine w5 Z (zE (zF [5,7,8,9,10,11,12] ?_))
 refine zJ (α:=Int × Bool) [5,9,10] (fun (s:Int × Bool)=>[(7,.int .u64 s.1),(8,.bool s.2)]) (fun (s:Int × Bool) h=>jq r1 d_ m_ s.1 s.2 k (fun s h'=>I1 s h'/\μ1 s h' < μ1 f_ h_1) (fun s h'=>I2 s h'/\μ2 s h' < μ2 (b_,a_,d_) h_2) (fun s h'=>I3 s h'/\μ3 s h' < μ3 (h_,g_,m_) h_3) h) ?_ ?_
 rintro ⟨t_,u_⟩ h_5 H
 refine zF [7,8,5,9,10] (zR ?_)
 refine w2 Z ?_
 refine wC fV (eU _ _ _ _ _ H) fun r31 h32 H=>?_
 refine zL ?_
 exact xJ (t_,u_) H
 refine zQ (w2 Z (zE ?_))
 refine zI H ?_ ?_ <;> intro H
 refine zQ (w2 Z (zE (zR ?_)))
 refine w1 Z (zW ?_)
 exact xJ (r29.1,true) H
 refine zK ?_
 exact xJ (h_,g_) H
 refine zK (yL ?_)
 exact xJ (h_,g_) H
 refine vG (d:=79) (fun hb=>?_) (fun hb=>?_)
 refine w3 Z ?_
 refine vK ?_
 exact congrArg (fun b=>some (Value.bool b)) (rq hb)
 refine wS (wS (w1 Z ?_))
 refine vK ?_
 exact congrArg (fun b=>some (Value.bool b)) (rF hb)
 refine vG (d:=75) (fun hb=>?_) (fun hb=>?_)
 refine w3 Z ?_
 refine vK ?_
 exact congrArg (fun b=>some (Value.bool b)) (rq hb)
 refine wS (wS (w1 Z ?_))
 refine vK ?_
 exact congrArg (fun b=>some (Value.bool b)) (rF hb)
 refine zY (yE (yE (yH (zX (zF [7,8,5,9] (zS (zQ ?_)))))))
 refine w1 Z (zE (zB ?_))
 obtain ⟨I6,μ6,H0,HI⟩:=H
 refine zO (σ:=Int) [5,7,8,9] (fun (s:Int)=>[(13,.int .i64 s)]) I6 μ6 0 H0 ?_
 rintro n_ h_6 H
 replace H:=HI n_ h_6 H
 refine zF [13,5,7,8,9] (zS (zQ ?_))
 refine w3 Z ?_
 refine vJ 7 (α:=Bool) [5,7,8,9,13] (fun (s:Bool)=>[(112,.bool s)]) (fun (s:Bool) h=>ic r1 h_ g_ d_ n_ s k (fun s h'=>I1 s h'/\μ1 s h' < μ1 f_ h_1) (fun s h'=>I2 s h'/\μ2 s h' < μ2 (b_,a_,d_) h_2) (fun s h'=>I3 s h'/\μ3 s h' < μ3 (h_,g_,m_) h_3) (fun s h'=>I6 s h'/\μ6 s h' < μ6 n_ h_6) h) ?_ ?_
 rintro x_ h_7 H
 refine vF [112,5,7,8,9,13] (zE ?_)
 refine zI H ?_ ?_ <;> intro H
 refine zK (zX (zS (zB (zR (w1 Z ?_)))))
 refine wC nJ (mV _ _ _ _ _ H) fun r33 h34 H=>?_
 refine zL (zX (zR (w2 Z ?_)))
 refine wQ Z H fun x35 H=>?_
 refine zW ?_
 exact xJ x35 H
 refine zY (yE (yE (yH (zX (zQ (w1 Z ?_))))))
 refine wN H fun a36 _ H=>?_
 refine w1 Z ?_
 refine wL Z H fun v37 H=>?_
 refine zE ?_
 refine zI H ?_ ?_ <;> intro H
 refine zQ (w1 Z (zE (zF [4] (zT (yB (yT (yT (yB (yT ?_)))))))))
 exact aA _ rfl _ rfl ⟨false,rfl,H⟩
 refine zK (yL (zX (zR (w2 Z ?_))))
 refine wQ Z H fun x38 H=>?_
 refine zW ?_
 exact xJ (h_,g_,x38) H
 refine vI 105 H ?_ ?_ <;> intro H
 refine w1 Z ?_
 refine wN H fun a39 _ H=>?_
 refine w1 Z ?_
 refine wL Z H fun v40 H=>?_
 refine w3 Z ?_
 exact wJ (decide ((v40.len:Int) > 0)) H
 refine wS (wS (wS (wS (wS (wS (w1 Z ?_))))))
 exact wJ false H
 refine zY (yE (yE (yH (zX (zQ (w1 Z (zE (zS (zQ ?_)))))))))
 refine w1 Z (zE (zB ?_))
 obtain ⟨I8,μ8,H0,HI⟩:=H
 refine zO (σ:=Int × Int) [5,7,8] (fun (s:Int × Int)=>[(14,.int .i64 s.1),(15,.int .i64 s.2)]) I8 μ8 (0,0) H0 ?_
 rintro ⟨l_,j_⟩ h_8 H
 replace H:=HI l_ j_ h_8 H
 refine zF [14,15,5,7,8] (zS (zQ ?_))
 refine w2 Z ?_
 refine wN H fun a41 ha41 H=>?_
 refine w1 Z ?_
 refine wL Z H fun v42 H=>?_
 refine w2 Z (zE ?_)
 refine zI H ?_ ?_ <;> intro H
 refine zK (zX (zF [14,15,5,7,8] (zS (zB (zQ ?_)))))
 refine w1 Z ?_
 refine wY (au rfl rfl ha41) ?_
 refine w1 Z ?_
 refine wL Z H fun v43 H=>?_
 refine w1 Z ?_
 refine wD Z H fun a44 _ H=>?_
 refine w1 Z ?_
 refine wL Z H fun v45 H=>?_
 refine w1 Z (zE (zF [14,15,5,7,8,16] ?_))
 refine zJ (α:=Int) [5,7,8,15,16] (fun (s:Int)=>[(14,.int .i64 s)]) (fun (s:Int) h=>jD r1 b_ a_ j_ v45 s k (fun s h'=>I1 s h'/\μ1 s h' < μ1 f_ h_1) (fun s h'=>I2 s h'/\μ2 s h' < μ2 (b_,a_,d_) h_2) (fun s h'=>I8 s h'/\μ8 s h' < μ8 (l_,j_) h_8) h) ?_ ?_
 rintro o_ h_9 H
 refine zF [14,5,7,8,15,16] (zQ ?_)
 refine w2 Z ?_
 refine wC O25 (R25 _ _ _ _ H) fun r46 h47 H=>?_
 refine w3 Z ?_
 refine wB Z H fun b48 h49 H=>?_
 refine wTa Z H fun h50 H=>?_
 refine w1 Z (zE (zQ ?_))
 refine w1 Z ?_
 refine wC O18 (R18 _ _ _ H) fun r51 h52 H=>?_
 refine w3 Z ?_
 refine vJ 9 (α:=Bool) [5,7,8,14,15] (fun (s:Bool)=>[(161,.bool s)]) (fun (s:Bool) h=>iP r1 b_ a_ o_ j_ s k (fun s h'=>I1 s h'/\μ1 s h' < μ1 f_ h_1) (fun s h'=>I2 s h'/\μ2 s h' < μ2 (b_,a_,d_) h_2) (fun s h'=>I8 s h'/\μ8 s h' < μ8 (l_,j_) h_8) h) ?_ ?_
 rintro y_ h_10 H
 refine vF [161,5,7,8,14,15] (zE ?_)
 refine zI H ?_ ?_ <;> intro H
 refine zQ (w1 Z (zE (zT (yB (yT (yT (yB (yT ?_))))))))
 exact aA _ rfl _ rfl ⟨false,rfl,H⟩
 refine zK (yL (zX (zR (w2 Z ?_))))
 refine wQ Z H fun x53 H=>?_
 refine zW ?_
 exact xJ (o_,x53) H
 refine vI 152 H ?_ ?_ <;> intro H
 refine wS (wS (wS (wS (wS (wS (wS (wS (w1 Z ?_))))))))
 exact wJ true H
 refine w3 Z ?_
 refine vJ 5 (α:=Bool) [5,7,8,14,15,152] (fun (s:Bool)=>[(160,.bool s)]) (fun (s:Bool) h=>iW r1 b_ a_ o_ j_ false s k (fun s h'=>I1 s h'/\μ1 s h' < μ1 f_ h_1) (fun s h'=>I2 s h'/\μ2 s h' < μ2 (b_,a_,d_) h_2) (fun s h'=>I8 s h'/\μ8 s h' < μ8 (l_,j_) h_8) h) ?_ ?_
 rintro v_ h_11 H
 refine vF [160,5,7,8,14,15,152] ?_
 refine w1 Z ?_
 exact wJ v_ H
 refine vI 155 H ?_ ?_ <;> intro H
 refine w1 Z ?_
 refine wL Z H fun v54 H=>?_
 obtain ⟨l55,ll55,hl55,H⟩:=H
 refine wY (JZ (s:=v54) (l:=l55) Z rfl rfl rfl rfl rfl ll55 hl55) ?_
 refine w2 Z ?_
 exact wJ (!((BN l55).toList == (⟨#[108,97,115,116]⟩:ByteArray).toList)) H
 refine wS (wS (wS (wS (w1 Z ?_))))
 exact wJ false H
 refine zQ (w1 Z ?_)
 refine wC O22 (R22 _ _ _ H) fun r56 h57 H=>?_
 refine zE ?_
 refine zI H ?_ ?_ <;> intro H
 refine zR (w2 Z ?_)
 refine wQ Z H fun x58 H=>?_
 refine zW ?_
 exact xJ x58 H
 refine zK ?_
 exact xJ l_ H
 refine zY (yE (yE (yH (zX (zF [14,8] (zQ ?_))))))
 refine w3 Z ?_
 refine vU 2 [] [(166,.bool ((l_ == 1) && a_))] ?_ ?_
 refine w1 Z ?_
 refine vJ 2 (α:=Bool) [] (fun (s:Bool)=>[(169,.bool s)]) (fun (s:Bool) h=>kV s k (fun s h'=>I1 s h'/\μ1 s h' < μ1 f_ h_1) (fun s h'=>I2 s h'/\μ2 s h' < μ2 (b_,a_,d_) h_2) (fun s h'=>I8 s h'/\μ8 s h' < μ8 (l_,j_) h_8) h) ?_ ?_
 rintro w_ h_12 H
 refine vF [169] ?_
 refine w1 Z (zE (zT ?_))
 exact aA _ rfl _ rfl ⟨w_,rfl,H⟩
 refine vI 167 H ?_ ?_ <;> intro H
 refine wC yV (xR  _ _ H) fun r59 h60 H=>?_
 refine w1 Z ?_
 exact wJ r59 H
 refine wS (w1 Z ?_)
 exact wJ false H
 refine vG (d:=164) (fun hb=>?_) (fun hb=>?_)
 refine w2 Z ?_
 refine vK ?_
 exact congrArg (fun b=>some (Value.bool b)) (rq hb)
 refine wS (w1 Z ?_)
 refine vK ?_
 exact congrArg (fun b=>some (Value.bool b)) (rF hb)
 refine vG (d:=28) (fun hb=>?_) (fun hb=>?_)
 refine w3 Z ?_
 refine vK ?_
 exact congrArg (fun b=>some (Value.bool b)) (rq hb)
 refine wS (wS (w1 Z ?_))
 refine vK ?_
 exact congrArg (fun b=>some (Value.bool b)) (rF hb)
end Go.Q.Yi
end
section
/- Arguments that are arrays of numbers. -/
namespace Go.Q
open Go.ChangeShapes Go.WideShapes
section
variable {H:Type} {enc:TypeId × Value->H} {P:Program} {t e:TypeId} {n:Nat} {q:IntKind} {w W:World} {base:Nat} {sp:Nat->Bool} {held:Bool}
end
end Go.Q
end
section
namespace Go.Q
theorem SlcAt.ext {h h':Heap} {s:Slc} {vs:List Value} (a:SlcAt h s vs) (X:Ext h.size h h'):SlcAt h' s vs:=⟨a.1,fun b hb j w hj=>X.cellAt (a.2 b hb j w hj)⟩
/-- a part of a block -/
theorem Blk.part {h:Heap} {b E o n:Nat} {cs ys:List Value} (k:Blk h b cs E) (hd:(cs.drop o).take n=ys):aJ h ⟨b,o,none⟩ ys:=by
 intro j v hj
 rw [add_mk,k.cell]
 rw [← hd,List.getElem?_take] at hj
 split at hj
 ·rw [List.getElem?_drop] at hj; exact hj
 ·cases hj
theorem Blk.slc {h:Heap} {b E o n m c:Nat} {cs ys:List Value} (k:Blk h b cs E) (hd:(cs.drop o).take n=ys):SlcAt h ⟨some ⟨b,o,none⟩,m,c⟩ ys :=
 ⟨(fun hn=>by cases hn),fun a ha j v hj=>by cases ha; exact k.part hd j v hj⟩
/-- a row of structs in memory -/
structure LsAt {α:Type} (cs:α->List Value) (w:Nat) (h:Heap) (s:Slc) (xs:List α):Prop where
 l:s.len=xs.length
 at':∀ (i:Nat) x,xs[i]? = some x->∃ a,s.a=some a/\aJ h (a.add (i * w)) (cs x)
theorem aJ.ext {h h':Heap} {a:Addr} {vs:List Value} (c:aJ h a vs) (X:Ext h.size h h'):aJ h' a vs:=fun j v hj=>X.cellAt (c j v hj)
theorem LsAt.ext {α:Type} {cs:α->List Value} {w:Nat} {h h':Heap} {s:Slc} {xs:List α} (L:LsAt cs w h s xs) (X:Ext h.size h h'):LsAt cs w h' s xs :=
 ⟨L.l,fun i x hx=>by obtain ⟨a,h1,h2⟩:=L.at' i x hx; exact ⟨a,h1,h2.ext X⟩⟩
end Go.Q
end
section
/- Arguments that came in, opened by their types. -/
namespace Go.Q
open Go.ChangeShapes Go.WideShapes
theorem xM {α:Type} {R:Nat->α->Prop}:∀ n:Nat,(∀ i,i < n->∃ y,R i y)->∃ ys:List α,ys.length=n/\∀ i y,ys[i]? = some y->R i y
 | 0,_=>⟨[],rfl,by simp⟩
 | n + 1,h=>by
  obtain ⟨ys,hl,hy⟩:=xM n fun i hi=>h i (by omega)
  obtain ⟨y,hR⟩:=h n (by omega)
  refine ⟨ys ++ [y],by simp [hl],fun i z hz=>?_⟩
  rcases Nat.lt_trichotomy i n with hi | hi | hi
  ·rw [List.getElem?_append_left (by omega)] at hz; exact hy i z hz
  ·subst hi
   rw [List.getElem?_append_right (by omega),hl] at hz
   simp at hz; subst hz; exact hR
  ·rw [List.getElem?_eq_none (by simp; omega)] at hz; cases hz
section
variable {H:Type} {enc:TypeId × Value->H} {P:Program} {t e:TypeId} {w:World} {base:Nat} {sp:Nat->Bool} {held:Bool}
theorem Ch {α β:Type} {f:α->Option β}:∀ {l:List α} {ys:List β},l.mapM f=some ys->ys.length=l.length/\∀ (i:Nat) x,l[i]? = some x->∃ y,f x=some y/\ys[i]? = some y
 | [],ys,h=>by simp at h; subst h; simp
 | a :: l,ys,h=>by
  rw [List.mapM_cons] at h
  cases ha:f a with
  | none=>simp [ha] at h
  | some b =>
   cases hl:l.mapM f with
   | none=>simp [ha,hl] at h
   | some zs =>
    simp [ha,hl] at h
    subst h
    obtain ⟨h1,h2⟩:=Ch hl
    refine ⟨by simp [h1],fun i x hx=>?_⟩
    cases i with
    | zero=>simp at hx; subst hx; exact ⟨b,ha,rfl⟩
    | succ i=>simp at hx; simpa using h2 i x hx
theorem Ba {w:World} {base:Nat} {a:Addr} {n:Nat} {cs:List Value} (h:w.cells? base a n=some cs):cs.length=n/\aJ w.heap a cs:=by
 unfold World.cells? at h
 split at h
 ·obtain ⟨h1,h2⟩:=Ch h
  rw [List.length_range] at h1
  refine ⟨h1,fun i v hv=>?_⟩
  have hi:i < n:=by have:=(List.getElem?_eq_some_iff.1 hv).1; omega
  obtain ⟨y,e1,e2⟩:=h2 i i (by simp [hi])
  rw [hv] at e2; cases e2
  exact e1
 ·cases h
/-- a slice that came in -/
theorem JC {fuel:Nat} {cs:List Value} {x:DataW H × List MemPlace} (ht:P.underlying t=some (.slice e)) (h:DataW.trod enc P w base sp held fuel t cs=some x) :
  ∃ s:Slc,cs=[Slc.v s]/\s.len<=s.cap/\s.cap<=maxLen/\(s.a=none->s.len=0/\s.cap=0) /\
   ∀ a,s.a=some a->∀ i,i < s.len->∃ es f y,es.length=P.cellsOf e/\aJ w.heap (a.add (i * P.cellsOf e)) es/\DataW.trod enc P w base sp held f e es=some y:=by
 rcases DataW.trod_slice ht h with ⟨rfl,_⟩ | ⟨a,len,cap,elems,rest,n,_,rfl,_,hb,hl,hm,hlen,hel,_⟩
 ·exact ⟨⟨none,0,0⟩,rfl,Nat.le_refl _,by simp [maxLen],fun _=>⟨rfl,rfl⟩,fun a ha=>by cases ha⟩
 ·refine ⟨⟨some a,len,cap⟩,rfl,hl,hm,(fun hn=>by cases hn),fun b hb i hi=>?_⟩
  cases hb
  have hi:i < len:=hi
  have:=hel i hi
  rw [List.getElem?_eq_getElem (by omega),Option.bind_eq_some_iff] at this
  obtain ⟨es,h1,h2⟩:=this
  exact ⟨es,n,_,(Ba h1).1,(Ba h1).2,h2⟩
/-- the parts of a struct -/
theorem Iy {fs:Array Field} {fuel:Nat} {cs:List Value} {x:DataW H × List MemPlace} (ht:P.underlying t=some (.struct fs)) (h:DataW.trod enc P w base sp held fuel t cs=some x) :
  ∃ n,cs.length=P.cellsOf t/\∀ (i:Nat) f,fs[i]? = some f->∃ y,DataW.trod enc P w base sp held n f.type ((cs.drop f.offset).take (P.cellsOf f.type))=some y:=by
 obtain ⟨xs,n,_,_,hl,hxl,hf⟩:=DataW.trod_struct ht h
 refine ⟨n,hl,fun i f hi=>?_⟩
 have:=hf i f hi
 have hi2:i < xs.length:=by rw [hxl]; exact (Array.getElem?_eq_some_iff.1 hi).1
 exact ⟨xs[i],by rw [this]; simp⟩
theorem yo {cs a:List Value} {o n:Nat} (h:(cs.drop o).take n=a):cs.drop o=a ++ cs.drop (o + n):=by
 rw [← h,← List.drop_drop,List.take_append_drop]
theorem Jh {cs:List Value} {n:Nat} (h:cs.length=n):cs.drop n=[]:=by rw [← h]; exact List.drop_length
theorem open_ls {α:Type} {cs:α->List Value} {w':Nat} {Ok:α->Prop} {fuel:Nat} {c:List Value} {x:DataW H × List MemPlace} (ht:P.underlying t=some (.slice e)) (hc:P.cellsOf e=w')
  (he:∀ {fuel:Nat} {cs':List Value} {x:DataW H × List MemPlace},DataW.trod enc P w base sp held fuel e cs'=some x->∃ y:α,cs'=cs y/\Ok y) (h:DataW.trod enc P w base sp held fuel t c=some x) :
  ∃ s:Slc,c=[Slc.v s]/\s.len<=s.cap/\s.cap<=maxLen/\∃ ys:List α,LsAt cs w' w.heap s ys/\∀ y∈ys,Ok y:=by
 obtain ⟨s,rfl,q1,q2,q3,q4⟩:=JC ht h
 rw [hc] at q4
 cases ha:s.a with
 | none =>
  have:=q3 ha
  exact ⟨s,rfl,q1,q2,[],⟨by simp [this],fun i y hy=>by simp at hy⟩,by simp⟩
 | some a =>
  obtain ⟨ys,hl,hz⟩:=xM (R:=fun i (y:α)=>aJ w.heap (a.add (i * w')) (cs y)/\Ok y) s.len fun i hi=>by
   obtain ⟨es,f,y,e1,e2,e3⟩:=q4 a ha i hi
   obtain ⟨z,rfl,r⟩:=he e3
   exact ⟨z,e2,r⟩
  refine ⟨s,rfl,q1,q2,ys,⟨hl.symm,fun i y hy=>⟨a,ha,(hz i y hy).1⟩⟩,fun y hy=>?_⟩
  obtain ⟨i,hi⟩:=List.getElem?_of_mem hy
  exact (hz i y hi).2
end
end Go.Q
end
section
namespace Go.Q.Yi
open Go.ChangeShapes Go.WideShapes
section
variable {H:Type} {enc:TypeId × Value->H} {w:World} {base:Nat} {sp:Nat->Bool} {held:Bool}
def Ok_S_quaestorlaw26_Act (h:Heap) (v:S_quaestorlaw26_Act):Prop:=((Lit.int .i64 v.oZ).wf=true)/\((Lit.int .i64 v.f_N).wf=true)/\((Lit.int .i64 v.KO).wf=true)
theorem open_S_quaestorlaw26_Act {fuel:Nat} {cs:List Value} {x:DataW H × List MemPlace} (h:DataW.trod enc Go.Proofs.Try.prog w base sp held fuel 52 cs=some x):∃ v:S_quaestorlaw26_Act,cs=S_quaestorlaw26_Act.cs v/\Ok_S_quaestorlaw26_Act w.heap v:=by
 obtain ⟨n,hl,g⟩:=Iy Go.Proofs.Try.underlying52 h
 obtain ⟨y0,g0⟩:=g 0 _ rfl
 replace g0:DataW.trod enc Go.Proofs.Try.prog w base sp held n 3 ((cs.drop 0).take (Go.Proofs.Try.prog.cellsOf 3))=some y0:=g0
 rw [show Go.Proofs.Try.prog.cellsOf 3=1 from by kernel_rfl] at g0
 obtain ⟨a0,e0,_,w0⟩:=DataW.trod_int Go.Proofs.Try.underlying3 g0
 obtain ⟨y1,g1⟩:=g 1 _ rfl
 replace g1:DataW.trod enc Go.Proofs.Try.prog w base sp held n 3 ((cs.drop 1).take (Go.Proofs.Try.prog.cellsOf 3))=some y1:=g1
 rw [show Go.Proofs.Try.prog.cellsOf 3=1 from by kernel_rfl] at g1
 obtain ⟨a1,e1,_,w1⟩:=DataW.trod_int Go.Proofs.Try.underlying3 g1
 obtain ⟨y2,g2⟩:=g 2 _ rfl
 replace g2:DataW.trod enc Go.Proofs.Try.prog w base sp held n 3 ((cs.drop 2).take (Go.Proofs.Try.prog.cellsOf 3))=some y2:=g2
 rw [show Go.Proofs.Try.prog.cellsOf 3=1 from by kernel_rfl] at g2
 obtain ⟨a2,e2,_,w2⟩:=DataW.trod_int Go.Proofs.Try.underlying3 g2
 have r0:cs.drop 0=_ ++ cs.drop 1:=yo e0
 have r1:cs.drop 1=_ ++ cs.drop 2:=yo e1
 have r2:cs.drop 2=_ ++ cs.drop 3:=yo e2
 have rn:cs.drop 3=[]:=Jh (hl.trans (by kernel_rfl))
 exact ⟨⟨a0,a1,a2⟩,(List.drop_zero).symm.trans (r0.trans (by rw [r1,r2,rn]; rfl)),w0,w1,w2⟩
end
end Go.Q.Yi
end
section
namespace Go.Q.Yi
open Go.Sort
/-! ### what more than half have, plainly -/
def cnt (l:List Int) (v:Int):Nat:=l.countP fun x=>decide (v<=x)
def Cm (l:List Int) (c:Int):Prop:=(l=[]/\c=0)∨(c∈l/\l.length / 2 + 1<=cnt l c/\∀ v,l.length / 2 + 1<=cnt l v->v<=c)
theorem IJ {n:Nat} {d d':Array Int} (hn:d.size=n) (P:PermIn 0 n d d'):d'.toList.Perm d.toList:=by
 have h:=P.2.2
 have h1:=P.1
 have e:∀ x:Array Int,x.size=n->x.extract 0 n=x:=fun x hx=>by rw [← hx]; simp
 rw [e d hn,e d' (by omega)] at h
 exact h
theorem IY {n:Nat} {d:Array Int} (hn:d.size=n) (S:SortedIn ltInt 0 n d) {i j:Nat} (hij:i<=j) (hj:j < n):d[i]!<=d[j]!:=by
 rcases Nat.lt_or_ge i j with h | h
 ·have:=S i j (Nat.zero_le _) h hj
  unfold ltInt at this
  rw [decide_eq_false_iff_not] at this
  omega
 ·rw [show i=j from by omega]; exact Int.le_refl _
theorem Dh {l:List Int} {p:Int->Bool} (h:∀ x∈l,p x=false):l.countP p=0:=by
 rw [List.countP_eq_zero]
 intro x hx e
 rw [h x hx] at e; cases e
/-- the middle of the sorted ones is it -/
theorem Cm.of {zs:List Int} {d:Array Int} (hn:0 < zs.length) (dn:d.size=zs.length) (P:d.toList.Perm zs) (M:∀ i j,i<=j->j < zs.length->d[i]!<=d[j]!):Cm zs d[zs.length - (zs.length / 2 + 1)]!:=by
 have ge:∀ (i:Nat),i < zs.length->∃ h:i < d.toList.length,d.toList[i]=d[i]!:=fun i hi=>⟨by rw [Array.length_toList,dn]; exact hi,by rw [Array.getElem_toList,getElem!_pos d i (by omega)]⟩
 have ec:∀ v,cnt zs v=cnt d.toList v:=fun v=>(P.countP_eq _).symm
 have ll:d.toList.length=zs.length:=by rw [Array.length_toList,dn]
 obtain ⟨m,hm⟩:∃ m,m=zs.length - (zs.length / 2 + 1):=⟨_,rfl⟩
 rw [← hm]
 have ml:m < zs.length:=by omega
 have sp:∀ v,cnt d.toList v=cnt (d.toList.take m) v + cnt (d.toList.drop m) v:=fun v=>by
  unfold cnt
  rw [← List.countP_append,List.take_append_drop]
 have dl:(d.toList.drop m).length=zs.length / 2 + 1:=by rw [List.length_drop,ll]; omega
 refine .inr ⟨?_,?_,fun v hv=>?_⟩
 ·obtain ⟨h1,h2⟩:=ge m ml
  rw [← h2]
  exact P.mem_iff.1 (List.getElem_mem h1)
 ·rw [ec,sp]
  have:cnt (d.toList.drop m) d[m]! = (d.toList.drop m).length:=by
   unfold cnt
   rw [List.countP_eq_length]
   intro x hx
   obtain ⟨i,hi,rfl⟩:=List.mem_iff_getElem.1 hx
   rw [List.length_drop,ll] at hi
   rw [List.getElem_drop,decide_eq_true_eq]
   obtain ⟨h1,h2⟩:=ge (m + i) (by omega)
   rw [h2]
   exact M m (m + i) (by omega) (by omega)
  omega
 ·apply Classical.byContradiction
  intro hc
  have hlt:d[m]! < v:=by omega
  rw [ec,sp] at hv
  have z1:cnt (d.toList.take m) v=0:=Dh fun x hx=>by
   obtain ⟨i,hi,rfl⟩:=List.mem_iff_getElem.1 hx
   rw [List.length_take,ll] at hi
   rw [List.getElem_take,decide_eq_false_iff_not]
   obtain ⟨h1,h2⟩:=ge i (by omega)
   rw [h2]
   have:=M i m (by omega) ml
   omega
  have z2:cnt (d.toList.drop m) v < (d.toList.drop m).length:=by
   unfold cnt
   have hd:d.toList.drop m=d[m]! :: d.toList.drop (m + 1):=by
    obtain ⟨h1,h2⟩:=ge m ml
    rw [List.drop_eq_getElem_cons h1,h2]
   rw [hd,List.countP_cons,List.length_cons,if_neg (by rw [decide_eq_true_eq]; omega)]
   have:=List.countP_le_length (p:=fun x=>decide (v<=x)) (l:=d.toList.drop (m + 1))
   omega
  omega
theorem vo:∀ (l:List Int) (i:Nat) (v w c:Int),l[i]? = some v->v<=w->cnt l c<=cnt (l.set i w) c
 | [],_,_,_,_,h,_=>by simp at h
 | x :: r,0,v,w,c,h,hv=>by
  simp only [List.getElem?_cons_zero,Option.some.injEq] at h
  subst h
  unfold cnt
  rw [List.set_cons_zero,List.countP_cons,List.countP_cons]
  by_cases hx:c<=x
  ·rw [if_pos (decide_eq_true hx),if_pos (decide_eq_true (by omega))]; exact Nat.le_refl _
  ·rw [if_neg (by rw [decide_eq_true_eq]; exact hx)]; omega
 | x :: r,i + 1,v,w,c,h,hv=>by
  have ih:=vo r i v w c (by simpa using h) hv
  unfold cnt at ih ⊢
  rw [List.set_cons_succ,List.countP_cons,List.countP_cons]
  omega
end Go.Q.Yi
end
section
namespace Go.Q.Yi
open Go.Sort
section
variable {B:Nat} {h h':Heap} {s:Slc} {d:Array Int}
theorem Jz {k:KP Unit} (R:U64 B h s d) (hz:d.size<=32) (H:∀ d' h',U64 B h' s d'->PermIn 0 d.size d d'->SortedIn ltInt 0 d.size d'->Onl s h h'->k () h'):gz s k h:=by
 have sl:=R.len
 unfold gz
 refine ⟨_,rfl,?_⟩
 rw [aY (by omega) (by omega),sl]
 refine Ig (by omega) ?_
 have hb:bitsLen d.size<=8:=by
  have key:(List.range 33).all (fun n=>decide (bitsLen n<=8))=true:=by decide +kernel
  have:=List.all_eq_true.1 key d.size (by simp; omega)
  simpa using this
 exact F9 (Ea 40) (N:=40) (Ex 40) (by omega) ⟨B,d,0,d.size,R,rfl,rfl,Nat.zero_le _,Nat.le_refl _,hz,.inl rfl,⟨by omega,by omega⟩,H⟩
theorem Cj {p:Int} {k:KP Int} (p0:0<=p) (p1:p < 9223372036854775808) (H:k (p / 2 + 1) h):qY p k h:=by
 unfold qY
 have e:shr .i64 (if 0 > p then 0 else p) (1:Int).toNat=p / 2:=by
  rw [if_neg (by omega)]
  unfold shr
  rw [show (2:Int) ^ (min (1:Int).toNat IntKind.i64.bits)=2 from rfl,Int.fdiv_eq_ediv_of_nonneg _ (by omega)]
 rw [e,az (by omega) (by omega)]
 exact ⟨_,rfl,H⟩
theorem KQ {zs:List Int} {i:Int} (S:SlcAt h s (u8s zs)) (sl:s.len=zs.length) (i0:0<=i) {v:Int} (hx:zs[i.toNat]? = some v) :
  ∃ a:Addr,s.a=some a/\(0:Int)<=i/\i < (s.len:Int)/\af h (a.add (i.toNat * 1))=some (.int .u64 v):=by
 have i1:=(List.getElem?_eq_some_iff.1 hx).1
 cases ha:s.a with
 | none =>
  have e:zs=[]:=List.map_eq_nil_iff.1 (S.1 ha)
  rw [e] at i1; simp at i1
 | some a =>
  refine ⟨a,rfl,i0,by omega,?_⟩
  rw [Nat.mul_one]
  exact S.2 a ha i.toNat _ (by unfold u8s; rw [List.getElem?_map,hx]; rfl)
theorem FU {zs:List Int} {k:KP Int} (S:SlcAt h s (u8s zs)) (sl:s.len=zs.length) (hz:zs.length<=32)
  (H:∀ c h',Cm zs c->Ext h.size h h'->k c h'):rM s k h:=by
 unfold rM
 by_cases z0:zs.length=0
 ·rw [if_pos (by rw [beq_iff_eq]; omega)]
  exact H 0 h (.inl ⟨List.eq_nil_of_length_eq_zero z0,rfl⟩) (Ext.refl _ _)
 rw [if_neg (by rw [beq_iff_eq]; omega)]
 unfold iY
 have X1:=Ext.push h (.cells #[Slc.v s] 81) (Nat.le_refl h.size)
 have P:=Blk.push h [Slc.v s] 81
 have z1:=X1.size
 change Blk (h.push (.cells #[Slc.v s] 81)) h.size [Slc.v s] 81 at P
 generalize h.push (.cells #[Slc.v s] 81)=h1 at *
 unfold mR
 refine ⟨h.size,s,zs,rfl,by rw [P.cell]; rfl,sl,S.ext X1,by omega,by omega,fun s2 h2 R2 l2 X2=>?_⟩
 have R2':U64 h1.size h2 s2 zs.toArray:=by unfold U64; simpa using R2
 have z2:=X2.size
 have zl:zs.toArray.size=zs.length:=List.size_toArray
 refine Jz R2' (by omega) fun d' h3 R3 P3 S3 O3=>?_
 have X3:=O3.ext R2' z2
 have l3:=R3.len
 have dz:d'.size=zs.length:=by rw [← l3,l2]
 show qY (s2.len:Int) _ h3
 rw [l2]
 refine Cj (by omega) (by omega) ?_
 rw [az (by omega) (by omega)]
 obtain ⟨g,ha,hc⟩:=R3.ld (i:=zs.length - (zs.length / 2 + 1)) (by omega)
 have ei:((zs.length:Int) - ((zs.length:Int) / 2 + 1)).toNat=zs.length - (zs.length / 2 + 1):=by omega
 refine ⟨_,ha,by omega,by omega,_,by rw [add_mk,Nat.zero_add,Nat.mul_one,ei]; exact hc,?_⟩
 refine H _ h3 (Cm.of (by omega) dz (by have:=IJ rfl P3; simpa using this) fun i j hij hj=>IY dz (by rw [zl] at S3; exact S3) hij hj) (X1.trans ((X2.trans X3).mono z1))
end
/-! ### a ballot -/
section
variable {h:Heap} {b:Nat} {n:Int} {y:Nat}
abbrev Cn (h:Heap) (b:Nat) (n:Int) (y:Nat):Prop:=Blk h b (iZ.cs ⟨n,(y:Int)⟩) 123
theorem F4 {p:Int} {k:KP Bool} (T:Cn h b n y) (n0:0<=n) (n1:n<=32) (hy:y < 2 ^ n.toNat) (hp:p < 9223372036854775808)
  (H1:0<=p->p < n->y / 2 ^ p.toNat % 2=0->∀ h',Cn h' b n (y + 2 ^ p.toNat)->Upd b h h'->k true h') (H2:(0<=p->p < n->y / 2 ^ p.toNat % 2=1)->k false h):lS (some ⟨b,0,none⟩) p k h:=by
 have y64:y < 4294967296:=Nat.lt_of_lt_of_le hy (by rw [show (4294967296:Nat)=2 ^ 32 from rfl]; exact Nat.pow_le_pow_right (by omega) (by omega))
 have c0:af h ⟨b,0,none⟩=some (.int .i64 n):=by rw [T.cell]; rfl
 have c1:af h ((⟨b,0,none⟩:Addr).add 1)=some (.int .u64 (y:Int)):=by rw [add_mk,T.cell]; rfl
 unfold lS
 rw [show ((some (⟨b,0,none⟩:Addr)).isNone || decide (p < 0))=decide (p < 0) from rfl]
 by_cases p0:p < 0
 ·rw [if_pos (decide_eq_true p0)]
  unfold jv gJ
  rw [if_pos rfl,if_pos rfl]
  exact H2 fun h=>by omega
 rw [if_neg (by rw [decide_eq_true_eq]; exact p0)]
 refine ⟨_,rfl,n,c0,?_⟩
 unfold jv
 by_cases pn:p>=n
 ·rw [if_pos (decide_eq_true pn)]
  unfold gJ
  rw [if_pos rfl]
  exact H2 fun _ h=>by omega
 rw [if_neg (by rw [decide_eq_true_eq]; exact pn)]
 have ew:IntKind.u64.wrap p=p:=aY (by omega) (by omega)
 refine ⟨_,rfl,_,c1,by rw [ew]; omega,?_⟩
 rw [ew,DT (n:=p.toNat) (by omega)]
 have eb:kE .u64 ((y / 2 ^ p.toNat:Nat):Int) 1=((y / 2 ^ p.toNat % 2:Nat):Int):=by
  have:=sS (a:=y / 2 ^ p.toNat) (b:=1) (Nat.lt_of_le_of_lt (Nat.div_le_self _ _) (by omega)) (by omega)
  rw [Nat.and_one_is_mod] at this
  exact this
 rw [eb]
 unfold gJ
 by_cases hb:y / 2 ^ p.toNat % 2=1
 ·rw [if_pos (by rw [beq_iff_eq]; omega)]
  exact H2 fun _ _=>hb
 ·rw [if_neg (by rw [beq_iff_eq]; omega)]
  have hb0:y / 2 ^ p.toNat % 2=0:=by omega
  refine ⟨_,rfl,_,c1,by rw [ew]; omega,_,by rw [add_mk]; exact T.wr (by show 0 + 1 < 2; omega),rfl,?_⟩
  rw [ew]
  have es:shl .u64 1 p.toNat=((2 ^ p.toNat:Nat):Int):=by
   have h2:(2:Nat) ^ p.toNat<=2 ^ 32:=Nat.pow_le_pow_right (by omega) (by omega)
   unfold shl
   rw [show min p.toNat IntKind.u64.bits=p.toNat from Nat.min_eq_left (by show p.toNat<=64; omega),Int.one_mul]
   have:((2:Int) ^ p.toNat)=((2 ^ p.toNat:Nat):Int):=by simp
   rw [this]
   generalize 2 ^ p.toNat=P at h2 ⊢
   rw [aY (by omega) (by omega)]
  have h2:(2:Nat) ^ p.toNat<=2 ^ 32:=Nat.pow_le_pow_right (by omega) (by omega)
  rw [es,Jg (by omega) (by omega),Dx _ _ hb0]
  rw [show (⟨b,0,none⟩:Addr).add 1=⟨b,1,none⟩ from by simp]
  exact H1 (by omega) (by omega) hb0 _ T.set ⟨by rw [jQ]; exact Nat.le_refl _,fun i _ hi=>jg hi⟩
theorem GD {k:KP Int} (T:Cn h b n y) (n1:n<=32) (hy:y < 2 ^ n.toNat) (H:k (pcR 32 y) h):mf (some ⟨b,0,none⟩) k h:=by
 have y64:y < 4294967296:=Nat.lt_of_lt_of_le hy (by rw [show (4294967296:Nat)=2 ^ 32 from rfl]; exact Nat.pow_le_pow_right (by omega) (by omega))
 unfold mf
 rw [if_neg (by simp)]
 exact ⟨_,rfl,_,by rw [add_mk,T.cell]; rfl,Ja y64 H⟩
theorem LK {k:KP Bool} (T:Cn h b n y) (n0:0<=n) (n1:n<=32) (hy:y < 2 ^ n.toNat) (H:k (decide (((pcR 32 y:Nat):Int)>=n / 2 + 1)) h):nZ (some ⟨b,0,none⟩) k h:=by
 unfold nZ
 rw [if_pos (by simp)]
 have c0:af h ⟨b,0,none⟩=some (.int .i64 n):=by rw [T.cell]; rfl
 refine ⟨_,rfl,_,c0,GD T n1 hy ⟨c0,Cj n0 (by omega) ?_⟩⟩
 unfold lQ
 exact H
theorem JF {p:Int} {k:KP (Option Addr)} (H:∀ b h' m,m=(if p < 0 then 0 else if p < 32 then p else 32)->Cn h' b m 0->h.size<=b->Ext h.size h h'->k (some ⟨b,0,none⟩) h'):wU p k h:=by
 unfold wU
 refine ⟨_,_,rfl,rfl,?_⟩
 exact H h.size _ _ (by split <;> split <;> (try split) <;> (try split) <;> omega) (Blk.push h _ 123) (Nat.le_refl _) (Ext.push h _ (Nat.le_refl _))
end
end Go.Q.Yi
end
section
/- Frames. -/
namespace Go.Q
end Go.Q
end
section
namespace Go.Q
theorem SlcAt.get {h:Heap} {s:Slc} {vs:List Value} (S:SlcAt h s vs) {i:Nat} {v:Value} (hv:vs[i]? = some v):∃ a,s.a=some a/\af h (a.add i)=some v:=by
 cases ha:s.a with
 | none=>have:=S.1 ha; subst this; simp at hv
 | some a=>exact ⟨a,rfl,S.2 a ha i v hv⟩
theorem fI (b:Addr) (m n:Nat):(b.add m).add n=b.add (m + n):=by
 unfold Addr.add
 by_cases h0:m=0 <;> by_cases h1:n=0 <;> simp [h0,h1,Nat.add_assoc]
section
variable {α:Type} {cs:α->List Value} {w:Nat}
theorem rW (hc:∀ x,(cs x).length=w) (xs:List α):(xs.flatMap cs).length=xs.length * w:=by
 induction xs with
 | nil=>simp
 | cons x xs ih=>simp only [List.flatMap_cons,List.length_append,ih,hc,List.length_cons,Nat.add_mul]; omega
theorem vN (hc:∀ x,(cs x).length=w):∀ (xs:List α) (i j:Nat),j < w->(xs.flatMap cs)[i * w + j]? = (xs[i]?).bind fun x=>(cs x)[j]?
 | [],i,j,h=>by simp
 | x :: r,0,j,h=>by
  simp only [List.flatMap_cons,Nat.zero_mul,Nat.zero_add,List.getElem?_cons_zero,Option.bind_some]
  rw [List.getElem?_append_left (by rw [hc]; exact h)]
 | x :: r,i + 1,j,h=>by
  simp only [List.flatMap_cons,List.getElem?_cons_succ]
  rw [List.getElem?_append_right (by rw [hc,Nat.add_mul]; omega)]
  have:=vN hc r i j h
  rw [← this,hc]
  congr 1
  rw [Nat.add_mul]; omega
theorem BJ (hc:∀ x,(cs x).length=w):∀ (xs:List α) (i j:Nat) (x x':α) (v:Value),j < w->xs[i]? = some x->cs x'=(cs x).set j v->(xs.flatMap cs).set (i * w + j) v=(xs.set i x').flatMap cs
 | [],i,j,x,x',v,h,hx,he=>by simp at hx
 | y :: r,0,j,x,x',v,h,hx,he=>by
  simp at hx; subst hx
  simp only [List.flatMap_cons,Nat.zero_mul,Nat.zero_add,List.set_cons_zero]
  rw [List.set_append_left _ _ (by rw [hc]; exact h),he]
 | y :: r,i + 1,j,x,x',v,h,hx,he=>by
  simp only [List.flatMap_cons,List.set_cons_succ]
  rw [List.set_append_right _ _ (by rw [hc,Nat.add_mul]; omega),hc]
  rw [show (i + 1) * w + j - w=i * w + j from by rw [Nat.add_mul]; omega]
  rw [BJ hc r i j x x' v h (by simpa using hx) he]
theorem LsAt.tJ (hc:∀ x,(cs x).length=w) {h:Heap} {s:Slc} {xs:List α} (S:SlcAt h s (xs.flatMap cs)) (hl:s.len=xs.length) (hw:0 < w):LsAt cs w h s xs:=by
 refine ⟨hl,fun i x hx=>?_⟩
 have hi:=(List.getElem?_eq_some_iff.1 hx).1
 have h0:(xs.flatMap cs)[i * w + 0]? = (cs x)[0]?:=by rw [vN hc xs i 0 hw,hx]; rfl
 obtain ⟨v0,hv0⟩:∃ v,(cs x)[0]? = some v:=⟨_,List.getElem?_eq_getElem (by rw [hc]; exact hw)⟩
 rw [hv0] at h0
 obtain ⟨a,ha,_⟩:=S.get h0
 refine ⟨a,ha,fun j v hj=>?_⟩
 have hj2:j < w:=by have:=(List.getElem?_eq_some_iff.1 hj).1; rw [hc] at this; exact this
 rw [fI]
 refine S.2 a ha _ v ?_
 rw [vN hc xs i j hj2,hx]; exact hj
end
namespace Yi
end Yi
end Go.Q
end
section
namespace Go.Q.Yi
abbrev Ent:=Int × List Int
theorem sG {p0:Slc} {l:List Int} {k:KP Slc} {h:Heap} (hl:p0.len=l.length) (hs:SlcAt h p0 (b8 l)) (hsz:l.length<=70368744177664)
  (H:∀ s' h',Row h.size h' 5 1 s' (b8 l)->Ext h.size h h'->k s' h'):bD p0 k h:=by
 unfold bD
 cases ha:p0.a with
 | none =>
  rw [if_pos (by simp)]
  have hn:l=[]:=by have:=hs.1 ha; simpa using this
  subst hn
  exact H _ _ (Row.nil _ _ _ _) (Ext.refl _ _)
 | some a =>
  rw [if_neg (by simp)]
  have hp:∀ o:Obj,Ext h.size h (h.push o):=fun o=>Ext.push h o (Nat.le_refl _)
  refine ⟨_,_,rfl,rfl,b8 l,hs.ext (hp _),?_⟩
  have R:Row h.size (h.push (.cells ([]:List Value).toArray 5)) 5 1 ⟨some ⟨h.size,0,none⟩,0,0⟩ [] :=
   ⟨by simp,by simp [maxLen],.inr ⟨h.size,[],rfl,Nat.le_refl _,Blk.push _ _ _,Nat.le_refl _,by simp,by simp⟩⟩
  refine App.row R (by simp) rfl (by simp [hl]) (LQ l) (by simp only; omega) (by simp only [maxLen]; omega) fun s' h' R' _ hsz' ho _=>?_
  refine H s' h' (by simpa using R') ⟨by simp at hsz'; omega,fun i hi=>?_⟩
  rw [ho i (by simp; omega) (by simp [Slc.blk]; omega),(hp _).block i hi]
end Go.Q.Yi
end

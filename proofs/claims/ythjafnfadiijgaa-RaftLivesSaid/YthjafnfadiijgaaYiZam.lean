/- A part of the proof of statements of this seat: lemmas, no statement of their own. -/
import Derived.Test.YthjafnfadiijgaaYiZad
import Derived.Test.YthjafnfadiijgaaYiZae
import Derived.Test.YthjafnfadiijgaaYiZal
set_option linter.unusedVariables false
set_option linter.unusedSimpArgs false
set_option maxRecDepth 100000
set_option maxHeartbeats 1000000
section
namespace Go.Q.Yi
open Go.Proofs.Try
/-- quaestor quaestorlaw26.alone -/
def jF (a_:Option Addr) (b_:Int) (d_:Bool) (k:KP (Option Addr)) (nx1:KP Int) (h_2:Heap):Prop :=
  if d_ then (jm a_ (fun r3 h4=>∃ x5,x5=(IntKind.i64.wrap (b_ + 1))/\(nx1 x5 h4)) h_2) else (k a_ h_2)
def ui (a_:Option Addr) (b_:Int) (k:KP (Option Addr)) (nx1:KP Int) (h_1:Heap):Prop :=
  if (decide (b_ < 20)) then (gm a_ (fun r6 h7=>jF a_ b_ (!r6) k nx1 h7) h_1) else (jF a_ b_ false k nx1 h_1)
def uI (b_:Option Addr) (i2:Int) (k:KP (Option Addr)) (h:Heap):Prop :=
  ∃ (I:KP Int) (μ:Int->Heap->Nat),I i2 h/\∀ (a_:Int) (h:Heap),I a_ h->ui b_ a_ k (fun s h'=>I s h'/\μ s h' < μ a_ h) h
def rR (k:KP (Option Addr)) (h:Heap):Prop :=
  oL 0 1 0 0 none (⟨none,0,0⟩:Slc) (fun r1 h2=>uI r1 0 k h2) h
/-- quaestor quaestorlaw26.awake -/
def oV (a_:Bool) (k:KP Bool) (h_4:Heap):Prop :=
  k a_ h_4
def oN (a_:Option Addr) (b_:Bool) (k:KP Bool) (h_3:Heap):Prop :=
  if b_ then (fJ a_ (fun r15 h16=>oV (r15 == 1) k h16) h_3) else (oV false k h_3)
def oP (a_:Option Addr) (b_:Addr) (d_:Int) (f_:Bool) (k:KP Bool) (h_2:Heap):Prop :=
  if (f_ && (d_ == 0)) then (∃ v17,af h_2 (b_.add 1)=some (Slc.v v17)/\(∃ l18:List Int,l18.length=v17.len/\SlcAt h_2 v17 (b8 l18)/\(oN a_ ((BN l18).toList == (⟨#[120]⟩:ByteArray).toList) k h_2))) else (oN a_ false k h_2)
def oK (a_:Option Addr) (f_:Int) (g_:Int) (b_:Addr) (d_:Int) (h_:Bool) (k:KP Bool) (h_1:Heap):Prop :=
  if ((h_ && (g_ == 0)) && (f_ == 2)) then (dA a_ (fun r19 h20=>oP a_ b_ d_ (r19 == 2) k h20) h_1) else (oP a_ b_ d_ false k h_1)
def rV (k:KP Bool) (h:Heap):Prop :=
  rR  (fun r1 h2=>∃ b3 h4,b3=h2.size/\h4=h2.push (.cells ([.int .u8 120]).toArray 5)/\(∃ h5,h5=h2.push (.cells ([.int .u8 120]).toArray 5 (1,2))/\(fH r1 (⟨some ⟨b3,0,none⟩,1,1⟩:Slc) (fun r6 h7=>jS r1 2 (fun r8 h9=>∃ b10 h11,b10=h9.size/\h11=h9.push (.cells (ae.cs (⟨0,(⟨none,0,0⟩:Slc)⟩:ae)).toArray 65)/\(∃ h12,dE h11 (ad b10) 2/\h12=aU h11 (ad b10) 0 (ae.cs r8.1)/\(gm r1 (fun r13 h14=>if r13 then (nz r1 (fun r21 h22=>oK r1 r6.1 r6.2 (ad b10) r8.2 (r21 == 0) k h22) h14) else (oK r1 r6.1 r6.2 (ad b10) r8.2 false k h14)) h12))) h7) h5))) h
theorem zq:aB prog 30:=ck func30
theorem xP ( k h) (H:rR k h):CallsH prog 30 #[] h (fun v h'=>∃ r:Option Addr,v = .pointer r/\k r h'):=by
 refine fE func30 fun w0=>?_
 refine zQ (w1 Z (zE (zQ ?_)))
 refine wC O13 (R13 _ _ _ _ _ _ _ _ H) fun r1 h2 H=>?_
 refine w1 Z (zE (zS (zQ ?_)))
 refine w1 Z (zE (zB ?_))
 obtain ⟨I1,μ1,H0,HI⟩:=H
 refine zO (σ:=Int) [1] (fun (s:Int)=>[(2,.int .i64 s)]) I1 μ1 0 H0 ?_
 rintro a_ h_1 H
 replace H:=HI a_ h_1 H
 refine zF [2,1] (zS (zQ ?_))
 refine w3 Z ?_
 refine vJ 4 (α:=Bool) [1,2] (fun (s:Bool)=>[(10,.bool s)]) (fun (s:Bool) h=>jF r1 a_ s k (fun s h'=>I1 s h'/\μ1 s h' < μ1 a_ h_1) h) ?_ ?_
 rintro b_ h_2 H
 refine vF [10,1,2] (zE ?_)
 refine zI H ?_ ?_ <;> intro H
 refine zK (zX (zS (zB (zR (w1 Z ?_)))))
 refine wC O14 (R14 _ _ _ H) fun r3 h4 H=>?_
 refine zL (zX (zR (w2 Z ?_)))
 refine wQ Z H fun x5 H=>?_
 refine zW ?_
 exact xJ x5 H
 refine zY (yE (yE (yH (zX (zQ (w2 Z (zE (zT ?_))))))))
 exact aA _ rfl _ rfl ⟨r1,rfl,H⟩
 refine vI 6 H ?_ ?_ <;> intro H
 refine w1 Z ?_
 refine wC O22 (R22 _ _ _ H) fun r6 h7 H=>?_
 refine w2 Z ?_
 exact wJ (!r6) H
 refine wS (wS (wS (w1 Z ?_)))
 exact wJ false H
theorem yV:aB prog 8:=ck func8
theorem xR ( k h) (H:rV k h):CallsH prog 8 #[] h (rB k):=by
 refine fE func8 fun w0=>?_
 refine zQ (w1 Z (zE (zQ ?_)))
 refine wC zq (xP  _ _ H) fun r1 h2 H=>?_
 refine w1 Z (zE (zQ ?_))
 refine w1 Z ?_
 obtain ⟨b3,h4,eb3,eh4,H⟩:=H
 refine wH (nV Z rfl rfl rfl rfl rfl rfl rfl eb3 eh4) ?_
 obtain ⟨h5,eh5,H⟩:=H
 refine wH (H5 Z rfl rfl rfl rfl eb3 eh4 rfl eh5) ?_
 refine wC O23 (R23 _ _ _ _ H) fun r6 h7 H=>?_
 refine w5 Z (zE (zF [1,2,3] (zQ ?_)))
 refine w1 Z ?_
 refine wC O25 (R25 _ _ _ _ H) fun r8 h9 H=>?_
 refine w3 Z ?_
 refine wB Z H fun b10 h11 H=>?_
 refine wTa Z H fun h12 H=>?_
 refine w1 Z (zE (zQ ?_))
 refine w1 Z ?_
 refine wC O22 (R22 _ _ _ H) fun r13 h14 H=>?_
 refine w1 Z ?_
 refine vJ 4 (α:=Bool) [1,2,3,4,5] (fun (s:Bool)=>[(25,.bool s)]) (fun (s:Bool) h=>oK r1 r6.1 r6.2 (ad b10) r8.2 s k h) ?_ ?_
 rintro a_ h_1 H
 refine vF [25,1,2,3,4,5] ?_
 refine w1 Z ?_
 refine vU 3 [1,2,4,5] [(29,.bool (a_ && (r6.2 == 0)))] ?_ ?_
 refine w1 Z ?_
 refine vU 3 [1,4,5] [(33,.bool ((a_ && (r6.2 == 0)) && (r6.1 == 2)))] ?_ ?_
 refine w1 Z ?_
 refine vJ 4 (α:=Bool) [1,4,5] (fun (s:Bool)=>[(38,.bool s)]) (fun (s:Bool) h=>oP r1 (ad b10) r8.2 s k h) ?_ ?_
 rintro b_ h_2 H
 refine vF [38,1,4,5] ?_
 refine w1 Z ?_
 refine vU 3 [1,4] [(42,.bool (b_ && (r8.2 == 0)))] ?_ ?_
 refine w1 Z ?_
 refine vJ 5 (α:=Bool) [1] (fun (s:Bool)=>[(48,.bool s)]) (fun (s:Bool) h=>oN r1 s k h) ?_ ?_
 rintro f_ h_3 H
 refine vF [48,1] ?_
 refine w1 Z ?_
 refine vJ 4 (α:=Bool) [] (fun (s:Bool)=>[(53,.bool s)]) (fun (s:Bool) h=>oV s k h) ?_ ?_
 rintro d_ h_4 H
 refine vF [53] ?_
 refine w1 Z (zE (zT ?_))
 exact aA _ rfl _ rfl ⟨d_,rfl,H⟩
 refine vI 49 H ?_ ?_ <;> intro H
 refine w1 Z ?_
 refine wC O17 (R17 _ _ _ H) fun r15 h16 H=>?_
 refine w2 Z ?_
 exact wJ (r15 == 1) H
 refine wS (wS (wS (w1 Z ?_)))
 exact wJ false H
 refine vI 43 H ?_ ?_ <;> intro H
 refine w1 Z ?_
 refine wL Z H fun v17 H=>?_
 obtain ⟨l18,ll18,hl18,H⟩:=H
 refine wY (JZ (s:=v17) (l:=l18) Z rfl rfl rfl rfl rfl ll18 hl18) ?_
 refine w2 Z ?_
 exact wJ ((BN l18).toList == (⟨#[120]⟩:ByteArray).toList) H
 refine wS (wS (wS (wS (w1 Z ?_))))
 exact wJ false H
 refine vG (d:=39) (fun hb=>?_) (fun hb=>?_)
 refine w3 Z ?_
 refine vK ?_
 exact congrArg (fun b=>some (Value.bool b)) (rq hb)
 refine wS (wS (w1 Z ?_))
 refine vK ?_
 exact congrArg (fun b=>some (Value.bool b)) (rF hb)
 refine vI 34 H ?_ ?_ <;> intro H
 refine w1 Z ?_
 refine wC O18 (R18 _ _ _ H) fun r19 h20 H=>?_
 refine w2 Z ?_
 exact wJ (r19 == 2) H
 refine wS (wS (wS (w1 Z ?_)))
 exact wJ false H
 refine vG (d:=30) (fun hb=>?_) (fun hb=>?_)
 refine w3 Z ?_
 refine vK ?_
 exact congrArg (fun b=>some (Value.bool b)) (rq hb)
 refine wS (wS (w1 Z ?_))
 refine vK ?_
 exact congrArg (fun b=>some (Value.bool b)) (rF hb)
 refine vG (d:=26) (fun hb=>?_) (fun hb=>?_)
 refine w3 Z ?_
 refine vK ?_
 exact congrArg (fun b=>some (Value.bool b)) (rq hb)
 refine wS (wS (w1 Z ?_))
 refine vK ?_
 exact congrArg (fun b=>some (Value.bool b)) (rF hb)
 refine vI 21 H ?_ ?_ <;> intro H
 refine w1 Z ?_
 refine wC O16 (R16 _ _ _ H) fun r21 h22 H=>?_
 refine w2 Z ?_
 exact wJ (r21 == 0) H
 refine wS (wS (wS (w1 Z ?_)))
 exact wJ false H
end Go.Q.Yi
end

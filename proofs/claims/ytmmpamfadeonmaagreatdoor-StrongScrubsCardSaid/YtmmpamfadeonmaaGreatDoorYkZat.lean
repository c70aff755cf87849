/- A part of the proof of statements of this seat: lemmas, no statement of their own. -/
import Derived.Test.YtmmpamfadeonmaaGreatDoorYkZae
import Derived.Test.YtmmpamfadeonmaaGreatDoorYkZaf
import Derived.Test.YtmmpamfadeonmaaGreatDoorYkZag
set_option linter.unusedVariables false
set_option linter.unusedSimpArgs false
section
set_option maxRecDepth 100000
set_option maxHeartbeats 1000000
namespace Go.Q.Yk
open Go.Proofs.Tryz
/-- quaestor quaestorref01.Same -/
def ref01_Same_l1b (t0_1:Slc) (t1_1:Slc) (t5_1:Int) (k:(Bool)->Heap->Prop) (nx1:(Int)->Heap->Prop) (h_1:Heap):Prop :=
  if (decide (t5_1 < (t0_1.len:Int))) then (∃ a1:Addr,t0_1.a=some a1/\(0:Int)<=t5_1/\t5_1 < (t0_1.len:Int)/\(∃ v2:Int,cellH h_1 (a1.add (t5_1.toNat * 1))=some (.int .u8 v2)/\(∃ a3:Addr,t1_1.a=some a3/\(0:Int)<=t5_1/\t5_1 < (t1_1.len:Int)/\(∃ v4:Int,cellH h_1 (a3.add (t5_1.toNat * 1))=some (.int .u8 v4)/\(if (v2 != v4) then (k false h_1) else (∃ x5:Int,x5=(IntKind.i64.wrap (t5_1 + 1))/\(nx1 x5 h_1))))))) else (k true h_1)
def ref01_Same_l1 (t0_1:Slc) (t1_1:Slc) (i5:Int) (k:(Bool)->Heap->Prop) (h:Heap):Prop :=
  ∃ (I:Int->Heap->Prop) (μ:Int->Heap->Nat),I i5 h/\∀ (t5_1:Int) (h:Heap),I t5_1 h->ref01_Same_l1b t0_1 t1_1 t5_1 k (fun s h'=>I s h'/\μ s h' < μ t5_1 h) h
def ref01_Same (p0:Slc) (p1:Slc) (k:(Bool)->Heap->Prop) (h:Heap):Prop :=
  if ((p0.len:Int) != (p1.len:Int)) then (k false h) else (ref01_Same_l1 p0 p1 0 k h)
theorem O12:CallOk prog 12:=ck func12
theorem R12 (p0 p1 k h) (H:ref01_Same p0 p1 k h):CallsH prog 12 #[Slc.v p0,Slc.v p1] h (fun v h'=>∃ r:Bool,v = .bool r/\k r h'):=by
 refine fE func12 fun w0=>?_
 refine zF [0,1] (zQ ?_)
 refine w1 tok (zE (zS (zQ ?_)))
 refine w5 tok (zE ?_)
 refine zI H ?_ ?_ <;> intro H
 refine zQ (w1 tok (zE (zF [4] (zT (yT ?_)))))
 exact x_ret _ rfl _ rfl ⟨false,rfl,H⟩
 refine zK (zX (zS (zQ (w1 tok (zE (zB ?_))))))
 obtain ⟨I1,μ1,H0,HI⟩:=H
 refine zO (σ:=Int) [0,1] (fun (s:Int)=>[(5,.int .i64 s)]) I1 μ1 0 H0 ?_
 rintro t5_1 h_1 H
 replace H:=HI t5_1 h_1 H
 refine zF [5,0,1] (zS (zQ ?_))
 refine w4 tok (zE ?_)
 refine zI H ?_ ?_ <;> intro H
 refine zK (zX (zS (zB (zS ?_))))
 refine c_draw (by kernel_rfl) (by kernel_rfl) ?_
 refine q_p tok rfl rfl rfl ?_
 refine q_p tok rfl rfl rfl ?_
 obtain ⟨a1,ha1,la1,ua1,H⟩:=H
 refine q_y (y_ixa' tok rfl rfl ha1 rfl rfl rfl la1 ua1) rfl rfl ?_
 obtain ⟨v2,hv2,H⟩:=H
 refine q_y (y_ld tok rfl rfl rfl rfl hv2) rfl rfl ?_
 refine q_p tok rfl rfl rfl ?_
 refine q_p tok rfl rfl rfl ?_
 obtain ⟨a3,ha3,la3,ua3,H⟩:=H
 refine q_y (y_ixa' tok rfl rfl ha3 rfl rfl rfl la3 ua3) rfl rfl ?_
 obtain ⟨v4,hv4,H⟩:=H
 refine q_y (y_ld tok rfl rfl rfl rfl hv4) rfl rfl ?_
 refine q_p tok rfl rfl rfl ?_
 refine q_end ?_
 refine zX (zF [5,0,1,25] ?_)
 refine zI H ?_ ?_ <;> intro H
 refine zQ (w1 tok (zE (zT (yB (yT (yT (yB (yT ?_))))))))
 exact x_ret _ rfl _ rfl ⟨false,rfl,H⟩
 refine zK (yL (zX (zR (w2 tok ?_))))
 obtain ⟨x5,ex5,H⟩:=H
 refine w_pe tok rfl (congrArg (fun z=>(.int .i64 z:Value)) ex5) rfl rfl ?_
 refine zW ?_
 exact xJ x5 H
 refine zY (yE (yE (yH (zX (zF [] (zQ ?_))))))
 refine w1 tok (zE (zT ?_))
 exact x_ret _ rfl _ rfl ⟨true,rfl,H⟩
end Go.Q.Yk
end

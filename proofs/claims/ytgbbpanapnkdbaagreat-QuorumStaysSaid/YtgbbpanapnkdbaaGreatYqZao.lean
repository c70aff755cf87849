/- A part of the proof of statements of this seat: lemmas, no statement of their own. -/
import Derived.Test.YtgbbpanapnkdbaaGreatYqZad
import Derived.Test.YtgbbpanapnkdbaaGreatYqZae
import Derived.Test.YtgbbpanapnkdbaaGreatYqZal
import Derived.Test.YtgbbpanapnkdbaaGreatYqZan
import Derived.Test.YtgbbpanapnkdbaaGreatYqZaf
import Derived.Test.YtgbbpanapnkdbaaGreatYqZag
set_option linter.unusedVariables false
set_option linter.unusedSimpArgs false
section
set_option maxRecDepth 100000
set_option maxHeartbeats 1000000
namespace Go.Q.Yq
open Go.Proofs.Tryz
/-- (*quaestor quorum.Desk).Yes -/
def quorum_Desk_Yes_j3 (k:(Bool)->Heap->Prop) (h_3:Heap):Prop :=
  k true h_3
def quorum_Desk_Yes_j2 (t9_2:Option Addr) (k:(Bool)->Heap->Prop) (h_2:Heap):Prop :=
  ∃ a10:Addr,t9_2=some a10/\(∃ v11:Slc,cellH h_2 (a10.add 28)=some (Slc.v v11)/\(∃ v12:S_api_Op,CellsAt h_2 a10 (S_api_Op.cs v12)/\(quorum_Needs v12 (fun (r13:Int) h14=>cellH h14 (a10.add 28)=some (Slc.v v11)/\(if (decide ((v11.len:Int) < r13)) then (k true h14) else (∃ h16:Heap,WrH h14 (a10.add 30)/\h16=setH h14 (a10.add 30) (.bool true)/\(∃ v17:Int,cellH h16 (a10.add 1)=some (.int .i64 v17)/\(if (v17 == 2) then (∃ v18:S_api_Query,CellsAt h16 (a10.add 4) (S_api_Query.cs v18)/\(∃ v19:Slc,cellH h16 (a10.add 3)=some (Slc.v v19)/\(∃ v20:Int,cellH h16 (a10.add 26)=some (.int .i64 v20)/\(query_Run v18 v19 v20 (fun (r21:Slc × Int) h22=>∃ h23:Heap,WrH h22 (a10.add 32)/\h23=setH h22 (a10.add 32) (Slc.v r21.1)/\(∃ h24:Heap,WrH h23 (a10.add 31)/\h24=setH h23 (a10.add 31) (.int .i64 r21.2)/\(quorum_Desk_Yes_j3 k h24))) h16)))) else (quorum_Desk_Yes_j3 k h16)))))) h_2)))
def quorum_Desk_Yes_g1 (t2_1:Int) (t3_1:Slc) (t9_1:Option Addr) (t27_1:Bool) (k:(Bool)->Heap->Prop) (h_1:Heap):Prop :=
  if t27_1 then (k false h_1) else (∃ a3:Addr,t9_1=some a3/\(∃ v4:Slc,cellH h_1 (a3.add 28)=some (Slc.v v4)/\(∃ (b5:Nat) (h6:Heap),b5=h_1.size/\h6=h_1.push (.cells ([.int .i64 t2_1]).toArray 3)/\(App 3 1 8 [.int .i64 0] h6 v4 1 ([.int .i64 t2_1]) (fun s7 h8=>∃ h9:Heap,WrH h8 (a3.add 28)/\h9=setH h8 (a3.add 28) (Slc.v s7)/\(∃ v25:Int,cellH h9 (a3.add 1)=some (.int .i64 v25)/\(if (v25 == 2) then (∃ v26:Slc,cellH h9 (a3.add 3)=some (Slc.v v26)/\(∃ (b27:Nat) (h28:Heap),b27=h9.size/\h28=h9.push (.cells ([Slc.v v26,Slc.v t3_1]).toArray 26)/\(piece_Merge (⟨some ⟨b27,0,none⟩,2,2⟩:Slc) (fun (r29:Slc) h30=>∃ h31:Heap,WrH h30 (a3.add 3)/\h31=setH h30 (a3.add 3) (Slc.v r29)/\(quorum_Desk_Yes_j2 t9_1 k h31)) h28))) else (quorum_Desk_Yes_j2 t9_1 k h9))))))))
def quorum_Desk_Yes (p0:Option Addr) (p1:Int) (p2:Int) (p3:Slc) (k:(Bool)->Heap->Prop) (h:Heap):Prop :=
  quorum_Desk_open p0 p1 p2 (fun (r1:Option Addr × Bool) h2=>if (!r1.2) then (quorum_Desk_Yes_g1 p2 p3 r1.1 true k h2) else (∃ a32:Addr,r1.1=some a32/\(∃ v33:Slc,cellH h2 (a32.add 28)=some (Slc.v v33)/\(slices_Contains_int_int v33 p2 (fun (r34:Bool) h35=>quorum_Desk_Yes_g1 p2 p3 r1.1 r34 k h35) h2)))) h
/-- quaestor quaestorlaw31.awake -/
def law31_awake_g2 (t52_2:Bool) (k:(Bool)->Heap->Prop) (h_2:Heap):Prop :=
  k t52_2 h_2
def law31_awake_g1 (t7_1:Addr) (t47_1:Bool) (k:(Bool)->Heap->Prop) (h_1:Heap):Prop :=
  if t47_1 then (∃ v21:Int,cellH h_1 (t7_1.add 31)=some (.int .i64 v21)/\(law31_awake_g2 (v21 == 0) k h_1)) else (law31_awake_g2 false k h_1)
def law31_awake (k:(Bool)->Heap->Prop) (h:Heap):Prop :=
  quorum_New  (fun (r1:Option Addr) h2=>∃ (b3:Nat) (h4:Heap),b3=h2.size/\h4=h2.push (.cells ([.int .i64 2,.int .i64 0,.int .i64 4]).toArray 3)/\(quorum_Desk_Start r1 (⟨5,1,ByteArray.empty,(⟨none,0,0⟩:Slc),(⟨ByteArray.empty,0,0,0,0⟩:S_api_Query),(⟨0,ByteArray.empty,0,([]:List Int),(⟨none,0,0⟩:Slc),0⟩:S_api_Command),0,(⟨some ⟨b3,0,none⟩,3,3⟩:Slc),(⟨none,0,0⟩:Slc),0,false,0,(⟨none,0,0⟩:Slc)⟩:S_api_Op) (fun (r5:Int) h6=>quorum_Desk_Yes r1 5 0 (⟨none,0,0⟩:Slc) (fun (r7:Bool) h8=>quorum_Desk_Result r1 5 (fun (r9:S_api_Op × Int) h10=>∃ (b11:Nat) (h12:Heap),b11=h10.size/\h12=h10.push (.cells (S_api_Op.cs (⟨0,0,ByteArray.empty,(⟨none,0,0⟩:Slc),(⟨ByteArray.empty,0,0,0,0⟩:S_api_Query),(⟨0,ByteArray.empty,0,([]:List Int),(⟨none,0,0⟩:Slc),0⟩:S_api_Command),0,(⟨none,0,0⟩:Slc),(⟨none,0,0⟩:Slc),0,false,0,(⟨none,0,0⟩:Slc)⟩:S_api_Op)).toArray 39)/\(∃ h13:Heap,WrsAt h12 (⟨b11,0,none⟩:Addr) 33/\h13=setsH h12 (⟨b11,0,none⟩:Addr) 0 (S_api_Op.cs r9.1)/\(quorum_Desk_Yes r1 5 2 (⟨none,0,0⟩:Slc) (fun (r14:Bool) h15=>quorum_Desk_Result r1 5 (fun (r16:S_api_Op × Int) h17=>∃ (b18:Nat) (h19:Heap),b18=h17.size/\h19=h17.push (.cells (S_api_Op.cs (⟨0,0,ByteArray.empty,(⟨none,0,0⟩:Slc),(⟨ByteArray.empty,0,0,0,0⟩:S_api_Query),(⟨0,ByteArray.empty,0,([]:List Int),(⟨none,0,0⟩:Slc),0⟩:S_api_Command),0,(⟨none,0,0⟩:Slc),(⟨none,0,0⟩:Slc),0,false,0,(⟨none,0,0⟩:Slc)⟩:S_api_Op)).toArray 39)/\(∃ h20:Heap,WrsAt h19 (⟨b18,0,none⟩:Addr) 33/\h20=setsH h19 (⟨b18,0,none⟩:Addr) 0 (S_api_Op.cs r16.1)/\(if (((((r5 == 0) && r7) && r14) && (r9.2 == 14)) && (r16.2 == 0)) then (∃ v22:Bool,cellH h20 ((⟨b18,0,none⟩:Addr).add 30)=some (.bool v22)/\(law31_awake_g1 (⟨b18,0,none⟩:Addr) v22 k h20)) else (law31_awake_g1 (⟨b18,0,none⟩:Addr) false k h20)))) h15) h13))) h8) h6) h4)) h
theorem O10:CallOk prog 10:=ck func10
theorem R10 (p0 p1 p2 p3 k h) (H:quorum_Desk_Yes p0 p1 p2 p3 k h):CallsH prog 10 #[.pointer p0,.int .u64 p1,.int .i64 p2,Slc.v p3] h (fun v h'=>∃ r:Bool,v = .bool r/\k r h'):=by
 refine fE func10 fun w0=>?_
 refine zF [0,1,2,3] (zQ ?_)
 refine w1 tok (zE (zQ ?_))
 refine w3 tok ?_
 refine wC O27 (R27 _ _ _ _ _ H) fun r1 h2 H=>?_
 refine w5 tok (zE (zF [2,3,9,10] (zS (zQ ?_))))
 refine w3 tok ?_
 refine vJ 7 (α:=Bool) [2,3,9] (fun (s:Bool)=>[(27,.bool s)]) (fun (s:Bool) h=>quorum_Desk_Yes_g1 p2 p3 r1.1 s k h) ?_ ?_
 rintro t27_1 h_1 H
 refine vF [27,2,3,9] (zE ?_)
 refine zI H ?_ ?_ <;> intro H
 refine zQ (w1 tok (zE (zT (yT ?_))))
 exact x_ret _ rfl _ rfl ⟨false,rfl,H⟩
 refine zK (zX (zQ (w2 tok ?_)))
 refine wN H fun a3 ha3 H=>?_
 refine w1 tok ?_
 refine wL tok H fun v4 H=>?_
 refine w1 tok ?_
 obtain ⟨b5,h6,eb5,eh6,H⟩:=H
 refine wH (h_bs tok rfl rfl rfl rfl rfl rfl rfl eb5 eh6) ?_
 refine wA (a_app (s:=v4) (r:=(⟨some ⟨b5,0,none⟩,1,1⟩:Slc)) tok rfl rfl rfl rfl rfl (slcAt_push eb5 eh6) H) ?_
 rintro _ h8 ⟨s7,rfl,H⟩
 refine wY (y_nil' rfl rfl ha3) ?_
 refine w1 tok ?_
 refine wT tok H fun h9 H=>?_
 refine zE (zF [3,9] ?_)
 refine zJ (α:=Unit) [9] (fun (s:Unit)=>[]) (fun (s:Unit) h=>quorum_Desk_Yes_j2 r1.1 k h) ?_ ?_
 rintro _ h_2 H
 refine zF [9] (zS (zS ?_))
 refine gB [9] ?_
 refine gT 0 [9] tok ?_
 obtain ⟨a10,ha10,H⟩:=H
 refine gY 1 [53] rfl (fun _=>y_nil' rfl rfl ha10) ?_
 refine gT 2 [54] tok ?_
 obtain ⟨v11,hv11,H⟩:=H
 refine gL 3 [55] rfl (y_ld tok rfl rfl rfl rfl hv11) ?_
 refine gT 4 [56] tok ?_
 refine gT 5 [9] tok ?_
 refine gY 6 [58] rfl (fun _=>y_nil' rfl rfl ha10) ?_
 obtain ⟨v12,hv12,H⟩:=H
 refine gL 7 [59] rfl (y_lda tok rfl rfl rfl rfl rfl hv12) ?_
 refine gCr 8 [60] O19 (R19 _ _ _ H) fun r13 h14 H=>?_
 obtain ⟨hy15,H⟩:=H
 refine gR rfl (y_ld tok rfl rfl rfl rfl hy15) ?_
 refine gZ0 ?_
 refine gT 9 [57,61] tok ?_
 refine gZ ?_
 refine zX (zF [9,62] ?_)
 refine zI H ?_ ?_ <;> intro H
 refine zQ (w1 tok (zE (zT (yT ?_))))
 exact x_ret _ rfl _ rfl ⟨true,rfl,H⟩
 refine zK (zX (zQ (w1 tok ?_)))
 refine wY (y_nil' rfl rfl ha10) ?_
 refine w1 tok ?_
 refine wT tok H fun h16 H=>?_
 refine zE ?_
 refine zJ (α:=Unit) [] (fun (s:Unit)=>[]) (fun (s:Unit) h=>quorum_Desk_Yes_j3 k h) ?_ ?_
 rintro _ h_3 H
 refine zF [] (zQ ?_)
 refine w1 tok (zE (zT ?_))
 exact x_ret _ rfl _ rfl ⟨true,rfl,H⟩
 refine zQ (w1 tok ?_)
 refine wY (y_nil' rfl rfl ha10) ?_
 refine w1 tok ?_
 refine wL tok H fun v17 H=>?_
 refine w1 tok (zE (zF [9,70] ?_))
 refine zI H ?_ ?_ <;> intro H
 refine gB [9] ?_
 refine gT 0 [9] tok ?_
 refine gT 1 [9] tok ?_
 refine gT 2 [9] tok ?_
 refine gY 3 [74] rfl (fun _=>y_nil' rfl rfl ha10) ?_
 refine gT 4 [75] tok ?_
 obtain ⟨v18,hv18,H⟩:=H
 refine gL 5 [76] rfl (y_lda tok rfl rfl rfl rfl rfl hv18) ?_
 refine gT 6 [9] tok ?_
 refine gY 7 [78] rfl (fun _=>y_nil' rfl rfl ha10) ?_
 refine gT 8 [79] tok ?_
 obtain ⟨v19,hv19,H⟩:=H
 refine gL 9 [80] rfl (y_ld tok rfl rfl rfl rfl hv19) ?_
 refine gT 10 [9] tok ?_
 refine gY 11 [82] rfl (fun _=>y_nil' rfl rfl ha10) ?_
 refine gT 12 [83] tok ?_
 obtain ⟨v20,hv20,H⟩:=H
 refine gL 13 [84] rfl (y_ld tok rfl rfl rfl rfl hv20) ?_
 refine gC 14 [77,81,85] O30 (R30 _ _ _ _ _ H) fun r21 h22 H=>?_
 refine gT 15 [86] tok ?_
 refine gT 16 [71] tok ?_
 refine gT 17 [71] tok ?_
 refine gY 18 [72] rfl (fun _=>y_nil' rfl rfl ha10) ?_
 refine gT 19 [89] tok ?_
 obtain ⟨h23,wh23,eh23,H⟩:=H
 refine gH 20 [87,90] rfl (h_st tok rfl rfl rfl rfl rfl rfl wh23 eh23) ?_
 refine gY 21 [73] rfl (fun _=>y_nil' rfl rfl ha10) ?_
 refine gT 22 [91] tok ?_
 obtain ⟨h24,wh24,eh24,H⟩:=H
 refine gH 23 [88,92] rfl (h_st tok rfl rfl rfl rfl rfl rfl wh24 eh24) ?_
 refine gZ ?_
 exact xJ () H
 refine zK ?_
 exact xJ () H
 refine zQ (w1 tok ?_)
 refine wY (y_nil' rfl rfl ha3) ?_
 refine w1 tok ?_
 refine wL tok H fun v25 H=>?_
 refine w1 tok (zE ?_)
 refine zI H ?_ ?_ <;> intro H
 refine zR (w2 tok ?_)
 refine wY (y_nil' rfl rfl ha3) ?_
 refine w1 tok ?_
 refine wL tok H fun v26 H=>?_
 refine w1 tok ?_
 obtain ⟨b27,h28,eb27,eh28,H⟩:=H
 refine wH (h_bs tok rfl rfl rfl rfl rfl rfl rfl eb27 eh28) ?_
 refine wC O29 (R29 _ _ _ H) fun r29 h30 H=>?_
 refine wY (y_nil' rfl rfl ha3) ?_
 refine w1 tok ?_
 refine wT tok H fun h31 H=>?_
 refine zW ?_
 exact xJ () H
 refine zK ?_
 exact xJ () H
 refine vI 20 H ?_ ?_ <;> intro H
 refine wS (wS (wS (wS (wS (wS (w1 tok ?_))))))
 exact wJ true H
 refine w1 tok ?_
 refine wN H fun a32 _ H=>?_
 refine w1 tok ?_
 refine wL tok H fun v33 H=>?_
 refine w1 tok ?_
 refine wC O28 (R28 _ _ _ _ H) fun r34 h35 H=>?_
 refine w1 tok ?_
 exact wJ r34 H
theorem law31_awake_ok:CallOk prog 7:=ck func7
theorem law31_awake_ref ( k h) (H:law31_awake k h):CallsH prog 7 #[] h (fun v h'=>∃ r:Bool,v = .bool r/\k r h'):=by
 refine fE func7 fun w0=>?_
 refine zQ (w1 tok (zE (zQ ?_)))
 refine wC O5 (R5  _ _ H) fun r1 h2 H=>?_
 refine w1 tok (zE (zQ ?_))
 refine w1 tok ?_
 obtain ⟨b3,h4,eb3,eh4,H⟩:=H
 refine wH (h_bs tok rfl rfl rfl rfl rfl rfl rfl eb3 eh4) ?_
 refine wY (y_build tok rfl rfl rfl rfl rfl) ?_
 refine wC O13 (R13 _ _ _ _ H) fun r5 h6 H=>?_
 refine w1 tok (zE (zQ ?_))
 refine w1 tok ?_
 refine wC O10 (R10 _ _ _ _ _ _ H) fun r7 h8 H=>?_
 refine w1 tok (zE (zF [1,2,3] (zQ ?_)))
 refine w1 tok ?_
 refine wC O8 (R8 _ _ _ _ H) fun r9 h10 H=>?_
 refine w3 tok ?_
 refine wB tok H fun b11 h12 H=>?_
 refine wTa tok H fun h13 H=>?_
 refine w1 tok (zE (zQ ?_))
 refine w1 tok ?_
 refine wC O10 (R10 _ _ _ _ _ _ H) fun r14 h15 H=>?_
 refine w1 tok (zE (zF [1,2,3,5,6] (zQ ?_)))
 refine w1 tok ?_
 refine wC O8 (R8 _ _ _ _ H) fun r16 h17 H=>?_
 refine w3 tok ?_
 refine wB tok H fun b18 h19 H=>?_
 refine wTa tok H fun h20 H=>?_
 refine w1 tok (zE (zQ ?_))
 refine w3 tok ?_
 refine vU 2 [5,6,7,8] [(32,.bool ((r5 == 0) && r7))] ?_ ?_
 refine w1 tok ?_
 refine vU 2 [5,7,8] [(35,.bool (((r5 == 0) && r7) && r14))] ?_ ?_
 refine w1 tok ?_
 refine vU 3 [7,8] [(39,.bool ((((r5 == 0) && r7) && r14) && (r9.2 == 14)))] ?_ ?_
 refine w1 tok ?_
 refine vU 3 [7] [(43,.bool (((((r5 == 0) && r7) && r14) && (r9.2 == 14)) && (r16.2 == 0)))] ?_ ?_
 refine w1 tok ?_
 refine vJ 3 (α:=Bool) [7] (fun (s:Bool)=>[(47,.bool s)]) (fun (s:Bool) h=>law31_awake_g1 (ad b18) s k h) ?_ ?_
 rintro t47_1 h_1 H
 refine vF [47,7] ?_
 refine w1 tok ?_
 refine vJ 4 (α:=Bool) [] (fun (s:Bool)=>[(52,.bool s)]) (fun (s:Bool) h=>law31_awake_g2 s k h) ?_ ?_
 rintro t52_2 h_2 H
 refine vF [52] ?_
 refine w1 tok (zE (zT ?_))
 exact x_ret _ rfl _ rfl ⟨t52_2,rfl,H⟩
 refine vI 48 H ?_ ?_ <;> intro H
 refine w1 tok ?_
 refine wL tok H fun v21 H=>?_
 refine w2 tok ?_
 exact wJ (v21 == 0) H
 refine wS (wS (wS (w1 tok ?_)))
 exact wJ false H
 refine vI 44 H ?_ ?_ <;> intro H
 refine w1 tok ?_
 refine wL tok H fun v22 H=>?_
 refine w1 tok ?_
 exact wJ v22 H
 refine wS (wS (w1 tok ?_))
 exact wJ false H
 refine vG (d:=40) (fun hb=>?_) (fun hb=>?_)
 refine w3 tok ?_
 refine vK ?_
 exact congrArg (fun b=>some (Value.bool b)) (and_t hb)
 refine wS (wS (w1 tok ?_))
 refine vK ?_
 exact congrArg (fun b=>some (Value.bool b)) (and_f hb)
 refine vG (d:=36) (fun hb=>?_) (fun hb=>?_)
 refine w3 tok ?_
 refine vK ?_
 exact congrArg (fun b=>some (Value.bool b)) (and_t hb)
 refine wS (wS (w1 tok ?_))
 refine vK ?_
 exact congrArg (fun b=>some (Value.bool b)) (and_f hb)
 refine vG (d:=33) (fun hb=>?_) (fun hb=>?_)
 refine w2 tok ?_
 refine vK ?_
 exact congrArg (fun b=>some (Value.bool b)) (and_t hb)
 refine wS (w1 tok ?_)
 refine vK ?_
 exact congrArg (fun b=>some (Value.bool b)) (and_f hb)
 refine vG (d:=30) (fun hb=>?_) (fun hb=>?_)
 refine w2 tok ?_
 refine vK ?_
 exact congrArg (fun b=>some (Value.bool b)) (and_t hb)
 refine wS (w1 tok ?_)
 refine vK ?_
 exact congrArg (fun b=>some (Value.bool b)) (and_f hb)
end Go.Q.Yq
end
section
/- maps.Keys of a map of ops, taken by slices.AppendSeq: they come, each once, in some order. -/
namespace Go.Proofs
open Go.RowKit Go.Shelf Go.Maps
open Go.ChangeMaps (setBlock)
attribute [local go_sem] Oper.semAt_some
namespace YuYq
open YwYq (range_raw next_raw nodup_of_map len_le mem_left all_perm)
def pcs (x:Int):List Value:=[.int .u64 x]
def pv (x:Int):Value:=.int .u64 x
set_option maxRecDepth 100000 in
set_option maxHeartbeats 2000000 in
/-- the closure of maps.Values: every value of the map comes, each once, in some order -/
theorem values1_in (F:Fence) (n:Nat) (h7:F.fn 87) (hro:F.round=none) (hn:1<=n) (l Bm b ck:Nat) (es:Array MapEntry) (J Jx:List Int->World->Prop)
  (hcs:∀ x∈es.toList,∃ q:Int,x.key=pv q) (hold:∀ x∈es.toList,x.born < ck) (hnd:(es.toList.map (·.born)).Nodup)
  (hY:∀ pre x W,J pre W->pre.length < es.size->YieldAt F (n - 1) Tryz.prog l #[pv x] W fun e W' =>
   (e = .returned (.bool true)/\J (pre ++ [x]) W'/\KeepsWalks W W')∨(e = .returned (.bool false)/\Jx (pre ++ [x]) W'))
  (W:World) (hJ:AbidesFrom W.heap.size J) (hm:W.cell? ⟨Bm,0,none⟩=some (.map (some b))) (hb:W.heap[b]? = some (.map es ck)) (h0:J [] W) :
  CallsIn F n Tryz.prog 87 #[.func (.yield l) #[] #[],.pointer (some ⟨Bm,0,none⟩)] W fun e W'=>(∃ v,e = .returned v) /\
   ((∃ ys,(ys.map pv).Perm (es.toList.map (·.key))/\J ys W')∨(∃ pre,True/\Jx pre W')):=by
 refine callsIn_of_wp Tryz.func87 rfl h7 ?_ hro
 simp only [Tryz.ntmps87,List.size_toArray,List.length_cons,List.length_nil,Nat.reduceAdd,Nat.reduceSub,Array.replicate_succ,Array.replicate_zero,List.push_toArray,List.append_toArray,List.nil_append,List.cons_append]
 gi_wp2_with (first
  | (gi_at_range; refine range_raw rfl _ 61 rfl 25 65 Tryz.underlying61 b ck es rfl hb ?_)
  | gi_in)
 go_frame
 gi_loopw [3] (fun _ wr=>∃ (seen:Array Nat) (ys:List MapEntry) (c0:Nat),wr.heap[W.heap.size]? = some (.mapIter (some b) ck seen c0)/\ck<=c0/\wr.heap[b]? = some (.map es ck)/\seen.toList=ys.map (·.born)/\(∀ y∈ys,y∈es.toList)/\(ys.map (·.born)).Nodup/\∃ qs,qs.map pv=ys.map (·.key)/\J qs wr)
  (fun _ wr=>match wr.heap[W.heap.size]? with | some (.mapIter _ _ seen _)=>es.size - seen.size | _=>0)
 case atStart =>
  refine ⟨#[],[],ck,World.alloc_heap_new _ _,Nat.le_refl _,?_,rfl,by simp,by simp,[],rfl,hJ [] W _ none h0 ⟨rfl,rfl,rfl,by simp,fun k hk _=>Below.heap_alloc _ _ k hk⟩ (fun r e=>by cases e)⟩
  exact (Below.heap_alloc _ _ b (Array.getElem?_eq_some_iff.1 hb).1).trans hb
 case round =>
  obtain ⟨seen,ys,c0,hr,hc0,hbr,hse,hys,hyn,qs,hqs,hJs⟩:=hrel
  gi_wp2_with (first
   | (gi_at_next; refine next_raw rfl _ rfl W.heap.size b ck c0 seen es ck rfl hr hbr hold hc0 ?_ ?_)
   | gi_in)
  ·intro hl
   gi_wp2
   go_end0
   exact ⟨⟨_,rfl⟩,.inl ⟨qs,hqs ▸ (all_perm hnd hse hys hyn hl).map _,hJs⟩⟩
  ·intro x w2 hx hg2 hs2 hr2
   have hxm:x∈es.toList:=(YwYq.mem_left (by simpa using hx)).1
   have hbw:b≠W.heap.size:=by have:=(Array.getElem?_eq_some_iff.1 hb).1; omega
   have hb2:w2.heap[b]? = some (.map es ck):=(hg2.block b (Array.getElem?_eq_some_iff.1 hbr).1 (fun e=>hbw (Option.some.inj e))).trans hbr
   have hen:=run_entry_at (P:=Tryz.prog) w2 W.heap.size b ck seen es ck x hr2 hb2 hxm hnd
   obtain ⟨s',hv⟩:=hcs x hxm
   have hY':=hY qs s'
   simp only [pv] at hY'
   rw [hv] at hen ⊢
   simp only [pv] at hen ⊢
   have hx2:x.born ∉ seen.toList:=(YwYq.mem_left (by simpa using hx)).2
   have hlen:ys.length < es.size:=by
    have:=len_le ((x :: ys).map (·.born)) (es.toList.map (·.born)) (by rw [List.map_cons,List.nodup_cons,← hse]; exact ⟨hx2,hse ▸ hyn⟩) (fun k hk=>by
     obtain ⟨y,hy,rfl⟩:=List.mem_map.1 hk
     exact List.mem_map.2 ⟨y,(List.mem_cons.1 hy).elim (fun e=>e ▸ hxm) (hys y),rfl⟩)
    simp at this
    omega
   have hJ2:J qs w2:=hJ qs wr w2 (some W.heap.size) hJs hg2 (fun r e=>by cases e; exact ⟨Nat.le_refl _,_,hr,rfl⟩)
   obtain ⟨fn,tmps,assign,body,hy,hR⟩:=hY' _ hJ2 (by have:=congrArg List.length hqs; simp at this; omega)
   clear hs2
   gi_wp2
   refine hR.mono ?_
   rintro e W3 (⟨rfl,hJ4,hk4⟩ | ⟨rfl,hJx4⟩)
   ·gi_wp2
    have hr4:=hk4.same _ _ hr2 rfl
    have hb4:=hk4.same _ _ hb2 rfl
    go_roundw
    case rel =>
     refine ⟨seen.push x.born,ys ++ [x],ck,hr4,Nat.le_refl _,hb4,by simp [hse],fun y hy=>(List.mem_append.1 hy).elim (hys y) (fun e=>by simp at e; exact e ▸ hxm),?_,qs ++ [s'],by rw [List.map_append,List.map_append,hqs]; simp [hv],hJ4⟩
     rw [List.map_append,List.nodup_append]
     refine ⟨hyn,by simp,fun a ha b hb e=>?_⟩
     simp at hb
     subst hb
     rw [← hse] at ha
     exact hx2 (e ▸ ha)
    case measure =>
     rw [hr4,hr]
     have:seen.size=ys.length:=by rw [← Array.length_toList,hse,List.length_map]
     simp
     omega
   ·gi_wp2
    refine bodyPost_ret (results_none rfl _ _ _) rfl ?_
    exact ⟨⟨_,rfl⟩,.inr ⟨_,trivial,hJx4⟩⟩
theorem values_stops (F:Fence) (n:Nat) (h7:F.fn 87) (hro:F.round=none) (hn:1<=n) (Bm b ck:Nat) (es:Array MapEntry) (w:World)
  (hcs:∀ x∈es.toList,∃ q:Int,x.key=pv q) (hold:∀ x∈es.toList,x.born < ck) (hnd:(es.toList.map (·.born)).Nodup)
  (hBm:Bm < w.heap.size) (hm:w.cell? ⟨Bm,0,none⟩=some (.map (some b))) (hb:w.heap[b]? = some (.map es ck)) :
  SeqStopsK F n Tryz.prog 87 #[.pointer (some ⟨Bm,0,none⟩)] (fun x:Int=>#[pv x]) KeepsWalks (fun ys=>(ys.map pv).Perm (es.toList.map (·.key))) (fun _=>True) es.size w:=fun l J Jx W hW hJ _ hY h0 =>
 values1_in F n h7 hro hn l Bm b ck es J Jx hcs hold hnd hY W hJ ((hW.cell (p:=⟨Bm,0,none⟩) hBm).trans hm) ((hW.block b (Array.getElem?_eq_some_iff.1 hb).1).trans hb) h0
theorem infoP:(Tryz.prog.info? 25).map (fun i=>(i.zero,i.size,i.bytes))=some (some (.int .u64 0),1,8):=by kernel_rfl
set_option maxRecDepth 100000 in
set_option maxHeartbeats 2000000 in
/-- slices.AppendSeq of nil and what maps.Values hands back -/
theorem appendSeq_in (F:Fence) (n:Nat) (h3:F.fn 109) (h7:F.fn 87) (hro:F.round=none) (hn:3<=n) (Bs b ck:Nat) (es:Array MapEntry) (w:World)
  (hcs:∀ x∈es.toList,∃ q:Int,x.key=pv q) (hold:∀ x∈es.toList,x.born < ck) (hnd:(es.toList.map (·.born)).Nodup) (hlen:es.size<=1000000)
  (hBs:Bs < w.heap.size) (hm:w.cell? ⟨Bs,0,none⟩=some (.map (some b))) (hb:w.heap[b]? = some (.map es ck)) :
  CallsIn F n Tryz.prog 109 #[.slice none 0 0,.func (.func 87) #[] #[.pointer (some ⟨Bs,0,none⟩)]] w fun e W'=>∃ (v:Value) (ys:List Int),e = .returned v/\(ys.map pv).Perm (es.toList.map (·.key))/\W'.ownsRow w.heap.size 25 1 v ys.length (ys.flatMap pcs)/\Below w.heap.size w W':=by
 have h1:1<=n:=by omega
 obtain ⟨i0,hi,hz0,hz1,hz2⟩:=info_parts infoP
 refine callsIn_of_wp_marks Tryz.func109 rfl h3 ?_ hro
 simp only [Tryz.ntmps109,List.size_toArray,List.length_cons,List.length_nil,Nat.reduceAdd,Nat.reduceSub,Array.replicate_succ,Array.replicate_zero,List.push_toArray,List.append_toArray,List.nil_append,List.cons_append]
 gi_wp2
 have bO:=Boxed.new w 73 (.slice none 0 0)
 have hB0:Below w.heap.size w (w.alloc (.cells #[.slice none 0 0] 73)):=(Below.refl _ w).alloc (Nat.le_refl _) _
 refine wpIn_rangeFunc_ownH hro h1 (gf:=87) (lb:=#[.pointer (some ⟨Bs,0,none⟩)]) rfl h7 (enters_of Tryz.func87 (by kernel_rfl) rfl)
  (values_stops F (n - 1) h7 hro (by omega) Bs b ck es _ hcs hold hnd (by simp; omega) ((hB0.cell (p:=⟨Bs,0,none⟩) hBs).trans hm) ((hB0.block b (Array.getElem?_eq_some_iff.1 hb).1).trans hb)) walksK_t walksK_b (Below.refl _ _) (fun _=>rfl)
  (fun pre W=>(∃ v,Boxed W w.heap.size 73 v/\W.ownsRow w.heap.size 25 1 v pre.length (pre.flatMap pcs)/\True)/\Below w.heap.size w W)
  (fun _ _ _=>False)
  (OwnFrom.and (Own.from (holdsRow_own w.heap.size w.heap.size 73 25 1 (fun pre:List Int=>pre.length) (fun pre=>pre.flatMap pcs) (fun pre v=>True)) _) (ownFrom_below (Nat.le_refl _) (by simp)))
  (fun _ _ _ _ _ hs _ _=>hs)
  ⟨⟨_,bO,World.ownsRow_nil _ _ _ _,trivial⟩,hB0⟩
  (fun x a' W=>a' = { tmps:=#[.slice none 0 0,.func (.func 87) #[] #[.pointer (some ⟨Bs,0,none⟩)],.pointer (some ⟨w.heap.size,0,none⟩),undef,.slice none 0 0,.int .u64 x,.func (.func 87) #[] #[.pointer (some ⟨Bs,0,none⟩)],pv x,undef,undef,undef,undef,undef],defers:=[] })
  ?ax ?assign ?body ?done ?stop
 case ax =>
  rintro x a' _ X Y row h hg hr
  exact h
 case assign =>
  intro l pre x W K hI hK
  simp only [pv]
  gi_wp2
  exact hK _ _ (KeepsFrom.refl _ _) (KeepsWalks.refl _) hI rfl
 case body =>
  rintro l pre x a' W hwl - ⟨⟨v,hv,hrow,_⟩,hB⟩ rfl hlt
  have hc:=hv.cell
  gi_wp2_with (gi_at_builtin; refine wpListIn_append_own _ rfl _ _ 73 rfl w.heap.size 25 i0 (.int .u64 0) 1 8 Tryz.underlying73 hi hz0 hz1 hz2 rfl (by decide) _ _ _ rfl (hrow.alloc _) ⟨W.heap.size,0,none⟩ 1 1 [.int .u64 x] rfl rfl (cell_one_new _ _ _) (by simp [Value.oneCell']) (by simp [maxLen]; omega) (by omega) (by have:=hB.size; simp; omega) ?_; intro v' w1 hown' hgrow _; obtain ⟨g',cap',rfl⟩:=ownsRow_succ hown'; obtain ⟨hv1,hv2,hr2,hk2,hb2⟩:=hv.appended (by decide) hrow hB.size (Nat.le_refl _) hown' hgrow; have hc1:=hv1.cell; have hf1:=hv1.frozen)
  exact ⟨hk2.from _,⟨hk2.size,fun k o hk hw=>hk2.same k o hk (Obj.not_cells_of_walk hw)⟩,⟨_,hv2,by rw [show (pre ++ [x]).length=pre.length + 1 from by simp,show (pre ++ [x]).flatMap pcs=pre.flatMap pcs ++ pcs x from by rw [List.flatMap_append,List.flatMap_cons,List.flatMap_nil,List.append_nil]]; exact ⟨hr2,trivial⟩⟩,hB.trans hb2⟩
 case done =>
  rintro D ys W hD hS ⟨⟨v,hv,hrow,_⟩,hB⟩ hK
  have hc:=hv.cell
  gi_wp2
  refine ⟨by simp,.inl ⟨_,_,rfl,run_takeDeferred hK,?_⟩⟩
  exact ⟨_,results_tmp rfl _ _ _,v,ys,rfl,hS,ownsRow_putObj hrow _ hK rfl,hB.trans (belowK_b (w:=w) (Nat.le_refl _) W D _ _ (by simp at hD; omega) hK rfl rfl)⟩
 case stop =>
  rintro D c pre W _ _ h _
  exact h.elim
set_option maxHeartbeats 1000000 in
/-- slices.Collect of it -/
theorem collect_in (F:Fence) (n:Nat) (h8:F.fn 85) (h3:F.fn 109) (h7:F.fn 87) (hro:F.round=none) (hn:4<=n) (Bs b ck:Nat) (es:Array MapEntry) (w:World)
  (hcs:∀ x∈es.toList,∃ q:Int,x.key=pv q) (hold:∀ x∈es.toList,x.born < ck) (hnd:(es.toList.map (·.born)).Nodup) (hlen:es.size<=1000000)
  (hBs:Bs < w.heap.size) (hm:w.cell? ⟨Bs,0,none⟩=some (.map (some b))) (hb:w.heap[b]? = some (.map es ck)) :
  CallsIn F n Tryz.prog 85 #[.func (.func 87) #[] #[.pointer (some ⟨Bs,0,none⟩)]] w fun e W'=>∃ (v:Value) (ys:List Int),e = .returned v/\(ys.map pv).Perm (es.toList.map (·.key))/\W'.ownsRow w.heap.size 25 1 v ys.length (ys.flatMap pcs)/\Below w.heap.size w W':=by
 have h1:1<=n:=by omega
 refine callsIn_of_wp Tryz.func85 rfl h8 ?_ hro
 simp only [Tryz.ntmps85,List.size_toArray,List.length_cons,List.length_nil,Nat.reduceAdd,Nat.reduceSub,Array.replicate_succ,Array.replicate_zero,List.push_toArray,List.append_toArray,List.nil_append,List.cons_append]
 gi_wp2_with (gi_at_call 109; refine (appendSeq_in F (n - 1) h3 h7 hro (by omega) Bs b ck es _ hcs hold hnd hlen hBs hm hb).mono ?_; rintro e w' ⟨v,ys,rfl,hS,hrow,hb2⟩)
 go_ret
 exact ⟨v,ys,rfl,hS,hrow,hb2⟩
end YuYq
end Go.Proofs
end
section
set_option maxRecDepth 100000
set_option maxHeartbeats 1000000
namespace Go.Q.Yq
open Go.Proofs.Tryz
/-- math bits.Len32 -/
def math_bits_Len32_j2 (t0_2:Int) (t2_2:Int) (k:(Int)->Heap->Prop) (h_2:Heap):Prop :=
  ∃ v1:Int,(0:Int)<=(IntKind.u8.wrap t0_2)/\StrAt (⟨#[0,1,2,2,3,3,3,3,4,4,4,4,4,4,4,4,5,5,5,5,5,5,5,5,5,5,5,5,5,5,5,5,6,6,6,6,6,6,6,6,6,6,6,6,6,6,6,6,6,6,6,6,6,6,6,6,6,6,6,6,6,6,6,6,7,7,7,7,7,7,7,7,7,7,7,7,7,7,7,7,7,7,7,7,7,7,7,7,7,7,7,7,7,7,7,7,7,7,7,7,7,7,7,7,7,7,7,7,7,7,7,7,7,7,7,7,7,7,7,7,7,7,7,7,7,7,7,7,8,8,8,8,8,8,8,8,8,8,8,8,8,8,8,8,8,8,8,8,8,8,8,8,8,8,8,8,8,8,8,8,8,8,8,8,8,8,8,8,8,8,8,8,8,8,8,8,8,8,8,8,8,8,8,8,8,8,8,8,8,8,8,8,8,8,8,8,8,8,8,8,8,8,8,8,8,8,8,8,8,8,8,8,8,8,8,8,8,8,8,8,8,8,8,8,8,8,8,8,8,8,8,8,8,8,8,8,8,8,8,8,8,8,8,8,8,8,8,8,8,8,8,8,8,8,8,8]⟩:ByteArray) (IntKind.u8.wrap t0_2) v1/\(∃ x2:Int,x2=(IntKind.i64.wrap (t2_2 + (IntKind.i64.wrap v1)))/\(k x2 h_2))
def math_bits_Len32_j1 (t0_1:Int) (t2_1:Int) (k:(Int)->Heap->Prop) (h_1:Heap):Prop :=
  if (decide (t0_1>=256)) then (∃ x3:Int,x3=(shr .u32 t0_1 (8:Int).toNat)/\(∃ x4:Int,x4=(IntKind.i64.wrap (t2_1 + 8))/\(math_bits_Len32_j2 x3 x4 k h_1))) else (math_bits_Len32_j2 t0_1 t2_1 k h_1)
def math_bits_Len32 (p0:Int) (k:(Int)->Heap->Prop) (h:Heap):Prop :=
  if (decide (p0>=65536)) then (∃ x5:Int,x5=(shr .u32 p0 (16:Int).toNat)/\(math_bits_Len32_j1 x5 16 k h)) else (math_bits_Len32_j1 p0 0 k h)
/-- math bits.Len64 -/
def math_bits_Len64_j3 (t0_3:Int) (t2_3:Int) (k:(Int)->Heap->Prop) (h_3:Heap):Prop :=
  ∃ v1:Int,(0:Int)<=(IntKind.u8.wrap t0_3)/\StrAt (⟨#[0,1,2,2,3,3,3,3,4,4,4,4,4,4,4,4,5,5,5,5,5,5,5,5,5,5,5,5,5,5,5,5,6,6,6,6,6,6,6,6,6,6,6,6,6,6,6,6,6,6,6,6,6,6,6,6,6,6,6,6,6,6,6,6,7,7,7,7,7,7,7,7,7,7,7,7,7,7,7,7,7,7,7,7,7,7,7,7,7,7,7,7,7,7,7,7,7,7,7,7,7,7,7,7,7,7,7,7,7,7,7,7,7,7,7,7,7,7,7,7,7,7,7,7,7,7,7,7,8,8,8,8,8,8,8,8,8,8,8,8,8,8,8,8,8,8,8,8,8,8,8,8,8,8,8,8,8,8,8,8,8,8,8,8,8,8,8,8,8,8,8,8,8,8,8,8,8,8,8,8,8,8,8,8,8,8,8,8,8,8,8,8,8,8,8,8,8,8,8,8,8,8,8,8,8,8,8,8,8,8,8,8,8,8,8,8,8,8,8,8,8,8,8,8,8,8,8,8,8,8,8,8,8,8,8,8,8,8,8,8,8,8,8,8,8,8,8,8,8,8,8,8,8,8,8,8]⟩:ByteArray) (IntKind.u8.wrap t0_3) v1/\(∃ x2:Int,x2=(IntKind.i64.wrap (t2_3 + (IntKind.i64.wrap v1)))/\(k x2 h_3))
def math_bits_Len64_j2 (t0_2:Int) (t2_2:Int) (k:(Int)->Heap->Prop) (h_2:Heap):Prop :=
  if (decide (t0_2>=256)) then (∃ x3:Int,x3=(shr .u64 t0_2 (8:Int).toNat)/\(∃ x4:Int,x4=(IntKind.i64.wrap (t2_2 + 8))/\(math_bits_Len64_j3 x3 x4 k h_2))) else (math_bits_Len64_j3 t0_2 t2_2 k h_2)
def math_bits_Len64_j1 (t0_1:Int) (t2_1:Int) (k:(Int)->Heap->Prop) (h_1:Heap):Prop :=
  if (decide (t0_1>=65536)) then (∃ x5:Int,x5=(shr .u64 t0_1 (16:Int).toNat)/\(∃ x6:Int,x6=(IntKind.i64.wrap (t2_1 + 16))/\(math_bits_Len64_j2 x5 x6 k h_1))) else (math_bits_Len64_j2 t0_1 t2_1 k h_1)
def math_bits_Len64 (p0:Int) (k:(Int)->Heap->Prop) (h:Heap):Prop :=
  if (decide (p0>=4294967296)) then (∃ x7:Int,x7=(shr .u64 p0 (32:Int).toNat)/\(math_bits_Len64_j1 x7 32 k h)) else (math_bits_Len64_j1 p0 0 k h)
/-- math bits.Len -/
def math_bits_Len (p0:Int) (k:(Int)->Heap->Prop) (h:Heap):Prop :=
  if false then (math_bits_Len32 (IntKind.u32.wrap p0) (fun (r1:Int) h2=>k r1 h2) h) else (math_bits_Len64 p0 (fun (r3:Int) h4=>k r3 h4) h)
/-- cmp.Less uint64  -/
def cmp_Less_uint64_g1 (t0_1:Int) (t1_1:Int) (t11_1:Bool) (k:(Bool)->Heap->Prop) (h_1:Heap):Prop :=
  k (t11_1 || (decide (t0_1 < t1_1))) h_1
def cmp_Less_uint64 (p0:Int) (p1:Int) (k:(Bool)->Heap->Prop) (h:Heap):Prop :=
  cmp_isNaN_uint64 p0 (fun (r1:Bool) h2=>if r1 then (cmp_isNaN_uint64 p1 (fun (r3:Bool) h4=>cmp_Less_uint64_g1 p0 p1 (!r3) k h4) h2) else (cmp_Less_uint64_g1 p0 p1 false k h2)) h
/-- slices.insertionSortOrdered uint64  -/
def slices_insertionSortOrdered_uint64_j3 (t0_3:Slc) (t1_3:Int) (t2_3:Int) (t6_3:Int) (t7_3:Int) (t30_3:Bool) (k:(Unit)->Heap->Prop) (nx1:(Int)->Heap->Prop) (nx2:(Int)->Heap->Prop) (h_3:Heap):Prop :=
  if t30_3 then (∃ a2:Addr,t0_3.a=some a2/\(0:Int)<=(IntKind.i64.wrap (t7_3 - 1))/\(IntKind.i64.wrap (t7_3 - 1)) < (t0_3.len:Int)/\(∃ v3:Int,cellH h_3 (a2.add ((IntKind.i64.wrap (t7_3 - 1)).toNat * 1))=some (.int .u64 v3)/\(∃ a4:Addr,t0_3.a=some a4/\(0:Int)<=t7_3/\t7_3 < (t0_3.len:Int)/\(∃ v5:Int,cellH h_3 (a4.add (t7_3.toNat * 1))=some (.int .u64 v5)/\(∃ a6:Addr,t0_3.a=some a6/\(0:Int)<=t7_3/\t7_3 < (t0_3.len:Int)/\(∃ h7:Heap,WrH h_3 (a6.add (t7_3.toNat * 1))/\h7=setH h_3 (a6.add (t7_3.toNat * 1)) (.int .u64 v3)/\(∃ a8:Addr,t0_3.a=some a8/\(0:Int)<=(IntKind.i64.wrap (t7_3 - 1))/\(IntKind.i64.wrap (t7_3 - 1)) < (t0_3.len:Int)/\(∃ h9:Heap,WrH h7 (a8.add ((IntKind.i64.wrap (t7_3 - 1)).toNat * 1))/\h9=setH h7 (a8.add ((IntKind.i64.wrap (t7_3 - 1)).toNat * 1)) (.int .u64 v5)/\(∃ x10:Int,x10=(IntKind.i64.wrap (t7_3 - 1))/\(nx2 x10 h9)))))))))) else (∃ x11:Int,x11=(IntKind.i64.wrap (t6_3 + 1))/\(nx1 x11 h_3))
def slices_insertionSortOrdered_uint64_l2b (t0_2:Slc) (t1_2:Int) (t2_2:Int) (t6_2:Int) (t7_2:Int) (k:(Unit)->Heap->Prop) (nx1:(Int)->Heap->Prop) (nx2:(Int)->Heap->Prop) (h_2:Heap):Prop :=
  if (decide (t7_2 > t1_2)) then (∃ a12:Addr,t0_2.a=some a12/\(0:Int)<=t7_2/\t7_2 < (t0_2.len:Int)/\(∃ v13:Int,cellH h_2 (a12.add (t7_2.toNat * 1))=some (.int .u64 v13)/\(∃ a14:Addr,t0_2.a=some a14/\(0:Int)<=(IntKind.i64.wrap (t7_2 - 1))/\(IntKind.i64.wrap (t7_2 - 1)) < (t0_2.len:Int)/\(∃ v15:Int,cellH h_2 (a14.add ((IntKind.i64.wrap (t7_2 - 1)).toNat * 1))=some (.int .u64 v15)/\(cmp_Less_uint64 v13 v15 (fun (r16:Bool) h17=>slices_insertionSortOrdered_uint64_j3 t0_2 t1_2 t2_2 t6_2 t7_2 r16 k nx1 nx2 h17) h_2))))) else (slices_insertionSortOrdered_uint64_j3 t0_2 t1_2 t2_2 t6_2 t7_2 false k nx1 nx2 h_2)
def slices_insertionSortOrdered_uint64_l2 (t0_2:Slc) (t1_2:Int) (t2_2:Int) (t6_2:Int) (i7:Int) (k:(Unit)->Heap->Prop) (nx1:(Int)->Heap->Prop) (h:Heap):Prop :=
  ∃ (I:Int->Heap->Prop) (μ:Int->Heap->Nat),I i7 h/\∀ (t7_2:Int) (h:Heap),I t7_2 h->slices_insertionSortOrdered_uint64_l2b t0_2 t1_2 t2_2 t6_2 t7_2 k nx1 (fun s h'=>I s h'/\μ s h' < μ t7_2 h) h
def slices_insertionSortOrdered_uint64_l1b (t0_1:Slc) (t1_1:Int) (t2_1:Int) (t6_1:Int) (k:(Unit)->Heap->Prop) (nx1:(Int)->Heap->Prop) (h_1:Heap):Prop :=
  if (decide (t6_1 < t2_1)) then (slices_insertionSortOrdered_uint64_l2 t0_1 t1_1 t2_1 t6_1 t6_1 k nx1 h_1) else (k () h_1)
def slices_insertionSortOrdered_uint64_l1 (t0_1:Slc) (t1_1:Int) (t2_1:Int) (i6:Int) (k:(Unit)->Heap->Prop) (h:Heap):Prop :=
  ∃ (I:Int->Heap->Prop) (μ:Int->Heap->Nat),I i6 h/\∀ (t6_1:Int) (h:Heap),I t6_1 h->slices_insertionSortOrdered_uint64_l1b t0_1 t1_1 t2_1 t6_1 k (fun s h'=>I s h'/\μ s h' < μ t6_1 h) h
def slices_insertionSortOrdered_uint64 (p0:Slc) (p1:Int) (p2:Int) (k:(Unit)->Heap->Prop) (h:Heap):Prop :=
  ∃ x1:Int,x1=(IntKind.i64.wrap (p1 + 1))/\(slices_insertionSortOrdered_uint64_l1 p0 p1 p2 x1 k h)
theorem O122:CallOk prog 122:=ck func122
theorem R122 (p0 k h) (H:math_bits_Len32 p0 k h):CallsH prog 122 #[.int .u32 p0] h (fun v h'=>∃ r:Int,v = .int .i64 r/\k r h'):=by
 refine fE func122 fun w0=>?_
 refine zF [0] (zQ ?_)
 refine w1 tok (zE ?_)
 refine zJ (α:=Int × Int) [] (fun (s:Int × Int)=>[(0,.int .u32 s.1),(2,.int .i64 s.2)]) (fun (s:Int × Int) h=>math_bits_Len32_j1 s.1 s.2 k h) ?_ ?_
 rintro ⟨t0_1,t2_1⟩ h_1 H
 refine zF [0,2] ?_
 refine zJ (α:=Int × Int) [] (fun (s:Int × Int)=>[(0,.int .u32 s.1),(2,.int .i64 s.2)]) (fun (s:Int × Int) h=>math_bits_Len32_j2 s.1 s.2 k h) ?_ ?_
 rintro ⟨t0_2,t2_2⟩ h_2 H
 refine zF [0,2] (zQ ?_)
 refine w3 tok ?_
 obtain ⟨v1,lv1,hv1,H⟩:=H
 refine wY (y_ixs' tok rfl rfl rfl rfl lv1 hv1) ?_
 refine w2 tok ?_
 obtain ⟨x2,ex2,H⟩:=H
 refine w_pe tok rfl (congrArg (fun z=>(.int .i64 z:Value)) ex2) rfl rfl ?_
 refine zE (zF [2] (zT ?_))
 exact x_ret _ rfl _ rfl ⟨x2,rfl,H⟩
 refine zQ (w2 tok (zE ?_))
 refine zI H ?_ ?_ <;> intro H
 refine zQ (w2 tok ?_)
 obtain ⟨x3,ex3,H⟩:=H
 refine w_pe tok rfl (congrArg (fun z=>(.int .u32 z:Value)) ex3) rfl rfl ?_
 refine zE (zR (w2 tok ?_))
 obtain ⟨x4,ex4,H⟩:=H
 refine w_pe tok rfl (congrArg (fun z=>(.int .i64 z:Value)) ex4) rfl rfl ?_
 refine zW ?_
 exact xJ (x3,x4) H
 refine zK ?_
 exact xJ (t0_1,t2_1) H
 refine zQ (w2 tok (zE ?_))
 refine zI H ?_ ?_ <;> intro H
 refine zQ (w2 tok ?_)
 obtain ⟨x5,ex5,H⟩:=H
 refine w_pe tok rfl (congrArg (fun z=>(.int .u32 z:Value)) ex5) rfl rfl ?_
 refine zE (zR (w1 tok (zW ?_)))
 exact xJ (x5,16) H
 refine zK ?_
 exact xJ (p0,0) H
theorem O123:CallOk prog 123:=ck func123
theorem R123 (p0 k h) (H:math_bits_Len64 p0 k h):CallsH prog 123 #[.int .u64 p0] h (fun v h'=>∃ r:Int,v = .int .i64 r/\k r h'):=by
 refine fE func123 fun w0=>?_
 refine zF [0] (zQ ?_)
 refine w1 tok (zE ?_)
 refine zJ (α:=Int × Int) [] (fun (s:Int × Int)=>[(0,.int .u64 s.1),(2,.int .i64 s.2)]) (fun (s:Int × Int) h=>math_bits_Len64_j1 s.1 s.2 k h) ?_ ?_
 rintro ⟨t0_1,t2_1⟩ h_1 H
 refine zF [0,2] ?_
 refine zJ (α:=Int × Int) [] (fun (s:Int × Int)=>[(0,.int .u64 s.1),(2,.int .i64 s.2)]) (fun (s:Int × Int) h=>math_bits_Len64_j2 s.1 s.2 k h) ?_ ?_
 rintro ⟨t0_2,t2_2⟩ h_2 H
 refine zF [0,2] ?_
 refine zJ (α:=Int × Int) [] (fun (s:Int × Int)=>[(0,.int .u64 s.1),(2,.int .i64 s.2)]) (fun (s:Int × Int) h=>math_bits_Len64_j3 s.1 s.2 k h) ?_ ?_
 rintro ⟨t0_3,t2_3⟩ h_3 H
 refine zF [0,2] (zQ ?_)
 refine w3 tok ?_
 obtain ⟨v1,lv1,hv1,H⟩:=H
 refine wY (y_ixs' tok rfl rfl rfl rfl lv1 hv1) ?_
 refine w2 tok ?_
 obtain ⟨x2,ex2,H⟩:=H
 refine w_pe tok rfl (congrArg (fun z=>(.int .i64 z:Value)) ex2) rfl rfl ?_
 refine zE (zF [2] (zT ?_))
 exact x_ret _ rfl _ rfl ⟨x2,rfl,H⟩
 refine zQ (w2 tok (zE ?_))
 refine zI H ?_ ?_ <;> intro H
 refine zQ (w2 tok ?_)
 obtain ⟨x3,ex3,H⟩:=H
 refine w_pe tok rfl (congrArg (fun z=>(.int .u64 z:Value)) ex3) rfl rfl ?_
 refine zE (zR (w2 tok ?_))
 obtain ⟨x4,ex4,H⟩:=H
 refine w_pe tok rfl (congrArg (fun z=>(.int .i64 z:Value)) ex4) rfl rfl ?_
 refine zW ?_
 exact xJ (x3,x4) H
 refine zK ?_
 exact xJ (t0_2,t2_2) H
 refine zQ (w2 tok (zE ?_))
 refine zI H ?_ ?_ <;> intro H
 refine zQ (w2 tok ?_)
 obtain ⟨x5,ex5,H⟩:=H
 refine w_pe tok rfl (congrArg (fun z=>(.int .u64 z:Value)) ex5) rfl rfl ?_
 refine zE (zR (w2 tok ?_))
 obtain ⟨x6,ex6,H⟩:=H
 refine w_pe tok rfl (congrArg (fun z=>(.int .i64 z:Value)) ex6) rfl rfl ?_
 refine zW ?_
 exact xJ (x5,x6) H
 refine zK ?_
 exact xJ (t0_1,t2_1) H
 refine zQ (w2 tok (zE ?_))
 refine zI H ?_ ?_ <;> intro H
 refine zQ (w2 tok ?_)
 obtain ⟨x7,ex7,H⟩:=H
 refine w_pe tok rfl (congrArg (fun z=>(.int .u64 z:Value)) ex7) rfl rfl ?_
 refine zE (zR (w1 tok (zW ?_)))
 exact xJ (x7,32) H
 refine zK ?_
 exact xJ (p0,0) H
theorem O96:CallOk prog 96:=ck func96
theorem R96 (p0 k h) (H:math_bits_Len p0 k h):CallsH prog 96 #[.int .u64 p0] h (fun v h'=>∃ r:Int,v = .int .i64 r/\k r h'):=by
 refine fE func96 fun w0=>?_
 refine zF [0] (zQ ?_)
 refine w1 tok (zE (zS ?_))
 refine zI H ?_ ?_ <;> intro H
 refine zQ (w2 tok ?_)
 refine wC O122 (R122 _ _ _ H) fun r1 h2 H=>?_
 refine w1 tok (zE (zT (yT ?_)))
 exact x_ret _ rfl _ rfl ⟨r1,rfl,H⟩
 refine zK (zX (zQ (w1 tok ?_)))
 refine wC O123 (R123 _ _ _ H) fun r3 h4 H=>?_
 refine w1 tok (zE (zT ?_))
 exact x_ret _ rfl _ rfl ⟨r3,rfl,H⟩
theorem O141:CallOk prog 141:=ck func141
theorem R141 (p0 p1 k h) (H:cmp_Less_uint64 p0 p1 k h):CallsH prog 141 #[.int .u64 p0,.int .u64 p1] h (fun v h'=>∃ r:Bool,v = .bool r/\k r h'):=by
 refine fE func141 fun w0=>?_
 refine zF [0,1] (zQ ?_)
 refine w1 tok (zE (zQ ?_))
 refine w1 tok ?_
 refine wC cmp_isNaN_uint64_ok (cmp_isNaN_uint64_ref _ _ _ H) fun r1 h2 H=>?_
 refine w1 tok ?_
 refine vJ 4 (α:=Bool) [0,1] (fun (s:Bool)=>[(11,.bool s)]) (fun (s:Bool) h=>cmp_Less_uint64_g1 p0 p1 s k h) ?_ ?_
 rintro t11_1 h_1 H
 refine vF [11,0,1] ?_
 refine w1 tok ?_
 refine vU 4 [] [(16,.bool (t11_1 || (decide (p0 < p1))))] ?_ ?_
 refine w1 tok (zE (zT ?_))
 exact x_ret _ rfl _ rfl ⟨(t11_1 || (decide (p0 < p1))),rfl,H⟩
 refine vG (d:=12) (fun hb=>?_) (fun hb=>?_)
 refine wS (wS (wS (w1 tok ?_)))
 refine vK ?_
 exact congrArg (fun b=>some (Value.bool b)) (or_t hb)
 refine w4 tok ?_
 refine vK ?_
 exact congrArg (fun b=>some (Value.bool b)) (or_f hb)
 refine vI 7 H ?_ ?_ <;> intro H
 refine w1 tok ?_
 refine wC cmp_isNaN_uint64_ok (cmp_isNaN_uint64_ref _ _ _ H) fun r3 h4 H=>?_
 refine w2 tok ?_
 exact wJ (!r3) H
 refine wS (wS (wS (w1 tok ?_)))
 exact wJ false H
theorem O135:CallOk prog 135:=ck func135
theorem R135 (p0 p1 p2 k h) (H:slices_insertionSortOrdered_uint64 p0 p1 p2 k h):CallsH prog 135 #[Slc.v p0,.int .i64 p1,.int .i64 p2] h (fun v h'=>∃ r:Unit,v = .tuple #[]/\k r h'):=by
 refine fE func135 fun w0=>?_
 refine zF [0,1,2] (zQ ?_)
 refine w2 tok ?_
 obtain ⟨x1,ex1,H⟩:=H
 refine w_pe tok rfl (congrArg (fun z=>(.int .i64 z:Value)) ex1) rfl rfl ?_
 refine zE (zB ?_)
 obtain ⟨I1,μ1,H0,HI⟩:=H
 refine zO (σ:=Int) [0,1,2] (fun (s:Int)=>[(6,.int .i64 s)]) I1 μ1 x1 H0 ?_
 rintro t6_1 h_1 H
 replace H:=HI t6_1 h_1 H
 refine zF [6,0,1,2] (zS (zQ ?_))
 refine w3 tok (zE ?_)
 refine zI H ?_ ?_ <;> intro H
 refine zK (zX (zS (zB (zQ (w2 tok (zE (zB ?_)))))))
 obtain ⟨I2,μ2,H0,HI⟩:=H
 refine zO (σ:=Int) [0,1,2,6] (fun (s:Int)=>[(7,.int .i64 s)]) I2 μ2 t6_1 H0 ?_
 rintro t7_2 h_2 H
 replace H:=HI t7_2 h_2 H
 refine zF [7,0,1,2,6] (zS ?_)
 refine zJ (α:=Bool) [0,1,2,6,7] (fun (s:Bool)=>[(30,.bool s)]) (fun (s:Bool) h=>slices_insertionSortOrdered_uint64_j3 p0 p1 p2 t6_1 t7_2 s k (fun s h'=>I1 s h'/\μ1 s h' < μ1 t6_1 h_1) (fun s h'=>I2 s h'/\μ2 s h' < μ2 t7_2 h_2) h) ?_ ?_
 rintro t30_3 h_3 H
 refine zF [30,0,1,2,6,7] ?_
 refine zI H ?_ ?_ <;> intro H
 refine zK (zX (zS (zB ?_)))
 refine gB [0,1,2,6,7] ?_
 refine gT 0 [0] tok ?_
 refine gT 1 [7] tok ?_
 refine gT 2 [0] tok ?_
 refine gT 3 [7] tok ?_
 refine gT 4 [36] tok ?_
 refine gT 5 [0] tok ?_
 refine gT 6 [7] tok ?_
 refine gT 7 [39] tok ?_
 obtain ⟨a2,ha2,la2,ua2,H⟩:=H
 refine gY 8 [38,40] rfl (fun _=>y_ixa' tok rfl rfl ha2 rfl rfl rfl la2 ua2) ?_
 obtain ⟨v3,hv3,H⟩:=H
 refine gL 9 [41] rfl (y_ld tok rfl rfl rfl rfl hv3) ?_
 refine gT 10 [0] tok ?_
 refine gT 11 [7] tok ?_
 obtain ⟨a4,ha4,la4,ua4,H⟩:=H
 refine gY 12 [43,44] rfl (fun _=>y_ixa' tok rfl rfl ha4 rfl rfl rfl la4 ua4) ?_
 obtain ⟨v5,hv5,H⟩:=H
 refine gL 13 [45] rfl (y_ld tok rfl rfl rfl rfl hv5) ?_
 obtain ⟨a6,ha6,la6,ua6,H⟩:=H
 refine gY 14 [33,34] rfl (fun _=>y_ixa' tok rfl rfl ha6 rfl rfl rfl la6 ua6) ?_
 obtain ⟨h7,wh7,eh7,H⟩:=H
 refine gH 15 [42,47] rfl (h_st tok rfl rfl rfl rfl rfl rfl wh7 eh7) ?_
 obtain ⟨a8,ha8,la8,ua8,H⟩:=H
 refine gY 16 [35,37] rfl (fun _=>y_ixa' tok rfl rfl ha8 rfl rfl rfl la8 ua8) ?_
 obtain ⟨h9,wh9,eh9,H⟩:=H
 refine gH 17 [46,48] rfl (h_st tok rfl rfl rfl rfl rfl rfl wh9 eh9) ?_
 refine gZ ?_
 refine yL (zX (zF [0,1,2,6,7] (zR ?_)))
 refine w2 tok ?_
 obtain ⟨x10,ex10,H⟩:=H
 refine w_pe tok rfl (congrArg (fun z=>(.int .i64 z:Value)) ex10) rfl rfl ?_
 refine zW ?_
 exact xJ x10 H
 refine zY (yE (yE (yH (yL (zX (zR (w2 tok ?_)))))))
 obtain ⟨x11,ex11,H⟩:=H
 refine w_pe tok rfl (congrArg (fun z=>(.int .i64 z:Value)) ex11) rfl rfl ?_
 refine zW ?_
 exact xJ x11 H
 refine gB [0,1,2,6,7] ?_
 refine gT 0 [7] tok ?_
 refine gT 1 [1] tok ?_
 refine gT 2 [16,17] tok ?_
 refine gT 3 [18] tok ?_
 refine gI 19 H (fun hb H=>?_) (fun hb H=>?_)
 refine gT 4 [0,19] tok ?_
 refine gT 5 [7,19] tok ?_
 obtain ⟨a12,ha12,la12,ua12,H⟩:=H
 refine gY 6 [19,20,21] rfl (fun _=>y_ixa' tok rfl rfl ha12 rfl rfl rfl la12 ua12) ?_
 obtain ⟨v13,hv13,H⟩:=H
 refine gL 7 [19,22] rfl (y_ld tok rfl rfl rfl rfl hv13) ?_
 refine gT 8 [0,19] tok ?_
 refine gT 9 [7,19] tok ?_
 refine gT 10 [19,25] tok ?_
 obtain ⟨a14,ha14,la14,ua14,H⟩:=H
 refine gY 11 [19,24,26] rfl (fun _=>y_ixa' tok rfl rfl ha14 rfl rfl rfl la14 ua14) ?_
 obtain ⟨v15,hv15,H⟩:=H
 refine gL 12 [19,27] rfl (y_ld tok rfl rfl rfl rfl hv15) ?_
 refine gC 13 [19,23,28] O141 (R141 _ _ _ _ H) fun r16 h17 H=>?_
 refine gT 14 [19,29] tok ?_
 refine gZ ?_
 exact xJ r16 H
 refine gS 4 [0,19] ?_
 refine gS 5 [7,19] ?_
 refine gS 6 [19,20,21] ?_
 refine gS 7 [19,22] ?_
 refine gS 8 [0,19] ?_
 refine gS 9 [7,19] ?_
 refine gS 10 [19,25] ?_
 refine gS 11 [19,24,26] ?_
 refine gS 12 [19,27] ?_
 refine gS 13 [19,23,28] ?_
 refine gT 14 [19,29] tok ?_
 refine gZ ?_
 exact xJ false H
 refine zY (yE (yE (yH ?_)))
 exact x_end _ rfl _ rfl ⟨(),rfl,H⟩
end Go.Q.Yq
end

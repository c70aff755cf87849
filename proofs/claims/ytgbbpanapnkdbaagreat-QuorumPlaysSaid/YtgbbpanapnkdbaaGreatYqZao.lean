/- A part of the proof of statements of this seat: lemmas, no statement of their own. -/
import Derived.Test.YtgbbpanapnkdbaaGreatYqZad
import Derived.Test.YtgbbpanapnkdbaaGreatYqZae
import Derived.Test.YtgbbpanapnkdbaaGreatYqZaj
import Derived.Test.YtgbbpanapnkdbaaGreatYqZal
import Derived.Test.YtgbbpanapnkdbaaGreatYqZaf
set_option linter.unusedVariables false
set_option linter.unusedSimpArgs false
set_option maxRecDepth 100000
set_option maxHeartbeats 1000000
section
namespace Go.Q.Yq
open Go.Proofs.Tryz
/-- (*quaestor quorum.Desk).Yes -/
def kF (k:KP Bool) (h_3:Heap):Prop :=
  k true h_3
def iE (a_:Option Addr) (k:KP Bool) (h_2:Heap):Prop :=
  ∃ a10,a_=some a10/\(∃ v11,ah h_2 (a10.add 28)=some (Slc.v v11)/\(∃ v12,ai h_2 a10 (aj.cs v12)/\(nU v12 (fun r13 h14=>ah h14 (a10.add 28)=some (Slc.v v11)/\(if (decide ((v11.len:Int) < r13)) then (k true h14) else (∃ h16,WrH h14 (a10.add 30)/\h16=setH h14 (a10.add 30) (.bool true)/\(∃ v17,ah h16 (a10.add 1)=some (.int .i64 v17)/\(if (v17 == 2) then (∃ v18,ai h16 (a10.add 4) (aC.cs v18)/\(∃ v19,ah h16 (a10.add 3)=some (Slc.v v19)/\(∃ v20,ah h16 (a10.add 26)=some (.int .i64 v20)/\(BD v18 v19 v20 (fun r21 h22=>∃ h23,WrH h22 (a10.add 32)/\h23=setH h22 (a10.add 32) (Slc.v r21.1)/\(∃ h24,WrH h23 (a10.add 31)/\h24=setH h23 (a10.add 31) (.int .i64 r21.2)/\(kF k h24))) h16)))) else (kF k h16)))))) h_2)))
def iK (b_:Int) (d_:Slc) (a_:Option Addr) (f_:Bool) (k:KP Bool) (h_1:Heap):Prop :=
  if f_ then (k false h_1) else (∃ a3,a_=some a3/\(∃ v4,ah h_1 (a3.add 28)=some (Slc.v v4)/\(∃ b5 h6,b5=h_1.size/\h6=h_1.push (.cells ([.int .i64 b_]).toArray 3)/\(App 3 1 8 [.int .i64 0] h6 v4 1 ([.int .i64 b_]) (fun s7 h8=>∃ h9,WrH h8 (a3.add 28)/\h9=setH h8 (a3.add 28) (Slc.v s7)/\(∃ v25,ah h9 (a3.add 1)=some (.int .i64 v25)/\(if (v25 == 2) then (∃ v26,ah h9 (a3.add 3)=some (Slc.v v26)/\(∃ b27 h28,b27=h9.size/\h28=h9.push (.cells ([Slc.v v26,Slc.v d_]).toArray 26)/\(oU (⟨some ⟨b27,0,none⟩,2,2⟩:Slc) (fun r29 h30=>∃ h31,WrH h30 (a3.add 3)/\h31=setH h30 (a3.add 3) (Slc.v r29)/\(iE a_ k h31)) h28))) else (iE a_ k h9))))))))
def lq (p0:Option Addr) (p1:Int) (p2:Int) (p3:Slc) (k:KP Bool) (h:Heap):Prop :=
  nI p0 p1 p2 (fun r1 h2=>if (!r1.2) then (iK p2 p3 r1.1 true k h2) else (∃ a32,r1.1=some a32/\(∃ v33,ah h2 (a32.add 28)=some (Slc.v v33)/\(dJ v33 p2 (fun r34 h35=>iK p2 p3 r1.1 r34 k h35) h2)))) h
/-- quaestor quaestorlaw31.awake -/
def rT (a_:Bool) (k:KP Bool) (h_2:Heap):Prop :=
  k a_ h_2
def qO (a_:Addr) (b_:Bool) (k:KP Bool) (h_1:Heap):Prop :=
  if b_ then (∃ v21,ah h_1 (a_.add 31)=some (.int .i64 v21)/\(rT (v21 == 0) k h_1)) else (rT false k h_1)
def qK (k:KP Bool) (h:Heap):Prop :=
  wV  (fun r1 h2=>∃ b3 h4,b3=h2.size/\h4=h2.push (.cells ([.int .i64 2,.int .i64 0,.int .i64 4]).toArray 3)/\(lJ r1 (⟨5,1,ByteArray.empty,(⟨none,0,0⟩:Slc),(⟨ByteArray.empty,0,0,0,0⟩:aC),(⟨0,ByteArray.empty,0,([]:List Int),(⟨none,0,0⟩:Slc),0⟩:aT),0,(⟨some ⟨b3,0,none⟩,3,3⟩:Slc),(⟨none,0,0⟩:Slc),0,false,0,(⟨none,0,0⟩:Slc)⟩:aj) (fun r5 h6=>lq r1 5 0 (⟨none,0,0⟩:Slc) (fun r7 h8=>iC r1 5 (fun r9 h10=>∃ b11 h12,b11=h10.size/\h12=h10.push (.cells (aj.cs (⟨0,0,ByteArray.empty,(⟨none,0,0⟩:Slc),(⟨ByteArray.empty,0,0,0,0⟩:aC),(⟨0,ByteArray.empty,0,([]:List Int),(⟨none,0,0⟩:Slc),0⟩:aT),0,(⟨none,0,0⟩:Slc),(⟨none,0,0⟩:Slc),0,false,0,(⟨none,0,0⟩:Slc)⟩:aj)).toArray 39)/\(∃ h13,aN h12 (ad b11) 33/\h13=aM h12 (ad b11) 0 (aj.cs r9.1)/\(lq r1 5 2 (⟨none,0,0⟩:Slc) (fun r14 h15=>iC r1 5 (fun r16 h17=>∃ b18 h19,b18=h17.size/\h19=h17.push (.cells (aj.cs (⟨0,0,ByteArray.empty,(⟨none,0,0⟩:Slc),(⟨ByteArray.empty,0,0,0,0⟩:aC),(⟨0,ByteArray.empty,0,([]:List Int),(⟨none,0,0⟩:Slc),0⟩:aT),0,(⟨none,0,0⟩:Slc),(⟨none,0,0⟩:Slc),0,false,0,(⟨none,0,0⟩:Slc)⟩:aj)).toArray 39)/\(∃ h20,aN h19 (ad b18) 33/\h20=aM h19 (ad b18) 0 (aj.cs r16.1)/\(if (((((r5 == 0) && r7) && r14) && (r9.2 == 14)) && (r16.2 == 0)) then (∃ v22,ah h20 ((ad b18).add 30)=some (.bool v22)/\(qO (ad b18) v22 k h20)) else (qO (ad b18) false k h20)))) h15) h13))) h8) h6) h4)) h
theorem O10:aF prog 10:=ck func10
theorem R10 (p0 p1 p2 p3 k h) (H:lq p0 p1 p2 p3 k h):CallsH prog 10 #[.pointer p0,.int .u64 p1,.int .i64 p2,Slc.v p3] h (rB k):=by
 refine fE func10 fun w0=>?_
 refine zF [0,1,2,3] (zQ ?_)
 refine w1 Z (zE (zQ ?_))
 refine w3 Z ?_
 refine wC O27 (R27 _ _ _ _ _ H) fun r1 h2 H=>?_
 refine w5 Z (zE (zF [2,3,9,10] (zS (zQ ?_))))
 refine w3 Z ?_
 refine vJ 7 (α:=Bool) [2,3,9] (fun (s:Bool)=>[(27,.bool s)]) (fun (s:Bool) h=>iK p2 p3 r1.1 s k h) ?_ ?_
 rintro a_ h_1 H
 refine vF [27,2,3,9] (zE ?_)
 refine zI H ?_ ?_ <;> intro H
 refine zQ (w1 Z (zE (zT (yT ?_))))
 exact aB _ rfl _ rfl ⟨false,rfl,H⟩
 refine zK (zX (zQ (w2 Z ?_)))
 refine wN H fun a3 ha3 H=>?_
 refine w1 Z ?_
 refine wL Z H fun v4 H=>?_
 refine w1 Z ?_
 obtain ⟨b5,h6,eb5,eh6,H⟩:=H
 refine wH (nJ Z rfl rfl rfl rfl rfl rfl rfl eb5 eh6) ?_
 refine wA (ji (s:=v4) (r:=(⟨some ⟨b5,0,none⟩,1,1⟩:Slc)) Z rfl rfl rfl rfl rfl (bT eb5 eh6) H) ?_
 rintro _ h8 ⟨s7,rfl,H⟩
 refine wY (bP rfl rfl ha3) ?_
 refine w1 Z ?_
 refine wT Z H fun h9 H=>?_
 refine zE (zF [3,9] ?_)
 refine zJ (α:=Unit) [9] (fun (s:Unit)=>[]) (fun (s:Unit) h=>iE r1.1 k h) ?_ ?_
 rintro _ h_2 H
 refine zF [9] (zS (zS ?_))
 refine gB [9] ?_
 refine gT 0 [9] Z ?_
 obtain ⟨a10,ha10,H⟩:=H
 refine gY 1 [53] rfl (fun _=>bP rfl rfl ha10) ?_
 refine gT 2 [54] Z ?_
 refine gl 3 [55] Z H fun v11 H=>?_
 refine gT 4 [56] Z ?_
 refine gT 5 [9] Z ?_
 refine gY 6 [58] rfl (fun _=>bP rfl rfl ha10) ?_
 refine gla 7 [59] Z H fun v12 H=>?_
 refine gCr 8 [60] O19 (R19 _ _ _ H) fun r13 h14 H=>?_
 obtain ⟨hy15,H⟩:=H
 refine gR rfl (fq Z rfl rfl rfl rfl hy15) ?_
 refine gZ0 ?_
 refine gT 9 [57,61] Z ?_
 refine gZ ?_
 refine zX (zF [9,62] ?_)
 refine zI H ?_ ?_ <;> intro H
 refine zQ (w1 Z (zE (zT (yT ?_))))
 exact aB _ rfl _ rfl ⟨true,rfl,H⟩
 refine zK (zX (zQ (w1 Z ?_)))
 refine wY (bP rfl rfl ha10) ?_
 refine w1 Z ?_
 refine wT Z H fun h16 H=>?_
 refine zE ?_
 refine zJ (α:=Unit) [] (fun (s:Unit)=>[]) (fun (s:Unit) h=>kF k h) ?_ ?_
 rintro _ h_3 H
 refine zF [] (zQ ?_)
 refine w1 Z (zE (zT ?_))
 exact aB _ rfl _ rfl ⟨true,rfl,H⟩
 refine zQ (w1 Z ?_)
 refine wY (bP rfl rfl ha10) ?_
 refine w1 Z ?_
 refine wL Z H fun v17 H=>?_
 refine w1 Z (zE (zF [9,70] ?_))
 refine zI H ?_ ?_ <;> intro H
 refine gB [9] ?_
 refine gT 0 [9] Z ?_
 refine gT 1 [9] Z ?_
 refine gT 2 [9] Z ?_
 refine gY 3 [74] rfl (fun _=>bP rfl rfl ha10) ?_
 refine gT 4 [75] Z ?_
 refine gla 5 [76] Z H fun v18 H=>?_
 refine gT 6 [9] Z ?_
 refine gY 7 [78] rfl (fun _=>bP rfl rfl ha10) ?_
 refine gT 8 [79] Z ?_
 refine gl 9 [80] Z H fun v19 H=>?_
 refine gT 10 [9] Z ?_
 refine gY 11 [82] rfl (fun _=>bP rfl rfl ha10) ?_
 refine gT 12 [83] Z ?_
 refine gl 13 [84] Z H fun v20 H=>?_
 refine gC 14 [77,81,85] O30 (R30 _ _ _ _ _ H) fun r21 h22 H=>?_
 refine gT 15 [86] Z ?_
 refine gT 16 [71] Z ?_
 refine gT 17 [71] Z ?_
 refine gY 18 [72] rfl (fun _=>bP rfl rfl ha10) ?_
 refine gT 19 [89] Z ?_
 refine gs 20 [87,90] Z H fun h23 H=>?_
 refine gY 21 [73] rfl (fun _=>bP rfl rfl ha10) ?_
 refine gT 22 [91] Z ?_
 refine gs 23 [88,92] Z H fun h24 H=>?_
 refine gZ ?_
 exact xJ () H
 refine zK ?_
 exact xJ () H
 refine zQ (w1 Z ?_)
 refine wY (bP rfl rfl ha3) ?_
 refine w1 Z ?_
 refine wL Z H fun v25 H=>?_
 refine w1 Z (zE ?_)
 refine zI H ?_ ?_ <;> intro H
 refine zR (w2 Z ?_)
 refine wY (bP rfl rfl ha3) ?_
 refine w1 Z ?_
 refine wL Z H fun v26 H=>?_
 refine w1 Z ?_
 obtain ⟨b27,h28,eb27,eh28,H⟩:=H
 refine wH (nJ Z rfl rfl rfl rfl rfl rfl rfl eb27 eh28) ?_
 refine wC O29 (R29 _ _ _ H) fun r29 h30 H=>?_
 refine wY (bP rfl rfl ha3) ?_
 refine w1 Z ?_
 refine wT Z H fun h31 H=>?_
 refine zW ?_
 exact xJ () H
 refine zK ?_
 exact xJ () H
 refine vI 20 H ?_ ?_ <;> intro H
 refine wS (wS (wS (wS (wS (wS (w1 Z ?_))))))
 exact wJ true H
 refine w1 Z ?_
 refine wN H fun a32 _ H=>?_
 refine w1 Z ?_
 refine wL Z H fun v33 H=>?_
 refine w1 Z ?_
 refine wC O28 (R28 _ _ _ _ H) fun r34 h35 H=>?_
 refine w1 Z ?_
 exact wJ r34 H
theorem Bb:aF prog 7:=ck func7
theorem Aj ( k h) (H:qK k h):CallsH prog 7 #[] h (rB k):=by
 refine fE func7 fun w0=>?_
 refine zQ (w1 Z (zE (zQ ?_)))
 refine wC O5 (R5  _ _ H) fun r1 h2 H=>?_
 refine w1 Z (zE (zQ ?_))
 refine w1 Z ?_
 obtain ⟨b3,h4,eb3,eh4,H⟩:=H
 refine wH (nJ Z rfl rfl rfl rfl rfl rfl rfl eb3 eh4) ?_
 refine wY (bU Z rfl rfl rfl rfl rfl) ?_
 refine wC O13 (R13 _ _ _ _ H) fun r5 h6 H=>?_
 refine w1 Z (zE (zQ ?_))
 refine w1 Z ?_
 refine wC O10 (R10 _ _ _ _ _ _ H) fun r7 h8 H=>?_
 refine w1 Z (zE (zF [1,2,3] (zQ ?_)))
 refine w1 Z ?_
 refine wC O8 (R8 _ _ _ _ H) fun r9 h10 H=>?_
 refine w3 Z ?_
 refine wB Z H fun b11 h12 H=>?_
 refine wTa Z H fun h13 H=>?_
 refine w1 Z (zE (zQ ?_))
 refine w1 Z ?_
 refine wC O10 (R10 _ _ _ _ _ _ H) fun r14 h15 H=>?_
 refine w1 Z (zE (zF [1,2,3,5,6] (zQ ?_)))
 refine w1 Z ?_
 refine wC O8 (R8 _ _ _ _ H) fun r16 h17 H=>?_
 refine w3 Z ?_
 refine wB Z H fun b18 h19 H=>?_
 refine wTa Z H fun h20 H=>?_
 refine w1 Z (zE (zQ ?_))
 refine w3 Z ?_
 refine vU 2 [5,6,7,8] [(32,.bool ((r5 == 0) && r7))] ?_ ?_
 refine w1 Z ?_
 refine vU 2 [5,7,8] [(35,.bool (((r5 == 0) && r7) && r14))] ?_ ?_
 refine w1 Z ?_
 refine vU 3 [7,8] [(39,.bool ((((r5 == 0) && r7) && r14) && (r9.2 == 14)))] ?_ ?_
 refine w1 Z ?_
 refine vU 3 [7] [(43,.bool (((((r5 == 0) && r7) && r14) && (r9.2 == 14)) && (r16.2 == 0)))] ?_ ?_
 refine w1 Z ?_
 refine vJ 3 (α:=Bool) [7] (fun (s:Bool)=>[(47,.bool s)]) (fun (s:Bool) h=>qO (ad b18) s k h) ?_ ?_
 rintro b_ h_1 H
 refine vF [47,7] ?_
 refine w1 Z ?_
 refine vJ 4 (α:=Bool) [] (fun (s:Bool)=>[(52,.bool s)]) (fun (s:Bool) h=>rT s k h) ?_ ?_
 rintro a_ h_2 H
 refine vF [52] ?_
 refine w1 Z (zE (zT ?_))
 exact aB _ rfl _ rfl ⟨a_,rfl,H⟩
 refine vI 48 H ?_ ?_ <;> intro H
 refine w1 Z ?_
 refine wL Z H fun v21 H=>?_
 refine w2 Z ?_
 exact wJ (v21 == 0) H
 refine wS (wS (wS (w1 Z ?_)))
 exact wJ false H
 refine vI 44 H ?_ ?_ <;> intro H
 refine w1 Z ?_
 refine wL Z H fun v22 H=>?_
 refine w1 Z ?_
 exact wJ v22 H
 refine wS (wS (w1 Z ?_))
 exact wJ false H
 refine vG (d:=40) (fun hb=>?_) (fun hb=>?_)
 refine w3 Z ?_
 refine vK ?_
 exact congrArg (fun b=>some (Value.bool b)) (jD hb)
 refine wS (wS (w1 Z ?_))
 refine vK ?_
 exact congrArg (fun b=>some (Value.bool b)) (jH hb)
 refine vG (d:=36) (fun hb=>?_) (fun hb=>?_)
 refine w3 Z ?_
 refine vK ?_
 exact congrArg (fun b=>some (Value.bool b)) (jD hb)
 refine wS (wS (w1 Z ?_))
 refine vK ?_
 exact congrArg (fun b=>some (Value.bool b)) (jH hb)
 refine vG (d:=33) (fun hb=>?_) (fun hb=>?_)
 refine w2 Z ?_
 refine vK ?_
 exact congrArg (fun b=>some (Value.bool b)) (jD hb)
 refine wS (w1 Z ?_)
 refine vK ?_
 exact congrArg (fun b=>some (Value.bool b)) (jH hb)
 refine vG (d:=30) (fun hb=>?_) (fun hb=>?_)
 refine w2 Z ?_
 refine vK ?_
 exact congrArg (fun b=>some (Value.bool b)) (jD hb)
 refine wS (w1 Z ?_)
 refine vK ?_
 exact congrArg (fun b=>some (Value.bool b)) (jH hb)
end Go.Q.Yq
end
section
/- maps.Keys of a map of ops, taken by slices.AppendSeq: they come, each once, in some order. -/
namespace Go.Proofs
open Go.RowKit Go.Shelf Go.Maps
open Go.ChangeMaps (setBlock)
attribute [local go_sem] Oper.semAt_some
namespace YuYq
open YwYq (DK Fj rQ GL mem_left Fa)
def pcs (x:Int):List Value:=[.int .u64 x]
def pv (x:Int):Value:=.int .u64 x
set_option maxRecDepth 100000 in
set_option maxHeartbeats 2000000 in
/-- the closure of maps.Values: every value of the map comes, each once, in some order -/
theorem Ct (F:Fence) (n:Nat) (h7:F.fn 87) (hro:F.round=none) (hn:1<=n) (l Bm b ck:Nat) (es:Array MapEntry) (J Jx:List Int->World->Prop)
  (hcs:∀ x∈es.toList,∃ q:Int,x.key=pv q) (hold:∀ x∈es.toList,x.born < ck) (hnd:(es.toList.map (·.born)).Nodup)
  (hY:∀ pre x W,J pre W->pre.length < es.size->YieldAt F (n - 1) Tryz.prog l #[pv x] W fun e W' =>
   (e = .returned (.bool true)/\J (pre ++ [x]) W'/\KeepsWalks W W')∨(e = .returned (.bool false)/\Jx (pre ++ [x]) W'))
  (W:World) (hJ:AbidesFrom W.heap.size J) (hm:W.cell? ⟨Bm,0,none⟩=some (.map (some b))) (hb:W.heap[b]? = some (.map es ck)) (h0:J [] W) :
  CallsIn F n Tryz.prog 87 #[.func (.yield l) #[] #[],.pointer (some ⟨Bm,0,none⟩)] W fun e W'=>(∃ v,e = .returned v) /\
   ((∃ ys,(ys.map pv).Perm (es.toList.map (·.key))/\J ys W')∨(∃ pre,True/\Jx pre W')):=by
 refine callsIn_of_wp Tryz.func87 rfl h7 ?_ hro
 simp only [Tryz.ntmps87,List.size_toArray,List.length_cons,List.length_nil,Nat.reduceAdd,Nat.reduceSub,Array.replicate_succ,Array.replicate_zero,List.push_toArray,List.append_toArray,List.nil_append,List.cons_append]
 gi_wp2_with (first
  | (gi_at_range; refine DK rfl _ 61 rfl 25 65 Tryz.underlying61 b ck es rfl hb ?_)
  | gi_in)
 go_frame
 gi_loopw [3] (fun _ wr=>∃ (seen:Array Nat) (ys:List MapEntry) (c0:Nat),wr.heap[W.heap.size]? = some (.mapIter (some b) ck seen c0)/\ck<=c0/\wr.heap[b]? = some (.map es ck)/\seen.toList=ys.map (·.born)/\(∀ y∈ys,y∈es.toList)/\(ys.map (·.born)).Nodup/\∃ qs,qs.map pv=ys.map (·.key)/\J qs wr)
  (fun _ wr=>match wr.heap[W.heap.size]? with | some (.mapIter _ _ seen _)=>es.size - seen.size | _=>0)
 case atStart =>
  refine ⟨#[],[],ck,World.alloc_heap_new _ _,Nat.le_refl _,?_,rfl,by simp,by simp,[],rfl,hJ [] W _ none h0 ⟨rfl,rfl,rfl,by simp,fun k hk _=>Below.heap_alloc _ _ k hk⟩ (fun r e=>by cases e)⟩
  exact (Below.heap_alloc _ _ b (Array.getElem?_eq_some_iff.1 hb).1).trans hb
 case round =>
  obtain ⟨seen,ys,c0,hr,hc0,hbr,hse,hys,hyn,qs,hqs,hJs⟩:=hrel
  gi_wp2_with (first
   | (gi_at_next; refine Fj rfl _ rfl W.heap.size b ck c0 seen es ck rfl hr hbr hold hc0 ?_ ?_)
   | gi_in)
  ·intro hl
   gi_wp2
   go_end0
   exact ⟨⟨_,rfl⟩,.inl ⟨qs,hqs ▸ (Fa hnd hse hys hyn hl).map _,hJs⟩⟩
  ·intro x w2 hx hg2 hs2 hr2
   have hxm:x∈es.toList:=(YwYq.mem_left (by simpa using hx)).1
   have hbw:b≠W.heap.size:=by have:=(Array.getElem?_eq_some_iff.1 hb).1; omega
   have hb2:w2.heap[b]? = some (.map es ck):=(hg2.block b (Array.getElem?_eq_some_iff.1 hbr).1 (fun e=>hbw (Option.some.inj e))).trans hbr
   have hen:=run_entry_at (P:=Tryz.prog) w2 W.heap.size b ck seen es ck x hr2 hb2 hxm hnd
   obtain ⟨s',hv⟩:=hcs x hxm
   have hY':=hY qs s'
   simp only [pv] at hY'
   rw [hv] at hen ⊢
   simp only [pv] at hen ⊢
   have hx2:x.born ∉ seen.toList:=(YwYq.mem_left (by simpa using hx)).2
   have hlen:ys.length < es.size:=by
    have:=GL ((x :: ys).map (·.born)) (es.toList.map (·.born)) (by rw [List.map_cons,List.nodup_cons,← hse]; exact ⟨hx2,hse ▸ hyn⟩) (fun k hk=>by
     obtain ⟨y,hy,rfl⟩:=List.mem_map.1 hk
     exact List.mem_map.2 ⟨y,(List.mem_cons.1 hy).elim (fun e=>e ▸ hxm) (hys y),rfl⟩)
    simp at this
    omega
   have hJ2:J qs w2:=hJ qs wr w2 (some W.heap.size) hJs hg2 (fun r e=>by cases e; exact ⟨Nat.le_refl _,_,hr,rfl⟩)
   obtain ⟨fn,tmps,assign,body,hy,hR⟩:=hY' _ hJ2 (by have:=congrArg List.length hqs; simp at this; omega)
   clear hs2
   gi_wp2
   refine hR.mono ?_
   rintro e W3 (⟨rfl,hJ4,hk4⟩ | ⟨rfl,hJx4⟩)
   ·gi_wp2
    have hr4:=hk4.same _ _ hr2 rfl
    have hb4:=hk4.same _ _ hb2 rfl
    go_roundw
    case rel =>
     refine ⟨seen.push x.born,ys ++ [x],ck,hr4,Nat.le_refl _,hb4,by simp [hse],fun y hy=>(List.mem_append.1 hy).elim (hys y) (fun e=>by simp at e; exact e ▸ hxm),?_,qs ++ [s'],by rw [List.map_append,List.map_append,hqs]; simp [hv],hJ4⟩
     rw [List.map_append,List.nodup_append]
     refine ⟨hyn,by simp,fun a ha b hb e=>?_⟩
     simp at hb
     subst hb
     rw [← hse] at ha
     exact hx2 (e ▸ ha)
    case measure =>
     rw [hr4,hr]
     have:seen.size=ys.length:=by rw [← Array.length_toList,hse,List.length_map]
     simp
     omega
   ·gi_wp2
    refine bodyPost_ret (results_none rfl _ _ _) rfl ?_
    exact ⟨⟨_,rfl⟩,.inr ⟨_,trivial,hJx4⟩⟩
theorem values_stops (F:Fence) (n:Nat) (h7:F.fn 87) (hro:F.round=none) (hn:1<=n) (Bm b ck:Nat) (es:Array MapEntry) (w:World)
  (hcs:∀ x∈es.toList,∃ q:Int,x.key=pv q) (hold:∀ x∈es.toList,x.born < ck) (hnd:(es.toList.map (·.born)).Nodup)
  (hBm:Bm < w.heap.size) (hm:w.cell? ⟨Bm,0,none⟩=some (.map (some b))) (hb:w.heap[b]? = some (.map es ck)) :
  SeqStopsK F n Tryz.prog 87 #[.pointer (some ⟨Bm,0,none⟩)] (fun x:Int=>#[pv x]) KeepsWalks (fun ys=>(ys.map pv).Perm (es.toList.map (·.key))) (fun _=>True) es.size w:=fun l J Jx W hW hJ _ hY h0 =>
 Ct F n h7 hro hn l Bm b ck es J Jx hcs hold hnd hY W hJ ((hW.cell (p:=⟨Bm,0,none⟩) hBm).trans hm) ((hW.block b (Array.getElem?_eq_some_iff.1 hb).1).trans hb) h0
theorem LF:(Tryz.prog.info? 25).map (fun i=>(i.zero,i.size,i.bytes))=some (some (.int .u64 0),1,8):=by kernel_rfl
set_option maxRecDepth 100000 in
set_option maxHeartbeats 2000000 in
/-- slices.AppendSeq of nil and what maps.Values hands back -/
theorem appendSeq_in (F:Fence) (n:Nat) (h3:F.fn 109) (h7:F.fn 87) (hro:F.round=none) (hn:3<=n) (Bs b ck:Nat) (es:Array MapEntry) (w:World)
  (hcs:∀ x∈es.toList,∃ q:Int,x.key=pv q) (hold:∀ x∈es.toList,x.born < ck) (hnd:(es.toList.map (·.born)).Nodup) (hlen:es.size<=1000000)
  (hBs:Bs < w.heap.size) (hm:w.cell? ⟨Bs,0,none⟩=some (.map (some b))) (hb:w.heap[b]? = some (.map es ck)) :
  CallsIn F n Tryz.prog 109 #[.slice none 0 0,.func (.func 87) #[] #[.pointer (some ⟨Bs,0,none⟩)]] w fun e W'=>∃ (v:Value) (ys:List Int),e = .returned v/\(ys.map pv).Perm (es.toList.map (·.key))/\W'.ownsRow w.heap.size 25 1 v ys.length (ys.flatMap pcs)/\Below w.heap.size w W':=by
 have h1:1<=n:=by omega
 obtain ⟨i0,hi,hz0,hz1,hz2⟩:=info_parts LF
 refine callsIn_of_wp_marks Tryz.func109 rfl h3 ?_ hro
 simp only [Tryz.ntmps109,List.size_toArray,List.length_cons,List.length_nil,Nat.reduceAdd,Nat.reduceSub,Array.replicate_succ,Array.replicate_zero,List.push_toArray,List.append_toArray,List.nil_append,List.cons_append]
 gi_wp2
 have bO:=Boxed.new w 73 (.slice none 0 0)
 have hB0:Below w.heap.size w (w.alloc (.cells #[.slice none 0 0] 73)):=(Below.refl _ w).alloc (Nat.le_refl _) _
 refine wpIn_rangeFunc_ownH hro h1 (gf:=87) (lb:=#[.pointer (some ⟨Bs,0,none⟩)]) rfl h7 (enters_of Tryz.func87 (by kernel_rfl) rfl)
  (values_stops F (n - 1) h7 hro (by omega) Bs b ck es _ hcs hold hnd (by simp; omega) ((hB0.cell (p:=⟨Bs,0,none⟩) hBs).trans hm) ((hB0.block b (Array.getElem?_eq_some_iff.1 hb).1).trans hb)) walksK_t walksK_b (Below.refl _ _) (fun _=>rfl)
  (fun pre W=>(∃ v,Boxed W w.heap.size 73 v/\W.ownsRow w.heap.size 25 1 v pre.length (pre.flatMap pcs)/\True)/\Below w.heap.size w W)
  (fun _ _ _=>False)
  (OwnFrom.and (Own.from (holdsRow_own w.heap.size w.heap.size 73 25 1 (fun pre:List Int=>pre.length) (fun pre=>pre.flatMap pcs) (fun pre v=>True)) _) (ownFrom_below (Nat.le_refl _) (by simp)))
  (fun _ _ _ _ _ hs _ _=>hs)
  ⟨⟨_,bO,World.ownsRow_nil _ _ _ _,trivial⟩,hB0⟩
  (fun x a' W=>a' = { tmps:=#[.slice none 0 0,.func (.func 87) #[] #[.pointer (some ⟨Bs,0,none⟩)],.pointer (some ⟨w.heap.size,0,none⟩),undef,.slice none 0 0,.int .u64 x,.func (.func 87) #[] #[.pointer (some ⟨Bs,0,none⟩)],pv x,undef,undef,undef,undef,undef],defers:=[] })
  ?ax ?assign ?body ?done ?stop
 case ax =>
  rintro x a' _ X Y row h hg hr
  exact h
 case assign =>
  intro l pre x W K hI hK
  simp only [pv]
  gi_wp2
  exact hK _ _ (KeepsFrom.refl _ _) (KeepsWalks.refl _) hI rfl
 case body =>
  rintro l pre x a' W hwl - ⟨⟨v,hv,hrow,_⟩,hB⟩ rfl hlt
  have hc:=hv.cell
  gi_wp2_with (gi_at_builtin; refine wpListIn_append_own _ rfl _ _ 73 rfl w.heap.size 25 i0 (.int .u64 0) 1 8 Tryz.underlying73 hi hz0 hz1 hz2 rfl (by decide) _ _ _ rfl (hrow.alloc _) ⟨W.heap.size,0,none⟩ 1 1 [.int .u64 x] rfl rfl (cell_one_new _ _ _) (by simp [Value.oneCell']) (by simp [maxLen]; omega) (by omega) (by have:=hB.size; simp; omega) ?_; intro v' w1 hown' hgrow _; obtain ⟨g',cap',rfl⟩:=ownsRow_succ hown'; obtain ⟨hv1,hv2,hr2,hk2,hb2⟩:=hv.appended (by decide) hrow hB.size (Nat.le_refl _) hown' hgrow; have hc1:=hv1.cell; have hf1:=hv1.frozen)
  exact ⟨hk2.from _,⟨hk2.size,fun k o hk hw=>hk2.same k o hk (Obj.not_cells_of_walk hw)⟩,⟨_,hv2,by rw [show (pre ++ [x]).length=pre.length + 1 from by simp,show (pre ++ [x]).flatMap pcs=pre.flatMap pcs ++ pcs x from by rw [List.flatMap_append,List.flatMap_cons,List.flatMap_nil,List.append_nil]]; exact ⟨hr2,trivial⟩⟩,hB.trans hb2⟩
 case done =>
  rintro D ys W hD hS ⟨⟨v,hv,hrow,_⟩,hB⟩ hK
  have hc:=hv.cell
  gi_wp2
  refine ⟨by simp,.inl ⟨_,_,rfl,run_takeDeferred hK,?_⟩⟩
  exact ⟨_,results_tmp rfl _ _ _,v,ys,rfl,hS,ownsRow_putObj hrow _ hK rfl,hB.trans (belowK_b (w:=w) (Nat.le_refl _) W D _ _ (by simp at hD; omega) hK rfl rfl)⟩
 case stop =>
  rintro D c pre W _ _ h _
  exact h.elim
set_option maxHeartbeats 1000000 in
/-- slices.Collect of it -/
theorem collect_in (F:Fence) (n:Nat) (h8:F.fn 85) (h3:F.fn 109) (h7:F.fn 87) (hro:F.round=none) (hn:4<=n) (Bs b ck:Nat) (es:Array MapEntry) (w:World)
  (hcs:∀ x∈es.toList,∃ q:Int,x.key=pv q) (hold:∀ x∈es.toList,x.born < ck) (hnd:(es.toList.map (·.born)).Nodup) (hlen:es.size<=1000000)
  (hBs:Bs < w.heap.size) (hm:w.cell? ⟨Bs,0,none⟩=some (.map (some b))) (hb:w.heap[b]? = some (.map es ck)) :
  CallsIn F n Tryz.prog 85 #[.func (.func 87) #[] #[.pointer (some ⟨Bs,0,none⟩)]] w fun e W'=>∃ (v:Value) (ys:List Int),e = .returned v/\(ys.map pv).Perm (es.toList.map (·.key))/\W'.ownsRow w.heap.size 25 1 v ys.length (ys.flatMap pcs)/\Below w.heap.size w W':=by
 have h1:1<=n:=by omega
 refine callsIn_of_wp Tryz.func85 rfl h8 ?_ hro
 simp only [Tryz.ntmps85,List.size_toArray,List.length_cons,List.length_nil,Nat.reduceAdd,Nat.reduceSub,Array.replicate_succ,Array.replicate_zero,List.push_toArray,List.append_toArray,List.nil_append,List.cons_append]
 gi_wp2_with (gi_at_call 109; refine (appendSeq_in F (n - 1) h3 h7 hro (by omega) Bs b ck es _ hcs hold hnd hlen hBs hm hb).mono ?_; rintro e w' ⟨v,ys,rfl,hS,hrow,hb2⟩)
 go_ret
 exact ⟨v,ys,rfl,hS,hrow,hb2⟩
end YuYq
end Go.Proofs
end
section
namespace Go.Q.Yq
open Go.Proofs.Tryz
/-- math bits.Len32 -/
def qE (a_:Int) (b_:Int) (k:KP Int) (h_2:Heap):Prop :=
  ∃ v1,(0:Int)<=(IntKind.u8.wrap a_)/\wK (⟨#[0,1,2,2,3,3,3,3,4,4,4,4,4,4,4,4,5,5,5,5,5,5,5,5,5,5,5,5,5,5,5,5,6,6,6,6,6,6,6,6,6,6,6,6,6,6,6,6,6,6,6,6,6,6,6,6,6,6,6,6,6,6,6,6,7,7,7,7,7,7,7,7,7,7,7,7,7,7,7,7,7,7,7,7,7,7,7,7,7,7,7,7,7,7,7,7,7,7,7,7,7,7,7,7,7,7,7,7,7,7,7,7,7,7,7,7,7,7,7,7,7,7,7,7,7,7,7,7,8,8,8,8,8,8,8,8,8,8,8,8,8,8,8,8,8,8,8,8,8,8,8,8,8,8,8,8,8,8,8,8,8,8,8,8,8,8,8,8,8,8,8,8,8,8,8,8,8,8,8,8,8,8,8,8,8,8,8,8,8,8,8,8,8,8,8,8,8,8,8,8,8,8,8,8,8,8,8,8,8,8,8,8,8,8,8,8,8,8,8,8,8,8,8,8,8,8,8,8,8,8,8,8,8,8,8,8,8,8,8,8,8,8,8,8,8,8,8,8,8,8,8,8,8,8,8,8]⟩:ByteArray) (IntKind.u8.wrap a_) v1/\(∃ x2,x2=(IntKind.i64.wrap (b_ + (IntKind.i64.wrap v1)))/\(k x2 h_2))
def qF (a_:Int) (b_:Int) (k:KP Int) (h_1:Heap):Prop :=
  if (decide (a_>=256)) then (∃ x3,x3=(shr .u32 a_ (8:Int).toNat)/\(∃ x4,x4=(IntKind.i64.wrap (b_ + 8))/\(qE x3 x4 k h_1))) else (qE a_ b_ k h_1)
def Ag (p0:Int) (k:KP Int) (h:Heap):Prop :=
  if (decide (p0>=65536)) then (∃ x5,x5=(shr .u32 p0 (16:Int).toNat)/\(qF x5 16 k h)) else (qF p0 0 k h)
/-- math bits.Len64 -/
def nT (a_:Int) (b_:Int) (k:KP Int) (h_3:Heap):Prop :=
  ∃ v1,(0:Int)<=(IntKind.u8.wrap a_)/\wK (⟨#[0,1,2,2,3,3,3,3,4,4,4,4,4,4,4,4,5,5,5,5,5,5,5,5,5,5,5,5,5,5,5,5,6,6,6,6,6,6,6,6,6,6,6,6,6,6,6,6,6,6,6,6,6,6,6,6,6,6,6,6,6,6,6,6,7,7,7,7,7,7,7,7,7,7,7,7,7,7,7,7,7,7,7,7,7,7,7,7,7,7,7,7,7,7,7,7,7,7,7,7,7,7,7,7,7,7,7,7,7,7,7,7,7,7,7,7,7,7,7,7,7,7,7,7,7,7,7,7,8,8,8,8,8,8,8,8,8,8,8,8,8,8,8,8,8,8,8,8,8,8,8,8,8,8,8,8,8,8,8,8,8,8,8,8,8,8,8,8,8,8,8,8,8,8,8,8,8,8,8,8,8,8,8,8,8,8,8,8,8,8,8,8,8,8,8,8,8,8,8,8,8,8,8,8,8,8,8,8,8,8,8,8,8,8,8,8,8,8,8,8,8,8,8,8,8,8,8,8,8,8,8,8,8,8,8,8,8,8,8,8,8,8,8,8,8,8,8,8,8,8,8,8,8,8,8,8]⟩:ByteArray) (IntKind.u8.wrap a_) v1/\(∃ x2,x2=(IntKind.i64.wrap (b_ + (IntKind.i64.wrap v1)))/\(k x2 h_3))
def nN (a_:Int) (b_:Int) (k:KP Int) (h_2:Heap):Prop :=
  if (decide (a_>=256)) then (∃ x3,x3=(shr .u64 a_ (8:Int).toNat)/\(∃ x4,x4=(IntKind.i64.wrap (b_ + 8))/\(nT x3 x4 k h_2))) else (nT a_ b_ k h_2)
def nX (a_:Int) (b_:Int) (k:KP Int) (h_1:Heap):Prop :=
  if (decide (a_>=65536)) then (∃ x5,x5=(shr .u64 a_ (16:Int).toNat)/\(∃ x6,x6=(IntKind.i64.wrap (b_ + 16))/\(nN x5 x6 k h_1))) else (nN a_ b_ k h_1)
def uI (p0:Int) (k:KP Int) (h:Heap):Prop :=
  if (decide (p0>=4294967296)) then (∃ x7,x7=(shr .u64 p0 (32:Int).toNat)/\(nX x7 32 k h)) else (nX p0 0 k h)
/-- math bits.Len -/
def qw (p0:Int) (k:KP Int) (h:Heap):Prop :=
  if false then (Ag (IntKind.u32.wrap p0) (fun r1 h2=>k r1 h2) h) else (uI p0 (fun r3 h4=>k r3 h4) h)
/-- cmp.Less uint64  -/
def nQ (a_:Int) (b_:Int) (d_:Bool) (k:KP Bool) (h_1:Heap):Prop :=
  k (d_ || (decide (a_ < b_))) h_1
def bv (p0:Int) (p1:Int) (k:KP Bool) (h:Heap):Prop :=
  iJ p0 (fun r1 h2=>if r1 then (iJ p1 (fun r3 h4=>nQ p0 p1 (!r3) k h4) h2) else (nQ p0 p1 false k h2)) h
/-- slices.insertionSortOrdered uint64  -/
def bn (b_:Slc) (g_:Int) (h_:Int) (d_:Int) (a_:Int) (f_:Bool) (k:KP Unit) (nx1:KP Int) (nx2:KP Int) (h_3:Heap):Prop :=
  if f_ then (∃ a2,b_.a=some a2/\(0:Int)<=(IntKind.i64.wrap (a_ - 1))/\(IntKind.i64.wrap (a_ - 1)) < (b_.len:Int)/\(∃ v3,ah h_3 (a2.add ((IntKind.i64.wrap (a_ - 1)).toNat * 1))=some (.int .u64 v3)/\(∃ a4,b_.a=some a4/\(0:Int)<=a_/\a_ < (b_.len:Int)/\(∃ v5,ah h_3 (a4.add (a_.toNat * 1))=some (.int .u64 v5)/\(∃ a6,b_.a=some a6/\(0:Int)<=a_/\a_ < (b_.len:Int)/\(∃ h7,WrH h_3 (a6.add (a_.toNat * 1))/\h7=setH h_3 (a6.add (a_.toNat * 1)) (.int .u64 v3)/\(∃ a8,b_.a=some a8/\(0:Int)<=(IntKind.i64.wrap (a_ - 1))/\(IntKind.i64.wrap (a_ - 1)) < (b_.len:Int)/\(∃ h9,WrH h7 (a8.add ((IntKind.i64.wrap (a_ - 1)).toNat * 1))/\h9=setH h7 (a8.add ((IntKind.i64.wrap (a_ - 1)).toNat * 1)) (.int .u64 v5)/\(∃ x10,x10=(IntKind.i64.wrap (a_ - 1))/\(nx2 x10 h9)))))))))) else (∃ x11,x11=(IntKind.i64.wrap (d_ + 1))/\(nx1 x11 h_3))
def ja (b_:Slc) (d_:Int) (f_:Int) (g_:Int) (a_:Int) (k:KP Unit) (nx1:KP Int) (nx2:KP Int) (h_2:Heap):Prop :=
  if (decide (a_ > d_)) then (∃ a12,b_.a=some a12/\(0:Int)<=a_/\a_ < (b_.len:Int)/\(∃ v13,ah h_2 (a12.add (a_.toNat * 1))=some (.int .u64 v13)/\(∃ a14,b_.a=some a14/\(0:Int)<=(IntKind.i64.wrap (a_ - 1))/\(IntKind.i64.wrap (a_ - 1)) < (b_.len:Int)/\(∃ v15,ah h_2 (a14.add ((IntKind.i64.wrap (a_ - 1)).toNat * 1))=some (.int .u64 v15)/\(bv v13 v15 (fun r16 h17=>bn b_ d_ f_ g_ a_ r16 k nx1 nx2 h17) h_2))))) else (bn b_ d_ f_ g_ a_ false k nx1 nx2 h_2)
def jE (b_:Slc) (d_:Int) (f_:Int) (g_:Int) (i7:Int) (k:KP Unit) (nx1:KP Int) (h:Heap):Prop :=
  ∃ (I:KP Int) (μ:Int->Heap->Nat),I i7 h/\∀ (a_:Int) (h:Heap),I a_ h->ja b_ d_ f_ g_ a_ k nx1 (fun s h'=>I s h'/\μ s h' < μ a_ h) h
def iU (d_:Slc) (f_:Int) (b_:Int) (a_:Int) (k:KP Unit) (nx1:KP Int) (h_1:Heap):Prop :=
  if (decide (a_ < b_)) then (jE d_ f_ b_ a_ a_ k nx1 h_1) else (k () h_1)
def jy (b_:Slc) (d_:Int) (f_:Int) (i6:Int) (k:KP Unit) (h:Heap):Prop :=
  ∃ (I:KP Int) (μ:Int->Heap->Nat),I i6 h/\∀ (a_:Int) (h:Heap),I a_ h->iU b_ d_ f_ a_ k (fun s h'=>I s h'/\μ s h' < μ a_ h) h
def dQ (p0:Slc) (p1:Int) (p2:Int) (k:KP Unit) (h:Heap):Prop :=
  ∃ x1,x1=(IntKind.i64.wrap (p1 + 1))/\(jy p0 p1 p2 x1 k h)
theorem Ra:aF prog 122:=ck func122
theorem Tc (p0 k h) (H:Ag p0 k h):CallsH prog 122 #[.int .u32 p0] h (rI .i64 k):=by
 refine fE func122 fun w0=>?_
 refine zF [0] (zQ ?_)
 refine w1 Z (zE ?_)
 refine zJ (α:=Int × Int) [] (fun (s:Int × Int)=>[(0,.int .u32 s.1),(2,.int .i64 s.2)]) (fun (s:Int × Int) h=>qF s.1 s.2 k h) ?_ ?_
 rintro ⟨a_,b_⟩ h_1 H
 refine zF [0,2] ?_
 refine zJ (α:=Int × Int) [] (fun (s:Int × Int)=>[(0,.int .u32 s.1),(2,.int .i64 s.2)]) (fun (s:Int × Int) h=>qE s.1 s.2 k h) ?_ ?_
 rintro ⟨d_,f_⟩ h_2 H
 refine zF [0,2] (zQ ?_)
 refine w3 Z ?_
 obtain ⟨v1,lv1,hv1,H⟩:=H
 refine wY (uF Z rfl rfl rfl rfl lv1 hv1) ?_
 refine w2 Z ?_
 refine wQ Z H fun x2 H=>?_
 refine zE (zF [2] (zT ?_))
 exact aB _ rfl _ rfl ⟨x2,rfl,H⟩
 refine zQ (w2 Z (zE ?_))
 refine zI H ?_ ?_ <;> intro H
 refine zQ (w2 Z ?_)
 refine wQ Z H fun x3 H=>?_
 refine zE (zR (w2 Z ?_))
 refine wQ Z H fun x4 H=>?_
 refine zW ?_
 exact xJ (x3,x4) H
 refine zK ?_
 exact xJ (a_,b_) H
 refine zQ (w2 Z (zE ?_))
 refine zI H ?_ ?_ <;> intro H
 refine zQ (w2 Z ?_)
 refine wQ Z H fun x5 H=>?_
 refine zE (zR (w1 Z (zW ?_)))
 exact xJ (x5,16) H
 refine zK ?_
 exact xJ (p0,0) H
theorem Sy:aF prog 123:=ck func123
theorem QX (p0 k h) (H:uI p0 k h):CallsH prog 123 #[.int .u64 p0] h (rI .i64 k):=by
 refine fE func123 fun w0=>?_
 refine zF [0] (zQ ?_)
 refine w1 Z (zE ?_)
 refine zJ (α:=Int × Int) [] (fun (s:Int × Int)=>[(0,.int .u64 s.1),(2,.int .i64 s.2)]) (fun (s:Int × Int) h=>nX s.1 s.2 k h) ?_ ?_
 rintro ⟨a_,b_⟩ h_1 H
 refine zF [0,2] ?_
 refine zJ (α:=Int × Int) [] (fun (s:Int × Int)=>[(0,.int .u64 s.1),(2,.int .i64 s.2)]) (fun (s:Int × Int) h=>nN s.1 s.2 k h) ?_ ?_
 rintro ⟨d_,f_⟩ h_2 H
 refine zF [0,2] ?_
 refine zJ (α:=Int × Int) [] (fun (s:Int × Int)=>[(0,.int .u64 s.1),(2,.int .i64 s.2)]) (fun (s:Int × Int) h=>nT s.1 s.2 k h) ?_ ?_
 rintro ⟨g_,h_⟩ h_3 H
 refine zF [0,2] (zQ ?_)
 refine w3 Z ?_
 obtain ⟨v1,lv1,hv1,H⟩:=H
 refine wY (uF Z rfl rfl rfl rfl lv1 hv1) ?_
 refine w2 Z ?_
 refine wQ Z H fun x2 H=>?_
 refine zE (zF [2] (zT ?_))
 exact aB _ rfl _ rfl ⟨x2,rfl,H⟩
 refine zQ (w2 Z (zE ?_))
 refine zI H ?_ ?_ <;> intro H
 refine zQ (w2 Z ?_)
 refine wQ Z H fun x3 H=>?_
 refine zE (zR (w2 Z ?_))
 refine wQ Z H fun x4 H=>?_
 refine zW ?_
 exact xJ (x3,x4) H
 refine zK ?_
 exact xJ (d_,f_) H
 refine zQ (w2 Z (zE ?_))
 refine zI H ?_ ?_ <;> intro H
 refine zQ (w2 Z ?_)
 refine wQ Z H fun x5 H=>?_
 refine zE (zR (w2 Z ?_))
 refine wQ Z H fun x6 H=>?_
 refine zW ?_
 exact xJ (x5,x6) H
 refine zK ?_
 exact xJ (a_,b_) H
 refine zQ (w2 Z (zE ?_))
 refine zI H ?_ ?_ <;> intro H
 refine zQ (w2 Z ?_)
 refine wQ Z H fun x7 H=>?_
 refine zE (zR (w1 Z (zW ?_)))
 exact xJ (x7,32) H
 refine zK ?_
 exact xJ (p0,0) H
theorem O96:aF prog 96:=ck func96
theorem R96 (p0 k h) (H:qw p0 k h):CallsH prog 96 #[.int .u64 p0] h (rI .i64 k):=by
 refine fE func96 fun w0=>?_
 refine zF [0] (zQ ?_)
 refine w1 Z (zE (zS ?_))
 refine zI H ?_ ?_ <;> intro H
 refine zQ (w2 Z ?_)
 refine wC Ra (Tc _ _ _ H) fun r1 h2 H=>?_
 refine w1 Z (zE (zT (yT ?_)))
 exact aB _ rfl _ rfl ⟨r1,rfl,H⟩
 refine zK (zX (zQ (w1 Z ?_)))
 refine wC Sy (QX _ _ _ H) fun r3 h4 H=>?_
 refine w1 Z (zE (zT ?_))
 exact aB _ rfl _ rfl ⟨r3,rfl,H⟩
theorem Da:aF prog 141:=ck func141
theorem Cu (p0 p1 k h) (H:bv p0 p1 k h):CallsH prog 141 #[.int .u64 p0,.int .u64 p1] h (rB k):=by
 refine fE func141 fun w0=>?_
 refine zF [0,1] (zQ ?_)
 refine w1 Z (zE (zQ ?_))
 refine w1 Z ?_
 refine wC O92 (R92 _ _ _ H) fun r1 h2 H=>?_
 refine w1 Z ?_
 refine vJ 4 (α:=Bool) [0,1] (fun (s:Bool)=>[(11,.bool s)]) (fun (s:Bool) h=>nQ p0 p1 s k h) ?_ ?_
 rintro a_ h_1 H
 refine vF [11,0,1] ?_
 refine w1 Z ?_
 refine vU 4 [] [(16,.bool (a_ || (decide (p0 < p1))))] ?_ ?_
 refine w1 Z (zE (zT ?_))
 exact aB _ rfl _ rfl ⟨(a_ || (decide (p0 < p1))),rfl,H⟩
 refine vG (d:=12) (fun hb=>?_) (fun hb=>?_)
 refine wS (wS (wS (w1 Z ?_)))
 refine vK ?_
 exact congrArg (fun b=>some (Value.bool b)) (BN hb)
 refine w4 Z ?_
 refine vK ?_
 exact congrArg (fun b=>some (Value.bool b)) (BO hb)
 refine vI 7 H ?_ ?_ <;> intro H
 refine w1 Z ?_
 refine wC O92 (R92 _ _ _ H) fun r3 h4 H=>?_
 refine w2 Z ?_
 exact wJ (!r3) H
 refine wS (wS (wS (w1 Z ?_)))
 exact wJ false H
theorem SY:aF prog 135:=ck func135
theorem RY (p0 p1 p2 k h) (H:dQ p0 p1 p2 k h):CallsH prog 135 #[Slc.v p0,.int .i64 p1,.int .i64 p2] h (rU k):=by
 refine fE func135 fun w0=>?_
 refine zF [0,1,2] (zQ ?_)
 refine w2 Z ?_
 refine wQ Z H fun x1 H=>?_
 refine zE (zB ?_)
 obtain ⟨I1,μ1,H0,HI⟩:=H
 refine zO (σ:=Int) [0,1,2] (fun (s:Int)=>[(6,.int .i64 s)]) I1 μ1 x1 H0 ?_
 rintro a_ h_1 H
 replace H:=HI a_ h_1 H
 refine zF [6,0,1,2] (zS (zQ ?_))
 refine w3 Z (zE ?_)
 refine zI H ?_ ?_ <;> intro H
 refine zK (zX (zS (zB (zQ (w2 Z (zE (zB ?_)))))))
 obtain ⟨I2,μ2,H0,HI⟩:=H
 refine zO (σ:=Int) [0,1,2,6] (fun (s:Int)=>[(7,.int .i64 s)]) I2 μ2 a_ H0 ?_
 rintro b_ h_2 H
 replace H:=HI b_ h_2 H
 refine zF [7,0,1,2,6] (zS ?_)
 refine zJ (α:=Bool) [0,1,2,6,7] (fun (s:Bool)=>[(30,.bool s)]) (fun (s:Bool) h=>bn p0 p1 p2 a_ b_ s k (fun s h'=>I1 s h'/\μ1 s h' < μ1 a_ h_1) (fun s h'=>I2 s h'/\μ2 s h' < μ2 b_ h_2) h) ?_ ?_
 rintro d_ h_3 H
 refine zF [30,0,1,2,6,7] ?_
 refine zI H ?_ ?_ <;> intro H
 refine zK (zX (zS (zB ?_)))
 refine gB [0,1,2,6,7] ?_
 refine gT 0 [0] Z ?_
 refine gT 1 [7] Z ?_
 refine gT 2 [0] Z ?_
 refine gT 3 [7] Z ?_
 refine gT 4 [36] Z ?_
 refine gT 5 [0] Z ?_
 refine gT 6 [7] Z ?_
 refine gT 7 [39] Z ?_
 refine gd 8 [38,40] Z H fun a2 H=>?_
 refine gl 9 [41] Z H fun v3 H=>?_
 refine gT 10 [0] Z ?_
 refine gT 11 [7] Z ?_
 refine gd 12 [43,44] Z H fun a4 H=>?_
 refine gl 13 [45] Z H fun v5 H=>?_
 refine gd 14 [33,34] Z H fun a6 H=>?_
 refine gs 15 [42,47] Z H fun h7 H=>?_
 refine gd 16 [35,37] Z H fun a8 H=>?_
 refine gs 17 [46,48] Z H fun h9 H=>?_
 refine gZ ?_
 refine yL (zX (zF [0,1,2,6,7] (zR ?_)))
 refine w2 Z ?_
 refine wQ Z H fun x10 H=>?_
 refine zW ?_
 exact xJ x10 H
 refine zY (yE (yE (yH (yL (zX (zR (w2 Z ?_)))))))
 refine wQ Z H fun x11 H=>?_
 refine zW ?_
 exact xJ x11 H
 refine gB [0,1,2,6,7] ?_
 refine gT 0 [7] Z ?_
 refine gT 1 [1] Z ?_
 refine gT 2 [16,17] Z ?_
 refine gT 3 [18] Z ?_
 refine gI 19 H (fun hb H=>?_) (fun hb H=>?_)
 refine gT 4 [0,19] Z ?_
 refine gT 5 [7,19] Z ?_
 refine gd 6 [19,20,21] Z H fun a12 H=>?_
 refine gl 7 [19,22] Z H fun v13 H=>?_
 refine gT 8 [0,19] Z ?_
 refine gT 9 [7,19] Z ?_
 refine gT 10 [19,25] Z ?_
 refine gd 11 [19,24,26] Z H fun a14 H=>?_
 refine gl 12 [19,27] Z H fun v15 H=>?_
 refine gC 13 [19,23,28] Da (Cu _ _ _ _ H) fun r16 h17 H=>?_
 refine gT 14 [19,29] Z ?_
 refine gZ ?_
 exact xJ r16 H
 refine gS 4 [0,19] ?_
 refine gS 5 [7,19] ?_
 refine gS 6 [19,20,21] ?_
 refine gS 7 [19,22] ?_
 refine gS 8 [0,19] ?_
 refine gS 9 [7,19] ?_
 refine gS 10 [19,25] ?_
 refine gS 11 [19,24,26] ?_
 refine gS 12 [19,27] ?_
 refine gS 13 [19,23,28] ?_
 refine gT 14 [19,29] Z ?_
 refine gZ ?_
 exact xJ false H
 refine zY (yE (yE (yH ?_)))
 exact CQ _ rfl _ rfl ⟨(),rfl,H⟩
end Go.Q.Yq
end

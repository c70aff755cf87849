/- A part of the proof of statements of this seat: lemmas, no statement of their own. -/
import Derived.Test.YtgbbpanapnkdbaaGreatYqZad
import Derived.Test.YtgbbpanapnkdbaaGreatYqZae
import Derived.Test.YtgbbpanapnkdbaaGreatYqZap
import Derived.Test.YtgbbpanapnkdbaaGreatYqZao
import Derived.Sort.AssemblyPlain
set_option linter.unusedVariables false
set_option linter.unusedSimpArgs false
section
set_option maxRecDepth 100000
set_option maxHeartbeats 1000000
namespace Go.Q.Yq
/-- what a call of itself is taken to do -/
structure PdqR where
  R:Slc->Int->Int->Int->(Unit->Heap->Prop)->Heap->Prop
  R_ref:∀ (p0:Slc) (p1 p2 p3:Int) (k:Unit->Heap->Prop) (h:Heap),R p0 p1 p2 p3 k h->CallsH Go.Proofs.Tryz.prog 110 #[Slc.v p0,.int .i64 p1,.int .i64 p2,.int .i64 p3] h (fun v h'=>∃ r:Unit,v = .tuple #[]/\k r h')
open Go.Proofs.Tryz
/-- slices.pdqsortOrdered uint64  -/
def slices_pdqsortOrdered_uint64_j5 (Q:PdqR) (t0_5:Slc) (t1_5:Int) (t2_5:Int) (t3_5:Int) (t8_5:Bool) (t9_5:Bool) (t10_5:Int) (t11_5:Int) (t87_5:Bool) (k:(Unit)->Heap->Prop) (nx1:(Int × Int × Int × Bool × Bool)->Heap->Prop) (h_5:Heap):Prop :=
  if t87_5 then (slices_partitionEqualOrdered_uint64 t0_5 t1_5 t2_5 t11_5 (fun (r8:Int) h9=>nx1 (r8,t2_5,t3_5,t8_5,t9_5) h9) h_5) else (slices_partitionOrdered_uint64 t0_5 t1_5 t2_5 t11_5 (fun (r10:Int × Bool) h11=>∃ x12:Int,x12=(IntKind.i64.wrap (r10.1 - t1_5))/\(∃ x13:Int,x13=(IntKind.i64.wrap (t2_5 - r10.1))/\(∃ x14:Int,x14=(IntKind.i64.wrap (Int.tdiv t10_5 8))/\(if (decide (x12 < x13)) then (Q.R t0_5 t1_5 r10.1 t3_5 (fun (r15:Unit) h16=>∃ x17:Int,x17=(IntKind.i64.wrap (r10.1 + 1))/\(nx1 (x17,t2_5,t3_5,(decide (x12>=x14)),r10.2) h16)) h11) else (Q.R t0_5 (IntKind.i64.wrap (r10.1 + 1)) t2_5 t3_5 (fun (r18:Unit) h19=>nx1 (t1_5,r10.1,t3_5,(decide (x13>=x14)),r10.2) h19) h11))))) h_5)
def slices_pdqsortOrdered_uint64_j4 (Q:PdqR) (t0_4:Slc) (t1_4:Int) (t2_4:Int) (t3_4:Int) (t8_4:Bool) (t9_4:Bool) (t10_4:Int) (t11_4:Int) (k:(Unit)->Heap->Prop) (nx1:(Int × Int × Int × Bool × Bool)->Heap->Prop) (h_4:Heap):Prop :=
  if (decide (t1_4 > 0)) then (∃ a20:Addr,t0_4.a=some a20/\(0:Int)<=(IntKind.i64.wrap (t1_4 - 1))/\(IntKind.i64.wrap (t1_4 - 1)) < (t0_4.len:Int)/\(∃ v21:Int,cellH h_4 (a20.add ((IntKind.i64.wrap (t1_4 - 1)).toNat * 1))=some (.int .u64 v21)/\(∃ a22:Addr,t0_4.a=some a22/\(0:Int)<=t11_4/\t11_4 < (t0_4.len:Int)/\(∃ v23:Int,cellH h_4 (a22.add (t11_4.toNat * 1))=some (.int .u64 v23)/\(cmp_Less_uint64 v21 v23 (fun (r24:Bool) h25=>slices_pdqsortOrdered_uint64_j5 Q t0_4 t1_4 t2_4 t3_4 t8_4 t9_4 t10_4 t11_4 (!r24) k nx1 h25) h_4))))) else (slices_pdqsortOrdered_uint64_j5 Q t0_4 t1_4 t2_4 t3_4 t8_4 t9_4 t10_4 t11_4 false k nx1 h_4)
def slices_pdqsortOrdered_uint64_j3 (Q:PdqR) (t0_3:Slc) (t1_3:Int) (t2_3:Int) (t3_3:Int) (t8_3:Bool) (t9_3:Bool) (t10_3:Int) (t11_3:Int) (t12_3:Int) (k:(Unit)->Heap->Prop) (nx1:(Int × Int × Int × Bool × Bool)->Heap->Prop) (h_3:Heap):Prop :=
  if ((t8_3 && t9_3) && (t12_3 == 1)) then (slices_partialInsertionSortOrdered_uint64 t0_3 t1_3 t2_3 (fun (r26:Bool) h27=>if r26 then (k () h27) else (slices_pdqsortOrdered_uint64_j4 Q t0_3 t1_3 t2_3 t3_3 t8_3 t9_3 t10_3 t11_3 k nx1 h27)) h_3) else (slices_pdqsortOrdered_uint64_j4 Q t0_3 t1_3 t2_3 t3_3 t8_3 t9_3 t10_3 t11_3 k nx1 h_3)
def slices_pdqsortOrdered_uint64_j2 (Q:PdqR) (t0_2:Slc) (t1_2:Int) (t2_2:Int) (t8_2:Bool) (t9_2:Bool) (t10_2:Int) (t3_2:Int) (k:(Unit)->Heap->Prop) (nx1:(Int × Int × Int × Bool × Bool)->Heap->Prop) (h_2:Heap):Prop :=
  slices_choosePivotOrdered_uint64 t0_2 t1_2 t2_2 (fun (r6:Int × Int) h7=>if (r6.2 == 2) then (slices_reverseRangeOrdered_uint64 t0_2 t1_2 t2_2 (fun (r28:Unit) h29=>∃ x30:Int,x30=(IntKind.i64.wrap ((IntKind.i64.wrap (t2_2 - 1)) - (IntKind.i64.wrap (r6.1 - t1_2))))/\(slices_pdqsortOrdered_uint64_j3 Q t0_2 t1_2 t2_2 t3_2 t8_2 t9_2 t10_2 x30 1 k nx1 h29)) h7) else (slices_pdqsortOrdered_uint64_j3 Q t0_2 t1_2 t2_2 t3_2 t8_2 t9_2 t10_2 r6.1 r6.2 k nx1 h7)) h_2
def slices_pdqsortOrdered_uint64_l1b (Q:PdqR) (t0_1:Slc) (t1_1:Int) (t2_1:Int) (t3_1:Int) (t8_1:Bool) (t9_1:Bool) (k:(Unit)->Heap->Prop) (nx1:(Int × Int × Int × Bool × Bool)->Heap->Prop) (h_1:Heap):Prop :=
  ∃ x1:Int,x1=(IntKind.i64.wrap (t2_1 - t1_1))/\(if (decide (x1<=12)) then (slices_insertionSortOrdered_uint64 t0_1 t1_1 t2_1 (fun (r2:Unit) h3=>k () h3) h_1) else (if (t3_1 == 0) then (slices_heapSortOrdered_uint64 t0_1 t1_1 t2_1 (fun (r4:Unit) h5=>k () h5) h_1) else (if (!t8_1) then (slices_breakPatternsOrdered_uint64 t0_1 t1_1 t2_1 (fun (r31:Unit) h32=>∃ x33:Int,x33=(IntKind.i64.wrap (t3_1 - 1))/\(slices_pdqsortOrdered_uint64_j2 Q t0_1 t1_1 t2_1 t8_1 t9_1 x1 x33 k nx1 h32)) h_1) else (slices_pdqsortOrdered_uint64_j2 Q t0_1 t1_1 t2_1 t8_1 t9_1 x1 t3_1 k nx1 h_1))))
def slices_pdqsortOrdered_uint64_l1 (Q:PdqR) (t0_1:Slc) (i1:Int) (i2:Int) (i3:Int) (i8:Bool) (i9:Bool) (k:(Unit)->Heap->Prop) (h:Heap):Prop :=
  ∃ (I:(Int × Int × Int × Bool × Bool)->Heap->Prop) (μ:(Int × Int × Int × Bool × Bool)->Heap->Nat),I (i1,i2,i3,i8,i9) h/\∀ (t1_1:Int) (t2_1:Int) (t3_1:Int) (t8_1:Bool) (t9_1:Bool) (h:Heap),I (t1_1,t2_1,t3_1,t8_1,t9_1) h->slices_pdqsortOrdered_uint64_l1b Q t0_1 t1_1 t2_1 t3_1 t8_1 t9_1 k (fun s h'=>I s h'/\μ s h' < μ (t1_1,t2_1,t3_1,t8_1,t9_1) h) h
def slices_pdqsortOrdered_uint64 (Q:PdqR) (p0:Slc) (p1:Int) (p2:Int) (p3:Int) (k:(Unit)->Heap->Prop) (h:Heap):Prop :=
  slices_pdqsortOrdered_uint64_l1 Q p0 p1 p2 p3 true true k h
theorem O110:CallOk prog 110:=ck func110
theorem R110 (Q:PdqR) (p0 p1 p2 p3 k h) (H:slices_pdqsortOrdered_uint64 Q p0 p1 p2 p3 k h):CallsH prog 110 #[Slc.v p0,.int .i64 p1,.int .i64 p2,.int .i64 p3] h (fun v h'=>∃ r:Unit,v = .tuple #[]/\k r h'):=by
 refine fE func110 fun w0=>?_
 refine zF [0,1,2,3] (zQ ?_)
 refine w1 tok (zE (zQ ?_))
 refine w1 tok (zE (zB ?_))
 obtain ⟨I1,μ1,H0,HI⟩:=H
 refine zO (σ:=Int × Int × Int × Bool × Bool) [0] (fun (s:Int × Int × Int × Bool × Bool)=>[(1,.int .i64 s.1),(2,.int .i64 s.2.1),(3,.int .i64 s.2.2.1),(8,.bool s.2.2.2.1),(9,.bool s.2.2.2.2)]) I1 μ1 (p1,p2,p3,true,true) H0 ?_
 rintro ⟨t1_1,t2_1,t3_1,t8_1,t9_1⟩ h_1 H
 replace H:=HI t1_1 t2_1 t3_1 t8_1 t9_1 h_1 H
 refine zF [1,2,3,8,9,0] (zB (zQ ?_))
 refine w3 tok ?_
 obtain ⟨x1,ex1,H⟩:=H
 refine w_pe tok rfl (congrArg (fun z=>(.int .i64 z:Value)) ex1) rfl rfl ?_
 refine zE (zS (zQ (w2 tok (zE ?_))))
 refine zI H ?_ ?_ <;> intro H
 refine zQ (w3 tok ?_)
 refine wC O135 (R135 _ _ _ _ _ H) fun r2 h3 H=>?_
 refine zE (zF [] (zT (yT (yB (yT (yB ?_))))))
 exact x_ret _ rfl _ rfl ⟨(),rfl,H⟩
 refine zK (zX (zS (zQ (w2 tok (zE ?_)))))
 refine zI H ?_ ?_ <;> intro H
 refine zQ (w3 tok ?_)
 refine wC O136 (R136 _ _ _ _ _ H) fun r4 h5 H=>?_
 refine zE (zF [] (zT (yT (yB (yT (yB ?_))))))
 exact x_ret _ rfl _ rfl ⟨(),rfl,H⟩
 refine zK (zX (zF [1,2,3,8,9,0,10] ?_))
 refine zJ (α:=Int) [0,1,2,8,9,10] (fun (s:Int)=>[(3,.int .i64 s)]) (fun (s:Int) h=>slices_pdqsortOrdered_uint64_j2 Q p0 t1_1 t2_1 t8_1 t9_1 x1 s k (fun s h'=>I1 s h'/\μ1 s h' < μ1 (t1_1,t2_1,t3_1,t8_1,t9_1) h_1) h) ?_ ?_
 rintro t3_2 h_2 H
 refine zF [3,0,1,2,8,9,10] (zQ ?_)
 refine w3 tok ?_
 refine wC O138 (R138 _ _ _ _ _ H) fun r6 h7 H=>?_
 refine w5 tok (zE (zF [3,0,1,2,8,9,10,11,12] ?_))
 refine zJ (α:=Int × Int) [0,1,2,3,8,9,10] (fun (s:Int × Int)=>[(11,.int .i64 s.1),(12,.int .i64 s.2)]) (fun (s:Int × Int) h=>slices_pdqsortOrdered_uint64_j3 Q p0 t1_1 t2_1 t3_2 t8_1 t9_1 x1 s.1 s.2 k (fun s h'=>I1 s h'/\μ1 s h' < μ1 (t1_1,t2_1,t3_1,t8_1,t9_1) h_1) h) ?_ ?_
 rintro ⟨t11_3,t12_3⟩ h_3 H
 refine zF [11,12,0,1,2,3,8,9,10] ?_
 refine zJ (α:=Unit) [0,1,2,3,8,9,10,11] (fun (s:Unit)=>[]) (fun (s:Unit) h=>slices_pdqsortOrdered_uint64_j4 Q p0 t1_1 t2_1 t3_2 t8_1 t9_1 x1 t11_3 k (fun s h'=>I1 s h'/\μ1 s h' < μ1 (t1_1,t2_1,t3_1,t8_1,t9_1) h_1) h) ?_ ?_
 rintro _ h_4 H
 refine zF [0,1,2,3,8,9,10,11] (zS ?_)
 refine zJ (α:=Bool) [0,1,2,3,8,9,10,11] (fun (s:Bool)=>[(87,.bool s)]) (fun (s:Bool) h=>slices_pdqsortOrdered_uint64_j5 Q p0 t1_1 t2_1 t3_2 t8_1 t9_1 x1 t11_3 s k (fun s h'=>I1 s h'/\μ1 s h' < μ1 (t1_1,t2_1,t3_1,t8_1,t9_1) h_1) h) ?_ ?_
 rintro t87_5 h_5 H
 refine zF [87,0,1,2,3,8,9,10,11] ?_
 refine zI H ?_ ?_ <;> intro H
 refine zQ (w4 tok ?_)
 refine wC O142 (R142 _ _ _ _ _ _ H) fun r8 h9 H=>?_
 refine w1 tok (zE (zF [0,2,3,8,9,13] (zQ ?_)))
 refine w2 tok (zE (zY (yE (yH ?_))))
 exact xJ (r8,t2_1,t3_2,t8_1,t9_1) H
 refine zK (zX (zQ (w4 tok ?_)))
 refine wC O143 (R143 _ _ _ _ _ _ H) fun r10 h11 H=>?_
 refine w5 tok (zE (zF [0,1,2,3,10,14,15] (zQ ?_)))
 refine w2 tok (zE (zQ ?_))
 refine w6 tok ?_
 obtain ⟨x12,ex12,H⟩:=H
 refine w_pe tok rfl (congrArg (fun z=>(.int .i64 z:Value)) ex12) rfl rfl ?_
 obtain ⟨x13,ex13,H⟩:=H
 refine w_pe tok rfl (congrArg (fun z=>(.int .i64 z:Value)) ex13) rfl rfl ?_
 refine zE (zF [0,1,2,3,10,14,9,16,17] (zQ ?_))
 refine w2 tok ?_
 obtain ⟨x14,ex14,H⟩:=H
 refine w_pe tok rfl (congrArg (fun z=>(.int .i64 z:Value)) ex14) rfl rfl ?_
 refine zE (zQ (w3 tok (zE ?_)))
 refine zI H ?_ ?_ <;> intro H
 refine zQ (w4 tok (zE (zF [0,1,2,3,14,9,8] (zQ ?_))))
 refine w4 tok ?_
 refine wC O110 (Q.R_ref _ _ _ _ _ _ H) fun r15 h16 H=>?_
 refine zE (zR (w2 tok ?_))
 obtain ⟨x17,ex17,H⟩:=H
 refine w_pe tok rfl (congrArg (fun z=>(.int .i64 z:Value)) ex17) rfl rfl ?_
 refine zL ?_
 exact xJ (x17,t2_1,t3_2,(decide (x12>=x14)),r10.2) H
 refine zQ (w4 tok (zE (zF [0,1,2,3,14,9,8] (zQ ?_))))
 refine w5 tok ?_
 refine wC O110 (Q.R_ref _ _ _ _ _ _ H) fun r18 h19 H=>?_
 refine zE (zF [0,1,3,14,9,8] (zR ?_))
 refine w2 tok (zL ?_)
 exact xJ (t1_1,r10.1,t3_2,(decide (x13>=x14)),r10.2) H
 refine gB [0,1,2,3,8,9,10,11] ?_
 refine gT 0 [1] tok ?_
 refine gT 1 [73] tok ?_
 refine gT 2 [74] tok ?_
 refine gI 75 H (fun hb H=>?_) (fun hb H=>?_)
 refine gT 3 [0,75] tok ?_
 refine gT 4 [1,75] tok ?_
 refine gT 5 [75,77] tok ?_
 obtain ⟨a20,ha20,la20,ua20,H⟩:=H
 refine gY 6 [75,76,78] rfl (fun _=>y_ixa' tok rfl rfl ha20 rfl rfl rfl la20 ua20) ?_
 obtain ⟨v21,hv21,H⟩:=H
 refine gL 7 [75,79] rfl (y_ld tok rfl rfl rfl rfl hv21) ?_
 refine gT 8 [0,75] tok ?_
 refine gT 9 [11,75] tok ?_
 obtain ⟨a22,ha22,la22,ua22,H⟩:=H
 refine gY 10 [75,81,82] rfl (fun _=>y_ixa' tok rfl rfl ha22 rfl rfl rfl la22 ua22) ?_
 obtain ⟨v23,hv23,H⟩:=H
 refine gL 11 [75,83] rfl (y_ld tok rfl rfl rfl rfl hv23) ?_
 refine gC 12 [75,80,84] O141 (R141 _ _ _ _ H) fun r24 h25 H=>?_
 refine gT 13 [75,85] tok ?_
 refine gT 14 [75,86] tok ?_
 refine gZ ?_
 exact xJ (!r24) H
 refine gS 3 [0,75] ?_
 refine gS 4 [1,75] ?_
 refine gS 5 [75,77] ?_
 refine gS 6 [75,76,78] ?_
 refine gS 7 [75,79] ?_
 refine gS 8 [0,75] ?_
 refine gS 9 [11,75] ?_
 refine gS 10 [75,81,82] ?_
 refine gS 11 [75,83] ?_
 refine gS 12 [75,80,84] ?_
 refine gS 13 [75,85] ?_
 refine gT 14 [75,86] tok ?_
 refine gZ ?_
 exact xJ false H
 refine zQ (w2 tok ?_)
 refine vU 2 [0,1,2,3,8,9,10,11,12] [(64,.bool (t8_1 && t9_1))] ?_ ?_
 refine w1 tok ?_
 refine vU 3 [0,1,2,3,8,9,10,11] [(68,.bool ((t8_1 && t9_1) && (t12_3 == 1)))] ?_ ?_
 refine zE ?_
 refine zI H ?_ ?_ <;> intro H
 refine zQ (w3 tok ?_)
 refine wC O140 (R140 _ _ _ _ _ H) fun r26 h27 H=>?_
 refine zE ?_
 refine zI H ?_ ?_ <;> intro H
 refine zT (yT (yB (yT (yB ?_))))
 exact x_ret _ rfl _ rfl ⟨(),rfl,H⟩
 refine zK ?_
 exact xJ () H
 refine zK ?_
 exact xJ () H
 refine vG (d:=65) (fun hb=>?_) (fun hb=>?_)
 refine w3 tok ?_
 refine vK ?_
 exact congrArg (fun b=>some (Value.bool b)) (and_t hb)
 refine wS (wS (w1 tok ?_))
 refine vK ?_
 exact congrArg (fun b=>some (Value.bool b)) (and_f hb)
 refine vG (d:=62) (fun hb=>?_) (fun hb=>?_)
 refine w2 tok ?_
 refine vK ?_
 exact congrArg (fun b=>some (Value.bool b)) (and_t hb)
 refine wS (w1 tok ?_)
 refine vK ?_
 exact congrArg (fun b=>some (Value.bool b)) (and_f hb)
 refine zQ (w2 tok (zE ?_))
 refine zI H ?_ ?_ <;> intro H
 refine zQ (w3 tok ?_)
 refine wC O139 (R139 _ _ _ _ _ H) fun r28 h29 H=>?_
 refine zE (zF [3,0,1,2,8,9,10,11] (zQ ?_))
 refine w6 tok ?_
 obtain ⟨x30,ex30,H⟩:=H
 refine w_pe tok rfl (congrArg (fun z=>(.int .i64 z:Value)) ex30) rfl rfl ?_
 refine zE (zR (w1 tok (zW ?_)))
 exact xJ (x30,1) H
 refine zK ?_
 exact xJ (r6.1,r6.2) H
 refine zQ (w2 tok (zE ?_))
 refine zI H ?_ ?_ <;> intro H
 refine zQ (w3 tok ?_)
 refine wC O137 (R137 _ _ _ _ _ H) fun r31 h32 H=>?_
 refine zE (zR (w2 tok ?_))
 obtain ⟨x33,ex33,H⟩:=H
 refine w_pe tok rfl (congrArg (fun z=>(.int .i64 z:Value)) ex33) rfl rfl ?_
 refine zW ?_
 exact xJ x33 H
 refine zK ?_
 exact xJ t3_1 H
end Go.Q.Yq
end
section
namespace Go.Q.Yq
open Go.Sort
def u8s (l:List Int):List Value:=l.map (Value.int .u64)
/-! ### a row of numbers of one's own -/
/-- all blocks but that of s stay -/
structure Onl (s:Slc) (h h':Heap):Prop where
 size:h.size<=h'.size
 block:∀ g,g < h.size->s.blk≠some g->h'[g]? = h[g]?
theorem Onl.refl (s:Slc) (h:Heap):Onl s h h:=⟨Nat.le_refl _,fun _ _ _=>rfl⟩
theorem Onl.trans {s:Slc} {a b c:Heap} (p:Onl s a b) (q:Onl s b c):Onl s a c:=⟨Nat.le_trans p.size q.size,fun g hg hs=>(q.block g (Nat.lt_of_lt_of_le hg p.size) hs).trans (p.block g hg hs)⟩
def U64 (B:Nat) (h:Heap) (s:Slc) (d:Array Int):Prop:=Row B h 25 1 s (u8s d.toList)
section
variable {B:Nat} {h h':Heap} {s:Slc} {d:Array Int}
theorem U64.len (R:U64 B h s d):s.len=d.size:=by
 have:=Row.len R
 unfold u8s at this
 simpa using this
theorem Onl.ext (O:Onl s h h') (R:U64 B h s d) (hB:B<=h.size):Ext B h h':=⟨O.size,fun g hg=>O.block g (by omega) fun e=>by have:=(R.bd e).1; omega⟩
theorem U64.ld (R:U64 B h s d) {i:Nat} (hi:i < d.size):∃ g,s.a=some ⟨g,0,none⟩/\cellH h ⟨g,i,none⟩=some (.int .u64 d[i]!):=by
 have sl:=R.len
 rcases R.2.2 with ⟨a0,a1,_⟩ | ⟨g,cur,a1,a2,a3,a4,a5,a6⟩
 ·omega
 ·refine ⟨g,a1,?_⟩
  obtain ⟨a,h1,h2⟩:=R.at (j:=i) (by omega)
  rw [a1] at h1; cases h1
  rw [add_mk,Nat.zero_add] at h2
  rw [h2]
  unfold u8s
  rw [List.getElem?_map,Array.getElem?_toList,Array.getElem?_eq_getElem hi,getElem!_pos d i hi]; rfl
theorem U64.st (R:U64 B h s d) {i:Nat} (hi:i < d.size) {g:Nat} (ha:s.a=some ⟨g,0,none⟩) (v:Int):WrH h ⟨g,i,none⟩/\U64 B (setH h ⟨g,i,none⟩ (.int .u64 v)) s (d.setIfInBounds i v)/\Onl s h (setH h ⟨g,i,none⟩ (.int .u64 v)):=by
 have sl:=R.len
 rcases R.2.2 with ⟨a0,a1,_⟩ | ⟨g',cur,a1,a2,a3,a4,a5,a6⟩
 ·omega
 ·rw [ha] at a1; cases a1
  refine ⟨a3.wr (by omega),⟨by unfold u8s; simp; omega,R.2.1,.inr ⟨g,_,ha,a2,a3.set (v:=.int .u64 v),a4,by rw [List.length_set]; exact a5,?_⟩⟩,by rw [setH_size]; exact Nat.le_refl _,fun j _ hs=>setH_other fun e=>hs (by dsimp only at e; rw [e]; simp [Slc.blk,ha])⟩
  unfold u8s at a6 ⊢
  rw [List.take_set,a6,← List.map_set]
  simp
theorem Lss_ok {I J:Int} {k:Bool->Heap->Prop} (R:U64 B h s d) (hI:0<=I/\I < d.size) (hJ:0<=J/\J < d.size) (H:k (ltInt d[I.toNat]! d[J.toNat]!) h) :
  ∃ a1:Addr,s.a=some a1/\(0:Int)<=I/\I < (s.len:Int)/\(∃ v2:Int,cellH h (a1.add (I.toNat * 1))=some (.int .u64 v2)/\(∃ a3:Addr,s.a=some a3/\(0:Int)<=J/\J < (s.len:Int)/\(∃ v4:Int,cellH h (a3.add (J.toNat * 1))=some (.int .u64 v4)/\(cmp_Less_uint64 v2 v4 (fun r h2=>k r h2) h)))):=by
 have sl:=R.len
 obtain ⟨g,ha,c1⟩:=R.ld (i:=I.toNat) (by omega)
 obtain ⟨g2,ha2,c2⟩:=R.ld (i:=J.toNat) (by omega)
 rw [ha] at ha2; cases ha2
 refine ⟨_,ha,hI.1,by omega,_,by rw [add_mk,Nat.zero_add,Nat.mul_one]; exact c1,_,ha,hJ.1,by omega,_,by rw [add_mk,Nat.zero_add,Nat.mul_one]; exact c2,?_⟩
 unfold cmp_Less_uint64 cmp_isNaN_uint64
 show (if (d[I.toNat]! != d[I.toNat]!)=true then _ else _)
 rw [if_neg (by simp)]
 unfold cmp_Less_uint64_g1
 rw [Bool.false_or]
 exact H
theorem swp_size' {d:Array Int} {i j:Nat}:(swp d i j).size=d.size:=by unfold swp; simp
theorem Swp_ok {I J:Int} {k:Heap->Prop} (R:U64 B h s d) (hI:0<=I/\I < d.size) (hJ:0<=J/\J < d.size) (H:∀ h',U64 B h' s (swp d J.toNat I.toNat)->Onl s h h'->k h') :
  ∃ a2:Addr,s.a=some a2/\(0:Int)<=I/\I < (s.len:Int)/\(∃ v3:Int,cellH h (a2.add (I.toNat * 1))=some (.int .u64 v3)/\(∃ a4:Addr,s.a=some a4/\(0:Int)<=J/\J < (s.len:Int)/\(∃ v5:Int,cellH h (a4.add (J.toNat * 1))=some (.int .u64 v5)/\(∃ a6:Addr,s.a=some a6/\(0:Int)<=J/\J < (s.len:Int)/\(∃ h7:Heap,WrH h (a6.add (J.toNat * 1))/\h7=setH h (a6.add (J.toNat * 1)) (.int .u64 v3)/\(∃ a8:Addr,s.a=some a8/\(0:Int)<=I/\I < (s.len:Int)/\(∃ h9:Heap,WrH h7 (a8.add (I.toNat * 1))/\h9=setH h7 (a8.add (I.toNat * 1)) (.int .u64 v5)/\k h9))))))):=by
 have sl:=R.len
 obtain ⟨g,ha,c1⟩:=R.ld (i:=I.toNat) (by omega)
 obtain ⟨g2,ha2,c2⟩:=R.ld (i:=J.toNat) (by omega)
 rw [ha] at ha2; cases ha2
 have e:∀ n,(⟨g,0,none⟩:Addr).add (n * 1)=⟨g,n,none⟩:=fun n=>by rw [add_mk,Nat.zero_add,Nat.mul_one]
 obtain ⟨w1,R1,O1⟩:=R.st (i:=J.toNat) (by omega) ha d[I.toNat]!
 obtain ⟨w2,R2,O2⟩:=R1.st (i:=I.toNat) (by rw [Array.size_setIfInBounds]; omega) ha d[J.toNat]!
 refine ⟨_,ha,hI.1,by omega,_,by rw [e]; exact c1,_,ha,hJ.1,by omega,_,by rw [e]; exact c2,_,ha,hJ.1,by omega,_,by rw [e]; exact w1,rfl,_,ha,hI.1,by omega,_,by rw [e,e]; exact w2,rfl,?_⟩
 rw [e,e]
 exact H _ R2 (O1.trans O2)
/-! ### the sort by insertion -/
theorem insInner_stop {lt:Int->Int->Bool} {a:Nat}:∀ {j:Nat} {d:Array Int},j<=a->insInner lt a j d=d
 | 0,d,_=>rfl
 | j + 1,d,h=>by
  unfold insInner
  rw [if_neg (by simp; omega)]
theorem Ins_ok {a b:Nat} {k:Unit->Heap->Prop} (R:U64 B h s d) (ab:a<=b) (hb:b<=d.size) (hz:d.size<=1000000) (H:∀ h',U64 B h' s (insertionSort ltInt d a b)->Onl s h h'->k () h'):slices_insertionSortOrdered_uint64 s a b k h:=by
 unfold slices_insertionSortOrdered_uint64
 rw [wrapI64 (by omega) (by omega)]
 refine ⟨_,rfl,?_⟩
 unfold slices_insertionSortOrdered_uint64_l1
 refine ⟨fun i h'=>∃ d',U64 B h' s d'/\(a:Int) + 1<=i/\i<=d.size + 1/\insOuter ltInt a b i.toNat d'=insertionSort ltInt d a b/\d'.size=d.size/\Onl s h h',fun i _=>(b - i).toNat,⟨d,R,by omega,by omega,by rw [show ((a:Int) + 1).toNat=a + 1 from by omega]; rfl,rfl,Onl.refl _ _⟩,?_⟩
 rintro i h1 ⟨d1,R1,i0,i1,e1,z1,O1⟩
 unfold slices_insertionSortOrdered_uint64_l1b
 by_cases hi:i < b
 ·rw [if_pos (decide_eq_true hi)]
  rw [insOuter,if_pos (by omega)] at e1
  unfold slices_insertionSortOrdered_uint64_l2
  refine ⟨fun j h'=>∃ d',U64 B h' s d'/\(a:Int)<=j/\j<=i/\insOuter ltInt a b (i.toNat + 1) (insInner ltInt a j.toNat d')=insertionSort ltInt d a b/\d'.size=d.size/\Onl s h h',fun j _=>(j - a).toNat,⟨d1,R1,by omega,by omega,e1,z1,O1⟩,?_⟩
  rintro j h2 ⟨d2,R2,j0,j1,e2,z2,O2⟩
  have out:insInner ltInt a j.toNat d2=d2->slices_insertionSortOrdered_uint64_j3 s a b i j false k (fun i' h'=>(∃ d',U64 B h' s d'/\(a:Int) + 1<=i'/\i'<=d.size + 1/\insOuter ltInt a b i'.toNat d'=insertionSort ltInt d a b/\d'.size=d.size/\Onl s h h')/\(b - i').toNat < (b - i).toNat) (fun j' h'=>(∃ d',U64 B h' s d'/\(a:Int)<=j'/\j'<=i/\insOuter ltInt a b (i.toNat + 1) (insInner ltInt a j'.toNat d')=insertionSort ltInt d a b/\d'.size=d.size/\Onl s h h')/\(j' - a).toNat < (j - a).toNat) h2:=fun e=>by
   unfold slices_insertionSortOrdered_uint64_j3
   rw [if_neg (by simp),wrapI64 (by omega) (by omega)]
   rw [e] at e2
   exact ⟨_,rfl,⟨d2,R2,by omega,by omega,by rw [show (i + 1).toNat=i.toNat + 1 from by omega]; exact e2,z2,O2⟩,by omega⟩
  unfold slices_insertionSortOrdered_uint64_l2b
  by_cases hj:j > a
  ·rw [if_pos (decide_eq_true hj),wrapI64 (by omega) (by omega)]
   refine Lss_ok R2 ⟨by omega,by omega⟩ ⟨by omega,by omega⟩ ?_
   have ej:j.toNat=(j - 1).toNat + 1:=by omega
   have eI:insInner ltInt a j.toNat d2=if ltInt d2[j.toNat]! d2[(j - 1).toNat]! = true then insInner ltInt a (j - 1).toNat (swp d2 j.toNat (j - 1).toNat) else d2:=by
    rw [ej,insInner]
    simp only [Bool.and_eq_true,decide_eq_true_eq]
    by_cases hl:ltInt d2[(j - 1).toNat + 1]! d2[(j - 1).toNat]! = true
    ·rw [if_pos ⟨by omega,hl⟩,if_pos hl]
    ·rw [if_neg (fun e=>hl e.2),if_neg hl]
   cases hl:ltInt d2[j.toNat]! d2[(j - 1).toNat]! with
   | false=>exact out (by rw [eI,hl,if_neg (by simp)])
   | true =>
    rw [hl,if_pos rfl] at eI
    unfold slices_insertionSortOrdered_uint64_j3
    rw [if_pos rfl,wrapI64 (by omega) (by omega)]
    refine Swp_ok R2 ⟨by omega,by omega⟩ ⟨by omega,by omega⟩ fun h3 R3 O3=>?_
    refine ⟨_,rfl,⟨_,R3,by omega,by omega,by rw [← eI]; exact e2,by rw [swp_size']; exact z2,O2.trans O3⟩,by dsimp only; omega⟩
  ·rw [if_neg (by rw [decide_eq_true_eq]; exact hj)]
   exact out (insInner_stop (by omega))
 ·rw [if_neg (by rw [decide_eq_true_eq]; exact hi)]
  rw [insOuter,if_neg (by omega)] at e1
  rw [e1] at R1
  exact H h1 R1 O1
end
end Go.Q.Yq
end
section
set_option maxHeartbeats 1000000
namespace Go.Q.Yq
open Go.Sort
/-! ### the two partitions -/
theorem sU_go {p:Int->Bool} {d:Array Int} {j i:Nat} (h:i<=j) (hp:p d[i]! = true):scanUp p d j i=scanUp p d j (i + 1):=by rw [scanUp,if_pos (by simp [h,hp])]
theorem sU_end {p:Int->Bool} {d:Array Int} {j i:Nat} (h:¬ i<=j∨p d[i]! = false):scanUp p d j i=i:=by rw [scanUp,if_neg (by rcases h with h | h <;> simp [h])]
theorem sD_go {p:Int->Bool} {d:Array Int} {i j:Nat} (h:i<=j) (h0:0 < j) (hp:p d[j]! = true):scanDown p d i j=scanDown p d i (j - 1):=by
 cases j with
 | zero=>omega
 | succ n=>rw [scanDown,if_pos (by simp [h,hp])]; rfl
theorem sD_end {p:Int->Bool} {d:Array Int} {i j:Nat} (h:¬ i<=j∨p d[j]! = false):scanDown p d i j=j:=by
 cases j with
 | zero=>rfl
 | succ n=>rw [scanDown,if_neg (by rcases h with h | h <;> simp [h])]
section
variable {B:Nat} {h:Heap} {s:Slc} {d:Array Int} {a b pv:Nat}
theorem Part_ok {k:Int × Bool->Heap->Prop} (R:U64 B h s d) (ha:a<=pv) (hb:pv < b) (hs:b<=d.size) (hz:d.size<=1000)
  (H:∀ h',U64 B h' s (partition ltInt d a b pv).2.2->Onl s h h'->k (((partition ltInt d a b pv).1:Nat),(partition ltInt d a b pv).2.1) h'):slices_partitionOrdered_uint64 s a b pv k h:=by
 unfold slices_partitionOrdered_uint64
 refine Swp_ok R (I:=pv) (J:=a) ⟨by omega,by omega⟩ ⟨by omega,by omega⟩ fun h1 R1 O1=>?_
 rw [Int.toNat_natCast,Int.toNat_natCast] at R1
 have z1:(swp d a pv).size=d.size:=swp_size'
 have eP:partition ltInt d a b pv=(if scanUp (fun x=>ltInt x (swp d a pv)[a]!) (swp d a pv) (b - 1) (a + 1) > scanDown (fun x=>!ltInt x (swp d a pv)[a]!) (swp d a pv) (scanUp (fun x=>ltInt x (swp d a pv)[a]!) (swp d a pv) (b - 1) (a + 1)) (b - 1) then (scanDown (fun x=>!ltInt x (swp d a pv)[a]!) (swp d a pv) (scanUp (fun x=>ltInt x (swp d a pv)[a]!) (swp d a pv) (b - 1) (a + 1)) (b - 1),true,swp (swp d a pv) (scanDown (fun x=>!ltInt x (swp d a pv)[a]!) (swp d a pv) (scanUp (fun x=>ltInt x (swp d a pv)[a]!) (swp d a pv) (b - 1) (a + 1)) (b - 1)) a) else
   ((partLoop ltInt a (scanUp (fun x=>ltInt x (swp d a pv)[a]!) (swp d a pv) (b - 1) (a + 1) + 1) (scanDown (fun x=>!ltInt x (swp d a pv)[a]!) (swp d a pv) (scanUp (fun x=>ltInt x (swp d a pv)[a]!) (swp d a pv) (b - 1) (a + 1)) (b - 1) - 1) (swp (swp d a pv) (scanUp (fun x=>ltInt x (swp d a pv)[a]!) (swp d a pv) (b - 1) (a + 1)) (scanDown (fun x=>!ltInt x (swp d a pv)[a]!) (swp d a pv) (scanUp (fun x=>ltInt x (swp d a pv)[a]!) (swp d a pv) (b - 1) (a + 1)) (b - 1)))).1,false,
    swp (partLoop ltInt a (scanUp (fun x=>ltInt x (swp d a pv)[a]!) (swp d a pv) (b - 1) (a + 1) + 1) (scanDown (fun x=>!ltInt x (swp d a pv)[a]!) (swp d a pv) (scanUp (fun x=>ltInt x (swp d a pv)[a]!) (swp d a pv) (b - 1) (a + 1)) (b - 1) - 1) (swp (swp d a pv) (scanUp (fun x=>ltInt x (swp d a pv)[a]!) (swp d a pv) (b - 1) (a + 1)) (scanDown (fun x=>!ltInt x (swp d a pv)[a]!) (swp d a pv) (scanUp (fun x=>ltInt x (swp d a pv)[a]!) (swp d a pv) (b - 1) (a + 1)) (b - 1)))).2
     (partLoop ltInt a (scanUp (fun x=>ltInt x (swp d a pv)[a]!) (swp d a pv) (b - 1) (a + 1) + 1) (scanDown (fun x=>!ltInt x (swp d a pv)[a]!) (swp d a pv) (scanUp (fun x=>ltInt x (swp d a pv)[a]!) (swp d a pv) (b - 1) (a + 1)) (b - 1) - 1) (swp (swp d a pv) (scanUp (fun x=>ltInt x (swp d a pv)[a]!) (swp d a pv) (b - 1) (a + 1)) (scanDown (fun x=>!ltInt x (swp d a pv)[a]!) (swp d a pv) (scanUp (fun x=>ltInt x (swp d a pv)[a]!) (swp d a pv) (b - 1) (a + 1)) (b - 1)))).1 a)):=rfl
 rw [eP] at H
 clear eP
 generalize swp d a pv=d1 at *
 rw [wrapI64 (by omega) (by omega),wrapI64 (by omega) (by omega)]
 refine ⟨_,rfl,_,rfl,?_⟩
 generalize hi1:scanUp (fun x=>ltInt x d1[a]!) d1 (b - 1) (a + 1)=i1 at *
 generalize hj1:scanDown (fun x=>!ltInt x d1[a]!) d1 i1 (b - 1)=j1 at *
 have ea:((a:Nat):Int).toNat=a:=Int.toNat_natCast a
 unfold slices_partitionOrdered_uint64_l1
 refine ⟨fun i h'=>h'=h1/\(a:Int) + 1<=i/\i<=b/\scanUp (fun x=>ltInt x d1[a]!) d1 (b - 1) i.toNat=i1,fun i _=>(b - i).toNat,⟨rfl,by omega,by omega,by rw [show ((a:Int) + 1).toNat=a + 1 from by omega]; exact hi1⟩,?_⟩
 rintro i h' ⟨rfl,i0,iB,ei⟩
 -- the first scan is over
 have done:i.toNat=i1->slices_partitionOrdered_uint64_j2 s a i (b - 1) false k (fun i' h''=>(h''=h'/\(a:Int) + 1<=i'/\i'<=b/\scanUp (fun x=>ltInt x d1[a]!) d1 (b - 1) i'.toNat=i1)/\((b:Int) - i').toNat < ((b:Int) - i).toNat) h':=fun e1=>by
  unfold slices_partitionOrdered_uint64_j2
  rw [if_neg (by simp)]
  unfold slices_partitionOrdered_uint64_l3
  refine ⟨fun j h''=>h''=h'/\i - 1<=j/\j<=b - 1/\scanDown (fun x=>!ltInt x d1[a]!) d1 i1 j.toNat=j1,fun j _=>(j - i + 2).toNat,⟨rfl,by omega,by omega,by rw [show ((b:Int) - 1).toNat=b - 1 from by omega]; exact hj1⟩,?_⟩
  rintro j h2 ⟨e2,j0,jB,ej⟩
  subst e2
  have done2:j.toNat=j1->slices_partitionOrdered_uint64_j4 s a i j false k (fun i' h''=>(h''=h2/\(a:Int) + 1<=i'/\i'<=b/\scanUp (fun x=>ltInt x d1[a]!) d1 (b - 1) i'.toNat=i1)/\((b:Int) - i').toNat < ((b:Int) - i).toNat) (fun j' h''=>(h''=h2/\i - 1<=j'/\j'<=b - 1/\scanDown (fun x=>!ltInt x d1[a]!) d1 i1 j'.toNat=j1)/\(j' - i + 2).toNat < (j - i + 2).toNat) h2:=fun e2=>by
   unfold slices_partitionOrdered_uint64_j4
   rw [if_neg (by simp)]
   by_cases hij:i > j
   ·rw [if_pos (decide_eq_true hij)]
    refine Swp_ok R1 (I:=a) (J:=j) ⟨by omega,by omega⟩ ⟨by omega,by omega⟩ fun h3 R3 O3=>?_
    rw [if_pos (by omega)] at H
    rw [ea,e2] at R3
    have:=H h3 R3 (O1.trans O3)
    rw [← e2,show ((j.toNat:Nat):Int)=j from by omega] at this
    exact this
   rw [if_neg (by rw [decide_eq_true_eq]; exact hij)]
   rw [if_neg (by omega)] at H
   refine Swp_ok R1 (I:=j) (J:=i) ⟨by omega,by omega⟩ ⟨by omega,by omega⟩ fun h3 R3 O3=>?_
   rw [e1,e2] at R3
   rw [wrapI64 (by omega) (by omega),wrapI64 (by omega) (by omega)]
   refine ⟨_,rfl,_,rfl,?_⟩
   have z3:(swp d1 i1 j1).size=d.size:=by rw [swp_size',z1]
   generalize hr:partLoop ltInt a (i1 + 1) (j1 - 1) (swp d1 i1 j1)=r at *
   unfold slices_partitionOrdered_uint64_l5
   refine ⟨fun st h''=>∃ d',U64 B h'' s d'/\d'.size=d.size/\Onl s h h''/\(a:Int) + 1<=st.1/\(a:Int)<=st.2/\st.2<=b - 1/\st.1<=b/\partLoop ltInt a st.1.toNat st.2.toNat d'=r,fun st _=>(st.2 + 1 - st.1).toNat,
    ⟨_,R3,z3,O1.trans O3,by dsimp only; omega,by dsimp only; omega,by dsimp only; omega,by dsimp only; omega,by dsimp only; rw [show (i + 1).toNat=i1 + 1 from by omega,show (j - 1).toNat=j1 - 1 from by omega]; exact hr⟩,?_⟩
   rintro i4 j4 h4 ⟨d4,R4,z4,O4,i40,j40,j4B,i4B,e4⟩
   dsimp only at i40 j40 j4B i4B e4
   rw [partLoop_eq] at e4
   generalize hi5:scanUp (fun x=>ltInt x d4[a]!) d4 j4.toNat i4.toNat=i5 at *
   generalize hj5:scanDown (fun x=>!ltInt x d4[a]!) d4 i5 j4.toNat=j5 at *
   unfold slices_partitionOrdered_uint64_l5b slices_partitionOrdered_uint64_l6
   refine ⟨fun i' h''=>h''=h4/\i4<=i'/\i'<=b/\scanUp (fun x=>ltInt x d4[a]!) d4 j4.toNat i'.toNat=i5,fun i' _=>(b - i').toNat,⟨rfl,by omega,by omega,hi5⟩,?_⟩
   rintro i6 h'' ⟨e6,i60,i6B,ei6⟩
   subst e6
   have done3:i6.toNat=i5->∀ nx1 nx3,slices_partitionOrdered_uint64_j7 s a i6 j4 false k nx1 nx3 (fun st h''=>(∃ d',U64 B h'' s d'/\d'.size=d.size/\Onl s h h''/\(a:Int) + 1<=st.1/\(a:Int)<=st.2/\st.2<=b - 1/\st.1<=b/\partLoop ltInt a st.1.toNat st.2.toNat d'=r)/\(st.2 + 1 - st.1).toNat < (j4 + 1 - i4).toNat) (fun i' h3=>(h3=h''/\i4<=i'/\i'<=b/\scanUp (fun x=>ltInt x d4[a]!) d4 j4.toNat i'.toNat=i5)/\((b:Int) - i').toNat < ((b:Int) - i6).toNat) h'':=fun e6 nx1 nx3=>by
    unfold slices_partitionOrdered_uint64_j7
    rw [if_neg (by simp)]
    unfold slices_partitionOrdered_uint64_l8
    refine ⟨fun j' h3=>h3=h''/\(i6<=j' + 1∨j'=j4)/\j'<=j4/\scanDown (fun x=>!ltInt x d4[a]!) d4 i5 j'.toNat=j5,fun j' _=>(j' + 1).toNat,⟨rfl,.inr rfl,by omega,hj5⟩,?_⟩
    rintro j6 h3 ⟨e7,j60,j6B,ej6⟩
    subst e7
    have done4:j6.toNat=j5->slices_partitionOrdered_uint64_j9 s a i6 j6 false k nx1 nx3 (fun st h''=>(∃ d',U64 B h'' s d'/\d'.size=d.size/\Onl s h h''/\(a:Int) + 1<=st.1/\(a:Int)<=st.2/\st.2<=b - 1/\st.1<=b/\partLoop ltInt a st.1.toNat st.2.toNat d'=r)/\(st.2 + 1 - st.1).toNat < (j4 + 1 - i4).toNat) (fun i' h3'=>(h3'=h3/\i4<=i'/\i'<=b/\scanUp (fun x=>ltInt x d4[a]!) d4 j4.toNat i'.toNat=i5)/\((b:Int) - i').toNat < ((b:Int) - i6).toNat) (fun j' h3'=>(h3'=h3/\(i6<=j' + 1∨j'=j4)/\j'<=j4/\scanDown (fun x=>!ltInt x d4[a]!) d4 i5 j'.toNat=j5)/\(j' + 1).toNat < (j6 + 1).toNat) h3:=fun e7=>by
     unfold slices_partitionOrdered_uint64_j9
     rw [if_neg (by simp)]
     by_cases hij6:i6 > j6
     ·rw [if_pos (decide_eq_true hij6)]
      refine Swp_ok R4 (I:=a) (J:=j6) ⟨by omega,by omega⟩ ⟨by omega,by omega⟩ fun h8 R8 O8=>?_
      rw [if_pos (by omega)] at e4
      rw [ea,e7] at R8
      subst e4
      have:=H h8 R8 (O4.trans O8)
      dsimp only at this
      rw [← e7,show ((j6.toNat:Nat):Int)=j6 from by omega] at this
      exact this
     ·rw [if_neg (by rw [decide_eq_true_eq]; exact hij6)]
      rw [if_neg (by omega)] at e4
      refine Swp_ok R4 (I:=j6) (J:=i6) ⟨by omega,by omega⟩ ⟨by omega,by omega⟩ fun h8 R8 O8=>?_
      rw [e6,e7] at R8
      rw [wrapI64 (by omega) (by omega),wrapI64 (by omega) (by omega)]
      refine ⟨_,rfl,_,rfl,⟨_,R8,by rw [swp_size',z4],O4.trans O8,by dsimp only; omega,by dsimp only; omega,by dsimp only; omega,by dsimp only; omega,by dsimp only; rw [show (i6 + 1).toNat=i5 + 1 from by omega,show (j6 - 1).toNat=j5 - 1 from by omega]; exact e4⟩,by dsimp only; omega⟩
    unfold slices_partitionOrdered_uint64_l8b
    by_cases hij6:i6<=j6
    ·rw [if_pos (decide_eq_true hij6)]
     refine Lss_ok R4 (I:=j6) (J:=a) ⟨by omega,by omega⟩ ⟨by omega,by omega⟩ ?_
     rw [ea]
     cases hl:ltInt d4[j6.toNat]! d4[a]! with
     | true =>
      rw [sD_end (.inr (by simp [hl]))] at ej6
      exact done4 ej6
     | false =>
      rw [sD_go (by omega) (by omega) (by simp [hl])] at ej6
      unfold slices_partitionOrdered_uint64_j9
      rw [if_pos (by simp),wrapI64 (by omega) (by omega)]
      exact ⟨_,rfl,⟨rfl,.inl (by omega),by omega,by rw [show (j6 - 1).toNat=j6.toNat - 1 from by omega]; exact ej6⟩,by dsimp only; omega⟩
    ·rw [if_neg (by rw [decide_eq_true_eq]; exact hij6)]
     rw [sD_end (.inl (by omega))] at ej6
     exact done4 ej6
   unfold slices_partitionOrdered_uint64_l6b
   by_cases hij6:i6<=j4
   ·rw [if_pos (decide_eq_true hij6)]
    refine Lss_ok R4 (I:=i6) (J:=a) ⟨by omega,by omega⟩ ⟨by omega,by omega⟩ ?_
    rw [ea]
    cases hl:ltInt d4[i6.toNat]! d4[a]! with
    | true =>
     rw [sU_go (by omega) (by simp [hl])] at ei6
     unfold slices_partitionOrdered_uint64_j7
     rw [if_pos (by simp),wrapI64 (by omega) (by omega)]
     exact ⟨_,rfl,⟨rfl,by omega,by omega,by rw [show (i6 + 1).toNat=i6.toNat + 1 from by omega]; exact ei6⟩,by dsimp only; omega⟩
    | false =>
     rw [sU_end (.inr (by simp [hl]))] at ei6
     exact done3 ei6 _ _
   ·rw [if_neg (by rw [decide_eq_true_eq]; exact hij6)]
    rw [sU_end (.inl (by omega))] at ei6
    exact done3 ei6 _ _
  unfold slices_partitionOrdered_uint64_l3b
  by_cases hij:i<=j
  ·rw [if_pos (decide_eq_true hij)]
   refine Lss_ok R1 (I:=j) (J:=a) ⟨by omega,by omega⟩ ⟨by omega,by omega⟩ ?_
   rw [ea]
   cases hl:ltInt d1[j.toNat]! d1[a]! with
   | true =>
    rw [sD_end (.inr (by simp [hl]))] at ej
    exact done2 ej
   | false =>
    rw [sD_go (by omega) (by omega) (by simp [hl])] at ej
    unfold slices_partitionOrdered_uint64_j4
    rw [if_pos (by simp),wrapI64 (by omega) (by omega)]
    exact ⟨_,rfl,⟨rfl,by omega,by omega,by rw [show (j - 1).toNat=j.toNat - 1 from by omega]; exact ej⟩,by dsimp only; omega⟩
  ·rw [if_neg (by rw [decide_eq_true_eq]; exact hij)]
   rw [sD_end (.inl (by omega))] at ej
   exact done2 ej
 unfold slices_partitionOrdered_uint64_l1b
 by_cases hij:i<=(b:Int) - 1
 ·rw [if_pos (decide_eq_true hij)]
  refine Lss_ok R1 (I:=i) (J:=a) ⟨by omega,by omega⟩ ⟨by omega,by omega⟩ ?_
  rw [ea]
  cases hl:ltInt d1[i.toNat]! d1[a]! with
  | true =>
   rw [sU_go (by omega) (by simp [hl])] at ei
   unfold slices_partitionOrdered_uint64_j2
   rw [if_pos (by simp),wrapI64 (by omega) (by omega)]
   exact ⟨_,rfl,⟨rfl,by omega,by omega,by rw [show (i + 1).toNat=i.toNat + 1 from by omega]; exact ei⟩,by dsimp only; omega⟩
  | false =>
   rw [sU_end (.inr (by simp [hl]))] at ei
   exact done ei
 ·rw [if_neg (by rw [decide_eq_true_eq]; exact hij)]
  rw [sU_end (.inl (by omega))] at ei
  exact done ei
theorem PartEq_ok {k:Int->Heap->Prop} (R:U64 B h s d) (ha:a<=pv) (hb:pv < b) (hs:b<=d.size) (hz:d.size<=1000)
  (H:∀ h',U64 B h' s (partitionEqual ltInt d a b pv).2->Onl s h h'->k ((partitionEqual ltInt d a b pv).1:Nat) h'):slices_partitionEqualOrdered_uint64 s a b pv k h:=by
 unfold slices_partitionEqualOrdered_uint64
 refine Swp_ok R (I:=pv) (J:=a) ⟨by omega,by omega⟩ ⟨by omega,by omega⟩ fun h1 R1 O1=>?_
 rw [Int.toNat_natCast,Int.toNat_natCast] at R1
 have z1:(swp d a pv).size=d.size:=swp_size'
 have ea:((a:Nat):Int).toNat=a:=Int.toNat_natCast a
 rw [wrapI64 (by omega) (by omega),wrapI64 (by omega) (by omega)]
 refine ⟨_,rfl,_,rfl,?_⟩
 unfold partitionEqual at H
 generalize hr:partEqLoop ltInt a (a + 1) (b - 1) (swp d a pv)=r at *
 generalize swp d a pv=d1 at *
 unfold slices_partitionEqualOrdered_uint64_l1
 refine ⟨fun st h''=>∃ d',U64 B h'' s d'/\d'.size=d.size/\Onl s h h''/\(a:Int) + 1<=st.1/\(a:Int)<=st.2/\st.2<=b - 1/\st.1<=b/\partEqLoop ltInt a st.1.toNat st.2.toNat d'=r,fun st _=>(st.2 + 1 - st.1).toNat,
  ⟨_,R1,z1,O1,by dsimp only; omega,by dsimp only; omega,by dsimp only; omega,by dsimp only; omega,by dsimp only; rw [show ((a:Int) + 1).toNat=a + 1 from by omega,show ((b:Int) - 1).toNat=b - 1 from by omega]; exact hr⟩,?_⟩
 rintro i4 j4 h4 ⟨d4,R4,z4,O4,i40,j40,j4B,i4B,e4⟩
 dsimp only at i40 j40 j4B i4B e4
 rw [partEqLoop_eq] at e4
 generalize hi5:scanUp (fun x=>!ltInt d4[a]! x) d4 j4.toNat i4.toNat=i5 at *
 generalize hj5:scanDown (fun x=>ltInt d4[a]! x) d4 i5 j4.toNat=j5 at *
 unfold slices_partitionEqualOrdered_uint64_l1b slices_partitionEqualOrdered_uint64_l2
 refine ⟨fun i' h''=>h''=h4/\i4<=i'/\i'<=b/\scanUp (fun x=>!ltInt d4[a]! x) d4 j4.toNat i'.toNat=i5,fun i' _=>(b - i').toNat,⟨rfl,by omega,by omega,hi5⟩,?_⟩
 rintro i6 h'' ⟨e6,i60,i6B,ei6⟩
 subst e6
 have done3:i6.toNat=i5->slices_partitionEqualOrdered_uint64_j3 s a i6 j4 false k (fun st h''=>(∃ d',U64 B h'' s d'/\d'.size=d.size/\Onl s h h''/\(a:Int) + 1<=st.1/\(a:Int)<=st.2/\st.2<=b - 1/\st.1<=b/\partEqLoop ltInt a st.1.toNat st.2.toNat d'=r)/\(st.2 + 1 - st.1).toNat < (j4 + 1 - i4).toNat) (fun i' h3=>(h3=h''/\i4<=i'/\i'<=b/\scanUp (fun x=>!ltInt d4[a]! x) d4 j4.toNat i'.toNat=i5)/\((b:Int) - i').toNat < ((b:Int) - i6).toNat) h'':=fun e6=>by
  unfold slices_partitionEqualOrdered_uint64_j3
  rw [if_neg (by simp)]
  unfold slices_partitionEqualOrdered_uint64_l4
  refine ⟨fun j' h3=>h3=h''/\(i6<=j' + 1∨j'=j4)/\j'<=j4/\scanDown (fun x=>ltInt d4[a]! x) d4 i5 j'.toNat=j5,fun j' _=>(j' + 1).toNat,⟨rfl,.inr rfl,by omega,hj5⟩,?_⟩
  rintro j6 h3 ⟨e7,j60,j6B,ej6⟩
  subst e7
  have done4:j6.toNat=j5->slices_partitionEqualOrdered_uint64_j5 s a i6 j6 false k (fun st h''=>(∃ d',U64 B h'' s d'/\d'.size=d.size/\Onl s h h''/\(a:Int) + 1<=st.1/\(a:Int)<=st.2/\st.2<=b - 1/\st.1<=b/\partEqLoop ltInt a st.1.toNat st.2.toNat d'=r)/\(st.2 + 1 - st.1).toNat < (j4 + 1 - i4).toNat) (fun i' h3'=>(h3'=h3/\i4<=i'/\i'<=b/\scanUp (fun x=>!ltInt d4[a]! x) d4 j4.toNat i'.toNat=i5)/\((b:Int) - i').toNat < ((b:Int) - i6).toNat) (fun j' h3'=>(h3'=h3/\(i6<=j' + 1∨j'=j4)/\j'<=j4/\scanDown (fun x=>ltInt d4[a]! x) d4 i5 j'.toNat=j5)/\(j' + 1).toNat < (j6 + 1).toNat) h3:=fun e7=>by
   unfold slices_partitionEqualOrdered_uint64_j5
   rw [if_neg (by simp)]
   by_cases hij6:i6 > j6
   ·rw [if_pos (decide_eq_true hij6)]
    rw [if_pos (by omega)] at e4
    subst e4
    have:=H h3 R4 O4
    dsimp only at this
    rw [← e6,show ((i6.toNat:Nat):Int)=i6 from by omega] at this
    exact this
   ·rw [if_neg (by rw [decide_eq_true_eq]; exact hij6)]
    rw [if_neg (by omega)] at e4
    refine Swp_ok R4 (I:=j6) (J:=i6) ⟨by omega,by omega⟩ ⟨by omega,by omega⟩ fun h8 R8 O8=>?_
    rw [e6,e7] at R8
    rw [wrapI64 (by omega) (by omega),wrapI64 (by omega) (by omega)]
    refine ⟨_,rfl,_,rfl,⟨_,R8,by rw [swp_size',z4],O4.trans O8,by dsimp only; omega,by dsimp only; omega,by dsimp only; omega,by dsimp only; omega,by dsimp only; rw [show (i6 + 1).toNat=i5 + 1 from by omega,show (j6 - 1).toNat=j5 - 1 from by omega]; exact e4⟩,by dsimp only; omega⟩
  unfold slices_partitionEqualOrdered_uint64_l4b
  by_cases hij6:i6<=j6
  ·rw [if_pos (decide_eq_true hij6)]
   refine Lss_ok R4 (I:=a) (J:=j6) ⟨by omega,by omega⟩ ⟨by omega,by omega⟩ ?_
   rw [ea]
   cases hl:ltInt d4[a]! d4[j6.toNat]! with
   | false =>
    rw [sD_end (.inr (by simp [hl]))] at ej6
    exact done4 ej6
   | true =>
    rw [sD_go (by omega) (by omega) (by simp [hl])] at ej6
    unfold slices_partitionEqualOrdered_uint64_j5
    rw [if_pos (by simp),wrapI64 (by omega) (by omega)]
    exact ⟨_,rfl,⟨rfl,.inl (by omega),by omega,by rw [show (j6 - 1).toNat=j6.toNat - 1 from by omega]; exact ej6⟩,by dsimp only; omega⟩
  ·rw [if_neg (by rw [decide_eq_true_eq]; exact hij6)]
   rw [sD_end (.inl (by omega))] at ej6
   exact done4 ej6
 unfold slices_partitionEqualOrdered_uint64_l2b
 by_cases hij6:i6<=j4
 ·rw [if_pos (decide_eq_true hij6)]
  refine Lss_ok R4 (I:=a) (J:=i6) ⟨by omega,by omega⟩ ⟨by omega,by omega⟩ ?_
  rw [ea]
  cases hl:ltInt d4[a]! d4[i6.toNat]! with
  | false =>
   rw [sU_go (by omega) (by simp [hl])] at ei6
   unfold slices_partitionEqualOrdered_uint64_j3
   rw [if_pos (by simp),wrapI64 (by omega) (by omega)]
   exact ⟨_,rfl,⟨rfl,by omega,by omega,by rw [show (i6 + 1).toNat=i6.toNat + 1 from by omega]; exact ei6⟩,by dsimp only; omega⟩
  | true =>
   rw [sU_end (.inr (by simp [hl]))] at ei6
   exact done3 ei6
 ·rw [if_neg (by rw [decide_eq_true_eq]; exact hij6)]
  rw [sU_end (.inl (by omega))] at ei6
  exact done3 ei6
end
end Go.Q.Yq
end
section
namespace Go.Q.Yq
/-! ### how many bits are set -/
def g1 (B:Nat):Nat:=(B / 2 &&& 85) + (B &&& 85)
def g2 (B:Nat):Nat:=(B / 4 &&& 51) + (B &&& 51)
def g3 (B:Nat):Nat:=(B / 16 + B) &&& 15
theorem bwAnd64 {a b:Nat} (ha:a < 18446744073709551616) (hb:b < 18446744073709551616):bwAnd .u64 a b=((a &&& b:Nat):Int):=by
 show IntKind.u64.wrap ((BitVec.ofInt 64 (a:Int) &&& BitVec.ofInt 64 (b:Int)).toNat:Int)=_
 rw [and_nat 64 a b (by omega) (by omega),wU64]
 have:a &&& b<=a:=Nat.and_le_left
 omega
end Go.Q.Yq
end
section
namespace Go.Q.Yq
open Go.Sort
def lenTab:ByteArray:=⟨#[0,1,2,2,3,3,3,3,4,4,4,4,4,4,4,4,5,5,5,5,5,5,5,5,5,5,5,5,5,5,5,5,6,6,6,6,6,6,6,6,6,6,6,6,6,6,6,6,6,6,6,6,6,6,6,6,6,6,6,6,6,6,6,6,7,7,7,7,7,7,7,7,7,7,7,7,7,7,7,7,7,7,7,7,7,7,7,7,7,7,7,7,7,7,7,7,7,7,7,7,7,7,7,7,7,7,7,7,7,7,7,7,7,7,7,7,7,7,7,7,7,7,7,7,7,7,7,7,8,8,8,8,8,8,8,8,8,8,8,8,8,8,8,8,8,8,8,8,8,8,8,8,8,8,8,8,8,8,8,8,8,8,8,8,8,8,8,8,8,8,8,8,8,8,8,8,8,8,8,8,8,8,8,8,8,8,8,8,8,8,8,8,8,8,8,8,8,8,8,8,8,8,8,8,8,8,8,8,8,8,8,8,8,8,8,8,8,8,8,8,8,8,8,8,8,8,8,8,8,8,8,8,8,8,8,8,8,8,8,8,8,8,8,8,8,8,8,8,8,8,8,8,8,8,8,8]⟩
theorem lenTab_at {n:Nat} (hn:n < 256):StrAt lenTab (n:Int) (bitsLen n:Int):=by
 have h0:lenTab.size=256:=by decide +kernel
 refine ⟨by omega,?_⟩
 have key:(List.range 256).all (fun n=>((lenTab.data.getD n 0).toNat == bitsLen n))=true:=by decide +kernel
 have:=List.all_eq_true.1 key n (by simpa using hn)
 rw [beq_iff_eq] at this
 have hd:n < lenTab.data.size:=by show n < lenTab.size; omega
 have e:lenTab.data.getD n 0=lenTab.data[n]:=by unfold Array.getD; exact dif_pos hd
 rw [e] at this
 rw [← this]
 rfl
theorem Len_ok {n:Nat} {k:Int->Heap->Prop} {h:Heap} (hn:n < 256) (H:k (bitsLen n) h):math_bits_Len (n:Int) k h:=by
 have hb:bitsLen n<=8:=by
  have key:(List.range 256).all (fun n=>decide (bitsLen n<=8))=true:=by decide +kernel
  have:=List.all_eq_true.1 key n (by simpa using hn)
  simpa using this
 unfold math_bits_Len
 rw [if_neg (by simp)]
 unfold math_bits_Len64
 rw [if_neg (by rw [decide_eq_true_eq]; omega)]
 unfold math_bits_Len64_j1
 rw [if_neg (by rw [decide_eq_true_eq]; omega)]
 unfold math_bits_Len64_j2
 rw [if_neg (by rw [decide_eq_true_eq]; omega)]
 unfold math_bits_Len64_j3
 have e:IntKind.u8.wrap (n:Int)=n:=by rw [wU8]; omega
 rw [e]
 refine ⟨_,by omega,lenTab_at hn,_,rfl,?_⟩
 rw [wrapI64 (x:=((bitsLen n:Nat):Int)) (by omega) (by omega),Int.zero_add,wrapI64 (by omega) (by omega)]
 exact H
end Go.Q.Yq
end

/- A part of the proof of statements of this seat: lemmas, no statement of their own. -/
import Derived.Test.YthjafnfadiijgaaYiZad
import Derived.Test.YthjafnfadiijgaaYiZae
import Derived.Test.YthjafnfadiijgaaYiZah
import Derived.RangeFuncBox
import Derived.RangeFuncLeaves
import Derived.Shelf.Abstract
import Derived.WalkKit
import Derived.OwnWalkIn
import Derived.TacticsInMore
import Derived.LoopNIn
import Derived.LoopIn
import Derived.Maps.AppendAt
import Derived.Test.YthjafnfadiijgaaProg
import Derived.Test.YthjafnfadiijgaaYiZag
import Derived.Sort.AssemblyPlain
set_option linter.unusedVariables false
set_option linter.unusedSimpArgs false
set_option maxRecDepth 100000
set_option maxHeartbeats 1000000
section
namespace Go.Q.Yi
/-- what a call of itself is taken to do -/
structure Af where
  R:Slc->Int->Int->Int->(Unit->Heap->Prop)->Heap->Prop
  R_ref:∀ (p0:Slc) (p1 p2 p3:Int) (k:KP Unit) (h:Heap),R p0 p1 p2 p3 k h->CallsH Go.Proofs.Try.prog 95 #[Slc.v p0,.int .i64 p1,.int .i64 p2,.int .i64 p3] h (fun v h'=>∃ r:Unit,v = .tuple #[]/\k r h')
open Go.Proofs.Try
/-- slices.pdqsortOrdered uint64  -/
def aX (Q:Af) (f_:Slc) (b_:Int) (a_:Int) (d_:Int) (h_:Bool) (j_:Bool) (l_:Int) (g_:Int) (m_:Bool) (k:KP Unit) (nx1:KP (Int × Int × Int × Bool × Bool)) (h_5:Heap):Prop :=
  if m_ then (bZ f_ b_ a_ g_ (fun r8 h9=>nx1 (r8,a_,d_,h_,j_) h9) h_5) else (dP f_ b_ a_ g_ (fun r10 h11=>∃ x12,x12=(IntKind.i64.wrap (r10.1 - b_))/\(∃ x13,x13=(IntKind.i64.wrap (a_ - r10.1))/\(∃ x14,x14=(IntKind.i64.wrap (Int.tdiv l_ 8))/\(if (decide (x12 < x13)) then (Q.R f_ b_ r10.1 d_ (fun r15 h16=>∃ x17,x17=(IntKind.i64.wrap (r10.1 + 1))/\(nx1 (x17,a_,d_,(decide (x12>=x14)),r10.2) h16)) h11) else (Q.R f_ (IntKind.i64.wrap (r10.1 + 1)) a_ d_ (fun r18 h19=>nx1 (b_,r10.1,d_,(decide (x13>=x14)),r10.2) h19) h11))))) h_5)
def bU (Q:Af) (a_:Slc) (b_:Int) (f_:Int) (g_:Int) (h_:Bool) (j_:Bool) (l_:Int) (d_:Int) (k:KP Unit) (nx1:KP (Int × Int × Int × Bool × Bool)) (h_4:Heap):Prop :=
  if (decide (b_ > 0)) then (∃ a20,a_.a=some a20/\(0:Int)<=(IntKind.i64.wrap (b_ - 1))/\(IntKind.i64.wrap (b_ - 1)) < (a_.len:Int)/\(∃ v21,af h_4 (a20.add ((IntKind.i64.wrap (b_ - 1)).toNat * 1))=some (.int .u64 v21)/\(∃ a22,a_.a=some a22/\(0:Int)<=d_/\d_ < (a_.len:Int)/\(∃ v23,af h_4 (a22.add (d_.toNat * 1))=some (.int .u64 v23)/\(aW v21 v23 (fun r24 h25=>aX Q a_ b_ f_ g_ h_ j_ l_ d_ (!r24) k nx1 h25) h_4))))) else (aX Q a_ b_ f_ g_ h_ j_ l_ d_ false k nx1 h_4)
def bT (Q:Af) (a_:Slc) (b_:Int) (d_:Int) (h_:Int) (f_:Bool) (g_:Bool) (j_:Int) (l_:Int) (m_:Int) (k:KP Unit) (nx1:KP (Int × Int × Int × Bool × Bool)) (h_3:Heap):Prop :=
  if ((f_ && g_) && (m_ == 1)) then (bG a_ b_ d_ (fun r26 h27=>if r26 then (k () h27) else (bU Q a_ b_ d_ h_ f_ g_ j_ l_ k nx1 h27)) h_3) else (bU Q a_ b_ d_ h_ f_ g_ j_ l_ k nx1 h_3)
def bS (Q:Af) (d_:Slc) (a_:Int) (b_:Int) (f_:Bool) (g_:Bool) (h_:Int) (j_:Int) (k:KP Unit) (nx1:KP (Int × Int × Int × Bool × Bool)) (h_2:Heap):Prop :=
  dI d_ a_ b_ (fun r6 h7=>if (r6.2 == 2) then (dw d_ a_ b_ (fun r28 h29=>∃ x30,x30=(IntKind.i64.wrap ((IntKind.i64.wrap (b_ - 1)) - (IntKind.i64.wrap (r6.1 - a_))))/\(bT Q d_ a_ b_ j_ f_ g_ h_ x30 1 k nx1 h29)) h7) else (bT Q d_ a_ b_ j_ f_ g_ h_ r6.1 r6.2 k nx1 h7)) h_2
def jW (Q:Af) (d_:Slc) (a_:Int) (b_:Int) (f_:Int) (g_:Bool) (h_:Bool) (k:KP Unit) (nx1:KP (Int × Int × Int × Bool × Bool)) (h_1:Heap):Prop :=
  ∃ x1,x1=(IntKind.i64.wrap (b_ - a_))/\(if (decide (x1<=12)) then (dh d_ a_ b_ (fun r2 h3=>k () h3) h_1) else (if (f_ == 0) then (dW d_ a_ b_ (fun r4 h5=>k () h5) h_1) else (if (!g_) then (df d_ a_ b_ (fun r31 h32=>∃ x33,x33=(IntKind.i64.wrap (f_ - 1))/\(bS Q d_ a_ b_ g_ h_ x1 x33 k nx1 h32)) h_1) else (bS Q d_ a_ b_ g_ h_ x1 f_ k nx1 h_1))))
def kP (Q:Af) (h_:Slc) (i1:Int) (i2:Int) (i3:Int) (i8:Bool) (i9:Bool) (k:KP Unit) (h:Heap):Prop :=
  ∃ (I:KP (Int × Int × Int × Bool × Bool)) (μ:(Int × Int × Int × Bool × Bool)->Heap->Nat),I (i1,i2,i3,i8,i9) h/\∀ (a_:Int) (b_:Int) (d_:Int) (f_:Bool) (g_:Bool) (h:Heap),I (a_,b_,d_,f_,g_) h->jW Q h_ a_ b_ d_ f_ g_ k (fun s h'=>I s h'/\μ s h' < μ (a_,b_,d_,f_,g_) h) h
def di (Q:Af) (p0:Slc) (p1:Int) (p2:Int) (p3:Int) (k:KP Unit) (h:Heap):Prop :=
  kP Q p0 p1 p2 p3 true true k h
theorem O95:aB prog 95:=ck func95
theorem R95 (Q:Af) (p0 p1 p2 p3 k h) (H:di Q p0 p1 p2 p3 k h):CallsH prog 95 #[Slc.v p0,.int .i64 p1,.int .i64 p2,.int .i64 p3] h (rU k):=by
 refine fE func95 fun w0=>?_
 refine zF [0,1,2,3] (zQ ?_)
 refine w1 Z (zE (zQ ?_))
 refine w1 Z (zE (zB ?_))
 obtain ⟨I1,μ1,H0,HI⟩:=H
 refine zO (σ:=Int × Int × Int × Bool × Bool) [0] (fun (s:Int × Int × Int × Bool × Bool)=>[(1,.int .i64 s.1),(2,.int .i64 s.2.1),(3,.int .i64 s.2.2.1),(8,.bool s.2.2.2.1),(9,.bool s.2.2.2.2)]) I1 μ1 (p1,p2,p3,true,true) H0 ?_
 rintro ⟨f_,d_,g_,a_,b_⟩ h_1 H
 replace H:=HI f_ d_ g_ a_ b_ h_1 H
 refine zF [1,2,3,8,9,0] (zB (zQ ?_))
 refine w3 Z ?_
 refine wQ Z H fun x1 H=>?_
 refine zE (zS (zQ (w2 Z (zE ?_))))
 refine zI H ?_ ?_ <;> intro H
 refine zQ (w3 Z ?_)
 refine wC O97 (R97 _ _ _ _ _ H) fun r2 h3 H=>?_
 refine zE (zF [] (zT (yT (yB (yT (yB ?_))))))
 exact aA _ rfl _ rfl ⟨(),rfl,H⟩
 refine zK (zX (zS (zQ (w2 Z (zE ?_)))))
 refine zI H ?_ ?_ <;> intro H
 refine zQ (w3 Z ?_)
 refine wC O98 (R98 _ _ _ _ _ H) fun r4 h5 H=>?_
 refine zE (zF [] (zT (yT (yB (yT (yB ?_))))))
 exact aA _ rfl _ rfl ⟨(),rfl,H⟩
 refine zK (zX (zF [1,2,3,8,9,0,10] ?_))
 refine zJ (α:=Int) [0,1,2,8,9,10] (fun (s:Int)=>[(3,.int .i64 s)]) (fun (s:Int) h=>bS Q p0 f_ d_ a_ b_ x1 s k (fun s h'=>I1 s h'/\μ1 s h' < μ1 (f_,d_,g_,a_,b_) h_1) h) ?_ ?_
 rintro h_ h_2 H
 refine zF [3,0,1,2,8,9,10] (zQ ?_)
 refine w3 Z ?_
 refine wC NG (NT _ _ _ _ _ H) fun r6 h7 H=>?_
 refine w5 Z (zE (zF [3,0,1,2,8,9,10,11,12] ?_))
 refine zJ (α:=Int × Int) [0,1,2,3,8,9,10] (fun (s:Int × Int)=>[(11,.int .i64 s.1),(12,.int .i64 s.2)]) (fun (s:Int × Int) h=>bT Q p0 f_ d_ h_ a_ b_ x1 s.1 s.2 k (fun s h'=>I1 s h'/\μ1 s h' < μ1 (f_,d_,g_,a_,b_) h_1) h) ?_ ?_
 rintro ⟨j_,l_⟩ h_3 H
 refine zF [11,12,0,1,2,3,8,9,10] ?_
 refine zJ (α:=Unit) [0,1,2,3,8,9,10,11] (fun (s:Unit)=>[]) (fun (s:Unit) h=>bU Q p0 f_ d_ h_ a_ b_ x1 j_ k (fun s h'=>I1 s h'/\μ1 s h' < μ1 (f_,d_,g_,a_,b_) h_1) h) ?_ ?_
 rintro _ h_4 H
 refine zF [0,1,2,3,8,9,10,11] (zS ?_)
 refine zJ (α:=Bool) [0,1,2,3,8,9,10,11] (fun (s:Bool)=>[(87,.bool s)]) (fun (s:Bool) h=>aX Q p0 f_ d_ h_ a_ b_ x1 j_ s k (fun s h'=>I1 s h'/\μ1 s h' < μ1 (f_,d_,g_,a_,b_) h_1) h) ?_ ?_
 rintro m_ h_5 H
 refine zF [87,0,1,2,3,8,9,10,11] ?_
 refine zI H ?_ ?_ <;> intro H
 refine zQ (w4 Z ?_)
 refine wC Ns (Ny _ _ _ _ _ _ H) fun r8 h9 H=>?_
 refine w1 Z (zE (zF [0,2,3,8,9,13] (zQ ?_)))
 refine w2 Z (zE (zY (yE (yH ?_))))
 exact xJ (r8,d_,h_,a_,b_) H
 refine zK (zX (zQ (w4 Z ?_)))
 refine wC N9 (ND _ _ _ _ _ _ H) fun r10 h11 H=>?_
 refine w5 Z (zE (zF [0,1,2,3,10,14,15] (zQ ?_)))
 refine w2 Z (zE (zQ ?_))
 refine w6 Z ?_
 refine wQ Z H fun x12 H=>?_
 refine wQ Z H fun x13 H=>?_
 refine zE (zF [0,1,2,3,10,14,9,16,17] (zQ ?_))
 refine w2 Z ?_
 refine wQ Z H fun x14 H=>?_
 refine zE (zQ (w3 Z (zE ?_)))
 refine zI H ?_ ?_ <;> intro H
 refine zQ (w4 Z (zE (zF [0,1,2,3,14,9,8] (zQ ?_))))
 refine w4 Z ?_
 refine wC O95 (Q.R_ref _ _ _ _ _ _ H) fun r15 h16 H=>?_
 refine zE (zR (w2 Z ?_))
 refine wQ Z H fun x17 H=>?_
 refine zL ?_
 exact xJ (x17,d_,h_,(decide (x12>=x14)),r10.2) H
 refine zQ (w4 Z (zE (zF [0,1,2,3,14,9,8] (zQ ?_))))
 refine w5 Z ?_
 refine wC O95 (Q.R_ref _ _ _ _ _ _ H) fun r18 h19 H=>?_
 refine zE (zF [0,1,3,14,9,8] (zR ?_))
 refine w2 Z (zL ?_)
 exact xJ (f_,r10.1,h_,(decide (x13>=x14)),r10.2) H
 refine gB [0,1,2,3,8,9,10,11] ?_
 refine gT 0 [1] Z ?_
 refine gT 1 [73] Z ?_
 refine gT 2 [74] Z ?_
 refine gI 75 H (fun hb H=>?_) (fun hb H=>?_)
 refine gT 3 [0,75] Z ?_
 refine gT 4 [1,75] Z ?_
 refine gT 5 [75,77] Z ?_
 refine gd 6 [75,76,78] Z H fun a20 H=>?_
 refine gl 7 [75,79] Z H fun v21 H=>?_
 refine gT 8 [0,75] Z ?_
 refine gT 9 [11,75] Z ?_
 refine gd 10 [75,81,82] Z H fun a22 H=>?_
 refine gl 11 [75,83] Z H fun v23 H=>?_
 refine gC 12 [75,80,84] vW (wW _ _ _ _ H) fun r24 h25 H=>?_
 refine gT 13 [75,85] Z ?_
 refine gT 14 [75,86] Z ?_
 refine gZ ?_
 exact xJ (!r24) H
 refine gS 3 [0,75] ?_
 refine gS 4 [1,75] ?_
 refine gS 5 [75,77] ?_
 refine gS 6 [75,76,78] ?_
 refine gS 7 [75,79] ?_
 refine gS 8 [0,75] ?_
 refine gS 9 [11,75] ?_
 refine gS 10 [75,81,82] ?_
 refine gS 11 [75,83] ?_
 refine gS 12 [75,80,84] ?_
 refine gS 13 [75,85] ?_
 refine gT 14 [75,86] Z ?_
 refine gZ ?_
 exact xJ false H
 refine zQ (w2 Z ?_)
 refine vU 2 [0,1,2,3,8,9,10,11,12] [(64,.bool (a_ && b_))] ?_ ?_
 refine w1 Z ?_
 refine vU 3 [0,1,2,3,8,9,10,11] [(68,.bool ((a_ && b_) && (l_ == 1)))] ?_ ?_
 refine zE ?_
 refine zI H ?_ ?_ <;> intro H
 refine zQ (w3 Z ?_)
 refine wC NI (NR _ _ _ _ _ H) fun r26 h27 H=>?_
 refine zE ?_
 refine zI H ?_ ?_ <;> intro H
 refine zT (yT (yB (yT (yB ?_))))
 exact aA _ rfl _ rfl ⟨(),rfl,H⟩
 refine zK ?_
 exact xJ () H
 refine zK ?_
 exact xJ () H
 refine vG (d:=65) (fun hb=>?_) (fun hb=>?_)
 refine w3 Z ?_
 refine vK ?_
 exact congrArg (fun b=>some (Value.bool b)) (rq hb)
 refine wS (wS (w1 Z ?_))
 refine vK ?_
 exact congrArg (fun b=>some (Value.bool b)) (rF hb)
 refine vG (d:=62) (fun hb=>?_) (fun hb=>?_)
 refine w2 Z ?_
 refine vK ?_
 exact congrArg (fun b=>some (Value.bool b)) (rq hb)
 refine wS (w1 Z ?_)
 refine vK ?_
 exact congrArg (fun b=>some (Value.bool b)) (rF hb)
 refine zQ (w2 Z (zE ?_))
 refine zI H ?_ ?_ <;> intro H
 refine zQ (w3 Z ?_)
 refine wC Nw (NS _ _ _ _ _ H) fun r28 h29 H=>?_
 refine zE (zF [3,0,1,2,8,9,10,11] (zQ ?_))
 refine w6 Z ?_
 refine wQ Z H fun x30 H=>?_
 refine zE (zR (w1 Z (zW ?_)))
 exact xJ (x30,1) H
 refine zK ?_
 exact xJ (r6.1,r6.2) H
 refine zQ (w2 Z (zE ?_))
 refine zI H ?_ ?_ <;> intro H
 refine zQ (w3 Z ?_)
 refine wC O99 (R99 _ _ _ _ _ H) fun r31 h32 H=>?_
 refine zE (zR (w2 Z ?_))
 refine wQ Z H fun x33 H=>?_
 refine zW ?_
 exact xJ x33 H
 refine zK ?_
 exact xJ g_ H
end Go.Q.Yi
end
section
namespace Go.Proofs
open Go.RowKit Go.Shelf
attribute [local go_sem] Oper.semAt_some
def Yv.upto {α:Type} (f:Nat->α) (k:Nat):List α:=(List.range k).map f
theorem Yv.AP {α:Type} (f:Nat->α) (k:Nat):Yv.upto f (k + 1)=Yv.upto f k ++ [f k]:=by simp [Yv.upto,List.range_succ]
theorem Yv.CV {α:Type} (f:Nat->α) (k:Nat):(Yv.upto f k).length=k:=by simp [Yv.upto]
theorem Yv.Hr (zs:List Int):Yv.upto (fun j=>zs[j]?.getD 0) zs.length=zs:=by
 apply List.ext_getElem
 ·simp [Yv.upto]
 ·intro i h1 h2
  simp [Yv.upto,h2]
set_option maxRecDepth 100000 in
set_option maxHeartbeats 2000000 in
/-- the closure of slices.Values, at numbers of 64 bits -/
theorem Yv.Dn (F:Fence) (n:Nat) (h7:F.fn 93) (hro:F.round=none) (hn:1<=n) (l Bs n₀ b off len cap:Nat) (zs:List Int) (hreach:len * 8<=140737488351232) (hb:b < n₀) (J Jx:List Int->World->Prop)
  (hY:∀ pre x W,J pre W->pre.length < len->YieldAt F (n - 1) Try.prog l #[.int .u64 x] W fun e W' =>
   (e = .returned (.bool true)/\J (pre ++ [x]) W'/\Below n₀ W W')∨(e = .returned (.bool false)/\Jx (pre ++ [x]) W'))
  (W:World) (hBs:W.cell? ⟨Bs,0,none⟩=some (.slice (some ⟨b,off,none⟩) len cap)) (hc:∀ j,j < len->W.cell? ⟨b,off + j,none⟩=some (.int .u64 (zs[j]?.getD 0))) (h0:J [] W) :
  CallsIn F n Try.prog 93 #[.func (.yield l) #[] #[],.pointer (some ⟨Bs,0,none⟩)] W fun e W'=>(∃ v,e = .returned v) /\
   ((∃ ys,ys=Yv.upto (fun j=>zs[j]?.getD 0) len/\J ys W')∨(∃ pre,(∃ k,k<=len/\pre=Yv.upto (fun j=>zs[j]?.getD 0) k)/\Jx pre W')):=by
 refine callsIn_of_wp Try.func93 rfl h7 ?_ hro
 simp only [Try.ntmps93,List.size_toArray,List.length_cons,List.length_nil,Nat.reduceAdd,Nat.reduceSub,Array.replicate_succ,Array.replicate_zero,List.push_toArray,List.append_toArray,List.nil_append,List.cons_append]
 gi_wp2
 gi_loopw [7] (fun i wr=>∃ k:Nat,k<=len/\i = .int .i64 k/\J (Yv.upto (fun j=>zs[j]?.getD 0) k) wr/\Below n₀ W wr)
  (fun i _=>len - (intOf i).toNat)
 case atStart=>exact ⟨0,Nat.zero_le _,rfl,h0,Below.refl _ _⟩
 case round =>
  obtain ⟨k,hk,rfl,hJs,hnx⟩:=hrel
  have hcx:k < len->wr.cell? ⟨b,off + k,none⟩=some (.int .u64 (zs[k]?.getD 0)):=fun h=>(hnx.cell (p:=⟨b,off + k,none⟩) hb).trans (hc k h)
  by_cases hlt:k < len
  ·obtain ⟨fn,tmps,assign,body,hy,hR⟩:=hY _ (zs[k]?.getD 0) wr hJs (by rw [Yv.CV]; exact hlt)
   have hcx':=hcx hlt
   gi_wp2
   refine hR.mono ?_
   rintro e W3 (⟨rfl,hJ3,hk3⟩ | ⟨rfl,hJx3⟩)
   ·gi_wp2
    go_roundw
    case rel=>exact ⟨k + 1,by omega,by simp,by rw [Yv.AP]; exact hJ3,hnx.trans hk3⟩
    case measure=>simp [intOf]; omega
   ·gi_wp2
    refine bodyPost_ret (results_none rfl _ _ _) rfl ?_
    exact ⟨⟨_,rfl⟩,.inr ⟨_,⟨k + 1,by omega,(Yv.AP _ _).symm⟩,hJx3⟩⟩
  ·obtain rfl:k=len:=by omega
   gi_wp2
   go_end0
   exact ⟨⟨_,rfl⟩,.inl ⟨_,rfl,hJs⟩⟩
/-- the slice value holds these numbers, in a block below; or it is nil -/
def Yv.DU (n₀:Nat) (W:World) (sv:Value) (zs:List Int):Prop :=
 (sv = .slice none 0 0/\zs=[])∨∃ b off cap,sv = .slice (some ⟨b,off,none⟩) zs.length cap/\b < n₀/\∀ j,j < zs.length->W.cell? ⟨b,off + j,none⟩=some (.int .u64 (zs[j]?.getD 0))
theorem Yv.DU.below {n₀:Nat} {A B:World} (h:Below n₀ A B) {sv:Value} {zs:List Int}:Yv.DU n₀ A sv zs->Yv.DU n₀ B sv zs
 | .inl e=>.inl e
 | .inr ⟨b,off,cap,e,hb,hc⟩=>.inr ⟨b,off,cap,e,hb,fun j hj=>(h.cell (p:=⟨b,off + j,none⟩) hb).trans (hc j hj)⟩
set_option maxRecDepth 100000 in
set_option maxHeartbeats 1000000 in
theorem Yv.zG (F:Fence) (n:Nat) (h7:F.fn 93) (hro:F.round=none) (l Bs:Nat) (J:List Int->World->Prop) (W:World) (hBs:W.cell? ⟨Bs,0,none⟩=some (.slice none 0 0)) (h0:J [] W) :
  CallsIn F n Try.prog 93 #[.func (.yield l) #[] #[],.pointer (some ⟨Bs,0,none⟩)] W fun e W'=>(∃ v,e = .returned v)/\J [] W':=by
 refine callsIn_of_wp Try.func93 rfl h7 ?_ hro
 simp only [Try.ntmps93,List.size_toArray,List.length_cons,List.length_nil,Nat.reduceAdd,Nat.reduceSub,Array.replicate_succ,Array.replicate_zero,List.push_toArray,List.append_toArray,List.nil_append,List.cons_append]
 gi_wp2
 gi_loopw [7] (fun i wr=>i = .int .i64 0/\J [] wr) (fun _ _=>0)
 case atStart=>exact ⟨rfl,h0⟩
 case round =>
  obtain ⟨rfl,hJs⟩:=hrel
  gi_wp2
  go_end0
  exact ⟨⟨_,rfl⟩,hJs⟩
set_option maxHeartbeats 1000000 in
theorem Yv.values_in (F:Fence) (n:Nat) (h5:F.fn 89) (hro:F.round=none) (a:Option Addr) (len cap:Nat) (w:World) :
  CallsIn F n Try.prog 89 #[.slice a len cap] w fun e w'=>e = .returned (.func (.func 93) #[] #[.pointer (some ⟨w.heap.size,0,none⟩)])/\w'=w.alloc (.cells #[.slice a len cap] 81):=by
 refine callsIn_of_wp Try.func89 rfl h5 ?_ hro
 simp only [Try.ntmps89,List.size_toArray,List.length_cons,List.length_nil,Nat.reduceAdd,Nat.reduceSub,Array.replicate_succ,Array.replicate_zero,List.push_toArray,List.append_toArray,List.nil_append,List.cons_append]
 gi_wp2
 go_ret
 exact ⟨rfl,rfl⟩
theorem Yv.values_stops (F:Fence) (n:Nat) (h7:F.fn 93) (hro:F.round=none) (hn:1<=n) (Bs n₀:Nat) (sv:Value) (zs:List Int) (hreach:zs.length * 8<=140737488351232) (w:World) (hBs:Bs < w.heap.size) (hn₀:n₀<=w.heap.size)
  (hc:w.cell? ⟨Bs,0,none⟩=some sv) (hI:Yv.DU n₀ w sv zs) :
  SeqStopsK F n Try.prog 93 #[.pointer (some ⟨Bs,0,none⟩)] (fun x:Int=>#[Value.int .u64 x]) (Below n₀) (fun ys=>ys=zs) (fun _=>True) zs.length w:=fun l J Jx W hW _ _ hY h0=>by
 have hc':=(hW.cell (p:=⟨Bs,0,none⟩) hBs).trans hc
 rcases hI.below (hW.mono hn₀) with ⟨rfl,rfl⟩ | ⟨b,off,cap,rfl,hb,hcs⟩
 ·exact (Yv.zG F n h7 hro l Bs J W hc' h0).mono fun e W' ⟨he,hj⟩=>⟨he,.inl ⟨_,rfl,hj⟩⟩
 ·refine (Yv.Dn F n h7 hro hn l Bs n₀ b off zs.length cap zs hreach hb J Jx hY W hc' hcs h0).mono ?_
  rintro e W' ⟨he,⟨ys,rfl,hj⟩ | ⟨pre,⟨k,hk,rfl⟩,hj⟩⟩
  ·exact ⟨he,.inl ⟨_,Yv.Hr zs,hj⟩⟩
  ·exact ⟨he,.inr ⟨_,trivial,hj⟩⟩
theorem Yv.KU:(Try.prog.info? 22).map (fun i=>(i.zero,i.size,i.bytes))=some (some (.int .u64 0),1,8):=by kernel_rfl
set_option maxRecDepth 100000 in
set_option maxHeartbeats 2000000 in
/-- slices.AppendSeq of nil and what slices.Values hands back -/
theorem Yv.appendSeq_in (F:Fence) (n:Nat) (h3:F.fn 94) (h7:F.fn 93) (hro:F.round=none) (hn:3<=n) (Bs:Nat) (sv:Value) (zs:List Int) (hlen:zs.length<=maxLen) (hreach:zs.length * 8<=140737488351232) (w:World) (hBs:Bs < w.heap.size)
  (hc:w.cell? ⟨Bs,0,none⟩=some sv) (hI:Yv.DU w.heap.size w sv zs) :
  CallsIn F n Try.prog 94 #[.slice none 0 0,.func (.func 93) #[] #[.pointer (some ⟨Bs,0,none⟩)]] w fun e W'=>∃ v,e = .returned v/\W'.ownsRow w.heap.size 22 1 v zs.length (zs.map (Value.int .u64))/\Below w.heap.size w W':=by
 have h1:1<=n:=by omega
 obtain ⟨i0,hi,hz0,hz1,hz2⟩:=info_parts Yv.KU
 refine callsIn_of_wp_marks Try.func94 rfl h3 ?_ hro
 simp only [Try.ntmps94,List.size_toArray,List.length_cons,List.length_nil,Nat.reduceAdd,Nat.reduceSub,Array.replicate_succ,Array.replicate_zero,List.push_toArray,List.append_toArray,List.nil_append,List.cons_append]
 gi_wp2
 have bO:=Boxed.new w 81 (.slice none 0 0)
 have hB0:Below w.heap.size w (w.alloc (.cells #[.slice none 0 0] 81)):=(Below.refl _ w).alloc (Nat.le_refl _) _
 refine wpIn_rangeFunc_ownG hro h1 (gf:=93) (lb:=#[.pointer (some ⟨Bs,0,none⟩)]) rfl h7 (enters_of Try.func93 (by kernel_rfl) rfl)
  (Yv.values_stops F (n - 1) h7 hro (by omega) Bs w.heap.size sv zs hreach _ (by simp; omega) (by simp) ((hB0.cell (p:=⟨Bs,0,none⟩) hBs).trans hc) (hI.below hB0)) belowK_t (belowK_b (by simp)) (Below.refl _ _) (fun _=>rfl)
  (fun pre W=>(∃ v,Boxed W w.heap.size 81 v/\W.ownsRow w.heap.size 22 1 v pre.length (pre.map (Value.int .u64))/\True)/\Below w.heap.size w W)
  (fun _ _ _=>False)
  (OwnFrom.and (Own.from (holdsRow_own w.heap.size w.heap.size 81 22 1 (fun pre:List Int=>pre.length) (fun pre=>pre.map (Value.int .u64)) (fun pre v=>True)) _) (ownFrom_below (Nat.le_refl _) (by simp)))
  (fun _ _ _ _ _ hs _ _=>hs)
  ⟨⟨_,bO,World.ownsRow_nil _ _ _ _,trivial⟩,hB0⟩
  (fun x=>{ tmps:=#[.slice none 0 0,.func (.func 93) #[] #[.pointer (some ⟨Bs,0,none⟩)],.pointer (some ⟨w.heap.size,0,none⟩),undef,.slice none 0 0,.int .u64 x,.func (.func 93) #[] #[.pointer (some ⟨Bs,0,none⟩)],.int .u64 x,undef,undef,undef,undef,undef],defers:=[] }) ?assign ?body ?done ?stop
 case assign =>
  intro l x W K hK
  gi_wp2
  exact hK
 case body =>
  rintro l pre x W ⟨⟨v,hv,hrow,_⟩,hB⟩ hlt
  have hc:=hv.cell
  gi_wp2_with (gi_at_builtin; refine wpListIn_append_own _ rfl _ _ 81 rfl w.heap.size 22 i0 (.int .u64 0) 1 8 Try.underlying81 hi hz0 hz1 hz2 rfl (by decide) _ _ _ rfl (hrow.alloc _) ⟨W.heap.size,0,none⟩ 1 1 [.int .u64 x] rfl rfl (cell_one_new _ _ _) (by simp [Value.oneCell']) (by omega) (by omega) (by have:=hB.size; simp; omega) ?_; intro v' w1 hown' hgrow _; obtain ⟨g',cap',rfl⟩:=ownsRow_succ hown'; obtain ⟨hv1,hv2,hr2,hk2,hb2⟩:=hv.appended (by decide) hrow hB.size (Nat.le_refl _) hown' hgrow; have hc1:=hv1.cell; have hf1:=hv1.frozen)
  exact ⟨hk2.from _,hb2,⟨_,hv2,by simpa using hr2,trivial⟩,hB.trans hb2⟩
 case done =>
  rintro D ys W hD rfl ⟨⟨v,hv,hrow,_⟩,hB⟩ hK
  have hc:=hv.cell
  gi_wp2
  refine ⟨by simp,.inl ⟨_,_,rfl,run_takeDeferred hK,?_⟩⟩
  exact ⟨_,results_tmp rfl _ _ _,v,rfl,ownsRow_putObj hrow _ hK rfl,hB.trans (belowK_b (w:=w) (Nat.le_refl _) W D _ _ (by simp at hD; omega) hK rfl rfl)⟩
 case stop =>
  rintro D c pre W _ _ h _
  exact h.elim
set_option maxHeartbeats 1000000 in
/-- slices.Collect of it -/
theorem Yv.collect_in (F:Fence) (n:Nat) (h8:F.fn 91) (h3:F.fn 94) (h7:F.fn 93) (hro:F.round=none) (hn:4<=n) (Bs:Nat) (sv:Value) (zs:List Int) (hlen:zs.length<=maxLen) (hreach:zs.length * 8<=140737488351232) (w:World) (hBs:Bs < w.heap.size)
  (hc:w.cell? ⟨Bs,0,none⟩=some sv) (hI:Yv.DU w.heap.size w sv zs) :
  CallsIn F n Try.prog 91 #[.func (.func 93) #[] #[.pointer (some ⟨Bs,0,none⟩)]] w fun e W'=>∃ v,e = .returned v/\W'.ownsRow w.heap.size 22 1 v zs.length (zs.map (Value.int .u64))/\Below w.heap.size w W':=by
 have h1:1<=n:=by omega
 refine callsIn_of_wp Try.func91 rfl h8 ?_ hro
 simp only [Try.ntmps91,List.size_toArray,List.length_cons,List.length_nil,Nat.reduceAdd,Nat.reduceSub,Array.replicate_succ,Array.replicate_zero,List.push_toArray,List.append_toArray,List.nil_append,List.cons_append]
 gi_wp2_with (gi_at_call 94; refine (Yv.appendSeq_in F (n - 1) h3 h7 hro (by omega) Bs sv zs hlen hreach _ hBs hc hI).mono ?_; rintro e w' ⟨v,rfl,hrow,hb⟩)
 go_ret
 exact ⟨v,rfl,hrow,hb⟩
end Go.Proofs
end
section
namespace Go.Q
open Go.RowKit Go.Maps Go.Shelf Go.Proofs
theorem BG {w:World} {B E wd n:Nat} {v:Value} {xs:List Value} (h:w.ownsRow B E wd v n xs):∃ s:Slc,v=Slc.v s/\s.len=n/\Row B w.heap E wd s xs:=by
 obtain ⟨hl,hc⟩:=h
 rcases hc with ⟨rfl,rfl⟩ | ⟨g,cap,cur,rfl,hB,hg,hn,hm,hs,ht⟩
 ·exact ⟨⟨none,0,0⟩,rfl,rfl,by simpa using hl,by simp [maxLen],.inl ⟨rfl,rfl,rfl⟩⟩
 ·exact ⟨⟨some ⟨g,0,none⟩,n,cap⟩,rfl,rfl,hl,hm,.inr ⟨g,cur.toList,rfl,hB,⟨0,0,by simpa using hg,.inl (Nat.le_refl _)⟩,hn,by simp [hs],ht⟩⟩
theorem CallsH.Be {P:Program} {f:FuncId} {args:Array Value} {h:Heap} {Φ:KP Value} (H:∀ w,w.heap=h->Calls P f args w fun e w'=>∃ v,e = .returned v/\Go.RowKit.Below w.heap.size w w'/\Φ v w'.heap):CallsH P f args h Φ :=
 fun w hw=>(H w hw).mono fun r w' ⟨v,e,B,p⟩=>⟨v,e,⟨B.os,B.tape,B.output,rfl,fun q=>by cases q⟩,p⟩
end Go.Q
namespace Go.Q.Yi
open Go.RowKit Go.Maps Go.Shelf Go.Proofs Go.Sort
def u8s (l:List Int):List Value:=l.map (Value.int .u64)
/-- slices.Values -/
def iY (s:Slc) (k:KP Value) (h:Heap):Prop :=
 k (.func (.func 93) #[] #[.pointer (some ⟨h.size,0,none⟩)]) (h.push (.cells #[Slc.v s] 81))
theorem O89:aB Try.prog 89:=⟨_,Try.func89,by kernel_rfl,by kernel_rfl⟩
theorem R89 (s:Slc) (k:KP Value) (h:Heap) (H:iY s k h):CallsH Try.prog 89 #[Slc.v s] h (fun v h'=>∃ r:Value,v=r/\k r h'):=by
 refine CallsH.Be fun w hw=>?_
 refine (callsIn_wide.1 (Yv.values_in Fence.wide 5 trivial rfl s.a s.len s.cap w)).mono ?_
 rintro e w' ⟨rfl,rfl⟩
 refine ⟨_,rfl,(Below.refl _ w).alloc (Nat.le_refl _) _,_,rfl,?_⟩
 subst hw
 exact H
/-- slices.Collect of what slices.Values hands back -/
def pO (f:Value) (k:KP Slc) (h:Heap):Prop :=
 ∃ (bx:Nat) (s:Slc) (zs:List Int),f = .func (.func 93) #[] #[.pointer (some ⟨bx,0,none⟩)]/\af h ⟨bx,0,none⟩=some (Slc.v s)/\s.len=zs.length/\SlcAt h s (u8s zs)/\0 < zs.length/\zs.length<=1000000 /\
  ∀ s' h',Row h.size h' 22 1 s' (u8s zs)->s'.len=zs.length->Ext h.size h h'->k s' h'
theorem O91:aB Try.prog 91:=⟨_,Try.func91,by kernel_rfl,by kernel_rfl⟩
theorem R91 (f:Value) (k:KP Slc) (h:Heap) (H:pO f k h):CallsH Try.prog 91 #[f] h (rS k):=by
 obtain ⟨bx,s,zs,rfl,hb,sl,S,z0,z1,H⟩:=H
 refine CallsH.Be fun w hw=>?_
 subst hw
 have hc:w.cell? ⟨bx,0,none⟩=some (Slc.v s):=hb
 have hI:Yv.DU w.heap.size w (Slc.v s) zs:=by
  obtain ⟨a,len,cap⟩:=s
  cases a with
  | none =>
   have e:zs=[]:=List.map_eq_nil_iff.1 (S.1 rfl)
   rw [e] at z0; simp at z0
  | some a =>
   have g:∀ j,j < zs.length->af w.heap (a.add j)=some (.int .u64 (zs[j]?.getD 0)):=fun j hj=>by
    refine S.2 a rfl j _ ?_
    unfold u8s
    rw [List.getElem?_map,List.getElem?_eq_getElem hj]; rfl
   have h0:=g 0 z0
   have a0:a.add 0=a:=by simp [Addr.add]
   rw [a0] at h0
   have sp:a.spot=none:=by
    unfold af at h0
    split at h0
    ·cases hs:a.spot with
     | none=>rfl
     | some x=>rw [hs] at h0; simp at h0
    ·cases h0
   have lt:=yI h0
   obtain ⟨b,o,spot⟩:=a
   simp only at sp lt
   subst sp
   refine .inr ⟨b,o,cap,by rw [show len=zs.length from sl],lt,fun j hj=>?_⟩
   have:=g j hj
   rw [add_mk] at this; exact this
 have c:=Yv.collect_in Fence.wide 6 trivial trivial trivial rfl (by omega) bx (Slc.v s) zs (by simp only [maxLen]; omega) (by omega) w (yI hb) hc hI
 refine (callsIn_wide.1 c).mono ?_
 rintro e w' ⟨v,rfl,hrow,hB⟩
 obtain ⟨s',rfl,sl',R⟩:=BG hrow
 exact ⟨_,rfl,hB,_,rfl,H s' _ R sl' ⟨hB.size,hB.block⟩⟩
/-! ### a row of numbers of one's own -/
/-- all blocks but that of s stay -/
structure Onl (s:Slc) (h h':Heap):Prop where
 size:h.size<=h'.size
 block:∀ g,g < h.size->s.blk≠some g->h'[g]? = h[g]?
theorem Onl.refl (s:Slc) (h:Heap):Onl s h h:=⟨Nat.le_refl _,fun _ _ _=>rfl⟩
theorem Onl.trans {s:Slc} {a b c:Heap} (p:Onl s a b) (q:Onl s b c):Onl s a c:=⟨Nat.le_trans p.size q.size,fun g hg hs=>(q.block g (Nat.lt_of_lt_of_le hg p.size) hs).trans (p.block g hg hs)⟩
def U64 (B:Nat) (h:Heap) (s:Slc) (d:Array Int):Prop:=Row B h 22 1 s (u8s d.toList)
section
variable {B:Nat} {h h':Heap} {s:Slc} {d:Array Int}
theorem U64.len (R:U64 B h s d):s.len=d.size:=by
 have:=Row.len R
 unfold u8s at this
 simpa using this
theorem Onl.ext (O:Onl s h h') (R:U64 B h s d) (hB:B<=h.size):Ext B h h':=⟨O.size,fun g hg=>O.block g (by omega) fun e=>by have:=(R.bd e).1; omega⟩
theorem U64.ld (R:U64 B h s d) {i:Nat} (hi:i < d.size):∃ g,s.a=some ⟨g,0,none⟩/\af h ⟨g,i,none⟩=some (.int .u64 d[i]!):=by
 have sl:=R.len
 rcases R.2.2 with ⟨a0,a1,_⟩ | ⟨g,cur,a1,a2,a3,a4,a5,a6⟩
 ·omega
 ·refine ⟨g,a1,?_⟩
  obtain ⟨a,h1,h2⟩:=R.at (j:=i) (by omega)
  rw [a1] at h1; cases h1
  rw [add_mk,Nat.zero_add] at h2
  rw [h2]
  unfold u8s
  rw [List.getElem?_map,Array.getElem?_toList,Array.getElem?_eq_getElem hi,getElem!_pos d i hi]; rfl
theorem U64.st (R:U64 B h s d) {i:Nat} (hi:i < d.size) {g:Nat} (ha:s.a=some ⟨g,0,none⟩) (v:Int):WrH h ⟨g,i,none⟩/\U64 B (setH h ⟨g,i,none⟩ (.int .u64 v)) s (d.setIfInBounds i v)/\Onl s h (setH h ⟨g,i,none⟩ (.int .u64 v)):=by
 have sl:=R.len
 rcases R.2.2 with ⟨a0,a1,_⟩ | ⟨g',cur,a1,a2,a3,a4,a5,a6⟩
 ·omega
 ·rw [ha] at a1; cases a1
  refine ⟨a3.wr (by omega),⟨by unfold u8s; simp; omega,R.2.1,.inr ⟨g,_,ha,a2,a3.set (v:=.int .u64 v),a4,by rw [List.length_set]; exact a5,?_⟩⟩,by rw [jQ]; exact Nat.le_refl _,fun j _ hs=>jg fun e=>hs (by dsimp only at e; rw [e]; simp [Slc.blk,ha])⟩
  unfold u8s at a6 ⊢
  rw [List.take_set,a6,← List.map_set]
  simp
theorem qE {I J:Int} {k:KP Bool} (R:U64 B h s d) (hI:0<=I/\I < d.size) (hJ:0<=J/\J < d.size) (H:k (ltInt d[I.toNat]! d[J.toNat]!) h) :
  ∃ a1:Addr,s.a=some a1/\(0:Int)<=I/\I < (s.len:Int)/\(∃ v2:Int,af h (a1.add (I.toNat * 1))=some (.int .u64 v2)/\(∃ a3:Addr,s.a=some a3/\(0:Int)<=J/\J < (s.len:Int)/\(∃ v4:Int,af h (a3.add (J.toNat * 1))=some (.int .u64 v4)/\(aW v2 v4 (fun r h2=>k r h2) h)))):=by
 have sl:=R.len
 obtain ⟨g,ha,c1⟩:=R.ld (i:=I.toNat) (by omega)
 obtain ⟨g2,ha2,c2⟩:=R.ld (i:=J.toNat) (by omega)
 rw [ha] at ha2; cases ha2
 refine ⟨_,ha,hI.1,by omega,_,by rw [add_mk,Nat.zero_add,Nat.mul_one]; exact c1,_,ha,hJ.1,by omega,_,by rw [add_mk,Nat.zero_add,Nat.mul_one]; exact c2,?_⟩
 unfold aW mW
 show (if (d[I.toNat]! != d[I.toNat]!)=true then _ else _)
 rw [if_neg (by simp)]
 unfold lN
 rw [Bool.false_or]
 exact H
theorem mY {d:Array Int} {i j:Nat}:(swp d i j).size=d.size:=by unfold swp; simp
theorem qC {I J:Int} {k:Heap->Prop} (R:U64 B h s d) (hI:0<=I/\I < d.size) (hJ:0<=J/\J < d.size) (H:∀ h',U64 B h' s (swp d J.toNat I.toNat)->Onl s h h'->k h') :
  ∃ a2:Addr,s.a=some a2/\(0:Int)<=I/\I < (s.len:Int)/\(∃ v3:Int,af h (a2.add (I.toNat * 1))=some (.int .u64 v3)/\(∃ a4:Addr,s.a=some a4/\(0:Int)<=J/\J < (s.len:Int)/\(∃ v5:Int,af h (a4.add (J.toNat * 1))=some (.int .u64 v5)/\(∃ a6:Addr,s.a=some a6/\(0:Int)<=J/\J < (s.len:Int)/\(∃ h7:Heap,WrH h (a6.add (J.toNat * 1))/\h7=setH h (a6.add (J.toNat * 1)) (.int .u64 v3)/\(∃ a8:Addr,s.a=some a8/\(0:Int)<=I/\I < (s.len:Int)/\(∃ h9:Heap,WrH h7 (a8.add (I.toNat * 1))/\h9=setH h7 (a8.add (I.toNat * 1)) (.int .u64 v5)/\k h9))))))):=by
 have sl:=R.len
 obtain ⟨g,ha,c1⟩:=R.ld (i:=I.toNat) (by omega)
 obtain ⟨g2,ha2,c2⟩:=R.ld (i:=J.toNat) (by omega)
 rw [ha] at ha2; cases ha2
 have e:∀ n,(⟨g,0,none⟩:Addr).add (n * 1)=⟨g,n,none⟩:=fun n=>by rw [add_mk,Nat.zero_add,Nat.mul_one]
 obtain ⟨w1,R1,O1⟩:=R.st (i:=J.toNat) (by omega) ha d[I.toNat]!
 obtain ⟨w2,R2,O2⟩:=R1.st (i:=I.toNat) (by rw [Array.size_setIfInBounds]; omega) ha d[J.toNat]!
 refine ⟨_,ha,hI.1,by omega,_,by rw [e]; exact c1,_,ha,hJ.1,by omega,_,by rw [e]; exact c2,_,ha,hJ.1,by omega,_,by rw [e]; exact w1,rfl,_,ha,hI.1,by omega,_,by rw [e,e]; exact w2,rfl,?_⟩
 rw [e,e]
 exact H _ R2 (O1.trans O2)
/-! ### the sort by insertion -/
theorem insInner_stop {lt:Int->Int->Bool} {a:Nat}:∀ {j:Nat} {d:Array Int},j<=a->insInner lt a j d=d
 | 0,d,_=>rfl
 | j + 1,d,h=>by
  unfold insInner
  rw [if_neg (by simp; omega)]
theorem KL {a b:Nat} {k:KP Unit} (R:U64 B h s d) (ab:a<=b) (hb:b<=d.size) (hz:d.size<=1000000) (H:∀ h',U64 B h' s (insertionSort ltInt d a b)->Onl s h h'->k () h'):dh s a b k h:=by
 unfold dh
 rw [az (by omega) (by omega)]
 refine ⟨_,rfl,?_⟩
 unfold iL
 refine ⟨fun i h'=>∃ d',U64 B h' s d'/\(a:Int) + 1<=i/\i<=d.size + 1/\insOuter ltInt a b i.toNat d'=insertionSort ltInt d a b/\d'.size=d.size/\Onl s h h',fun i _=>(b - i).toNat,⟨d,R,by omega,by omega,by rw [show ((a:Int) + 1).toNat=a + 1 from by omega]; rfl,rfl,Onl.refl _ _⟩,?_⟩
 rintro i h1 ⟨d1,R1,i0,i1,e1,z1,O1⟩
 unfold iH
 by_cases hi:i < b
 ·rw [if_pos (decide_eq_true hi)]
  rw [insOuter,if_pos (by omega)] at e1
  unfold iM
  refine ⟨fun j h'=>∃ d',U64 B h' s d'/\(a:Int)<=j/\j<=i/\insOuter ltInt a b (i.toNat + 1) (insInner ltInt a j.toNat d')=insertionSort ltInt d a b/\d'.size=d.size/\Onl s h h',fun j _=>(j - a).toNat,⟨d1,R1,by omega,by omega,e1,z1,O1⟩,?_⟩
  rintro j h2 ⟨d2,R2,j0,j1,e2,z2,O2⟩
  have out:insInner ltInt a j.toNat d2=d2->aT s a b i j false k (fun i' h'=>(∃ d',U64 B h' s d'/\(a:Int) + 1<=i'/\i'<=d.size + 1/\insOuter ltInt a b i'.toNat d'=insertionSort ltInt d a b/\d'.size=d.size/\Onl s h h')/\(b - i').toNat < (b - i).toNat) (fun j' h'=>(∃ d',U64 B h' s d'/\(a:Int)<=j'/\j'<=i/\insOuter ltInt a b (i.toNat + 1) (insInner ltInt a j'.toNat d')=insertionSort ltInt d a b/\d'.size=d.size/\Onl s h h')/\(j' - a).toNat < (j - a).toNat) h2:=fun e=>by
   unfold aT
   rw [if_neg (by simp),az (by omega) (by omega)]
   rw [e] at e2
   exact ⟨_,rfl,⟨d2,R2,by omega,by omega,by rw [show (i + 1).toNat=i.toNat + 1 from by omega]; exact e2,z2,O2⟩,by omega⟩
  unfold iG
  by_cases hj:j > a
  ·rw [if_pos (decide_eq_true hj),az (by omega) (by omega)]
   refine qE R2 ⟨by omega,by omega⟩ ⟨by omega,by omega⟩ ?_
   have ej:j.toNat=(j - 1).toNat + 1:=by omega
   have eI:insInner ltInt a j.toNat d2=if ltInt d2[j.toNat]! d2[(j - 1).toNat]! = true then insInner ltInt a (j - 1).toNat (swp d2 j.toNat (j - 1).toNat) else d2:=by
    rw [ej,insInner]
    simp only [Bool.and_eq_true,decide_eq_true_eq]
    by_cases hl:ltInt d2[(j - 1).toNat + 1]! d2[(j - 1).toNat]! = true
    ·rw [if_pos ⟨by omega,hl⟩,if_pos hl]
    ·rw [if_neg (fun e=>hl e.2),if_neg hl]
   cases hl:ltInt d2[j.toNat]! d2[(j - 1).toNat]! with
   | false=>exact out (by rw [eI,hl,if_neg (by simp)])
   | true =>
    rw [hl,if_pos rfl] at eI
    unfold aT
    rw [if_pos rfl,az (by omega) (by omega)]
    refine qC R2 ⟨by omega,by omega⟩ ⟨by omega,by omega⟩ fun h3 R3 O3=>?_
    refine ⟨_,rfl,⟨_,R3,by omega,by omega,by rw [← eI]; exact e2,by rw [mY]; exact z2,O2.trans O3⟩,by dsimp only; omega⟩
  ·rw [if_neg (by rw [decide_eq_true_eq]; exact hj)]
   exact out (insInner_stop (by omega))
 ·rw [if_neg (by rw [decide_eq_true_eq]; exact hi)]
  rw [insOuter,if_neg (by omega)] at e1
  rw [e1] at R1
  exact H h1 R1 O1
end
end Go.Q.Yi
end

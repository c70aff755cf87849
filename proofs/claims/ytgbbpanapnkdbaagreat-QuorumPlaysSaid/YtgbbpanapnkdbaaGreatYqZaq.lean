/- A part of the proof of statements of this seat: lemmas, no statement of their own. -/
import Derived.Test.YtgbbpanapnkdbaaGreatYqZad
import Derived.Test.YtgbbpanapnkdbaaGreatYqZae
import Derived.Test.YtgbbpanapnkdbaaGreatYqZap
import Derived.Test.YtgbbpanapnkdbaaGreatYqZao
import Derived.Test.YtgbbpanapnkdbaaGreatYqZac
import Derived.Sort.AssemblyPlain
set_option linter.unusedVariables false
set_option linter.unusedSimpArgs false
set_option maxRecDepth 100000
set_option maxHeartbeats 1000000
section
namespace Go.Q.Yq
/-- what a call of itself is taken to do -/
structure FB where
  R:Slc->Int->Int->Int->(Unit->Heap->Prop)->Heap->Prop
  R_ref:∀ (p0:Slc) (p1 p2 p3:Int) (k:KP Unit) (h:Heap),R p0 p1 p2 p3 k h->CallsH Go.Proofs.Tryz.prog 110 #[Slc.v p0,.int .i64 p1,.int .i64 p2,.int .i64 p3] h (fun v h'=>∃ r:Unit,v = .tuple #[]/\k r h')
open Go.Proofs.Tryz
/-- slices.pdqsortOrdered uint64  -/
def bA (Q:FB) (f_:Slc) (b_:Int) (a_:Int) (d_:Int) (h_:Bool) (j_:Bool) (l_:Int) (g_:Int) (m_:Bool) (k:KP Unit) (nx1:KP (Int × Int × Int × Bool × Bool)) (h_5:Heap):Prop :=
  if m_ then (dN f_ b_ a_ g_ (fun r8 h9=>nx1 (r8,a_,d_,h_,j_) h9) h_5) else (eZ f_ b_ a_ g_ (fun r10 h11=>∃ x12,x12=(IntKind.i64.wrap (r10.1 - b_))/\(∃ x13,x13=(IntKind.i64.wrap (a_ - r10.1))/\(∃ x14,x14=(IntKind.i64.wrap (Int.tdiv l_ 8))/\(if (decide (x12 < x13)) then (Q.R f_ b_ r10.1 d_ (fun r15 h16=>∃ x17,x17=(IntKind.i64.wrap (r10.1 + 1))/\(nx1 (x17,a_,d_,(decide (x12>=x14)),r10.2) h16)) h11) else (Q.R f_ (IntKind.i64.wrap (r10.1 + 1)) a_ d_ (fun r18 h19=>nx1 (b_,r10.1,d_,(decide (x13>=x14)),r10.2) h19) h11))))) h_5)
def dE (Q:FB) (a_:Slc) (b_:Int) (f_:Int) (g_:Int) (h_:Bool) (j_:Bool) (l_:Int) (d_:Int) (k:KP Unit) (nx1:KP (Int × Int × Int × Bool × Bool)) (h_4:Heap):Prop :=
  if (decide (b_ > 0)) then (∃ a20,a_.a=some a20/\(0:Int)<=(IntKind.i64.wrap (b_ - 1))/\(IntKind.i64.wrap (b_ - 1)) < (a_.len:Int)/\(∃ v21,ah h_4 (a20.add ((IntKind.i64.wrap (b_ - 1)).toNat * 1))=some (.int .u64 v21)/\(∃ a22,a_.a=some a22/\(0:Int)<=d_/\d_ < (a_.len:Int)/\(∃ v23,ah h_4 (a22.add (d_.toNat * 1))=some (.int .u64 v23)/\(bv v21 v23 (fun r24 h25=>bA Q a_ b_ f_ g_ h_ j_ l_ d_ (!r24) k nx1 h25) h_4))))) else (bA Q a_ b_ f_ g_ h_ j_ l_ d_ false k nx1 h_4)
def dG (Q:FB) (a_:Slc) (b_:Int) (d_:Int) (h_:Int) (f_:Bool) (g_:Bool) (j_:Int) (l_:Int) (m_:Int) (k:KP Unit) (nx1:KP (Int × Int × Int × Bool × Bool)) (h_3:Heap):Prop :=
  if ((f_ && g_) && (m_ == 1)) then (bZ a_ b_ d_ (fun r26 h27=>if r26 then (k () h27) else (dE Q a_ b_ d_ h_ f_ g_ j_ l_ k nx1 h27)) h_3) else (dE Q a_ b_ d_ h_ f_ g_ j_ l_ k nx1 h_3)
def dH (Q:FB) (d_:Slc) (a_:Int) (b_:Int) (f_:Bool) (g_:Bool) (h_:Int) (j_:Int) (k:KP Unit) (nx1:KP (Int × Int × Int × Bool × Bool)) (h_2:Heap):Prop :=
  d9 d_ a_ b_ (fun r6 h7=>if (r6.2 == 2) then (dX d_ a_ b_ (fun r28 h29=>∃ x30,x30=(IntKind.i64.wrap ((IntKind.i64.wrap (b_ - 1)) - (IntKind.i64.wrap (r6.1 - a_))))/\(dG Q d_ a_ b_ j_ f_ g_ h_ x30 1 k nx1 h29)) h7) else (dG Q d_ a_ b_ j_ f_ g_ h_ r6.1 r6.2 k nx1 h7)) h_2
def lC (Q:FB) (d_:Slc) (a_:Int) (b_:Int) (f_:Int) (g_:Bool) (h_:Bool) (k:KP Unit) (nx1:KP (Int × Int × Int × Bool × Bool)) (h_1:Heap):Prop :=
  ∃ x1,x1=(IntKind.i64.wrap (b_ - a_))/\(if (decide (x1<=12)) then (dQ d_ a_ b_ (fun r2 h3=>k () h3) h_1) else (if (f_ == 0) then (fA d_ a_ b_ (fun r4 h5=>k () h5) h_1) else (if (!g_) then (dP d_ a_ b_ (fun r31 h32=>∃ x33,x33=(IntKind.i64.wrap (f_ - 1))/\(dH Q d_ a_ b_ g_ h_ x1 x33 k nx1 h32)) h_1) else (dH Q d_ a_ b_ g_ h_ x1 f_ k nx1 h_1))))
def mG (Q:FB) (h_:Slc) (i1:Int) (i2:Int) (i3:Int) (i8:Bool) (i9:Bool) (k:KP Unit) (h:Heap):Prop :=
  ∃ (I:KP (Int × Int × Int × Bool × Bool)) (μ:(Int × Int × Int × Bool × Bool)->Heap->Nat),I (i1,i2,i3,i8,i9) h/\∀ (a_:Int) (b_:Int) (d_:Int) (f_:Bool) (g_:Bool) (h:Heap),I (a_,b_,d_,f_,g_) h->lC Q h_ a_ b_ d_ f_ g_ k (fun s h'=>I s h'/\μ s h' < μ (a_,b_,d_,f_,g_) h) h
def dS (Q:FB) (p0:Slc) (p1:Int) (p2:Int) (p3:Int) (k:KP Unit) (h:Heap):Prop :=
  mG Q p0 p1 p2 p3 true true k h
theorem OY:aF prog 110:=ck func110
theorem Qt (Q:FB) (p0 p1 p2 p3 k h) (H:dS Q p0 p1 p2 p3 k h):CallsH prog 110 #[Slc.v p0,.int .i64 p1,.int .i64 p2,.int .i64 p3] h (rU k):=by
 refine fE func110 fun w0=>?_
 refine zF [0,1,2,3] (zQ ?_)
 refine w1 Z (zE (zQ ?_))
 refine w1 Z (zE (zB ?_))
 obtain ⟨I1,μ1,H0,HI⟩:=H
 refine zO (σ:=Int × Int × Int × Bool × Bool) [0] (fun (s:Int × Int × Int × Bool × Bool)=>[(1,.int .i64 s.1),(2,.int .i64 s.2.1),(3,.int .i64 s.2.2.1),(8,.bool s.2.2.2.1),(9,.bool s.2.2.2.2)]) I1 μ1 (p1,p2,p3,true,true) H0 ?_
 rintro ⟨f_,d_,g_,a_,b_⟩ h_1 H
 replace H:=HI f_ d_ g_ a_ b_ h_1 H
 refine zF [1,2,3,8,9,0] (zB (zQ ?_))
 refine w3 Z ?_
 refine wQ Z H fun x1 H=>?_
 refine zE (zS (zQ (w2 Z (zE ?_))))
 refine zI H ?_ ?_ <;> intro H
 refine zQ (w3 Z ?_)
 refine wC SY (RY _ _ _ _ _ H) fun r2 h3 H=>?_
 refine zE (zF [] (zT (yT (yB (yT (yB ?_))))))
 exact aB _ rfl _ rfl ⟨(),rfl,H⟩
 refine zK (zX (zS (zQ (w2 Z (zE ?_)))))
 refine zI H ?_ ?_ <;> intro H
 refine zQ (w3 Z ?_)
 refine wC Sj (SB _ _ _ _ _ H) fun r4 h5 H=>?_
 refine zE (zF [] (zT (yT (yB (yT (yB ?_))))))
 exact aB _ rfl _ rfl ⟨(),rfl,H⟩
 refine zK (zX (zF [1,2,3,8,9,0,10] ?_))
 refine zJ (α:=Int) [0,1,2,8,9,10] (fun (s:Int)=>[(3,.int .i64 s)]) (fun (s:Int) h=>dH Q p0 f_ d_ a_ b_ x1 s k (fun s h'=>I1 s h'/\μ1 s h' < μ1 (f_,d_,g_,a_,b_) h_1) h) ?_ ?_
 rintro h_ h_2 H
 refine zF [3,0,1,2,8,9,10] (zQ ?_)
 refine w3 Z ?_
 refine wC SH (RJ _ _ _ _ _ H) fun r6 h7 H=>?_
 refine w5 Z (zE (zF [3,0,1,2,8,9,10,11,12] ?_))
 refine zJ (α:=Int × Int) [0,1,2,3,8,9,10] (fun (s:Int × Int)=>[(11,.int .i64 s.1),(12,.int .i64 s.2)]) (fun (s:Int × Int) h=>dG Q p0 f_ d_ h_ a_ b_ x1 s.1 s.2 k (fun s h'=>I1 s h'/\μ1 s h' < μ1 (f_,d_,g_,a_,b_) h_1) h) ?_ ?_
 rintro ⟨j_,l_⟩ h_3 H
 refine zF [11,12,0,1,2,3,8,9,10] ?_
 refine zJ (α:=Unit) [0,1,2,3,8,9,10,11] (fun (s:Unit)=>[]) (fun (s:Unit) h=>dE Q p0 f_ d_ h_ a_ b_ x1 j_ k (fun s h'=>I1 s h'/\μ1 s h' < μ1 (f_,d_,g_,a_,b_) h_1) h) ?_ ?_
 rintro _ h_4 H
 refine zF [0,1,2,3,8,9,10,11] (zS ?_)
 refine zJ (α:=Bool) [0,1,2,3,8,9,10,11] (fun (s:Bool)=>[(87,.bool s)]) (fun (s:Bool) h=>bA Q p0 f_ d_ h_ a_ b_ x1 j_ s k (fun s h'=>I1 s h'/\μ1 s h' < μ1 (f_,d_,g_,a_,b_) h_1) h) ?_ ?_
 rintro m_ h_5 H
 refine zF [87,0,1,2,3,8,9,10,11] ?_
 refine zI H ?_ ?_ <;> intro H
 refine zQ (w4 Z ?_)
 refine wC Rc (Rx _ _ _ _ _ _ H) fun r8 h9 H=>?_
 refine w1 Z (zE (zF [0,2,3,8,9,13] (zQ ?_)))
 refine w2 Z (zE (zY (yE (yH ?_))))
 exact xJ (r8,d_,h_,a_,b_) H
 refine zK (zX (zQ (w4 Z ?_)))
 refine wC Ru (QY _ _ _ _ _ _ H) fun r10 h11 H=>?_
 refine w5 Z (zE (zF [0,1,2,3,10,14,15] (zQ ?_)))
 refine w2 Z (zE (zQ ?_))
 refine w6 Z ?_
 refine wQ Z H fun x12 H=>?_
 refine wQ Z H fun x13 H=>?_
 refine zE (zF [0,1,2,3,10,14,9,16,17] (zQ ?_))
 refine w2 Z ?_
 refine wQ Z H fun x14 H=>?_
 refine zE (zQ (w3 Z (zE ?_)))
 refine zI H ?_ ?_ <;> intro H
 refine zQ (w4 Z (zE (zF [0,1,2,3,14,9,8] (zQ ?_))))
 refine w4 Z ?_
 refine wC OY (Q.R_ref _ _ _ _ _ _ H) fun r15 h16 H=>?_
 refine zE (zR (w2 Z ?_))
 refine wQ Z H fun x17 H=>?_
 refine zL ?_
 exact xJ (x17,d_,h_,(decide (x12>=x14)),r10.2) H
 refine zQ (w4 Z (zE (zF [0,1,2,3,14,9,8] (zQ ?_))))
 refine w5 Z ?_
 refine wC OY (Q.R_ref _ _ _ _ _ _ H) fun r18 h19 H=>?_
 refine zE (zF [0,1,3,14,9,8] (zR ?_))
 refine w2 Z (zL ?_)
 exact xJ (f_,r10.1,h_,(decide (x13>=x14)),r10.2) H
 refine gB [0,1,2,3,8,9,10,11] ?_
 refine gT 0 [1] Z ?_
 refine gT 1 [73] Z ?_
 refine gT 2 [74] Z ?_
 refine gI 75 H (fun hb H=>?_) (fun hb H=>?_)
 refine gT 3 [0,75] Z ?_
 refine gT 4 [1,75] Z ?_
 refine gT 5 [75,77] Z ?_
 refine gd 6 [75,76,78] Z H fun a20 H=>?_
 refine gl 7 [75,79] Z H fun v21 H=>?_
 refine gT 8 [0,75] Z ?_
 refine gT 9 [11,75] Z ?_
 refine gd 10 [75,81,82] Z H fun a22 H=>?_
 refine gl 11 [75,83] Z H fun v23 H=>?_
 refine gC 12 [75,80,84] Da (Cu _ _ _ _ H) fun r24 h25 H=>?_
 refine gT 13 [75,85] Z ?_
 refine gT 14 [75,86] Z ?_
 refine gZ ?_
 exact xJ (!r24) H
 refine gS 3 [0,75] ?_
 refine gS 4 [1,75] ?_
 refine gS 5 [75,77] ?_
 refine gS 6 [75,76,78] ?_
 refine gS 7 [75,79] ?_
 refine gS 8 [0,75] ?_
 refine gS 9 [11,75] ?_
 refine gS 10 [75,81,82] ?_
 refine gS 11 [75,83] ?_
 refine gS 12 [75,80,84] ?_
 refine gS 13 [75,85] ?_
 refine gT 14 [75,86] Z ?_
 refine gZ ?_
 exact xJ false H
 refine zQ (w2 Z ?_)
 refine vU 2 [0,1,2,3,8,9,10,11,12] [(64,.bool (a_ && b_))] ?_ ?_
 refine w1 Z ?_
 refine vU 3 [0,1,2,3,8,9,10,11] [(68,.bool ((a_ && b_) && (l_ == 1)))] ?_ ?_
 refine zE ?_
 refine zI H ?_ ?_ <;> intro H
 refine zQ (w3 Z ?_)
 refine wC Sv (RD _ _ _ _ _ H) fun r26 h27 H=>?_
 refine zE ?_
 refine zI H ?_ ?_ <;> intro H
 refine zT (yT (yB (yT (yB ?_))))
 exact aB _ rfl _ rfl ⟨(),rfl,H⟩
 refine zK ?_
 exact xJ () H
 refine zK ?_
 exact xJ () H
 refine vG (d:=65) (fun hb=>?_) (fun hb=>?_)
 refine w3 Z ?_
 refine vK ?_
 exact congrArg (fun b=>some (Value.bool b)) (jD hb)
 refine wS (wS (w1 Z ?_))
 refine vK ?_
 exact congrArg (fun b=>some (Value.bool b)) (jH hb)
 refine vG (d:=62) (fun hb=>?_) (fun hb=>?_)
 refine w2 Z ?_
 refine vK ?_
 exact congrArg (fun b=>some (Value.bool b)) (jD hb)
 refine wS (w1 Z ?_)
 refine vK ?_
 exact congrArg (fun b=>some (Value.bool b)) (jH hb)
 refine zQ (w2 Z (zE ?_))
 refine zI H ?_ ?_ <;> intro H
 refine zQ (w3 Z ?_)
 refine wC Sg (Ro _ _ _ _ _ H) fun r28 h29 H=>?_
 refine zE (zF [3,0,1,2,8,9,10,11] (zQ ?_))
 refine w6 Z ?_
 refine wQ Z H fun x30 H=>?_
 refine zE (zR (w1 Z (zW ?_)))
 exact xJ (x30,1) H
 refine zK ?_
 exact xJ (r6.1,r6.2) H
 refine zQ (w2 Z (zE ?_))
 refine zI H ?_ ?_ <;> intro H
 refine zQ (w3 Z ?_)
 refine wC Sn (RB _ _ _ _ _ H) fun r31 h32 H=>?_
 refine zE (zR (w2 Z ?_))
 refine wQ Z H fun x33 H=>?_
 refine zW ?_
 exact xJ x33 H
 refine zK ?_
 exact xJ g_ H
end Go.Q.Yq
end
section
namespace Go.Q.Yq
open Go.Sort
def u8s (l:List Int):List Value:=l.map (Value.int .u64)
/-! ### a row of numbers of one's own -/
/-- all blocks but that of s stay -/
structure Onl (s:Slc) (h h':Heap):Prop where
 size:h.size<=h'.size
 block:∀ g,g < h.size->s.blk≠some g->h'[g]? = h[g]?
theorem Onl.refl (s:Slc) (h:Heap):Onl s h h:=⟨Nat.le_refl _,fun _ _ _=>rfl⟩
theorem Onl.trans {s:Slc} {a b c:Heap} (p:Onl s a b) (q:Onl s b c):Onl s a c:=⟨Nat.le_trans p.size q.size,fun g hg hs=>(q.block g (Nat.lt_of_lt_of_le hg p.size) hs).trans (p.block g hg hs)⟩
def U64 (B:Nat) (h:Heap) (s:Slc) (d:Array Int):Prop:=Row B h 25 1 s (u8s d.toList)
section
variable {B:Nat} {h h':Heap} {s:Slc} {d:Array Int}
theorem U64.len (R:U64 B h s d):s.len=d.size:=by
 have:=Row.len R
 unfold u8s at this
 simpa using this
theorem Onl.ext (O:Onl s h h') (R:U64 B h s d) (hB:B<=h.size):Ext B h h':=⟨O.size,fun g hg=>O.block g (by omega) fun e=>by have:=(R.bd e).1; omega⟩
theorem U64.ld (R:U64 B h s d) {i:Nat} (hi:i < d.size):∃ g,s.a=some ⟨g,0,none⟩/\ah h ⟨g,i,none⟩=some (.int .u64 d[i]!):=by
 have sl:=R.len
 rcases R.2.2 with ⟨a0,a1,_⟩ | ⟨g,cur,a1,a2,a3,a4,a5,a6⟩
 ·omega
 ·refine ⟨g,a1,?_⟩
  obtain ⟨a,h1,h2⟩:=R.at (j:=i) (by omega)
  rw [a1] at h1; cases h1
  rw [add_mk,Nat.zero_add] at h2
  rw [h2]
  unfold u8s
  rw [List.getElem?_map,Array.getElem?_toList,Array.getElem?_eq_getElem hi,getElem!_pos d i hi]; rfl
theorem U64.st (R:U64 B h s d) {i:Nat} (hi:i < d.size) {g:Nat} (ha:s.a=some ⟨g,0,none⟩) (v:Int):WrH h ⟨g,i,none⟩/\U64 B (setH h ⟨g,i,none⟩ (.int .u64 v)) s (d.setIfInBounds i v)/\Onl s h (setH h ⟨g,i,none⟩ (.int .u64 v)):=by
 have sl:=R.len
 rcases R.2.2 with ⟨a0,a1,_⟩ | ⟨g',cur,a1,a2,a3,a4,a5,a6⟩
 ·omega
 ·rw [ha] at a1; cases a1
  refine ⟨a3.wr (by omega),⟨by unfold u8s; simp; omega,R.2.1,.inr ⟨g,_,ha,a2,a3.set (v:=.int .u64 v),a4,by rw [List.length_set]; exact a5,?_⟩⟩,by rw [lv]; exact Nat.le_refl _,fun j _ hs=>jL fun e=>hs (by dsimp only at e; rw [e]; simp [Slc.blk,ha])⟩
  unfold u8s at a6 ⊢
  rw [List.take_set,a6,← List.map_set]
  simp
theorem uJ {I J:Int} {k:KP Bool} (R:U64 B h s d) (hI:0<=I/\I < d.size) (hJ:0<=J/\J < d.size) (H:k (ltInt d[I.toNat]! d[J.toNat]!) h) :
  ∃ a1:Addr,s.a=some a1/\(0:Int)<=I/\I < (s.len:Int)/\(∃ v2:Int,ah h (a1.add (I.toNat * 1))=some (.int .u64 v2)/\(∃ a3:Addr,s.a=some a3/\(0:Int)<=J/\J < (s.len:Int)/\(∃ v4:Int,ah h (a3.add (J.toNat * 1))=some (.int .u64 v4)/\(bv v2 v4 (fun r h2=>k r h2) h)))):=by
 have sl:=R.len
 obtain ⟨g,ha,c1⟩:=R.ld (i:=I.toNat) (by omega)
 obtain ⟨g2,ha2,c2⟩:=R.ld (i:=J.toNat) (by omega)
 rw [ha] at ha2; cases ha2
 refine ⟨_,ha,hI.1,by omega,_,by rw [add_mk,Nat.zero_add,Nat.mul_one]; exact c1,_,ha,hJ.1,by omega,_,by rw [add_mk,Nat.zero_add,Nat.mul_one]; exact c2,?_⟩
 unfold bv iJ
 show (if (d[I.toNat]! != d[I.toNat]!)=true then _ else _)
 rw [if_neg (by simp)]
 unfold nQ
 rw [Bool.false_or]
 exact H
theorem pX {d:Array Int} {i j:Nat}:(swp d i j).size=d.size:=by unfold swp; simp
theorem uH {I J:Int} {k:Heap->Prop} (R:U64 B h s d) (hI:0<=I/\I < d.size) (hJ:0<=J/\J < d.size) (H:∀ h',U64 B h' s (swp d J.toNat I.toNat)->Onl s h h'->k h') :
  ∃ a2:Addr,s.a=some a2/\(0:Int)<=I/\I < (s.len:Int)/\(∃ v3:Int,ah h (a2.add (I.toNat * 1))=some (.int .u64 v3)/\(∃ a4:Addr,s.a=some a4/\(0:Int)<=J/\J < (s.len:Int)/\(∃ v5:Int,ah h (a4.add (J.toNat * 1))=some (.int .u64 v5)/\(∃ a6:Addr,s.a=some a6/\(0:Int)<=J/\J < (s.len:Int)/\(∃ h7:Heap,WrH h (a6.add (J.toNat * 1))/\h7=setH h (a6.add (J.toNat * 1)) (.int .u64 v3)/\(∃ a8:Addr,s.a=some a8/\(0:Int)<=I/\I < (s.len:Int)/\(∃ h9:Heap,WrH h7 (a8.add (I.toNat * 1))/\h9=setH h7 (a8.add (I.toNat * 1)) (.int .u64 v5)/\k h9))))))):=by
 have sl:=R.len
 obtain ⟨g,ha,c1⟩:=R.ld (i:=I.toNat) (by omega)
 obtain ⟨g2,ha2,c2⟩:=R.ld (i:=J.toNat) (by omega)
 rw [ha] at ha2; cases ha2
 have e:∀ n,(⟨g,0,none⟩:Addr).add (n * 1)=⟨g,n,none⟩:=fun n=>by rw [add_mk,Nat.zero_add,Nat.mul_one]
 obtain ⟨w1,R1,O1⟩:=R.st (i:=J.toNat) (by omega) ha d[I.toNat]!
 obtain ⟨w2,R2,O2⟩:=R1.st (i:=I.toNat) (by rw [Array.size_setIfInBounds]; omega) ha d[J.toNat]!
 refine ⟨_,ha,hI.1,by omega,_,by rw [e]; exact c1,_,ha,hJ.1,by omega,_,by rw [e]; exact c2,_,ha,hJ.1,by omega,_,by rw [e]; exact w1,rfl,_,ha,hI.1,by omega,_,by rw [e,e]; exact w2,rfl,?_⟩
 rw [e,e]
 exact H _ R2 (O1.trans O2)
/-! ### the sort by insertion -/
theorem insInner_stop {lt:Int->Int->Bool} {a:Nat}:∀ {j:Nat} {d:Array Int},j<=a->insInner lt a j d=d
 | 0,d,_=>rfl
 | j + 1,d,h=>by
  unfold insInner
  rw [if_neg (by simp; omega)]
theorem PQ {a b:Nat} {k:KP Unit} (R:U64 B h s d) (ab:a<=b) (hb:b<=d.size) (hz:d.size<=1000000) (H:∀ h',U64 B h' s (insertionSort ltInt d a b)->Onl s h h'->k () h'):dQ s a b k h:=by
 unfold dQ
 rw [aA (by omega) (by omega)]
 refine ⟨_,rfl,?_⟩
 unfold jy
 refine ⟨fun i h'=>∃ d',U64 B h' s d'/\(a:Int) + 1<=i/\i<=d.size + 1/\insOuter ltInt a b i.toNat d'=insertionSort ltInt d a b/\d'.size=d.size/\Onl s h h',fun i _=>(b - i).toNat,⟨d,R,by omega,by omega,by rw [show ((a:Int) + 1).toNat=a + 1 from by omega]; rfl,rfl,Onl.refl _ _⟩,?_⟩
 rintro i h1 ⟨d1,R1,i0,i1,e1,z1,O1⟩
 unfold iU
 by_cases hi:i < b
 ·rw [if_pos (decide_eq_true hi)]
  rw [insOuter,if_pos (by omega)] at e1
  unfold jE
  refine ⟨fun j h'=>∃ d',U64 B h' s d'/\(a:Int)<=j/\j<=i/\insOuter ltInt a b (i.toNat + 1) (insInner ltInt a j.toNat d')=insertionSort ltInt d a b/\d'.size=d.size/\Onl s h h',fun j _=>(j - a).toNat,⟨d1,R1,by omega,by omega,e1,z1,O1⟩,?_⟩
  rintro j h2 ⟨d2,R2,j0,j1,e2,z2,O2⟩
  have out:insInner ltInt a j.toNat d2=d2->bn s a b i j false k (fun i' h'=>(∃ d',U64 B h' s d'/\(a:Int) + 1<=i'/\i'<=d.size + 1/\insOuter ltInt a b i'.toNat d'=insertionSort ltInt d a b/\d'.size=d.size/\Onl s h h')/\(b - i').toNat < (b - i).toNat) (fun j' h'=>(∃ d',U64 B h' s d'/\(a:Int)<=j'/\j'<=i/\insOuter ltInt a b (i.toNat + 1) (insInner ltInt a j'.toNat d')=insertionSort ltInt d a b/\d'.size=d.size/\Onl s h h')/\(j' - a).toNat < (j - a).toNat) h2:=fun e=>by
   unfold bn
   rw [if_neg (by simp),aA (by omega) (by omega)]
   rw [e] at e2
   exact ⟨_,rfl,⟨d2,R2,by omega,by omega,by rw [show (i + 1).toNat=i.toNat + 1 from by omega]; exact e2,z2,O2⟩,by omega⟩
  unfold ja
  by_cases hj:j > a
  ·rw [if_pos (decide_eq_true hj),aA (by omega) (by omega)]
   refine uJ R2 ⟨by omega,by omega⟩ ⟨by omega,by omega⟩ ?_
   have ej:j.toNat=(j - 1).toNat + 1:=by omega
   have eI:insInner ltInt a j.toNat d2=if ltInt d2[j.toNat]! d2[(j - 1).toNat]! = true then insInner ltInt a (j - 1).toNat (swp d2 j.toNat (j - 1).toNat) else d2:=by
    rw [ej,insInner]
    simp only [Bool.and_eq_true,decide_eq_true_eq]
    by_cases hl:ltInt d2[(j - 1).toNat + 1]! d2[(j - 1).toNat]! = true
    ·rw [if_pos ⟨by omega,hl⟩,if_pos hl]
    ·rw [if_neg (fun e=>hl e.2),if_neg hl]
   cases hl:ltInt d2[j.toNat]! d2[(j - 1).toNat]! with
   | false=>exact out (by rw [eI,hl,if_neg (by simp)])
   | true =>
    rw [hl,if_pos rfl] at eI
    unfold bn
    rw [if_pos rfl,aA (by omega) (by omega)]
    refine uH R2 ⟨by omega,by omega⟩ ⟨by omega,by omega⟩ fun h3 R3 O3=>?_
    refine ⟨_,rfl,⟨_,R3,by omega,by omega,by rw [← eI]; exact e2,by rw [pX]; exact z2,O2.trans O3⟩,by dsimp only; omega⟩
  ·rw [if_neg (by rw [decide_eq_true_eq]; exact hj)]
   exact out (insInner_stop (by omega))
 ·rw [if_neg (by rw [decide_eq_true_eq]; exact hi)]
  rw [insOuter,if_neg (by omega)] at e1
  rw [e1] at R1
  exact H h1 R1 O1
end
end Go.Q.Yq
end
section
namespace Go.Q.Yq
open Go.Sort
/-! ### the two partitions -/
theorem LZ {p:Int->Bool} {d:Array Int} {j i:Nat} (h:i<=j) (hp:p d[i]! = true):scanUp p d j i=scanUp p d j (i + 1):=by rw [scanUp,if_pos (by simp [h,hp])]
theorem Ea {p:Int->Bool} {d:Array Int} {j i:Nat} (h:¬ i<=j∨p d[i]! = false):scanUp p d j i=i:=by rw [scanUp,if_neg (by rcases h with h | h <;> simp [h])]
theorem Mg {p:Int->Bool} {d:Array Int} {i j:Nat} (h:i<=j) (h0:0 < j) (hp:p d[j]! = true):scanDown p d i j=scanDown p d i (j - 1):=by
 cases j with
 | zero=>omega
 | succ n=>rw [scanDown,if_pos (by simp [h,hp])]; rfl
theorem DZ {p:Int->Bool} {d:Array Int} {i j:Nat} (h:¬ i<=j∨p d[j]! = false):scanDown p d i j=j:=by
 cases j with
 | zero=>rfl
 | succ n=>rw [scanDown,if_neg (by rcases h with h | h <;> simp [h])]
section
variable {B:Nat} {h:Heap} {s:Slc} {d:Array Int} {a b pv:Nat}
theorem NW {k:KP (Int × Bool)} (R:U64 B h s d) (ha:a<=pv) (hb:pv < b) (hs:b<=d.size) (hz:d.size<=1000)
  (H:∀ h',U64 B h' s (partition ltInt d a b pv).2.2->Onl s h h'->k (((partition ltInt d a b pv).1:Nat),(partition ltInt d a b pv).2.1) h'):eZ s a b pv k h:=by
 unfold eZ
 refine uH R (I:=pv) (J:=a) ⟨by omega,by omega⟩ ⟨by omega,by omega⟩ fun h1 R1 O1=>?_
 rw [Int.toNat_natCast,Int.toNat_natCast] at R1
 have z1:(swp d a pv).size=d.size:=pX
 have eP:partition ltInt d a b pv=(if scanUp (fun x=>ltInt x (swp d a pv)[a]!) (swp d a pv) (b - 1) (a + 1) > scanDown (fun x=>!ltInt x (swp d a pv)[a]!) (swp d a pv) (scanUp (fun x=>ltInt x (swp d a pv)[a]!) (swp d a pv) (b - 1) (a + 1)) (b - 1) then (scanDown (fun x=>!ltInt x (swp d a pv)[a]!) (swp d a pv) (scanUp (fun x=>ltInt x (swp d a pv)[a]!) (swp d a pv) (b - 1) (a + 1)) (b - 1),true,swp (swp d a pv) (scanDown (fun x=>!ltInt x (swp d a pv)[a]!) (swp d a pv) (scanUp (fun x=>ltInt x (swp d a pv)[a]!) (swp d a pv) (b - 1) (a + 1)) (b - 1)) a) else
   ((partLoop ltInt a (scanUp (fun x=>ltInt x (swp d a pv)[a]!) (swp d a pv) (b - 1) (a + 1) + 1) (scanDown (fun x=>!ltInt x (swp d a pv)[a]!) (swp d a pv) (scanUp (fun x=>ltInt x (swp d a pv)[a]!) (swp d a pv) (b - 1) (a + 1)) (b - 1) - 1) (swp (swp d a pv) (scanUp (fun x=>ltInt x (swp d a pv)[a]!) (swp d a pv) (b - 1) (a + 1)) (scanDown (fun x=>!ltInt x (swp d a pv)[a]!) (swp d a pv) (scanUp (fun x=>ltInt x (swp d a pv)[a]!) (swp d a pv) (b - 1) (a + 1)) (b - 1)))).1,false,
    swp (partLoop ltInt a (scanUp (fun x=>ltInt x (swp d a pv)[a]!) (swp d a pv) (b - 1) (a + 1) + 1) (scanDown (fun x=>!ltInt x (swp d a pv)[a]!) (swp d a pv) (scanUp (fun x=>ltInt x (swp d a pv)[a]!) (swp d a pv) (b - 1) (a + 1)) (b - 1) - 1) (swp (swp d a pv) (scanUp (fun x=>ltInt x (swp d a pv)[a]!) (swp d a pv) (b - 1) (a + 1)) (scanDown (fun x=>!ltInt x (swp d a pv)[a]!) (swp d a pv) (scanUp (fun x=>ltInt x (swp d a pv)[a]!) (swp d a pv) (b - 1) (a + 1)) (b - 1)))).2
     (partLoop ltInt a (scanUp (fun x=>ltInt x (swp d a pv)[a]!) (swp d a pv) (b - 1) (a + 1) + 1) (scanDown (fun x=>!ltInt x (swp d a pv)[a]!) (swp d a pv) (scanUp (fun x=>ltInt x (swp d a pv)[a]!) (swp d a pv) (b - 1) (a + 1)) (b - 1) - 1) (swp (swp d a pv) (scanUp (fun x=>ltInt x (swp d a pv)[a]!) (swp d a pv) (b - 1) (a + 1)) (scanDown (fun x=>!ltInt x (swp d a pv)[a]!) (swp d a pv) (scanUp (fun x=>ltInt x (swp d a pv)[a]!) (swp d a pv) (b - 1) (a + 1)) (b - 1)))).1 a)):=rfl
 rw [eP] at H
 clear eP
 generalize swp d a pv=d1 at *
 rw [aA (by omega) (by omega),aA (by omega) (by omega)]
 refine ⟨_,rfl,_,rfl,?_⟩
 generalize hi1:scanUp (fun x=>ltInt x d1[a]!) d1 (b - 1) (a + 1)=i1 at *
 generalize hj1:scanDown (fun x=>!ltInt x d1[a]!) d1 i1 (b - 1)=j1 at *
 have ea:((a:Nat):Int).toNat=a:=Int.toNat_natCast a
 unfold kU
 refine ⟨fun i h'=>h'=h1/\(a:Int) + 1<=i/\i<=b/\scanUp (fun x=>ltInt x d1[a]!) d1 (b - 1) i.toNat=i1,fun i _=>(b - i).toNat,⟨rfl,by omega,by omega,by rw [show ((a:Int) + 1).toNat=a + 1 from by omega]; exact hi1⟩,?_⟩
 rintro i h' ⟨rfl,i0,iB,ei⟩
 -- the first scan is over
 have done:i.toNat=i1->bI s a i (b - 1) false k (fun i' h''=>(h''=h'/\(a:Int) + 1<=i'/\i'<=b/\scanUp (fun x=>ltInt x d1[a]!) d1 (b - 1) i'.toNat=i1)/\((b:Int) - i').toNat < ((b:Int) - i).toNat) h':=fun e1=>by
  unfold bI
  rw [if_neg (by simp)]
  unfold kV
  refine ⟨fun j h''=>h''=h'/\i - 1<=j/\j<=b - 1/\scanDown (fun x=>!ltInt x d1[a]!) d1 i1 j.toNat=j1,fun j _=>(j - i + 2).toNat,⟨rfl,by omega,by omega,by rw [show ((b:Int) - 1).toNat=b - 1 from by omega]; exact hj1⟩,?_⟩
  rintro j h2 ⟨e2,j0,jB,ej⟩
  subst e2
  have done2:j.toNat=j1->bG s a i j false k (fun i' h''=>(h''=h2/\(a:Int) + 1<=i'/\i'<=b/\scanUp (fun x=>ltInt x d1[a]!) d1 (b - 1) i'.toNat=i1)/\((b:Int) - i').toNat < ((b:Int) - i).toNat) (fun j' h''=>(h''=h2/\i - 1<=j'/\j'<=b - 1/\scanDown (fun x=>!ltInt x d1[a]!) d1 i1 j'.toNat=j1)/\(j' - i + 2).toNat < (j - i + 2).toNat) h2:=fun e2=>by
   unfold bG
   rw [if_neg (by simp)]
   by_cases hij:i > j
   ·rw [if_pos (decide_eq_true hij)]
    refine uH R1 (I:=a) (J:=j) ⟨by omega,by omega⟩ ⟨by omega,by omega⟩ fun h3 R3 O3=>?_
    rw [if_pos (by omega)] at H
    rw [ea,e2] at R3
    have:=H h3 R3 (O1.trans O3)
    rw [← e2,show ((j.toNat:Nat):Int)=j from by omega] at this
    exact this
   rw [if_neg (by rw [decide_eq_true_eq]; exact hij)]
   rw [if_neg (by omega)] at H
   refine uH R1 (I:=j) (J:=i) ⟨by omega,by omega⟩ ⟨by omega,by omega⟩ fun h3 R3 O3=>?_
   rw [e1,e2] at R3
   rw [aA (by omega) (by omega),aA (by omega) (by omega)]
   refine ⟨_,rfl,_,rfl,?_⟩
   have z3:(swp d1 i1 j1).size=d.size:=by rw [pX,z1]
   generalize hr:partLoop ltInt a (i1 + 1) (j1 - 1) (swp d1 i1 j1)=r at *
   unfold kS
   refine ⟨fun st h''=>∃ d',U64 B h'' s d'/\d'.size=d.size/\Onl s h h''/\(a:Int) + 1<=st.1/\(a:Int)<=st.2/\st.2<=b - 1/\st.1<=b/\partLoop ltInt a st.1.toNat st.2.toNat d'=r,fun st _=>(st.2 + 1 - st.1).toNat,
    ⟨_,R3,z3,O1.trans O3,by dsimp only; omega,by dsimp only; omega,by dsimp only; omega,by dsimp only; omega,by dsimp only; rw [show (i + 1).toNat=i1 + 1 from by omega,show (j - 1).toNat=j1 - 1 from by omega]; exact hr⟩,?_⟩
   rintro i4 j4 h4 ⟨d4,R4,z4,O4,i40,j40,j4B,i4B,e4⟩
   dsimp only at i40 j40 j4B i4B e4
   rw [partLoop_eq] at e4
   generalize hi5:scanUp (fun x=>ltInt x d4[a]!) d4 j4.toNat i4.toNat=i5 at *
   generalize hj5:scanDown (fun x=>!ltInt x d4[a]!) d4 i5 j4.toNat=j5 at *
   unfold kv kY
   refine ⟨fun i' h''=>h''=h4/\i4<=i'/\i'<=b/\scanUp (fun x=>ltInt x d4[a]!) d4 j4.toNat i'.toNat=i5,fun i' _=>(b - i').toNat,⟨rfl,by omega,by omega,hi5⟩,?_⟩
   rintro i6 h'' ⟨e6,i60,i6B,ei6⟩
   subst e6
   have done3:i6.toNat=i5->∀ nx1 nx3,bF s a i6 j4 false k nx1 nx3 (fun st h''=>(∃ d',U64 B h'' s d'/\d'.size=d.size/\Onl s h h''/\(a:Int) + 1<=st.1/\(a:Int)<=st.2/\st.2<=b - 1/\st.1<=b/\partLoop ltInt a st.1.toNat st.2.toNat d'=r)/\(st.2 + 1 - st.1).toNat < (j4 + 1 - i4).toNat) (fun i' h3=>(h3=h''/\i4<=i'/\i'<=b/\scanUp (fun x=>ltInt x d4[a]!) d4 j4.toNat i'.toNat=i5)/\((b:Int) - i').toNat < ((b:Int) - i6).toNat) h'':=fun e6 nx1 nx3=>by
    unfold bF
    rw [if_neg (by simp)]
    unfold kT
    refine ⟨fun j' h3=>h3=h''/\(i6<=j' + 1∨j'=j4)/\j'<=j4/\scanDown (fun x=>!ltInt x d4[a]!) d4 i5 j'.toNat=j5,fun j' _=>(j' + 1).toNat,⟨rfl,.inr rfl,by omega,hj5⟩,?_⟩
    rintro j6 h3 ⟨e7,j60,j6B,ej6⟩
    subst e7
    have done4:j6.toNat=j5->bH s a i6 j6 false k nx1 nx3 (fun st h''=>(∃ d',U64 B h'' s d'/\d'.size=d.size/\Onl s h h''/\(a:Int) + 1<=st.1/\(a:Int)<=st.2/\st.2<=b - 1/\st.1<=b/\partLoop ltInt a st.1.toNat st.2.toNat d'=r)/\(st.2 + 1 - st.1).toNat < (j4 + 1 - i4).toNat) (fun i' h3'=>(h3'=h3/\i4<=i'/\i'<=b/\scanUp (fun x=>ltInt x d4[a]!) d4 j4.toNat i'.toNat=i5)/\((b:Int) - i').toNat < ((b:Int) - i6).toNat) (fun j' h3'=>(h3'=h3/\(i6<=j' + 1∨j'=j4)/\j'<=j4/\scanDown (fun x=>!ltInt x d4[a]!) d4 i5 j'.toNat=j5)/\(j' + 1).toNat < (j6 + 1).toNat) h3:=fun e7=>by
     unfold bH
     rw [if_neg (by simp)]
     by_cases hij6:i6 > j6
     ·rw [if_pos (decide_eq_true hij6)]
      refine uH R4 (I:=a) (J:=j6) ⟨by omega,by omega⟩ ⟨by omega,by omega⟩ fun h8 R8 O8=>?_
      rw [if_pos (by omega)] at e4
      rw [ea,e7] at R8
      subst e4
      have:=H h8 R8 (O4.trans O8)
      dsimp only at this
      rw [← e7,show ((j6.toNat:Nat):Int)=j6 from by omega] at this
      exact this
     ·rw [if_neg (by rw [decide_eq_true_eq]; exact hij6)]
      rw [if_neg (by omega)] at e4
      refine uH R4 (I:=j6) (J:=i6) ⟨by omega,by omega⟩ ⟨by omega,by omega⟩ fun h8 R8 O8=>?_
      rw [e6,e7] at R8
      rw [aA (by omega) (by omega),aA (by omega) (by omega)]
      refine ⟨_,rfl,_,rfl,⟨_,R8,by rw [pX,z4],O4.trans O8,by dsimp only; omega,by dsimp only; omega,by dsimp only; omega,by dsimp only; omega,by dsimp only; rw [show (i6 + 1).toNat=i5 + 1 from by omega,show (j6 - 1).toNat=j5 - 1 from by omega]; exact e4⟩,by dsimp only; omega⟩
    unfold kD
    by_cases hij6:i6<=j6
    ·rw [if_pos (decide_eq_true hij6)]
     refine uJ R4 (I:=j6) (J:=a) ⟨by omega,by omega⟩ ⟨by omega,by omega⟩ ?_
     rw [ea]
     cases hl:ltInt d4[j6.toNat]! d4[a]! with
     | true =>
      rw [DZ (.inr (by simp [hl]))] at ej6
      exact done4 ej6
     | false =>
      rw [Mg (by omega) (by omega) (by simp [hl])] at ej6
      unfold bH
      rw [if_pos (by simp),aA (by omega) (by omega)]
      exact ⟨_,rfl,⟨rfl,.inl (by omega),by omega,by rw [show (j6 - 1).toNat=j6.toNat - 1 from by omega]; exact ej6⟩,by dsimp only; omega⟩
    ·rw [if_neg (by rw [decide_eq_true_eq]; exact hij6)]
     rw [DZ (.inl (by omega))] at ej6
     exact done4 ej6
   unfold ku
   by_cases hij6:i6<=j4
   ·rw [if_pos (decide_eq_true hij6)]
    refine uJ R4 (I:=i6) (J:=a) ⟨by omega,by omega⟩ ⟨by omega,by omega⟩ ?_
    rw [ea]
    cases hl:ltInt d4[i6.toNat]! d4[a]! with
    | true =>
     rw [LZ (by omega) (by simp [hl])] at ei6
     unfold bF
     rw [if_pos (by simp),aA (by omega) (by omega)]
     exact ⟨_,rfl,⟨rfl,by omega,by omega,by rw [show (i6 + 1).toNat=i6.toNat + 1 from by omega]; exact ei6⟩,by dsimp only; omega⟩
    | false =>
     rw [Ea (.inr (by simp [hl]))] at ei6
     exact done3 ei6 _ _
   ·rw [if_neg (by rw [decide_eq_true_eq]; exact hij6)]
    rw [Ea (.inl (by omega))] at ei6
    exact done3 ei6 _ _
  unfold kw
  by_cases hij:i<=j
  ·rw [if_pos (decide_eq_true hij)]
   refine uJ R1 (I:=j) (J:=a) ⟨by omega,by omega⟩ ⟨by omega,by omega⟩ ?_
   rw [ea]
   cases hl:ltInt d1[j.toNat]! d1[a]! with
   | true =>
    rw [DZ (.inr (by simp [hl]))] at ej
    exact done2 ej
   | false =>
    rw [Mg (by omega) (by omega) (by simp [hl])] at ej
    unfold bG
    rw [if_pos (by simp),aA (by omega) (by omega)]
    exact ⟨_,rfl,⟨rfl,by omega,by omega,by rw [show (j - 1).toNat=j.toNat - 1 from by omega]; exact ej⟩,by dsimp only; omega⟩
  ·rw [if_neg (by rw [decide_eq_true_eq]; exact hij)]
   rw [DZ (.inl (by omega))] at ej
   exact done2 ej
 unfold kJ
 by_cases hij:i<=(b:Int) - 1
 ·rw [if_pos (decide_eq_true hij)]
  refine uJ R1 (I:=i) (J:=a) ⟨by omega,by omega⟩ ⟨by omega,by omega⟩ ?_
  rw [ea]
  cases hl:ltInt d1[i.toNat]! d1[a]! with
  | true =>
   rw [LZ (by omega) (by simp [hl])] at ei
   unfold bI
   rw [if_pos (by simp),aA (by omega) (by omega)]
   exact ⟨_,rfl,⟨rfl,by omega,by omega,by rw [show (i + 1).toNat=i.toNat + 1 from by omega]; exact ei⟩,by dsimp only; omega⟩
  | false =>
   rw [Ea (.inr (by simp [hl]))] at ei
   exact done ei
 ·rw [if_neg (by rw [decide_eq_true_eq]; exact hij)]
  rw [Ea (.inl (by omega))] at ei
  exact done ei
theorem Kl {k:KP Int} (R:U64 B h s d) (ha:a<=pv) (hb:pv < b) (hs:b<=d.size) (hz:d.size<=1000)
  (H:∀ h',U64 B h' s (partitionEqual ltInt d a b pv).2->Onl s h h'->k ((partitionEqual ltInt d a b pv).1:Nat) h'):dN s a b pv k h:=by
 unfold dN
 refine uH R (I:=pv) (J:=a) ⟨by omega,by omega⟩ ⟨by omega,by omega⟩ fun h1 R1 O1=>?_
 rw [Int.toNat_natCast,Int.toNat_natCast] at R1
 have z1:(swp d a pv).size=d.size:=pX
 have ea:((a:Nat):Int).toNat=a:=Int.toNat_natCast a
 rw [aA (by omega) (by omega),aA (by omega) (by omega)]
 refine ⟨_,rfl,_,rfl,?_⟩
 unfold partitionEqual at H
 generalize hr:partEqLoop ltInt a (a + 1) (b - 1) (swp d a pv)=r at *
 generalize swp d a pv=d1 at *
 unfold jc
 refine ⟨fun st h''=>∃ d',U64 B h'' s d'/\d'.size=d.size/\Onl s h h''/\(a:Int) + 1<=st.1/\(a:Int)<=st.2/\st.2<=b - 1/\st.1<=b/\partEqLoop ltInt a st.1.toNat st.2.toNat d'=r,fun st _=>(st.2 + 1 - st.1).toNat,
  ⟨_,R1,z1,O1,by dsimp only; omega,by dsimp only; omega,by dsimp only; omega,by dsimp only; omega,by dsimp only; rw [show ((a:Int) + 1).toNat=a + 1 from by omega,show ((b:Int) - 1).toNat=b - 1 from by omega]; exact hr⟩,?_⟩
 rintro i4 j4 h4 ⟨d4,R4,z4,O4,i40,j40,j4B,i4B,e4⟩
 dsimp only at i40 j40 j4B i4B e4
 rw [partEqLoop_eq] at e4
 generalize hi5:scanUp (fun x=>!ltInt d4[a]! x) d4 j4.toNat i4.toNat=i5 at *
 generalize hj5:scanDown (fun x=>ltInt d4[a]! x) d4 i5 j4.toNat=j5 at *
 unfold iM jb
 refine ⟨fun i' h''=>h''=h4/\i4<=i'/\i'<=b/\scanUp (fun x=>!ltInt d4[a]! x) d4 j4.toNat i'.toNat=i5,fun i' _=>(b - i').toNat,⟨rfl,by omega,by omega,hi5⟩,?_⟩
 rintro i6 h'' ⟨e6,i60,i6B,ei6⟩
 subst e6
 have done3:i6.toNat=i5->bf s a i6 j4 false k (fun st h''=>(∃ d',U64 B h'' s d'/\d'.size=d.size/\Onl s h h''/\(a:Int) + 1<=st.1/\(a:Int)<=st.2/\st.2<=b - 1/\st.1<=b/\partEqLoop ltInt a st.1.toNat st.2.toNat d'=r)/\(st.2 + 1 - st.1).toNat < (j4 + 1 - i4).toNat) (fun i' h3=>(h3=h''/\i4<=i'/\i'<=b/\scanUp (fun x=>!ltInt d4[a]! x) d4 j4.toNat i'.toNat=i5)/\((b:Int) - i').toNat < ((b:Int) - i6).toNat) h'':=fun e6=>by
  unfold bf
  rw [if_neg (by simp)]
  unfold iY
  refine ⟨fun j' h3=>h3=h''/\(i6<=j' + 1∨j'=j4)/\j'<=j4/\scanDown (fun x=>ltInt d4[a]! x) d4 i5 j'.toNat=j5,fun j' _=>(j' + 1).toNat,⟨rfl,.inr rfl,by omega,hj5⟩,?_⟩
  rintro j6 h3 ⟨e7,j60,j6B,ej6⟩
  subst e7
  have done4:j6.toNat=j5->bi s a i6 j6 false k (fun st h''=>(∃ d',U64 B h'' s d'/\d'.size=d.size/\Onl s h h''/\(a:Int) + 1<=st.1/\(a:Int)<=st.2/\st.2<=b - 1/\st.1<=b/\partEqLoop ltInt a st.1.toNat st.2.toNat d'=r)/\(st.2 + 1 - st.1).toNat < (j4 + 1 - i4).toNat) (fun i' h3'=>(h3'=h3/\i4<=i'/\i'<=b/\scanUp (fun x=>!ltInt d4[a]! x) d4 j4.toNat i'.toNat=i5)/\((b:Int) - i').toNat < ((b:Int) - i6).toNat) (fun j' h3'=>(h3'=h3/\(i6<=j' + 1∨j'=j4)/\j'<=j4/\scanDown (fun x=>ltInt d4[a]! x) d4 i5 j'.toNat=j5)/\(j' + 1).toNat < (j6 + 1).toNat) h3:=fun e7=>by
   unfold bi
   rw [if_neg (by simp)]
   by_cases hij6:i6 > j6
   ·rw [if_pos (decide_eq_true hij6)]
    rw [if_pos (by omega)] at e4
    subst e4
    have:=H h3 R4 O4
    dsimp only at this
    rw [← e6,show ((i6.toNat:Nat):Int)=i6 from by omega] at this
    exact this
   ·rw [if_neg (by rw [decide_eq_true_eq]; exact hij6)]
    rw [if_neg (by omega)] at e4
    refine uH R4 (I:=j6) (J:=i6) ⟨by omega,by omega⟩ ⟨by omega,by omega⟩ fun h8 R8 O8=>?_
    rw [e6,e7] at R8
    rw [aA (by omega) (by omega),aA (by omega) (by omega)]
    refine ⟨_,rfl,_,rfl,⟨_,R8,by rw [pX,z4],O4.trans O8,by dsimp only; omega,by dsimp only; omega,by dsimp only; omega,by dsimp only; omega,by dsimp only; rw [show (i6 + 1).toNat=i5 + 1 from by omega,show (j6 - 1).toNat=j5 - 1 from by omega]; exact e4⟩,by dsimp only; omega⟩
  unfold iL
  by_cases hij6:i6<=j6
  ·rw [if_pos (decide_eq_true hij6)]
   refine uJ R4 (I:=a) (J:=j6) ⟨by omega,by omega⟩ ⟨by omega,by omega⟩ ?_
   rw [ea]
   cases hl:ltInt d4[a]! d4[j6.toNat]! with
   | false =>
    rw [DZ (.inr (by simp [hl]))] at ej6
    exact done4 ej6
   | true =>
    rw [Mg (by omega) (by omega) (by simp [hl])] at ej6
    unfold bi
    rw [if_pos (by simp),aA (by omega) (by omega)]
    exact ⟨_,rfl,⟨rfl,.inl (by omega),by omega,by rw [show (j6 - 1).toNat=j6.toNat - 1 from by omega]; exact ej6⟩,by dsimp only; omega⟩
  ·rw [if_neg (by rw [decide_eq_true_eq]; exact hij6)]
   rw [DZ (.inl (by omega))] at ej6
   exact done4 ej6
 unfold iN
 by_cases hij6:i6<=j4
 ·rw [if_pos (decide_eq_true hij6)]
  refine uJ R4 (I:=a) (J:=i6) ⟨by omega,by omega⟩ ⟨by omega,by omega⟩ ?_
  rw [ea]
  cases hl:ltInt d4[a]! d4[i6.toNat]! with
  | false =>
   rw [LZ (by omega) (by simp [hl])] at ei6
   unfold bf
   rw [if_pos (by simp),aA (by omega) (by omega)]
   exact ⟨_,rfl,⟨rfl,by omega,by omega,by rw [show (i6 + 1).toNat=i6.toNat + 1 from by omega]; exact ei6⟩,by dsimp only; omega⟩
  | true =>
   rw [Ea (.inr (by simp [hl]))] at ei6
   exact done3 ei6
 ·rw [if_neg (by rw [decide_eq_true_eq]; exact hij6)]
  rw [Ea (.inl (by omega))] at ei6
  exact done3 ei6
end
end Go.Q.Yq
end
section
namespace Go.Q.Yq
/-! ### how many bits are set -/
def g1 (B:Nat):Nat:=(B / 2 &&& 85) + (B &&& 85)
def g2 (B:Nat):Nat:=(B / 4 &&& 51) + (B &&& 51)
def g3 (B:Nat):Nat:=(B / 16 + B) &&& 15
theorem NN {a b:Nat} (ha:a < 18446744073709551616) (hb:b < 18446744073709551616):MF .u64 a b=((a &&& b:Nat):Int):=by
 show IntKind.u64.wrap ((BitVec.ofInt 64 (a:Int) &&& BitVec.ofInt 64 (b:Int)).toNat:Int)=_
 rw [Nr 64 a b (by omega) (by omega),QP]
 have:a &&& b<=a:=Nat.and_le_left
 omega
end Go.Q.Yq
end
section
namespace Go.Q.Yq
open Go.Sort
def Cq:ByteArray:=⟨#[0,1,2,2,3,3,3,3,4,4,4,4,4,4,4,4,5,5,5,5,5,5,5,5,5,5,5,5,5,5,5,5,6,6,6,6,6,6,6,6,6,6,6,6,6,6,6,6,6,6,6,6,6,6,6,6,6,6,6,6,6,6,6,6,7,7,7,7,7,7,7,7,7,7,7,7,7,7,7,7,7,7,7,7,7,7,7,7,7,7,7,7,7,7,7,7,7,7,7,7,7,7,7,7,7,7,7,7,7,7,7,7,7,7,7,7,7,7,7,7,7,7,7,7,7,7,7,7,8,8,8,8,8,8,8,8,8,8,8,8,8,8,8,8,8,8,8,8,8,8,8,8,8,8,8,8,8,8,8,8,8,8,8,8,8,8,8,8,8,8,8,8,8,8,8,8,8,8,8,8,8,8,8,8,8,8,8,8,8,8,8,8,8,8,8,8,8,8,8,8,8,8,8,8,8,8,8,8,8,8,8,8,8,8,8,8,8,8,8,8,8,8,8,8,8,8,8,8,8,8,8,8,8,8,8,8,8,8,8,8,8,8,8,8,8,8,8,8,8,8,8,8,8,8,8,8]⟩
theorem JY {n:Nat} (hn:n < 256):wK Cq (n:Int) (bitsLen n:Int):=by
 have h0:Cq.size=256:=by decide +kernel
 refine ⟨by omega,?_⟩
 have key:(List.range 256).all (fun n=>((Cq.data.getD n 0).toNat == bitsLen n))=true:=by decide +kernel
 have:=List.all_eq_true.1 key n (by simpa using hn)
 rw [beq_iff_eq] at this
 have hd:n < Cq.data.size:=by show n < Cq.size; omega
 have e:Cq.data.getD n 0=Cq.data[n]:=by unfold Array.getD; exact dif_pos hd
 rw [e] at this
 rw [← this]
 rfl
theorem MB {n:Nat} {k:KP Int} {h:Heap} (hn:n < 256) (H:k (bitsLen n) h):qw (n:Int) k h:=by
 have hb:bitsLen n<=8:=by
  have key:(List.range 256).all (fun n=>decide (bitsLen n<=8))=true:=by decide +kernel
  have:=List.all_eq_true.1 key n (by simpa using hn)
  simpa using this
 unfold qw
 rw [if_neg (by simp)]
 unfold uI
 rw [if_neg (by rw [decide_eq_true_eq]; omega)]
 unfold nX
 rw [if_neg (by rw [decide_eq_true_eq]; omega)]
 unfold nN
 rw [if_neg (by rw [decide_eq_true_eq]; omega)]
 unfold nT
 have e:IntKind.u8.wrap (n:Int)=n:=by rw [wU8]; omega
 rw [e]
 refine ⟨_,by omega,JY hn,_,rfl,?_⟩
 rw [aA (x:=((bitsLen n:Nat):Int)) (by omega) (by omega),Int.zero_add,aA (by omega) (by omega)]
 exact H
end Go.Q.Yq
end

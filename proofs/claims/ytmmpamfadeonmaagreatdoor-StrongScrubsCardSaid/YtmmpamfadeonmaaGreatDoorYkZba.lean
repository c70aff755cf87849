/- A part of the proof of statements of this seat: lemmas, no statement of their own. -/
import Derived.Test.YtmmpamfadeonmaaGreatDoorYkZaz
import Derived.Test.YtmmpamfadeonmaaGreatDoorYkZat
set_option linter.unusedVariables false
set_option linter.unusedSimpArgs false
section
set_option maxRecDepth 100000
/- Slot: what is saved. -/
namespace Go.Q.Yk
variable {B c:Nat} {h h':Heap} {d rn rs pr:Nat} {X:DK}
theorem gr_nn (g:GoodX X) (fr:Int):∀ n,0<=grD X fr n
 | 0=>by rw [grD]; omega
 | n + 1=>by
  have ih:=gr_nn g fr n
  have:=(fld_bd (read_B g (fr + n)) 0 8).1
  rw [grD]
  split
  ·split
   ·exact this
   ·exact ih
  ·exact ih
def BP (X:DK) (fr kk slot:Int):Prop :=
 (slot = -1/\¬ IsW X fr kk 0/\¬ IsW X fr kk 1)∨(slot=0/\IsW X fr kk 0/\(IsW X fr kk 1->numW X fr kk 1<=numW X fr kk 0))∨(slot=1/\IsW X fr kk 1/\(IsW X fr kk 0->numW X fr kk 1 > numW X fr kk 0))
theorem BestS.bp {h0:Heap} {fr kk slot n:Int} {s:Slc} (b:BestS h0 h X fr kk slot s n):BP X fr kk slot:=by
 rcases b with ⟨a,_,_,b,c⟩ | ⟨a,t,b⟩ | ⟨a,t,b⟩
 ·exact .inl ⟨a,b,c⟩
 ·exact .inr (.inl ⟨a,t.w,b⟩)
 ·exact .inr (.inr ⟨a,t.w,b⟩)
def sumD (bs:List Int):Int:=numL ((shaD bs).take 8)
theorem sum_bd (bs:List Int):0<=sumD bs/\sumD bs < 18446744073709551616:=by
 have b:=numL_bd (l:=(shaD bs).take 8) (isB_take (shaD_B bs) 8)
 have l:((shaD bs).take 8).length=8:=by rw [List.length_take,shaD_len]; rfl
 rw [l,show (256:Int) ^ 8=18446744073709551616 from by decide] at b
 exact b
def headD (gr:Int) (bs:List Int):S_slot_head:=⟨gr + 1,0,prtD bs.length,bs.length,sumD bs⟩
def toN (kk:Int) (bs:List Int) (wiped:Bool):Nat:=if wiped=true then kk.toNat else (prtD bs.length).toNat
def LayR (X:DK) (fr kk:Int) (bs:List Int) (wiped:Bool) (r:Int × Int) (Y:DK):Prop :=
 (prtD bs.length > kk/\r=(0,3)/\Y=X)∨(prtD bs.length<=kk/\grD X fr (2 * kk).toNat>=4611686018427387904/\r=(0,12)/\Y=X) ∨
 (prtD bs.length<=kk/\grD X fr (2 * kk).toNat < 4611686018427387904/\∃ slot t,BP X fr kk slot/\t=(if slot=0 then 1 else 0)/\(r,Y)=layD (fr + t * kk) (headD (grD X fr (2 * kk).toNat) bs) bs X (toN kk bs wiped))
theorem LayJ1_ok {fr kk t:Int} {s:Slc} {bs:List Int} {wiped:Bool} {k:Int × Int->Heap->Prop} (D:DAt B c h d rn rs X) (P:PairAt h pr d fr kk) (r:R0 h) (g:GoodX X) (f0:0<=fr/\fr<=2000) (k0:1<=kk/\kk<=512) (t0:0<=t/\t<=1)
  (hs:∀ h',DF d rn rs h h'->SlcAt h' s (b8 bs)) (sl:s.len=bs.length) (sc:s.len<=s.cap) (bl:bs.length<=60000) (pk:prtD bs.length<=kk) (gl:grD X fr (2 * kk).toNat < 4611686018427387904)
  (H:∀ c' h',c'<=c + 600->DAt B c' h' d rn rs (layD (fr + t * kk) (headD (grD X fr (2 * kk).toNat) bs) bs X (toN kk bs wiped)).2->DF d rn rs h h'->k (layD (fr + t * kk) (headD (grD X fr (2 * kk).toNat) bs) bs X (toN kk bs wiped)).1 h') :
  slot_Pair_lay_j1 (some ⟨pr,0,none⟩) s wiped (prtD bs.length) t k h:=by
 have r0:=r.pos
 have p1:1<=prtD bs.length:=by unfold prtD; split <;> omega
 unfold slot_Pair_lay_j1
 refine Greatest_ok D P g f0 k0 fun h1 X1=>?_
 have z1:=X1.size
 have gn:=gr_nn g fr (2 * kk).toNat
 generalize grD X fr (2 * kk).toNat=gr at *
 refine ⟨_,_,rfl,rfl,?_⟩
 have V:=Blk.push h1 [Slc.v s] 28
 have W2:=Ext.push h1 (.cells ([Slc.v s]:List Value).toArray 28) (Nat.le_refl _)
 generalize h1.push (.cells ([Slc.v s]:List Value).toArray 28)=h2 at *
 have X2:Ext h.size h h2:=X1.trans (W2.mono z1)
 refine Of_ok (bs:=bs) (r.ext X2 r0) (V.slc (o:=0) (n:=1) rfl) rfl (hs h2 (DF.of_ext X2)) sl bl fun h3 X3=>?_
 have X03:=X2.trans (X3.mono X2.size)
 refine Short_ok (shaD_len _) (shaD_B _) fun h4 X4=>?_
 have X04:=X03.trans (X4.mono X03.size)
 refine ⟨_,_,rfl,rfl,?_⟩
 have U:=Blk.push h4 (S_slot_head.cs zHd) 201
 have W5:=Ext.push h4 (.cells (S_slot_head.cs zHd).toArray 201) (Nat.le_refl _)
 generalize h4.push (.cells (S_slot_head.cs zHd).toArray 201)=h5 at *
 refine ⟨_,WrsAt.of_blk U (by show 5<=5; omega),rfl,?_⟩
 rw [wrapU64 (x:=gr + 1) (by omega) (by omega),sl]
 have eh:(⟨gr + 1,0,prtD bs.length,((bs.length:Nat):Int),numL ((shaD bs).take 8)⟩:S_slot_head)=headD gr bs:=rfl
 rw [eh]
 have U6:=U.sets_all (vs:=S_slot_head.cs (headD gr bs)) rfl
 have X6:Ext h4.size h4 (setsH h5 ⟨h4.size,0,none⟩ 0 (S_slot_head.cs (headD gr bs))):=W5.trans (Ext.sets _ _ _ (Nat.le_refl _))
 generalize setsH h5 ⟨h4.size,0,none⟩ 0 (S_slot_head.cs (headD gr bs))=h6 at *
 have X06:=X04.trans (X6.mono X04.size)
 have P6:PairAt h6 pr d fr kk:=Blk.ext P X06 P.lt
 have D6:=D.ext X06
 refine ⟨_,rfl,kk,by rw [add_mk,P6.cell]; rfl,?_⟩
 have sb:=sum_bd bs
 exact LayL3_ok (hb:=h4) (f:=headD gr bs) (N:=toN kk bs wiped) (c:=c) (fun h' F'=>hs h' ((DF.of_ext X04).trans F')) sl sc bl ⟨by show 0<=gr + 1; omega,⟨Int.le_refl _,by show (0:Int) < 65536; decide⟩,⟨by show 0<=prtD bs.length; omega,by show prtD bs.length < 65536; omega⟩,⟨by show (0:Int)<=((bs.length:Nat):Int); omega,by show ((bs.length:Nat):Int) < 4294967296; omega⟩,sb.1⟩ rfl pk f0 k0 t0 rfl (DF.of_ext X6) U6 D6 P6
  fun c' h' hc D' F'=>H c' h' hc D' ((DF.of_ext X04).trans F')
theorem Lay_ok {fr kk:Int} {s:Slc} {bs:List Int} {wiped:Bool} {k:Int × Int->Heap->Prop} (D:DAt B c h d rn rs X) (P:PairAt h pr d fr kk) (r:R0 h) (g:GoodX X) (f0:0<=fr/\fr<=2000) (k0:1<=kk/\kk<=512)
  (hs:∀ h',DF d rn rs h h'->SlcAt h' s (b8 bs)) (sl:s.len=bs.length) (sc:s.len<=s.cap) (bl:bs.length<=60000)
  (H:∀ rr Y c' h',LayR X fr kk bs wiped rr Y->c'<=c + 600->DAt B c' h' d rn rs Y->DF d rn rs h h'->k rr h'):slot_Pair_lay (some ⟨pr,0,none⟩) s wiped k h:=by
 have r0:=r.pos
 unfold slot_Pair_lay
 rw [sl]
 refine Parts_ok (by omega) (by omega) ⟨_,rfl,kk,by rw [add_mk,P.cell]; rfl,?_⟩
 by_cases q1:prtD bs.length > kk
 ·rw [if_pos (by rw [decide_eq_true_eq]; exact q1)]
  exact H _ X c h (.inl ⟨q1,rfl,rfl⟩) (by omega) D (DF.of_ext (Ext.refl _ _))
 rw [if_neg (by rw [decide_eq_true_eq]; exact q1)]
 refine Greatest_ok D P g f0 k0 fun h1 X1=>?_
 by_cases q2:grD X fr (2 * kk).toNat>=4611686018427387904
 ·rw [if_pos (by rw [decide_eq_true_eq]; exact q2)]
  exact H _ X c h1 (.inr (.inl ⟨by omega,q2,rfl,rfl⟩)) (by omega) (D.ext X1) (DF.of_ext X1)
 rw [if_neg (by rw [decide_eq_true_eq]; exact q2)]
 refine Best_ok (D.ext X1) (Blk.ext P X1 P.lt) (r.ext X1 r0) g f0 k0 fun slot s2 n2 h2 b X2=>?_
 have X02:=X1.trans (X2.mono X1.size)
 have fin:∀ t:Int,t=(if slot=0 then 1 else 0)->slot_Pair_lay_j1 (some ⟨pr,0,none⟩) s wiped (prtD bs.length) t k h2:=fun t ht=>by
  refine LayJ1_ok (D.ext X02) (Blk.ext P X02 P.lt) (r.ext X02 r0) g f0 k0 (by rw [ht]; split <;> omega) (fun h' F'=>hs h' ((DF.of_ext X02).trans F')) sl sc bl (by omega) (by omega) fun c' h' hc D' F'=>?_
  exact H _ _ c' h' (.inr (.inr ⟨by omega,by omega,slot,t,b.bp,ht,rfl⟩)) hc D' ((DF.of_ext X02).trans F')
 by_cases q3:slot=0
 ·rw [if_pos (by simpa using q3)]
  exact fin 1 (by rw [if_pos q3])
 ·rw [if_neg (by simpa using q3)]
  exact fin 0 (by rw [if_neg q3])
theorem Save_ok {fr kk:Int} {s:Slc} {bs:List Int} {k:Int × Int->Heap->Prop} (D:DAt B c h d rn rs X) (P:PairAt h pr d fr kk) (r:R0 h) (g:GoodX X) (f0:0<=fr/\fr<=2000) (k0:1<=kk/\kk<=512)
  (hs:∀ h',DF d rn rs h h'->SlcAt h' s (b8 bs)) (sl:s.len=bs.length) (sc:s.len<=s.cap) (bl:bs.length<=60000)
  (H:∀ rr Y c' h',LayR X fr kk bs false rr Y->c'<=c + 600->DAt B c' h' d rn rs Y->DF d rn rs h h'->k rr h'):slot_Pair_Save (some ⟨pr,0,none⟩) s k h:=by
 unfold slot_Pair_Save
 rw [if_neg (by simp)]
 exact Lay_ok D P r g f0 k0 hs sl sc bl H
def roomD (fr kk:Int):Bool:=decide (1<=kk/\kk<=512/\0<=fr/\fr<=1024 - 2 * kk)
theorem Open_ok {fr kk:Int} {k:Option Addr × Int->Heap->Prop} (f1:-9223372036854775808<=fr/\fr < 9223372036854775808) (k1:-9223372036854775808<=kk/\kk < 9223372036854775808)
  (H0:roomD fr kk=false->k (none,1) h) (H1:roomD fr kk=true->∀ pr h',PairAt h' pr d fr kk->Ext h.size h h'->h.size<=pr->k (some ⟨pr,0,none⟩,0) h'):slot_Open (some ⟨d,0,none⟩) fr kk k h:=by
 unfold slot_Open
 by_cases q:1<=kk/\kk<=512/\0<=fr/\fr<=1024 - 2 * kk
 ·rw [wrapI64 (x:=2 * kk) (by omega) (by omega),wrapI64 (x:=1024 - 2 * kk) (by omega) (by omega)]
  rw [if_neg (by simp only [Bool.or_eq_true,decide_eq_true_eq,Option.isNone_some]; simp; omega)]
  exact ⟨_,_,rfl,rfl,H1 (by unfold roomD; rw [decide_eq_true_eq]; exact q) _ _ (Blk.push _ _ _) (Ext.push _ _ (Nat.le_refl _)) (Nat.le_refl _)⟩
 ·rw [if_pos ?_]
  ·exact H0 (by unfold roomD; rw [decide_eq_false_iff_not]; exact q)
  ·simp only [Bool.or_eq_true,decide_eq_true_eq]
   by_cases a:kk < 1
   ·exact .inl (.inl (.inl (.inr a)))
   by_cases b:kk > 1024
   ·exact .inl (.inl (.inr b))
   by_cases c':fr < 0
   ·exact .inl (.inr c')
   rw [wrapI64 (x:=2 * kk) (by omega) (by omega),wrapI64 (x:=1024 - 2 * kk) (by omega) (by omega)]
   exact .inr (by omega)
end Go.Q.Yk
end
section
set_option maxRecDepth 100000
/- Slot: the document's example, plainly. -/
namespace Go.Q.Yk
theorem pad_B {bs:List Int} (h:isB bs):isB (padB bs):=fun b hb=>by
 unfold padB at hb
 rcases List.mem_append.1 hb with hb | hb
 ·exact h b hb
 ·have:=(List.mem_replicate.1 hb).2; omega
theorem app_B {a b:List Int} (h1:isB a) (h2:isB b):isB (a ++ b):=fun x hx=>(List.mem_append.1 hx).elim (h1 x) (h2 x)
theorem hb_B (f:S_slot_head):isB (hbD f):=app_B (app_B (app_B (app_B (formL_B _ _) (formL_B _ _)) (formL_B _ _)) (formL_B _ _)) (formL_B _ _)
theorem sec_B {f:S_slot_head} {bs:List Int} {i:Nat} (h:isB bs):isB (laySec f bs i):=app_B (hb_B _) (isB_take (isB_drop h _) _)
theorem sec_le (f:S_slot_head) (bs:List Int) (i:Nat):(laySec f bs i).length<=128:=by
 unfold laySec
 rw [List.length_append,hbD_len]
 have:((bs.drop (i * 104)).take 104).length<=104:=List.length_take_le _ _
 omega
theorem secB_pad {bs:List Int} {t:Bool} (h:bs.length<=128):secB ⟨padB bs,t⟩=padB bs:=nrm_id (pad_len h)
theorem zero_B:isB (nrm 128 []):=fun b hb=>by
 rw [nrm_nil] at hb
 have:=(List.mem_replicate.1 hb).2; omega
/-- the head of a sector that was laid -/
theorem hd_sec {f:S_slot_head} {bs:List Int} {i:Nat} (n:0<=f.f_n/\f.f_n < 18446744073709551616) (hi:i < 65536) (q:0<=f.f_parts/\f.f_parts < 65536) (s:0<=f.f_size/\f.f_size < 4294967296) (t:0<=f.f_sum/\f.f_sum < 18446744073709551616) :
  hdD (padB (laySec f bs i)) = { f with f_part:=(i:Int) }:=by
 unfold padB laySec
 generalize (bs.drop (i * 104)).take 104=r
 generalize List.replicate (128 - (hbD { f with f_part:=(i:Int) } ++ r).length) (0:Int)=z
 have e1:fld (hbD { f with f_part:=(i:Int) } ++ r ++ z) 0 8=f.f_n:=(show numL (formL f.f_n 8)=_ from numL_form8 n.1 n.2)
 have e2:fld (hbD { f with f_part:=(i:Int) } ++ r ++ z) 8 2=(i:Int):=(show numL (formL (i:Int) 2)=_ from numL_form2 (by omega) (by omega))
 have e3:fld (hbD { f with f_part:=(i:Int) } ++ r ++ z) 10 2=f.f_parts:=(show numL (formL f.f_parts 2)=_ from numL_form2 q.1 q.2)
 have e4:fld (hbD { f with f_part:=(i:Int) } ++ r ++ z) 12 4=f.f_size:=(show numL (formL f.f_size 4)=_ from numL_form4 s.1 s.2)
 have e5:fld (hbD { f with f_part:=(i:Int) } ++ r ++ z) 16 8=f.f_sum:=(show numL (formL f.f_sum 8)=_ from numL_form8 t.1 t.2)
 unfold hdD
 rw [e1,e2,e3,e4,e5]
theorem drop_sec (f:S_slot_head) (bs:List Int) (i:Nat):(padB (laySec f bs i)).drop 24=(bs.drop (i * 104)).take 104 ++ List.replicate (128 - (laySec f bs i).length) 0:=by
 unfold padB
 have h:(hbD { f with f_part:=(i:Int) }).length=24:=hbD_len _
 conv=>lhs; unfold laySec
 rw [List.append_assoc,List.drop_append_of_le_length (by omega),List.drop_of_length_le (by omega),List.nil_append]
 rfl
abbrev sA:List Int:=padB (laySec (headD 0 [97]) [97] 0)
abbrev sB':List Int:=padB (laySec (headD 1 [98]) [98] 0)
theorem len_sec {f:S_slot_head} {b:Int}:(laySec f [b] 0).length=25:=by
 unfold laySec; rw [List.length_append,hbD_len]; rfl
/-- a slot of one sector that holds one byte is whole -/
theorem one_whole {X:DK} {fr kk slot gr b:Int} (k1:1<=kk) (g0:0<=gr/\gr < 4611686018427387904) (hr:readD X (fr + slot * kk)=(padB (laySec (headD gr [b]) [b] 0),0)):IsW X fr kk slot/\numW X fr kk slot=gr + 1/\outW X (fr + slot * kk)=[b]:=by
 obtain ⟨p,ep⟩:∃ p,p=fr + slot * kk:=⟨_,rfl⟩
 unfold IsW numW
 rw [← ep] at hr ⊢
 have sb:=sum_bd [b]
 have pp:prtD (([b]:List Int).length:Int)=1:=by show prtD 1=1; decide
 have hf:fst1 X p=headD gr [b]:=by
  unfold fst1
  rw [hr]
  have:=hd_sec (f:=headD gr [b]) (bs:=[b]) (i:=0) ⟨by show 0<=gr + 1; omega,by show gr + 1 < _; omega⟩ (by omega) (by show 0<=prtD _/\prtD _ < 65536; rw [pp]; omega) (by show (0:Int)<=1/\(1:Int) < 4294967296; omega) sb
  exact this
 have fp:(fst1 X p).f_parts=1:=by rw [hf]; exact pp
 have fs:(fst1 X p).f_size=1:=by rw [hf]; rfl
 have ho:outW X p=[b]:=by
  unfold outW
  rw [fp,fs,show (1:Int).toNat=0 + 1 from rfl,catW_succ]
  rw [show p + ((0:Nat):Int)=p from by omega,hr]
  show (catW X p 0 ++ (padB (laySec (headD gr [b]) [b] 0)).drop 24).take (0 + 1)=[b]
  rw [drop_sec]; rfl
 refine ⟨⟨by rw [hr],⟨⟨by rw [fp]; omega,by rw [fp]; omega,by rw [fp,fs]; decide⟩,fun i hi=>?_,?_⟩⟩,by rw [hf]; rfl,ho⟩
 ·rw [fp] at hi
  have:i=0:=by omega
  subst this
  unfold OkI
  rw [show p + ((0:Nat):Int)=p from by omega,hr]
  refine ⟨rfl,?_⟩
  have e:hdD (padB (laySec (headD gr [b]) [b] 0))=fst1 X p:=by unfold fst1; rw [hr]
  show hdD (padB (laySec (headD gr [b]) [b] 0))=_
  rw [e,hf]; rfl
 ·rw [ho,hf]; rfl
theorem not_whole {X:DK} {fr kk slot:Int} (h:(readD X (fr + slot * kk)).2≠0∨(readD X (fr + slot * kk)).1=nrm 128 []):¬ IsW X fr kk slot:=fun w=>by
 rcases h with h | h
 ·exact h w.1
 ·have:=w.2.1.1
  unfold fst1 at this
  rw [h] at this
  revert this
  decide
end Go.Q.Yk
end
section
set_option maxRecDepth 100000
/- Slot: the document's example, plainly: its states. -/
namespace Go.Q.Yk
theorem rdP {X:DK} {a:Int} {sec:List Int} (ha:0<=a/\a < 1024) (m:mget X.now a=some ⟨padB sec,false⟩) (l:sec.length<=128):readD X a=(padB sec,0):=by
 unfold readD
 rw [if_neg (by omega),m]
 show (if false=true then _ else (secB ⟨padB sec,false⟩,(0:Int)))=_
 rw [if_neg (by simp),secB_pad l]
theorem rdZ {X:DK} {a:Int} (ha:0<=a/\a < 1024) (m:mget X.now a=none):readD X a=(nrm 128 [],0):=by
 unfold readD
 rw [if_neg (by omega),m]
 rfl
abbrev X0:DK:=⟨[],[],0,false,0⟩
def Y1:DK:=⟨[(5,⟨sA,false⟩)],[],0,false,2⟩
def Y2:DK:=⟨[(5,⟨sA,false⟩),(7,⟨sB',false⟩)],[],0,false,4⟩
theorem fn_zero:(hdD (nrm 128 [])).f_n=0:=by decide
theorem gr_step {X:DK} {fr:Int} {n:Nat} {g:Int} (e:grD X fr n=g) (g0:0<=g) (h:readD X (fr + n)=(nrm 128 [],0)):grD X fr (n + 1)=g:=by
 rw [grD,h,if_pos rfl,e]
 unfold fst1
 rw [h,fn_zero,if_neg (by omega)]
theorem r5:readD Y1 5=(sA,0):=rdP (by decide) rfl (by rw [len_sec]; omega)
theorem fnA:(hdD sA).f_n=1:=by
 have sb:=sum_bd [97]
 have pp:prtD (([97]:List Int).length:Int)=1:=by show prtD 1=1; decide
 rw [show hdD sA=_ from hd_sec (f:=headD 0 [97]) (bs:=[97]) (i:=0) ⟨by decide,by decide⟩ (by omega) (by rw [show (headD 0 [97]).f_parts=1 from pp]; omega) (by show (0:Int)<=1/\(1:Int) < 4294967296; omega) sb]
 rfl
theorem gr1:grD Y1 5 4=1:=by
 refine gr_step (gr_step (gr_step (g:=1) ?_ (by omega) ?_) (by omega) ?_) (by omega) ?_
 ·rw [grD,show (5:Int) + ((0:Nat):Int)=5 from rfl,r5,if_pos rfl]
  unfold fst1
  rw [r5,fnA]; rfl
 all_goals exact rdZ (by decide) rfl
theorem p1:prtD (([97]:List Int).length:Int)=1:=by show prtD 1=1; decide
theorem bB:isB sB':=pad_B (sec_B (fun b hb=>by rw [List.mem_singleton] at hb; omega))
end Go.Q.Yk
end
section
set_option maxRecDepth 100000
/- Slot: what laying leaves, and what a boot makes of it, plainly. -/
namespace Go.Q.Yk
theorem DSame_ok {p0 p1:Slc} {l m:List Int} {k:Bool->Heap->Prop} {h:Heap} (h0:SlcAt h p0 (b8 l)) (l0:p0.len=l.length) (h1:SlcAt h p1 (b8 m)) (l1:p1.len=m.length) (hb:l.length<=4611686018427387904) (H:k (decide (l=m)) h):ref01_Same p0 p1 k h:=by
 unfold ref01_Same
 by_cases hlm:l.length=m.length
 ·rw [if_neg (by simp [l0,l1,hlm])]
  refine ⟨fun i h'=>0<=i/\i<=l.length/\l.take i.toNat=m.take i.toNat/\h'=h,fun i _=>(l.length - i).toNat,⟨by omega,by omega,by simp,rfl⟩,?_⟩
  rintro i h' ⟨i0,i1,he,rfl⟩
  unfold ref01_Same_l1b
  by_cases hi:i < l.length
  ·rw [if_pos (by simp [l0]; omega)]
   have n0:p0.a≠none:=fun hn=>by have:=h0.1 hn; simp at this; simp [this] at hi; omega
   have n1:p1.a≠none:=fun hn=>by have:=h1.1 hn; simp at this; simp [this] at hlm; simp [hlm] at hi; omega
   obtain ⟨a,ha⟩:=Option.ne_none_iff_exists'.1 n0
   obtain ⟨b,hb'⟩:=Option.ne_none_iff_exists'.1 n1
   have hla:i.toNat < l.length:=by omega
   have hma:i.toNat < m.length:=by omega
   refine ⟨a,ha,i0,by omega,l[i.toNat],?_,b,hb',i0,by omega,m[i.toNat],?_,?_⟩
   ·rw [Nat.mul_one]; exact h0.2 a ha i.toNat _ (by simp [hla])
   ·rw [Nat.mul_one]; exact h1.2 b hb' i.toNat _ (by simp [hma])
   ·by_cases hv:l[i.toNat]=m[i.toNat]
    ·rw [if_neg (by simp [hv]),wrapI64 (by omega) (by omega)]
     refine ⟨_,rfl,⟨by omega,by omega,?_,rfl⟩,by dsimp only; omega⟩
     rw [show (i + 1).toNat=i.toNat + 1 from by omega,List.take_succ_eq_append_getElem hla,List.take_succ_eq_append_getElem hma,he,hv]
    ·rw [if_pos (by simpa using hv)]
     have:decide (l=m)=false:=by
      rw [decide_eq_false_iff_not]
      rintro rfl
      exact hv rfl
     rw [← this]; exact H
  ·rw [if_neg (by simp [l0]; omega)]
   have:l=m:=by
    have e1:l.take i.toNat=l:=List.take_of_length_le (by omega)
    have e2:m.take i.toNat=m:=List.take_of_length_le (by omega)
    rw [e1,e2] at he; exact he
   simpa [this] using H
 ·rw [if_pos (by simp [l0,l1]; omega)]
  have:decide (l=m)=false:=by rw [decide_eq_false_iff_not]; rintro rfl; exact hlm rfl
  rw [← this]; exact H
/-- what stands at a place -/
def vD (X:DK) (a:Int):Sec:=(mget X.now a).getD zSec
def newS (f:S_slot_head) (bs:List Int) (n:Nat):List Int:=if (n:Int) < f.f_parts then laySec f bs n else []
def newV (f:S_slot_head) (bs:List Int) (n:Nat):Sec:=⟨padB (newS f bs n),false⟩
theorem newS_le (f:S_slot_head) (bs:List Int) (n:Nat):(newS f bs n).length<=128:=by
 unfold newS
 split
 ·exact sec_le _ _ _
 ·simp
theorem newS_B {f:S_slot_head} {bs:List Int} {n:Nat} (h:isB bs):isB (newS f bs n):=by
 unfold newS
 split
 ·exact sec_B h
 ·intro b hb; cases hb
/-- m sectors are laid -/
structure LU (X Y:DK) (p:Int) (f:S_slot_head) (bs:List Int) (m:Nat):Prop where
 now:∀ a,vD Y a=vD X a∨∃ j:Nat,j < m/\a=p + j
 all:∀ j:Nat,j < m->vD Y (p + j)=newV f bs j
 safe:∀ a s,mget Y.safe a=some s->s=vD X a/\∃ j:Nat,j < m/\a=p + j
theorem burn_now (X:DK):(burnD X).2.now=X.now:=by unfold burnD; split <;> rfl
theorem burn_safe (X:DK):(burnD X).2.safe=X.safe:=by unfold burnD; split <;> rfl
theorem burn_dead {X:DK} (h:X.dead=false):(burnD X).2.dead=(burnD X).1:=by
 unfold burnD
 split
 ·exact h
 ·rfl
theorem LU.put {X Y:DK} {p:Int} {f:S_slot_head} {bs:List Int} {m:Nat} (L:LU X Y p f bs m):LU X (burnD (laidD Y (p + m) (newS f bs m))).2 p f bs (m + 1):=by
 have en:∀ a,vD (burnD (laidD Y (p + m) (newS f bs m))).2 a=if a=p + m then newV f bs m else vD Y a:=fun a=>by
  unfold vD
  rw [burn_now]
  show (mget (mput Y.now (p + m) ⟨padB (newS f bs m),false⟩) a).getD zSec=_
  rw [mget_put]
  split
  ·rfl
  ·rfl
 refine ⟨fun a=>?_,fun j hj=>?_,fun a s hs=>?_⟩
 ·rw [en]
  by_cases e:a=p + m
  ·exact .inr ⟨m,by omega,e⟩
  ·rw [if_neg e]
   rcases L.now a with h | ⟨j,h1,h2⟩
   ·exact .inl h
   ·exact .inr ⟨j,by omega,h2⟩
 ·rw [en]
  by_cases e:j=m
  ·rw [if_pos (by rw [e]),e]
  ·rw [if_neg (by omega)]; exact L.all j (by omega)
 ·rw [burn_safe] at hs
  have old:mget Y.safe a=some s->s=vD X a/\∃ j:Nat,j < m + 1/\a=p + j:=fun hs=>by
   obtain ⟨h1,j,h2,h3⟩:=L.safe a s hs
   exact ⟨h1,j,by omega,h3⟩
  unfold laidD at hs
  dsimp only at hs
  split at hs
  ·exact old hs
  ·rw [mget_put] at hs
   by_cases e:a=p + m
   ·rw [if_pos e] at hs
    cases hs
    refine ⟨?_,m,by omega,e⟩
    rw [e]
    rcases L.now (p + m) with h | ⟨j,h1,h2⟩
    ·exact h
    ·omega
   ·rw [if_neg e] at hs
    exact old hs
theorem layUp_mid {X:DK} {p:Int} {f:S_slot_head} {bs:List Int} (hd:X.dead=false) (hs:X.safe=[]) (p0:0<=p):∀ n:Nat,p + n<=1024 ->
  ((layUp p f bs X n).1=0/\(layUp p f bs X n).2.dead=false/\LU X (layUp p f bs X n).2 p f bs n)∨((layUp p f bs X n).1=10/\(layUp p f bs X n).2.dead=true/\∃ m:Nat,m<=n/\LU X (layUp p f bs X n).2 p f bs m)
 | 0,_=>.inl ⟨rfl,hd,fun a=>.inl rfl,fun j hj=>by omega,fun a s h=>by
   change mget X.safe a=some s at h
   rw [hs] at h; cases h⟩
 | n + 1,hn=>by
  rcases layUp_mid (f:=f) (bs:=bs) hd hs p0 n (by omega) with ⟨e,dd,L⟩ | ⟨e,dd,m,hm,L⟩
  ·have el:layUp p f bs X (n + 1)=(endD (burnD (laidD (layUp p f bs X n).2 (p + n) (newS f bs n))).1,(burnD (laidD (layUp p f bs X n).2 (p + n) (newS f bs n))).2):=by
    rw [layUp,if_neg (by rw [e]; simp)]
    show writeD (layUp p f bs X n).2 (p + n) (newS f bs n)=_
    unfold writeD
    rw [if_neg (by rw [dd]; simp),if_neg (by omega),if_neg (by have:=newS_le f bs n; omega)]
   have bd:=burn_dead (X:=laidD (layUp p f bs X n).2 (p + n) (newS f bs n)) dd
   have Lp:=L.put
   rw [el]
   dsimp only
   rw [bd]
   cases hb:(burnD (laidD (layUp p f bs X n).2 (p + n) (newS f bs n))).1 with
   | false=>exact .inl ⟨rfl,rfl,Lp⟩
   | true=>exact .inr ⟨rfl,rfl,n + 1,by omega,Lp⟩
  ·have el:layUp p f bs X (n + 1)=layUp p f bs X n:=by rw [layUp,if_pos (by rw [e]; simp)]
   rw [el]
   exact .inr ⟨e,dd,m,by omega,L⟩
theorem layD_end {X:DK} {p:Int} {f:S_slot_head} {bs:List Int} {N:Nat} (hd:X.dead=false) (hs:X.safe=[]) (p0:0<=p) (pN:p + N<=1024) :
  ((layD p f bs X N).1.2=0/\(layD p f bs X N).1.1=f.f_n/\(layD p f bs X N).2.dead=false/\(layD p f bs X N).2.safe=[]/\LU X (layD p f bs X N).2 p f bs N)∨((layD p f bs X N).1.2=10/\(layD p f bs X N).2.dead=true/\∃ m:Nat,m<=N/\LU X (layD p f bs X N).2 p f bs m):=by
 unfold layD
 rcases layUp_mid (f:=f) (bs:=bs) hd hs p0 N pN with ⟨e,dd,L⟩ | ⟨e,dd,m,hm,L⟩
 ·rw [if_neg (by rw [e]; simp)]
  have bd:=burn_dead (X:=(layUp p f bs X N).2) dd
  have bn:∀ a,vD (burnD (layUp p f bs X N).2).2 a=vD (layUp p f bs X N).2 a:=fun a=>by unfold vD; rw [burn_now]
  have es:syncD (layUp p f bs X N).2=if (burnD (layUp p f bs X N).2).1=true then (10,(burnD (layUp p f bs X N).2).2) else (0,{ (burnD (layUp p f bs X N).2).2 with safe:=[] }):=by
   unfold syncD
   rw [if_neg (by rw [dd]; simp)]
  rw [es]
  cases hb:(burnD (layUp p f bs X N).2).1 with
  | true =>
   rw [if_pos rfl,if_pos (by simp)]
   refine .inr ⟨rfl,by rw [bd,hb],N,Nat.le_refl _,fun a=>by rw [bn]; exact L.now a,fun j hj=>by rw [bn]; exact L.all j hj,fun a s h=>by rw [burn_safe] at h; exact L.safe a s h⟩
  | false =>
   rw [if_neg (by simp),if_neg (by simp)]
   refine .inl ⟨rfl,rfl,by show (burnD (layUp p f bs X N).2).2.dead=false; rw [bd,hb],rfl,fun a=>?_,fun j hj=>?_,fun a s h=>by cases h⟩
   ·show vD (burnD (layUp p f bs X N).2).2 a=_∨_
    rw [bn]; exact L.now a
   ·show vD (burnD (layUp p f bs X N).2).2 _=_
    rw [bn]; exact L.all j hj
 ·rw [if_pos (by rw [e]; simp)]
  exact .inr ⟨e,dd,m,hm,L⟩
/-! ### the power comes back -/
theorem boot_nil {Y:DK} (h:Y.safe=[]) (fs:List Int) (a:Int):vD (bootD Y fs) a=vD Y a:=by
 have ev:vD (bootD Y fs) a=(mget (bootGo fs Y.safe (keysD Y) Y.safe.length Y.now) a).getD zSec:=rfl
 rw [ev,h]; rfl
/-! ### reading -/
theorem rd_cong {X Z:DK} {a:Int} (h:vD Z a=vD X a):readD Z a=readD X a:=by
 unfold readD
 unfold vD at h
 rw [h]
theorem rd_new {Z:DK} {a:Int} {f:S_slot_head} {bs:List Int} {j:Nat} (ha:0<=a/\a < 1024) (h:vD Z a=newV f bs j):readD Z a=(padB (newS f bs j),0):=by
 unfold readD
 unfold vD at h
 rw [if_neg (by omega),h]
 show (if false=true then _ else (secB (newV f bs j),(0:Int)))=_
 rw [if_neg (by simp)]
 unfold newV
 rw [secB_pad (newS_le _ _ _)]
theorem newV_B {f:S_slot_head} {bs:List Int} {j:Nat} (h:isB bs):isB (secB (newV f bs j)):=by
 unfold newV
 rw [secB_pad (newS_le _ _ _)]
 exact pad_B (newS_B h)
theorem good_of {Z:DK} (hs:Z.safe=[]) (h:∀ a,isB (secB (vD Z a))):GoodX Z:=⟨h,fun a=>by rw [hs]; exact zero_B⟩
/-! ### the greatest number -/
theorem gr_ge (X:DK) (fr:Int):∀ n i:Nat,i < n->(readD X (fr + i)).2=0->(fst1 X (fr + i)).f_n<=grD X fr n
 | n + 1,i,hi,e=>by
  rw [grD]
  by_cases q:i=n
  ·subst q
   rw [if_pos e]
   split <;> omega
  ·have:=gr_ge X fr n i (by omega) e
   split
   ·split <;> omega
   ·exact this
theorem gr_le {X:DK} {fr G:Int} (G0:0<=G):∀ n:Nat,(∀ i:Nat,i < n->(readD X (fr + i)).2=0->(fst1 X (fr + i)).f_n<=G)->grD X fr n<=G
 | 0,_=>G0
 | n + 1,h=>by
  have ih:=gr_le G0 n fun i hi=>h i (by omega)
  rw [grD]
  split
  ·rename_i e
   split
   ·exact h n (by omega) e
   ·exact ih
  ·exact ih
end Go.Q.Yk
end
section
set_option maxRecDepth 100000
/- Slot: a slot that was laid is whole; a slot that was left is as it was. -/
namespace Go.Q.Yk
theorem catW_cong {X Z:DK} {p:Int} {n:Nat} (h:∀ i:Nat,i < n->readD Z (p + i)=readD X (p + i)):catW Z p n=catW X p n:=by
 unfold catW
 congr 1
 refine List.map_congr_left fun i hi=>?_
 rw [h i (List.mem_range.1 hi)]
theorem wh_cong {X Z:DK} {p kk:Int} (w:WholeC X p kk) (h:∀ i:Nat,i < (fst1 X p).f_parts.toNat->readD Z (p + i)=readD X (p + i)):WholeC Z p kk/\outW Z p=outW X p/\fst1 Z p=fst1 X p/\(readD Z p).2=(readD X p).2:=by
 have g1:=w.1.1
 have h0:=h 0 (by omega)
 rw [show p + ((0:Nat):Int)=p from by omega] at h0
 have e1:fst1 Z p=fst1 X p:=by unfold fst1; rw [h0]
 have e2:outW Z p=outW X p:=by unfold outW; rw [e1,catW_cong h]
 refine ⟨⟨by rw [e1]; exact w.1,fun i hi=>?_,by rw [e2,e1]; exact w.2.2⟩,e2,e1,by rw [h0]⟩
 rw [e1] at hi
 have:=w.2.1 i hi
 unfold OkI at this ⊢
 rw [h i hi,e1]
 exact this
theorem prt_pos (n:Int):1<=prtD n:=by unfold prtD; split <;> omega
theorem prt_bd {n:Int} (n0:0<=n):n<=prtD n * 104:=by unfold prtD; split <;> omega
theorem cat_take {Z:DK} {p:Int} {f:S_slot_head} {bs:List Int} {N:Nat} (h:∀ j:Nat,j < N->readD Z (p + j)=(padB (laySec f bs j),0)):∀ n,n<=N->∀ L,L<=bs.length->L<=104 * n->(catW Z p n).take L=bs.take L
 | 0,_,L,_,hl=>by rw [show L=0 from by omega]; rfl
 | n + 1,hn,L,hb,hl=>by
  have lc:=catW_len (X:=Z) (p:=p) n fun i hi=>by rw [h i (by omega)]
  rw [catW_succ,h n (by omega)]
  by_cases q:L<=104 * n
  ·rw [List.take_append_of_le_length (by omega)]
   exact cat_take h n (by omega) L hb q
  ·have ih:=cat_take h n (by omega) (104 * n) (by omega) (Nat.le_refl _)
   rw [List.take_of_length_le (by omega)] at ih
   rw [List.take_append,lc,List.take_of_length_le (by omega),ih]
   dsimp only
   rw [drop_sec,List.take_append_of_le_length (by rw [List.length_take,List.length_drop]; omega),List.take_take,Nat.min_eq_left (by omega),Nat.mul_comm n 104,← List.take_add]
   rw [show 104 * n + (L - 104 * n)=L from by omega]
theorem lay_whole {Z:DK} {p kk gr:Int} {bs:List Int} (bl:bs.length<=60000) (pk:prtD bs.length<=kk) (g0:0<=gr/\gr < 4611686018427387904) (h:∀ j:Nat,(j:Int) < prtD bs.length->readD Z (p + j)=(padB (laySec (headD gr bs) bs j),0)) :
  (readD Z p).2=0/\WholeC Z p kk/\(fst1 Z p).f_n=gr + 1/\outW Z p=bs:=by
 have sb:=sum_bd bs
 have p1:=prt_pos bs.length
 have p2:=prt_bd (n:=(bs.length:Int)) (by omega)
 have pm:prtD bs.length < 65536:=by unfold prtD; split <;> omega
 have hh:∀ j:Nat,(j:Int) < prtD bs.length->hdD (padB (laySec (headD gr bs) bs j)) = { headD gr bs with f_part:=(j:Int) }:=fun j hj =>
  hd_sec (f:=headD gr bs) ⟨by show 0<=gr + 1; omega,by show gr + 1 < _; omega⟩ (by omega) (by show 0<=prtD _/\prtD _ < 65536; omega) (by show (0:Int)<=(bs.length:Int)/\(bs.length:Int) < 4294967296; omega) sb
 have h0:=h 0 (by omega)
 rw [show p + ((0:Nat):Int)=p from by omega] at h0
 have hf:fst1 Z p=headD gr bs:=by
  unfold fst1
  rw [h0]
  exact hh 0 (by omega)
 have fp:(fst1 Z p).f_parts=prtD bs.length:=by rw [hf]; rfl
 have fs:(fst1 Z p).f_size=bs.length:=by rw [hf]; rfl
 have ho:outW Z p=bs:=by
  unfold outW
  rw [fp,fs,Int.toNat_natCast]
  rw [cat_take (f:=headD gr bs) (bs:=bs) (N:=(prtD bs.length).toNat) (fun j hj=>h j (by omega)) _ (Nat.le_refl _) _ (Nat.le_refl _) (by omega)]
  exact List.take_length
 refine ⟨by rw [h0],⟨⟨by rw [fp]; exact p1,by rw [fp]; exact pk,by rw [fp,fs]⟩,fun i hi=>?_,by rw [ho,hf]; rfl⟩,by rw [hf]; rfl,ho⟩
 rw [fp] at hi
 unfold OkI
 rw [h i (by omega),hf]
 exact ⟨rfl,hh i (by omega)⟩
theorem bp_uniq {X:DK} {fr kk a b:Int} (h1:BP X fr kk a) (h2:BP X fr kk b):a=b:=by
 rcases h1 with ⟨e1,n0,n1⟩ | ⟨e1,w0,q0⟩ | ⟨e1,w1,q1⟩ <;> rcases h2 with ⟨e2,m0,m1⟩ | ⟨e2,v0,r0⟩ | ⟨e2,v1,r1⟩
 ·rw [e1,e2]
 ·exact absurd v0 n0
 ·exact absurd v1 n1
 ·exact absurd w0 m0
 ·rw [e1,e2]
 ·have:=q0 v1; have:=r1 w0; omega
 ·exact absurd w1 m1
 ·have:=q1 v0; have:=r0 w1; omega
 ·rw [e1,e2]
end Go.Q.Yk
end
section
set_option maxRecDepth 100000
/- Slot: a laying that nothing cuts. -/
namespace Go.Q.Yk
theorem burn_free {X:DK} (hf:X.fuse=0):(burnD X).1=false/\(burnD X).2.dead=X.dead/\(burnD X).2.fuse=0:=by
 unfold burnD
 rw [if_pos hf]
 exact ⟨rfl,rfl,hf⟩
theorem lay_free {X:DK} {p:Int} {f:S_slot_head} {bs:List Int} (hd:X.dead=false) (hf:X.fuse=0) (p0:0<=p):∀ n:Nat,p + n<=1024->(layUp p f bs X n).1=0/\(layUp p f bs X n).2.dead=false/\(layUp p f bs X n).2.fuse=0
 | 0,_=>⟨rfl,hd,hf⟩
 | n + 1,hn=>by
  obtain ⟨e,dd,ff⟩:=lay_free (f:=f) (bs:=bs) hd hf p0 n (by omega)
  have el:layUp p f bs X (n + 1)=(endD (burnD (laidD (layUp p f bs X n).2 (p + n) (newS f bs n))).1,(burnD (laidD (layUp p f bs X n).2 (p + n) (newS f bs n))).2):=by
   rw [layUp,if_neg (by rw [e]; simp)]
   show writeD (layUp p f bs X n).2 (p + n) (newS f bs n)=_
   unfold writeD
   rw [if_neg (by rw [dd]; simp),if_neg (by omega),if_neg (by have:=newS_le f bs n; omega)]
  obtain ⟨b1,b2,b3⟩:=burn_free (X:=laidD (layUp p f bs X n).2 (p + n) (newS f bs n)) ff
  rw [el]
  dsimp only
  exact ⟨by rw [b1]; rfl,by rw [b2]; exact dd,b3⟩
theorem layD_free {X:DK} {p:Int} {f:S_slot_head} {bs:List Int} {N:Nat} (hd:X.dead=false) (hf:X.fuse=0) (hs:X.safe=[]) (p0:0<=p) (pN:p + N<=1024) :
  (layD p f bs X N).1=(f.f_n,0)/\(layD p f bs X N).2.dead=false/\(layD p f bs X N).2.fuse=0/\(layD p f bs X N).2.safe=[]/\LU X (layD p f bs X N).2 p f bs N:=by
 obtain ⟨e,dd,ff⟩:=lay_free (f:=f) (bs:=bs) hd hf p0 N pN
 obtain ⟨b1,b2,b3⟩:=burn_free (X:=(layUp p f bs X N).2) ff
 have es:syncD (layUp p f bs X N).2=(0,{ (burnD (layUp p f bs X N).2).2 with safe:=[] }):=by
  unfold syncD
  rw [if_neg (by rw [dd]; simp),if_neg (by rw [b1]; simp)]
 have el:layD p f bs X N=((f.f_n,0),{ (burnD (layUp p f bs X N).2).2 with safe:=[] }):=by
  unfold layD
  rw [if_neg (by rw [e]; simp),es,if_neg (by simp)]
 rcases layD_end (f:=f) (bs:=bs) (N:=N) hd hs p0 pN with ⟨_,_,_,_,L⟩ | ⟨_,q,_⟩
 ·refine ⟨by rw [el],by rw [el]; exact b2.trans dd,by rw [el]; exact b3,by rw [el],L⟩
 ·rw [el] at q
  have:(burnD (layUp p f bs X N).2).2.dead=true:=q
  rw [b2,dd] at this
  cases this
theorem pad_zero:padB []=nrm 128 []:=by decide
end Go.Q.Yk
end

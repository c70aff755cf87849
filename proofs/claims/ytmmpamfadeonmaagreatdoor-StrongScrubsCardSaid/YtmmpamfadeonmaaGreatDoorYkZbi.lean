/- A part of the proof of statements of this seat: lemmas, no statement of their own. -/
import Derived.Test.YtmmpamfadeonmaaGreatDoorYkZbh
import Derived.Test.YtmmpamfadeonmaaGreatDoorYkZba
import Derived.Test.YtmmpamfadeonmaaGreatDoorYkZbf
set_option linter.unusedVariables false
set_option linter.unusedSimpArgs false
section
set_option maxRecDepth 100000
/- Strong, the document's: whether it may be; whether two are the same. -/
namespace Go.Q.Yk
open Go.Q.Sg
theorem bxs_of:∀ (l:List BoxV) (met:List (List Int)),(∀ (i:Nat) b,l[i]? = some b->boxOk b=true/\b.2.2.1 ∉ met/\∀ (j:Nat) c,j < i->l[j]? = some c->c.2.2.1≠b.2.2.1)->bxsE met l=0
 | [],_,_=>rfl
 | b :: l,met,h=>by
  have h0:=h 0 b rfl
  rw [bxsE,if_pos h0.1,if_neg h0.2.1]
  refine bxs_of l _ fun i c hc=>?_
  have h1:=h (i + 1) c (by simpa using hc)
  refine ⟨h1.1,fun q=>?_,fun j e hj he=>h1.2.2 (j + 1) e (by omega) (by simpa using he)⟩
  rcases List.mem_append.1 q with q | q
  ·exact h1.2.1 q
  ·simp at q
   exact h1.2.2 0 b (by omega) rfl q.symm
section
variable {h:Heap} {v:S_api_Mem} {m:MemV}
theorem dtrue {p:Prop} [Decidable p] (h:p):decide p=true:=decide_eq_true h
theorem dfalse {p:Prop} [Decidable p] (h:¬ p):decide p=false:=decide_eq_false h
theorem dcheck_ok {k:Int->Heap->Prop} (M:MemAt h v m) (w:WfM m) (H:∀ e h',Ext h.size h h'->(e=0->chkE m=0)->k e h'):ref28_check v k h:=by
 unfold ref28_check
 refine bx0 fun h2 P2 X2=>⟨v.f_N,P2.cl rfl,?_⟩
 have z2:=X2.size
 have M2:=M.ext X2
 have one:k 1 h2:=H 1 h2 X2 fun q=>by cases q
 have g8:ref28_check_g8 ⟨h.size,0,none⟩ true k h2:=by unfold ref28_check_g8; rw [if_pos rfl]; exact one
 have g7:ref28_check_g7 ⟨h.size,0,none⟩ true k h2:=by unfold ref28_check_g7; rw [if_pos rfl]; exact g8
 have g6:ref28_check_g6 ⟨h.size,0,none⟩ true k h2:=by unfold ref28_check_g6; rw [if_pos rfl]; exact g7
 have g5:ref28_check_g5 ⟨h.size,0,none⟩ true k h2:=by unfold ref28_check_g5; rw [if_pos rfl]; exact g6
 have g4:ref28_check_g4 ⟨h.size,0,none⟩ true k h2:=by unfold ref28_check_g4; rw [if_pos rfl]; exact g5
 have g3:ref28_check_g3 ⟨h.size,0,none⟩ true k h2:=by unfold ref28_check_g3; rw [if_pos rfl]; exact g4
 have g2:ref28_check_g2 ⟨h.size,0,none⟩ true k h2:=by unfold ref28_check_g2; rw [if_pos rfl]; exact g3
 have g1:ref28_check_g1 ⟨h.size,0,none⟩ true k h2:=by unfold ref28_check_g1; rw [if_pos rfl]; exact g2
 by_cases c1:v.f_N < 1
 ·rw [if_pos (dtrue c1)]; exact g1
 rw [if_neg (by rw [dfalse c1]; simp)]
 refine ⟨v.f_N,P2.cl rfl,?_⟩
 by_cases c2:v.f_N > 32
 ·rw [dtrue c2]; exact g1
 rw [dfalse c2]
 unfold ref28_check_g1
 rw [if_neg (by simp)]
 refine ⟨v.f_Node,P2.cl0 rfl,?_⟩
 by_cases c3:v.f_Node < 0
 ·rw [dtrue c3]; exact g2
 rw [dfalse c3]
 unfold ref28_check_g2
 rw [if_neg (by simp)]
 refine ⟨v.f_Node,P2.cl0 rfl,v.f_N,P2.cl rfl,?_⟩
 by_cases c4:v.f_Node>=v.f_N
 ·rw [dtrue c4]; exact g3
 rw [dfalse c4]
 unfold ref28_check_g3
 rw [if_neg (by simp)]
 refine ⟨v.f_T,P2.cl rfl,?_⟩
 by_cases c5:v.f_T < 1
 ·rw [dtrue c5]; exact g4
 rw [dfalse c5]
 unfold ref28_check_g4
 rw [if_neg (by simp)]
 refine ⟨v.f_T,P2.cl rfl,v.f_N,P2.cl rfl,?_⟩
 by_cases c6:v.f_T > v.f_N
 ·rw [dtrue c6]; exact g5
 rw [dfalse c6]
 unfold ref28_check_g5
 rw [if_neg (by simp)]
 refine ⟨v.f_Vote,P2.cl rfl,?_⟩
 by_cases c7:v.f_Vote < 0
 ·rw [dtrue c7]; exact g6
 rw [dfalse c7]
 unfold ref28_check_g6
 rw [if_neg (by simp)]
 refine ⟨v.f_Vote,P2.cl rfl,v.f_N,P2.cl rfl,?_⟩
 by_cases c8:v.f_Vote > v.f_N
 ·rw [dtrue c8]; exact g7
 rw [dfalse c8]
 unfold ref28_check_g7
 rw [if_neg (by simp)]
 refine ⟨v.f_Chains,P2.cl rfl,v.f_N,P2.cl rfl,?_⟩
 by_cases c9:(v.f_Chains.len:Int)=v.f_N
 rotate_left
 ·rw [show ((v.f_Chains.len:Int) != v.f_N)=true from by simpa using c9]; exact g8
 rw [show ((v.f_Chains.len:Int) != v.f_N)=false from by simpa using c9]
 unfold ref28_check_g8
 rw [if_neg (by simp)]
 obtain ⟨cs,C1,C2⟩:=M.chains
 have cl1:=C1.l
 have cl2:=C2.l
 have hN:=M.n
 have hNo:=M.node
 have hT:=M.t
 have hV:=M.vote
 have cn:cntsM m:=⟨by omega,by omega,by omega,by omega,by omega,by omega,by omega,by omega,by omega⟩
 obtain ⟨es,E1,E2⟩:=M.ents
 obtain ⟨bs,B1,B2⟩:=M2.boxes
 have el1:=E1.l
 have el2:=E2.l
 have bl1:=B1.l
 have bl2:=B2.l
 have three:ref28_check_g9 ⟨h.size,0,none⟩ true k h2:=by
  unfold ref28_check_g9
  rw [if_pos rfl]
  exact H 3 h2 X2 fun q=>by cases q
 refine ⟨v.f_Entries,P2.cl rfl,?_⟩
 by_cases c10:(v.f_Entries.len:Int) > 64
 ·rw [if_pos (dtrue c10)]; exact three
 rw [if_neg (by rw [dfalse c10]; simp)]
 refine ⟨v.f_Boxes,P2.cl rfl,?_⟩
 by_cases c11:(v.f_Boxes.len:Int) > 64
 ·rw [dtrue c11]; exact three
 rw [dfalse c11]
 unfold ref28_check_g9
 rw [if_neg (by simp)]
 unfold ref28_check_l10
 refine ⟨fun i h'=>0<=i/\i<=m.boxes.length/\Ext h2.size h2 h'/\∀ (j:Nat) b,(j:Int) < i->m.boxes[j]? = some b->boxOk b=true/\∀ (q:Nat) c,q < j->m.boxes[q]? = some c->c.2.2.1≠b.2.2.1,fun i _=>(m.boxes.length - i).toNat,⟨by omega,by omega,Ext.refl _ _,fun j b hj=>by omega⟩,?_⟩
 rintro i h3 ⟨i0,i1,X3,hd⟩
 have z3:=X3.size
 have P3:=P2.ext X3 P2.lt
 unfold ref28_check_l10b
 refine ⟨v.f_Boxes,P3.cl rfl,?_⟩
 by_cases c:i < m.boxes.length
 rotate_left
 ·rw [if_neg (by rw [decide_eq_true_eq]; omega)]
  refine ⟨v,CellsAt.of_blk P3,DForm_ok (M2.ext X3) w fun s4 h4 R4 X4=>?_⟩
  have sl:s4.len=(memC.put m.tup).length:=Row.pb R4
  have X04:=X2.trans ((X3.trans (X4.mono z3)).mono z2)
  by_cases c12:(s4.len:Int) > 26624
  ·rw [if_pos (dtrue c12)]
   exact H 3 h4 X04 fun q=>by cases q
  ·rw [if_neg (by rw [dfalse c12]; simp)]
   refine H 0 h4 X04 fun _=>?_
   unfold chkE
   have b0:bxsE [] m.boxes=0:=bxs_of _ _ fun j b hb=>by
    have hj:=(List.getElem?_eq_some_iff.1 hb).1
    obtain ⟨q1,q2⟩:=hd j b (by omega) hb
    exact ⟨q1,by simp,fun q c hq hc=>q2 q c hq hc⟩
   rw [if_pos cn,if_neg (by omega),if_neg (by rw [b0]; simp),if_neg (by omega)]
 rw [if_pos (by rw [decide_eq_true_eq]; omega)]
 have L3:=B1.ext X3
 obtain ⟨a,u,ha,_,hlt,hu,hc⟩:=L3.it i0 (by omega)
 obtain ⟨b,hb⟩:∃ b,m.boxes[i.toNat]? = some b:=⟨_,List.getElem?_eq_getElem (by omega)⟩
 have Eb:=B2.r _ _ _ hu hb
 refine ⟨v.f_Boxes,P3.cl rfl,a,ha,i0,hlt,u,hc,DChk_ok (Eb.ext X3) (w.boxes b (List.mem_of_getElem? hb)) fun h4 X4=>?_⟩
 have z4:=X4.size
 have P4:=P3.ext X4 P3.lt
 have X24:=X3.trans (X4.mono z3)
 have X04:=X2.trans (X24.mono z2)
 by_cases ok:boxOk b=true
 rotate_left
 ·rw [if_pos (by simpa using ok)]
  exact H 1 h4 X04 fun q=>by cases q
 rw [if_neg (by simpa using ok)]
 unfold ref28_check_l11
 refine ⟨fun j h'=>0<=j/\j<=i/\h'=h4/\∀ (q:Nat) c,(q:Int) < j->m.boxes[q]? = some c->c.2.2.1≠b.2.2.1,fun j _=>(i - j).toNat,⟨by omega,by omega,rfl,fun q c hq=>by omega⟩,?_⟩
 rintro j h5 ⟨j0,j1,rfl,hn⟩
 unfold ref28_check_l11b
 by_cases cj:j < i
 rotate_left
 ·rw [if_neg (by rw [decide_eq_true_eq]; exact cj),wrapI64 (x:=i + 1) (by omega) (by omega)]
  refine ⟨_,rfl,⟨by omega,by omega,X24,fun q c hq hc=>?_⟩,by dsimp only; omega⟩
  by_cases f:q=i.toNat
  ·subst f
   rw [hb] at hc; cases hc
   exact ⟨ok,fun q' c' hq' hc'=>hn q' c' (by omega) hc'⟩
  ·exact hd q c (by omega) hc
 rw [if_pos (by rw [decide_eq_true_eq]; exact cj)]
 have L5:=B1.ext X24
 obtain ⟨a1,u1,ha1,_,hlt1,hu1,hc1⟩:=L5.it (i:=j) j0 (by omega)
 obtain ⟨a2,u2,ha2,_,hlt2,hu2,hc2⟩:=L5.it (i:=i) i0 (by omega)
 rw [hu] at hu2; cases hu2
 obtain ⟨b1,hb1⟩:∃ b,m.boxes[j.toNat]? = some b:=⟨_,List.getElem?_eq_getElem (by omega)⟩
 have Eb1:=B2.r _ _ _ hu1 hb1
 refine ⟨v.f_Boxes,P4.cl rfl,a1,ha1,j0,hlt1,u1.f_Nonce,cls_part hc1 (i:=2) rfl,v.f_Boxes,P4.cl rfl,a2,ha2,i0,hlt2,u.f_Nonce,cls_part hc2 (i:=2) rfl,?_⟩
 rw [if_pos (rfl:BinOp.eql = .eql)]
 by_cases q:(nrm 12 u1.f_Nonce == nrm 12 u.f_Nonce)=true
 ·rw [if_pos q]
  exact H 7 h5 X04 fun q=>by cases q
 ·rw [if_neg q,wrapI64 (x:=j + 1) (by omega) (by omega)]
  refine ⟨_,rfl,⟨by omega,by omega,rfl,fun r c hr hc=>?_⟩,by dsimp only; omega⟩
  by_cases f:r=j.toNat
  ·subst f
   rw [hb1] at hc; cases hc
   intro e
   apply q
   rw [Eb1.n,Eb.n,e]
   simp
  ·exact hn r c (by omega) hc
theorem DCheck_ok {k:Int->Heap->Prop} (M:MemAt h v m) (w:WfM m) (H:∀ e h',Ext h.size h h'->(e=0->chkM m=0)->k e h'):ref28_Check v k h:=by
 unfold ref28_Check
 refine bx0 fun h2 P2 X2=>⟨v,CellsAt.of_blk P2,dcheck_ok (M.ext X2) w fun e h3 X3 he=>?_⟩
 have X03:=X2.trans (X3.mono X2.size)
 by_cases q:e=7
 ·rw [if_pos (by simpa using q)]
  exact H 1 h3 X03 fun f=>by cases f
 ·rw [if_neg (by simpa using q)]
  exact H e h3 X03 fun f=>by unfold chkM; rw [he f]; rfl
theorem DSame28_ok {v':S_api_Mem} {k:Bool->Heap->Prop} (M:MemAt h v m) (M':MemAt h v' m) (w:WfM m) (ck:chkM m=0) (H:∀ h',Ext h.size h h'->k true h'):ref28_Same v v' k h:=by
 have cb:=chkM_bd ck
 unfold ref28_Same
 refine bx0 fun h2 P2 X2=>bx0 fun h3 P3 X3=>?_
 have z2:=X2.size
 have z3:=X3.size
 have X03:=X2.trans (X3.mono z2)
 refine ⟨v,CellsAt.of_blk (P2.ext X3 P2.lt),v',CellsAt.of_blk P3,DForm_ok (M.ext X03) w fun s4 h4 R4 X4=>⟨CellsAt.of_blk (P3.ext X4 P3.lt),?_⟩⟩
 have z4:=X4.size
 have X04:=X03.trans (X4.mono (by omega))
 refine DForm_ok (M'.ext X04) w fun s5 h5 R5 X5=>?_
 have z5:=X5.size
 have hl:=R4.2.1
 have l4:s4.len=(memC.put m.tup).length:=Row.pb R4
 have c4:=R4.cap
 refine DSame_ok (R4.ext X5 fun g hg=>(R4.bd hg).2).slc l4 R5.slc (Row.pb R5) (by omega) ?_
 ·rw [dtrue rfl]
  exact H h5 (X04.trans (X5.mono (by omega)))
end
end Go.Q.Yk
end
section
set_option maxRecDepth 100000
/- Strong: the document's example. -/
namespace Go.Q.Yk
open Go.Q.Sg
section
variable {B c d rn rs pr sr st lo hi:Nat} {h h':Heap} {X:DK} {slot i:Int} {v:S_api_Mem} {m:MemV}
/-- what is loaded where one record stands: a change of numbers -/
theorem load1_ok {n:Int} {k:S_api_Mem × Int->Heap->Prop} (hn:u64 n) (J:JO B h d rn rs pr sr X c slot i) (r:R0 h) (s0:0<=slot) (out:outW X (0 + slot * 256)=memC.put m.tup) (w:WfM m) (ck:chkM m=0) (ck2:chkE { m with boot:=n } = 0) (sd:Stands X (numW X 0 256 slot) 0 512 [chgC.put (cB 1 n).tup]) (hz:(chgC.put (cB 1 n).tup).length<=1000000)
  (H:∀ v h',MemAt h' v { m with boot:=n }->Ext h.size h h'->k (v,0) h'):strong_load (some ⟨sr,0,none⟩) k h:=by
 have cb:=chkM_bd ck
 unfold strong_load
 refine bx0 fun h2 P2 X2=>?_
 have z2:=X2.size
 have p2:=P2.lt
 obtain ⟨f,e,nn,p,S2,_⟩:=(J.ext X2).S
 refine Recover_ok (l:=[chgC.put (cB 1 n).tup]) (J.ext X2).D (J.ext X2).P S2 (r.ext X2 r.pos) J.g J.b (fun _=>sd) (by simp) (fun q=>by omega) fun _ img s3 h3 ys Si li K X3=>?_
 have z3:=X3.size
 rw [if_neg (by simp)]
 rw [out] at Si li
 refine SGet_ok (m:=m) (fun h' E=>Si.ext E) li.1 li.2 (mem_B w) (by omega) w ck fun v h4 M4 X4=>?_
 have z4:=X4.size
 refine bx (cs:=S_api_Mem.cs v) rfl (by show 79<=79; omega) fun h5 P5 X5=>?_
 have z5:=X5.size
 rw [if_neg (by simp)]
 have yn:=K.n
 obtain ⟨y,ey⟩:∃ y,ys=[y]:=by
  match ys,yn with
  | [y],_=>exact ⟨y,rfl⟩
 subst ey
 have l1:s3.len=1:=by
  have a:=K.r.1
  simp at a
  exact a.symm
 obtain ⟨y1,y2,_⟩:=K.row 0 y _ rfl rfl
 have X35:Ext h3.size h3 h5:=X4.trans (X5.mono z4)
 have X25:Ext h2.size h2 h5:=X3.trans (X35.mono z3)
 have M5:MemI h3.size h4.size h5 v m:=MemI.keep M4 fun g _ hg=>X5.block g hg
 unfold strong_load_l1
 refine ⟨fun j h'=>(j=0/\h'=h5)∨(j=1/\∃ v',MemAt h' v' { m with boot:=n }/\(∀ q,h'[h4.size]? = q->True)/\Blk h' h4.size (S_api_Mem.cs v') 33/\Blk h' h.size (S_api_Mem.cs zMem) 33/\MemI (h4.size + 1) h'.size h' v' { m with boot:=n }/\Ext h.size h h'),fun j _=>(1 - j).toNat,.inl ⟨rfl,rfl⟩,?_⟩
 rintro j h6 (⟨rfl,rfl⟩ | ⟨rfl,v',M6,_,P6,Z6,I6,X6⟩)
 ·unfold strong_load_l1b
  rw [if_pos (by rw [l1]; decide)]
  obtain ⟨a,ha,hc⟩:=(K.r.ext X35 fun g hg=>(K.r.bd hg).2).at (j:=0) (by rw [l1]; decide)
  refine ⟨a,ha,by omega,by rw [l1]; decide,y,hc,?_⟩
  refine GetC_ok (by omega) hn (fun h' E=>(y1.ext X35).ext E) y2.1 y2.2 hz fun cv h7 CA kd nd X7=>?_
  have z7:=X7.size
  refine bx (cs:=S_api_Change.cs cv) rfl (by show 45<=45; omega) fun h8 P8 X8=>?_
  have z8:=X8.size
  rw [if_neg (by simp)]
  have X68:=X7.trans (X8.mono z7)
  have P58:=P5.ext X68 P5.lt
  have p5:=P5.lt
  refine ⟨v,CellsAt.of_blk P58,cv,CellsAt.of_blk P8,?_⟩
  refine Make_ok (c:=cB 1 n) ((M5.keep fun g _ hg=>X68.block g (by omega)).now) w ⟨by omega,by omega⟩ (CA.ext X8) (cB_ok (by omega) hn) ⟨by simp [cB],by simp [cB]⟩ (by rw [nd]; omega) ⟨fun v' m' h9 M9 X9 w' c' q'=>?_,fun e h9 he X9 q'=>?_⟩
  ·have z9:=X9.size
   have em:m' = { m with boot:=n }:=q' kd
   subst em
   refine bset (cs:=S_api_Mem.cs v') (P58.ext X9 (by omega)) rfl (by show 79<=79; omega) fun h10 P10 U10=>?_
   have z10:=U10.size
   rw [if_neg (by simp),wrapI64 (x:=(0:Int) + 1) (by omega) (by omega)]
   have M10:MemI h8.size h9.size h10 v' { m with boot:=n }:=MemI.keep M9 fun g h1 hg=>U10.block g hg (by omega)
   have X610:Ext h4.size h6 h10:=(X68.mono (by omega)).trans ((X9.mono (by omega)).trans (U10.ext (Nat.le_refl _) (by omega)))
   refine ⟨.inr ⟨rfl,v',M10.now,fun _ _=>trivial,P10,?_,fun h' ke=>M10 h' fun g h1 h2=>ke g (by omega) (by omega),?_⟩,by dsimp only; decide⟩
   ·exact (P2.ext X25 p2).ext X610 (by omega)
   ·exact X2.trans ((X25.mono z2).trans (X610.mono (by omega)))
  ·exact absurd ck2 (q' kd)
 ·unfold strong_load_l1b
  rw [if_neg (by rw [l1]; decide)]
  refine ⟨v',CellsAt.of_blk P6,bset (cs:=S_api_Mem.cs v') Z6 rfl (by show 79<=79; omega) fun h7 P7 U7=>⟨v',CellsAt.of_blk P7,H v' h7 ?_ (X6.trans (U7.ext (Nat.le_refl _) X6.size))⟩⟩
  exact I6 h7 fun g h1 hg=>U7.block g hg (by omega)
end
end Go.Q.Yk
end
section
set_option maxRecDepth 100000
/- Strong: the document's example, walked. -/
namespace Go.Q.Yk
open Go.Q.Sg
abbrev Z32:List Int:=List.replicate 32 0
def m0:MemV:=⟨0,3,1,0,0,[0],Z32,Z32,0,0,0,0,[],[],[(0,Z32),(0,Z32),(0,Z32)],[],0⟩
theorem z32B:isB Z32:=fun b hb=>by rw [List.eq_of_mem_replicate hb]; omega
theorem u0:u64 0:=by unfold u64; omega
theorem w0:WfM m0 where
 node:=(by omega:(-9223372036854775808:Int)<=0/\(0:Int) < 9223372036854775808)
 n:=(by omega:(-9223372036854775808:Int)<=3/\(3:Int) < 9223372036854775808)
 t:=(by omega:(-9223372036854775808:Int)<=1/\(1:Int) < 9223372036854775808)
 vote:=(by omega:(-9223372036854775808:Int)<=0/\(0:Int) < 9223372036854775808)
 boot:=u0
 lease:=u0
 x:=fun b hb=>by rw [List.mem_singleton.1 (show b∈[(0:Int)] from hb)]; omega
 xl:=rfl
 y:=z32B
 yl:=List.length_replicate
 p:=z32B
 pl:=List.length_replicate
 term:=u0
 base:=u0
 bterm:=u0
 snap:=nil_B
 snapl:=Nat.zero_le _
 ents:=fun e he=>by cases he
 entsl:=Nat.zero_le _
 chains:=fun c hc=>by
  have hc:c∈[((0:Int),Z32),(0,Z32),(0,Z32)]:=hc
  have e:c=(0,Z32):=by simpa using hc
  subst e
  exact ⟨u0,z32B,List.length_replicate⟩
 chainsl:=by show 3<=1000000; omega
 boxes:=fun b hb=>by cases hb
 boxesl:=Nat.zero_le _
 clean:=u0
theorem ck0:chkM m0=0:=by decide +kernel
theorem ck2:chkE { m0 with boot:=2 } = 0:=by decide +kernel
theorem cl2:(chgC.put (cB 1 2).tup).length<=100:=by decide +kernel
theorem u2:u64 2:=by unfold u64; omega
/-- no record stands where nothing was written -/
theorem norec {Z:DK} {e n p:Int} (he:e≠0) (p0:512<=p) (p1:p < 1024) (hz:vD Z p=vD J0 p):¬ RecW Z e n p:=fun w=>by
 have q:=w.1.2
 rw [show p + ((0:Nat):Int)=p from by omega,rd_cong hz] at q
 have q2:=congrArg S_journal_head.f_epoch q
 have q3:=rhJ0 (a:=p) (by omega)
 unfold rh at q3
 rw [q3] at q2
 exact he q2.symm
section
variable {h:Heap}
theorem first_ok {k:S_api_Mem->Heap->Prop} (H:∀ v h',MemAt h' v m0->Ext h.size h h'->k v h'):law28_first 3 k h:=by
 unfold law28_first
 refine bx0 fun h2 P2 X2=>?_
 have z2:=X2.size
 have p2:=P2.lt
 refine ⟨_,_,by omega,by omega,by omega,by omega,rfl,rfl,?_⟩
 have P3:=Blk.push h2 (zrow [.int .u64 0,.int .u8 0,.int .u8 0,.int .u8 0,.int .u8 0,.int .u8 0,.int .u8 0,.int .u8 0,.int .u8 0,.int .u8 0,.int .u8 0,.int .u8 0,.int .u8 0,.int .u8 0,.int .u8 0,.int .u8 0,.int .u8 0,.int .u8 0,.int .u8 0,.int .u8 0,.int .u8 0,.int .u8 0,.int .u8 0,.int .u8 0,.int .u8 0,.int .u8 0,.int .u8 0,.int .u8 0,.int .u8 0,.int .u8 0,.int .u8 0,.int .u8 0,.int .u8 0] (3:Int).toNat) 35
 have X3:=Ext.push h2 (.cells (zrow [.int .u64 0,.int .u8 0,.int .u8 0,.int .u8 0,.int .u8 0,.int .u8 0,.int .u8 0,.int .u8 0,.int .u8 0,.int .u8 0,.int .u8 0,.int .u8 0,.int .u8 0,.int .u8 0,.int .u8 0,.int .u8 0,.int .u8 0,.int .u8 0,.int .u8 0,.int .u8 0,.int .u8 0,.int .u8 0,.int .u8 0,.int .u8 0,.int .u8 0,.int .u8 0,.int .u8 0,.int .u8 0,.int .u8 0,.int .u8 0,.int .u8 0,.int .u8 0,.int .u8 0] (3:Int).toNat).toArray 35) (Nat.le_refl _)
 generalize h2.push (.cells (zrow [.int .u64 0,.int .u8 0,.int .u8 0,.int .u8 0,.int .u8 0,.int .u8 0,.int .u8 0,.int .u8 0,.int .u8 0,.int .u8 0,.int .u8 0,.int .u8 0,.int .u8 0,.int .u8 0,.int .u8 0,.int .u8 0,.int .u8 0,.int .u8 0,.int .u8 0,.int .u8 0,.int .u8 0,.int .u8 0,.int .u8 0,.int .u8 0,.int .u8 0,.int .u8 0,.int .u8 0,.int .u8 0,.int .u8 0,.int .u8 0,.int .u8 0,.int .u8 0,.int .u8 0] (3:Int).toNat).toArray 35)=h3 at *
 have z3:=X3.size
 refine bset (P2.ext X3 p2) rfl (by show 79<=79; omega) fun h4 P4 U4=>?_
 have P4:Blk h4 h.size (S_api_Mem.cs ⟨0,3,1,0,0,⟨0,Z32⟩,Z32,0,0,0,0,⟨none,0,0⟩,⟨none,0,0⟩,⟨some ⟨h2.size,0,none⟩,3,3⟩,⟨none,0,0⟩,0⟩) 33:=P4
 refine ⟨_,CellsAt.of_blk P4,H _ h4 ?_ (X2.trans ((X3.mono z2).trans (U4.ext (Nat.le_refl _) (by omega))))⟩
 have P3':Blk h4 h2.size ([(⟨0,Z32⟩:S_api_Chain),⟨0,Z32⟩,⟨0,Z32⟩].flatMap S_api_Chain.cs) 35:=U4.blk P3 (by omega)
 refine ⟨rfl,rfl,rfl,rfl,rfl,rfl,rfl,rfl,rfl,rfl,rfl,rfl,slc_nil,rfl,⟨[],ls_nil rfl,Many.nil⟩,⟨[⟨0,Z32⟩,⟨0,Z32⟩,⟨0,Z32⟩],lsOf (w:=33) (fun _=>rfl) ⟨(fun q=>by cases q),(fun a ha j x hj=>by cases ha; rw [add_mk,P3'.cell,Nat.zero_add]; exact hj)⟩ rfl (by decide),((Many.nil.snoc ⟨rfl,rfl⟩).snoc ⟨rfl,rfl⟩).snoc ⟨rfl,rfl⟩⟩,⟨[],ls_nil rfl,Many.nil⟩,rfl⟩
abbrev cv2:S_api_Change:=⟨1,2,0,⟨0,Z32⟩,⟨0,0,0,0,⟨none,0,0⟩,⟨none,0,0⟩⟩,⟨none,0,0⟩,⟨none,0,0⟩,ByteArray.empty⟩
theorem ca2 {h:Heap}:ChgAt h cv2 (cB 1 2):=⟨rfl,rfl,rfl,⟨rfl,rfl⟩,rfl,rfl,rfl,rfl,⟨[],ls_nil rfl,Many.nil⟩,slc_nil,rfl,ls_nil rfl,⟨[],ls_nil rfl,Many.nil⟩,rfl⟩
/-- a change in a call is what its cells are -/
theorem do_cells {p:Option Addr} {a b:S_api_Change} {k:Int->Heap->Prop} (e:S_api_Change.cs a=S_api_Change.cs b) (H:strong_Store_Do p b k h):strong_Store_Do p a k h:=by
 unfold strong_Store_Do at H ⊢
 rw [e]
 exact H
theorem Load_ok' {B c d rn rs:Nat} {X:DK} {slot i:Int} {m':MemV} {k:S_api_Mem × Int->Heap->Prop} (S:DS B h d rn rs X c slot i) (oB:B<=h.size)
  (L:∀ pr sr h2 (k':S_api_Mem × Int->Heap->Prop),JO B h2 d rn rs pr sr X c slot i->Ext h.size h h2->(∀ v h',MemAt h' v m'->Ext h2.size h2 h'->k' (v,0) h')->strong_load (some ⟨sr,0,none⟩) k' h2)
  (H:∀ v h',v.f_Boot=m'.boot->v.f_N=m'.n->Ext h.size h h'->k (v,0) h'):strong_Load (some ⟨d,0,none⟩) k h:=by
 unfold strong_Load
 refine bx0 fun h2 P2 X2=>?_
 have z2:=X2.size
 have p2:=P2.lt
 refine (S.ext X2).open' (by omega) fun pr sr h3 J3 X3 sB=>?_
 have z3:=X3.size
 rw [if_neg (by simp)]
 refine L pr sr h3 _ J3 (X2.trans (X3.mono z2)) fun v h4 M4 X4=>?_
 have z4:=X4.size
 exact bset (cs:=S_api_Mem.cs v) ((P2.ext X3 p2).ext X4 (by omega)) rfl (by show 79<=79; omega) fun h5 P5 U5=>⟨v,CellsAt.of_blk P5,H v h5 M4.boot M4.n (X2.trans ((X3.mono z2).trans ((X4.mono (by omega)).trans (U5.ext (Nat.le_refl _) (by omega)))))⟩
theorem awake_ok {k:Bool->Heap->Prop} (r:R0 h) (H:∀ h',Ext h.size h h'->k true h'):law28_awake k h:=by
 have r0:=r.pos
 unfold law28_awake
 refine DNew_ok (B:=h.size) (Nat.le_refl _) fun d rn rs h2 D2 X2=>first_ok fun v h3 M3 X3=>?_
 have z2:=X2.size
 have z3:=X3.size
 have X03:=X2.trans (X3.mono z2)
 refine Format_ok (D2.ext X3) (r.ext X03 r0) ⟨r0,by omega⟩ M3 w0 ck0 fun Y c4 h4 t S4 t0 o4 n4 g4 hi4 X4=>?_
 have X04:=X03.trans (X4)
 have z4:=X4.size
 refine SOpen_ok S4 (by omega) (r.ext X04 r0) ⟨r0,by omega⟩ t0 o4 w0 ck0 (norec (by omega) (by omega) (by omega) (hi4 512 (by omega))) fun pr sr st v5 h5 Y2 c5 t2 lo hi T5 X5 S5 t20 o5 n5 hi5=>?_
 have X05:=X04.trans X5
 have z5:=X5.size
 rw [g4] at S5 n5
 have hi5':∀ a,512<=a->vD Y2 a=vD J0 a:=fun a ha=>(hi5 a ha).trans (hi4 a ha)
 have cl:=cl2
 refine do_cells (b:=cv2) rfl (Do_ok (ch:=cB 1 2) T5 (by omega) (r.ext X05 r0) ⟨r0,by omega⟩ ca2 (cB_ok (by omega) u2) ⟨by simp [cB],by simp [cB]⟩ (by show -9223372036854775808<=(0:Int)/\(0:Int) < _; omega) fun rr h6 X6' c6 t3 v6 m6 lo6 hi6 T6 X6 Q6 R6=>?_)
 obtain ⟨q1,q2⟩:=Q6 rfl
 have er:rr=0:=q2 ck2
 subst er
 have em:=q1 rfl
 subst em
 obtain ⟨e1,e2⟩:=R6 rfl _ _ _ S5 (by omega) (by omega)
 have e2:=e2.symm
 subst e2
 have X06:=X05.trans X6
 have z6:=X6.size
 have j1:jprtD (chgC.put (cB 1 2).tup).length=1:=by
  have:=chg_pos (cB_ok (k:=1) (n:=2) (by omega) u2)
  unfold jprtD; split <;> omega
 rw [j1,show (1:Int).toNat=1 from rfl] at e1
 have B6:=chg_B (cB_ok (k:=1) (n:=2) (by omega) u2)
 obtain ⟨_,_,_,_,L6⟩:=wrD_free (X:=Y2) (g:=recS (1 + 1) 0 (chgC.put (cB 1 2).tup)) (N:=1) (p:=512) (fun n=>recS_le _ _ _ _) T5.J.dd T5.J.fu T5.J.sf (by omega) (by omega)
 rw [← e1] at L6
 -- the power comes back
 have D6:DAt h.size 0 h6 d rn rs X6':={ T6.J.D with c:=by rw [T6.J.sf]; simp }
 refine DBoot_ok (fs:=[]) D6 slc_nil rfl (fun _ _=>slc_nil) (by omega) fun h7 D7 F7=>?_
 have z7:=F7.size
 have vZ:∀ a,vD (bootD X6' []) a=vD X6' a:=fun a=>boot_nil T6.J.sf [] a
 have nZ:(bootD X6' []).now=X6'.now:=by
  show bootGo [] X6'.safe (keysD X6') X6'.safe.length X6'.now=X6'.now
  rw [T6.J.sf]; rfl
 have low:∀ a,a < 512->vD (bootD X6' []) a=vD Y2 a:=fun a ha=>by
  rw [vZ]
  rcases L6.now a with q | ⟨j,h1,h2⟩
  ·exact q
  ·omega
 obtain ⟨b1,b2,b3⟩:=bp_loc (Z:=bootD X6' []) (X:=Y2) (fun p _ p1=>rd_cong (low p p1)) T5.J.b
 obtain ⟨b4,b5⟩:=b2 t20
 have S7:DS h.size h7 d rn rs (bootD X6' []) 0 t2 3:=⟨D7,good_boot T6.J.sf T6.J.g,rfl,rfl,rfl,by unfold KN; rw [nZ]; exact T6.J.kn,by rw [b3]; have:=T5.J.gr; omega,b1⟩
 have F7':JF d rn rs sr h6 h7:=JF.of_df F7
 have X7:Ext h.size h6 h7:=F7'.ext T6.J.D T6.J.sb (by omega)
 have X07:=X06.trans X7
 have rec0:RecW (bootD X6' []) 2 0 512/\outR (bootD X6' []) 512=chgC.put (cB 1 2).tup:=rec_whole (by omega) (by omega) (by omega) fun j hj=>by
  have hj0:j=0:=by omega
  subst hj0
  exact rdG_new (a:=512 + ((0:Nat):Int)) (j:=0) (g:=recS (1 + 1) 0 (chgC.put (cB 1 2).tup)) (recS_le _ _ _ _) (by omega) (by rw [vZ]; exact L6.all 0 (by omega))
 have no1:¬ RecW (bootD X6' []) 2 1 513:=norec (by omega) (by omega) (by omega) (by
  rw [vZ]
  rcases L6.now 513 with q | ⟨j,h1,h2⟩
  ·rw [q]; exact hi5' 513 (by omega)
  ·omega)
 have sd:Stands (bootD X6' []) (numW (bootD X6' []) 0 256 t2) 0 512 [chgC.put (cB 1 2).tup]:=by
  rw [b5,n5]
  exact .cons rec0.1 rec0.2 (.nil (by rw [j1]; exact no1))
 refine Load_ok' (m':={ m0 with boot:=2 }) S7 (by omega) (fun pr' sr' h8 k' J8 X8 HK=>load1_ok u2 J8 (r.ext (X07.trans (X8.mono (by omega))) r0) t20 (by rw [b4]; exact o5) w0 ck0 ck2 sd (by omega) HK) fun v9 h9 bo nn X9=>?_
 have z9:=X9.size
 refine bx (cs:=S_api_Mem.cs v9) rfl (by show 79<=79; omega) fun h10 P10 X10=>?_
 have z10:=X10.size
 rw [if_pos (by simp)]
 refine ⟨_,P10.cl rfl,?_⟩
 unfold law28_awake_g1
 rw [bo]
 rw [if_pos (by simp)]
 refine ⟨_,P10.cl rfl,?_⟩
 unfold law28_awake_g2
 rw [nn]
 rw [if_pos (by simp [m0])]
 have T7:STo h.size h7 d rn rs pr sr st (bootD X6' []) 0 t2 3 v6 { m0 with boot:=2 } lo6 hi6:=by
  obtain ⟨f,e,n,p,SS,qq⟩:=T6.J.S
  have o6:=T6.o
  exact ⟨⟨D7,T6.J.P.jf T6.J.D SS F7',⟨f,e,n,p,SS.df T6.J.D F7,fun k=>by have:=qq k; exact ⟨this.1,this.2.1,by omega,this.2.2.2⟩⟩,S7.g,rfl,rfl,rfl,S7.kn,S7.gr,b1,T6.J.sb⟩,T6.J.other T6.T (by decide) F7',T6.M.jf o6.2.1 (fun g q=>T6.x g (by rcases q with q | q | q | q <;> simp [q])) F7',T6.w,T6.ck,⟨o6.1,by omega,o6.2.2⟩,T6.x⟩
 have X710:=X9.trans (X10.mono z9)
 refine Mem_ok (T7.ext X710) fun v11 h11 M11 X11=>?_
 unfold law28_awake_g3
 have M11:MemAt h11 v11 { m0 with boot:=2 }:=M11 h11 fun _ _ _=>rfl
 rw [show v11.f_Boot=2 from M11.boot]
 have z07:=X07.size
 exact H h11 (X07.trans ((X710.mono (by omega)).trans (X11.mono (by omega))))
end
end Go.Q.Yk
end

/- A part of the proof of statements of this seat: lemmas, no statement of their own. -/
import Derived.Test.YtmmpamfadeonmaaGreatDoorYkZbe
set_option linter.unusedVariables false
set_option linter.unusedSimpArgs false
section
set_option maxRecDepth 100000
/- Strong: Do, Mem, Scrub. -/
namespace Go.Q.Yk
open Go.Q.Sg
section
variable {B c d rn rs pr sr st lo hi:Nat} {h:Heap} {X:DK} {slot i:Int} {v:S_api_Mem} {m:MemV}
theorem JO.more (J:JO B h d rn rs pr sr X c slot i) {i':Int} (hi:i<=i'):JO B h d rn rs pr sr X c slot i':=by
 obtain ⟨f,e,n,p,S,q⟩:=J.S
 exact { J with gr:=Int.le_trans J.gr hi,S:=⟨f,e,n,p,S,fun k=>⟨(q k).1,(q k).2.1,Int.le_trans (q k).2.2.1 hi,(q k).2.2.2⟩⟩ }
theorem STo.more (T:STo B h d rn rs pr sr st X c slot i v m lo hi) {i':Int} (k:i<=i'):STo B h d rn rs pr sr st X c slot i' v m lo hi:={ T with J:=T.J.more k }
theorem STo.lt (T:STo B h d rn rs pr sr st X c slot i v m lo hi):∀ g,(g=d∨g=rn∨g=rs∨g=sr∨g=st)->g < h.size:=by
 obtain ⟨a,b,e,f⟩:=T.J.lt
 have:=T.T.lt
 rintro g (q | q | q | q | q) <;> subst q <;> assumption
theorem STo.mem (T:STo B h d rn rs pr sr st X c slot i v m lo hi):CellsAt h ((⟨st,0,none⟩:Addr).add 1) (S_api_Mem.cs v):=T.T.cls rfl
theorem Do_ok {cv:S_api_Change} {ch:ChgV} {k:Int->Heap->Prop} (T:STo B h d rn rs pr sr st X c slot i v m lo hi) (i1:i<=900) (r:R0 h) (oB:0 < B/\B<=h.size) (CA:ChgAt h cv ch) (wc:WfC ch) (cl:ch.ents.length<=1000/\ch.boxes.length<=1000) (ck:-9223372036854775808<=cv.f_Node/\cv.f_Node < 9223372036854775808)
  (H:∀ rr h' X' c' slot' v' m' lo' hi',STo B h' d rn rs pr sr st X' c' slot' (i + 1) v' m' lo' hi'->Ext B h h'->(cv.f_Kind=1->(rr=0->m' = { m with boot:=ch.n })/\(chkE { m with boot:=ch.n } = 0->rr=0)) ->
   (rr=0->∀ e n p,StAt h sr d pr true e n p->(chgC.put ch.tup).length<=4096->((chgC.put ch.tup).length:Int)<=(1024 - p) * 108->X'=(wrD p (recS e n (chgC.put ch.tup)) X (jprtD (chgC.put ch.tup).length).toNat).2/\slot'=slot)->k rr h'):strong_Store_Do (some ⟨st,0,none⟩) cv k h:=by
 have cb:=chkM_bd T.ck
 have ml:m.ents.length<=1000/\m.boxes.length<=1000:=⟨by omega,by omega⟩
 have o:=T.o
 unfold strong_Store_Do
 refine bx0 fun h2 P2 X2=>?_
 rw [if_neg (by simp)]
 have z2:=X2.size
 have T2:=T.ext X2
 have sz:h.size < h2.size:=P2.lt
 -- behind Make
 have fin:∀ {hh:Heap} {b5 lo' hi':Nat} {v':S_api_Mem} {m':MemV},Ext h2.size h2 hh->Blk hh b5 (S_api_Mem.cs v') 33->MemI lo' hi' hh v' m'->h2.size<=lo'->hi'<=hh.size->WfM m'->chkM m'=0->(cv.f_Kind=1->m' = { m with boot:=ch.n })->strong_Store_Do_j1 (some ⟨st,0,none⟩) ⟨h.size,0,none⟩ ⟨b5,0,none⟩ 0 k hh:=by
  intro hh b5 lo' hi' v' m' Y P5 M l1 l2 w' c' q'
  have zz:=Y.size
  have X0:=X2.trans (Y.mono z2)
  refine j1do_ok (T.ext X0) i1 (r.ext X0 r.pos) ⟨oB.1,by omega⟩ (P2.ext Y P2.lt) P5 (CA.ext X0) wc M w' c' ⟨by omega,l2⟩ (fun g hg=>.inl (by have:=T.lt g hg; omega)) fun h' X' c'' slot' T' E' HX=>H 0 h' X' c'' slot' v' m' lo' hi' T' ((X0.mono oB.2).trans E') (fun q=>⟨fun _=>q' q,fun _=>rfl⟩) fun _ e n p S'=>HX e n p (Blk.ext S' X0 S'.lt)
 have err:∀ {hh:Heap} {b5:Nat} {e:Int},e≠0->Ext h2.size h2 hh->(cv.f_Kind=1->chkE { m with boot:=ch.n }≠0)->strong_Store_Do_j1 (some ⟨st,0,none⟩) ⟨h.size,0,none⟩ ⟨b5,0,none⟩ e k hh:=by
  intro hh b5 e he Y q'
  have X0:=X2.trans (Y.mono z2)
  unfold strong_Store_Do_j1
  rw [if_pos (by simpa using he)]
  exact H e hh X c slot v m lo hi ((T.ext X0).more (by omega)) (X0.mono oB.2) (fun q=>⟨fun f=>absurd f he,fun f=>absurd f (q' q)⟩) fun f=>absurd f he
 refine ⟨_,rfl,v,T2.mem,cv,CellsAt.of_blk P2,?_,?_⟩
 ·refine Make_ok T2.M.now T.w ml (CA.ext X2) wc cl ck ⟨fun v' m' h3 M3 X3 w' c' q'=>?_,fun e h3 he X3 q'=>?_⟩
  ·exact bx (cs:=S_api_Mem.cs v') rfl (by show 79<=79; omega) fun h4 P4 X4=>fin (lo':=h2.size) (hi':=h3.size) (X3.trans (X4.mono X3.size)) P4 (MemI.keep M3 fun g _ hg=>X4.block g hg) (Nat.le_refl _) X4.size w' c' q'
  ·exact bx (cs:=S_api_Mem.cs zMem) rfl (by show 79<=79; omega) fun h4 P4 X4=>err he (X3.trans (X4.mono X3.size)) q'
 ·refine bx0 fun h3 P3 X3=>⟨CellsAt.of_blk (P2.ext X3 P2.lt),(T2.ext X3).mem,?_⟩
  have z3:=X3.size
  have p3:=P3.lt
  refine Make_ok (T2.ext X3).M.now T.w ml ((CA.ext X2).ext X3) wc cl ck ⟨fun v' m' h4 M4 X4 w' c' q'=>?_,fun e h4 he X4 q'=>?_⟩
  ·have z4:=X4.size
   exact bset (cs:=S_api_Mem.cs v') (P3.ext X4 p3) rfl (by show 79<=79; omega) fun h5 P5 U5=>fin (lo':=h3.size) (hi':=h4.size) (X3.trans ((X4.mono z3).trans (U5.ext (Nat.le_refl _) (by omega)))) P5 (MemI.keep M4 fun g h1 hg=>U5.block g hg (by omega)) z3 U5.size w' c' q'
  ·have z4:=X4.size
   exact bset (cs:=S_api_Mem.cs zMem) (P3.ext X4 p3) rfl (by show 79<=79; omega) fun h5 P5 U5=>err he (X3.trans ((X4.mono z3).trans (U5.ext (Nat.le_refl _) (by omega)))) q'
theorem Mem_ok {k:S_api_Mem->Heap->Prop} (T:STo B h d rn rs pr sr st X c slot i v m lo hi) (H:∀ v' h',MemH h.size h' v' m->Ext h.size h h'->k v' h'):strong_Store_Mem (some ⟨st,0,none⟩) k h:=by
 unfold strong_Store_Mem
 refine bx0 fun h2 P2 X2=>?_
 rw [if_neg (by simp)]
 have z2:=X2.size
 have T2:=T.ext X2
 refine ⟨_,rfl,v,T2.mem,copied_ok T2.M.now T.w fun v' h3 M3 X3=>?_⟩
 have z3:=X3.size
 have p2:=P2.lt
 refine bset (cs:=S_api_Mem.cs v') (P2.ext X3 p2) rfl (by show 79<=79; omega) fun h4 P4 U4=>⟨v',CellsAt.of_blk P4,H v' h4 ?_ (X2.trans ((X3.mono z2).trans (U4.ext (Nat.le_refl _) (by omega))))⟩
 exact ((M3.keep fun g h1 hg=>U4.block g hg (by omega)).held).down z2
theorem MemNil_ok {k:S_api_Mem->Heap->Prop} {h:Heap} (H:∀ h',Ext h.size h h'->k zMem h'):strong_Store_Mem none k h:=by
 unfold strong_Store_Mem
 refine bx0 fun h2 P2 X2=>?_
 rw [if_pos (by simp)]
 exact bset (cs:=S_api_Mem.cs zMem) P2 rfl (by show 79<=79; omega) fun h4 P4 U4=>⟨zMem,CellsAt.of_blk P4,H h4 (X2.trans (U4.ext (Nat.le_refl _) X2.size))⟩
/-- what a scrub leaves -/
theorem ScX.all {Y:DK} {gr t1 t2:Int} {bs:List Int} (K:ScX Y gr t1 t2 bs) (g0:0<=gr/\gr<=1000) (bl:bs.length<=26624) :
  BP Y 0 256 t2/\outW Y (0 + t2 * 256)=bs/\numW Y 0 256 t2=gr + 2/\grD Y 0 512<=gr + 2/\¬ RecW Y (gr + 2) 0 512:=by
 have pk:prtD bs.length<=256:=by unfold prtD; split <;> omega
 have pp:=prt_pos bs.length
 have wh:∀ (t g:Int),0<=g->g<=1001->(∀ j:Nat,j < 256->readD Y (t * 256 + j)=(padB (newS (headD g bs) bs j),0))->IsW Y 0 256 t/\numW Y 0 256 t=g + 1/\outW Y (0 + t * 256)=bs:=fun t g h0 h1 hr=>by
  obtain ⟨a,b,c,d⟩:=lay_whole (Z:=Y) (p:=0 + t * 256) (kk:=256) (gr:=g) (bs:=bs) (by omega) pk ⟨h0,by omega⟩ fun j hj=>by
   rw [show 0 + t * 256 + (j:Int)=t * 256 + j from by omega,hr j (by omega)]
   unfold newS
   rw [if_pos (show (j:Int) < (headD g bs).f_parts from hj)]
  exact ⟨⟨a,b⟩,c,d⟩
 have fn:∀ (t g:Int),0<=g->g<=1001->(∀ j:Nat,j < 256->readD Y (t * 256 + j)=(padB (newS (headD g bs) bs j),0))->∀ j:Nat,j < 256->(fst1 Y (t * 256 + j)).f_n<=g + 1:=fun t g h0 h1 hr j hj=>by
  have:fst1 Y (t * 256 + j)=hdD (padB (newS (headD g bs) bs j)):=by unfold fst1; rw [hr j hj]
  rw [this]
  unfold newS
  by_cases c:(j:Int) < (headD g bs).f_parts
  ·rw [if_pos c]
   have:=hd_sec (f:=headD g bs) (bs:=bs) (i:=j) ⟨by show 0<=g + 1; omega,by show g + 1 < _; omega⟩ (by omega) (by show 0<=prtD _/\prtD _ < 65536; omega) (by show (0:Int)<=(bs.length:Int)/\(bs.length:Int) < _; omega) (sum_bd bs)
   rw [this]
   exact Int.le_refl _
  ·rw [if_neg c,pad_zero,fn_zero]
   omega
 obtain ⟨a1,b1,_⟩:=wh t1 gr (by omega) (by omega) K.one
 obtain ⟨a2,b2,c2⟩:=wh t2 (gr + 1) (by omega) (by omega) K.two
 refine ⟨?_,c2,by omega,gr_le (by omega) 512 fun i hi e=>?_,fun w=>?_⟩
 ·rcases K.t with ⟨e1,e2⟩ | ⟨e1,e2⟩
  ·subst e1; subst e2
   exact .inr (.inr ⟨rfl,a2,fun _=>by omega⟩)
  ·subst e1; subst e2
   exact .inr (.inl ⟨rfl,a2,fun _=>by omega⟩)
 ·have f1:=fn t1 gr (by omega) (by omega) K.one
  have f2:=fn t2 (gr + 1) (by omega) (by omega) K.two
  have e0:(0:Int) + (i:Int)=((i / 256:Nat):Int) * 256 + ((i % 256:Nat):Int):=by omega
  rw [e0]
  have hq:i / 256=0∨i / 256=1:=by omega
  have hm:=Nat.mod_lt i (show 256 > 0 by omega)
  rcases K.t with ⟨e1,e2⟩ | ⟨e1,e2⟩
  ·subst e1; subst e2
   rcases hq with q | q <;> rw [q]
   ·have:=f1 (i % 256) hm; exact Int.le_trans this (by omega)
   ·have:=f2 (i % 256) hm; exact Int.le_trans this (by omega)
  ·subst e1; subst e2
   rcases hq with q | q <;> rw [q]
   ·have:=f2 (i % 256) hm; exact Int.le_trans this (by omega)
   ·have:=f1 (i % 256) hm; exact Int.le_trans this (by omega)
 ·have e:=w.1.2
  rw [show (512:Int) + ((0:Nat):Int)=512 from rfl,K.hi 512 (by omega) (by omega)] at e
  have e2:=congrArg S_journal_head.f_epoch e
  have e3:(jhdD zSk).f_epoch=0:=by decide
  have e4:(wantD Y (gr + 2) 0 512 ((0:Nat):Int)).f_epoch=gr + 2:=rfl
  rw [e4] at e2
  have e2:(jhdD zSk).f_epoch=gr + 2:=e2
  omega
theorem Scrub2_ok {k:Int->Heap->Prop} (T:STo B h d rn rs pr sr st X c slot i v m lo hi) (i1:i<=900) (r:R0 h) (oB:0 < B/\B<=h.size)
  (H:∀ h' Y c' t1 t2,ScX Y (grD X 0 512) t1 t2 (memC.put m.tup)->STo B h' d rn rs pr sr st Y c' t2 (i + 2) v m lo hi->Ext B h h'->k 0 h'):strong_Store_Scrub (some ⟨st,0,none⟩) k h:=by
 have cb:=chkM_bd T.ck
 have o:=T.o
 unfold strong_Store_Scrub
 rw [if_neg (by simp)]
 refine ⟨_,rfl,_,T.T.cl0 rfl,v,T.mem,SPut_ok T.M.now T.w fun s2 h2 R2 X2=>?_⟩
 have z2:=X2.size
 have T2:=T.ext X2
 have gn:=gr_nn T.J.g 0 512
 have gl:=T.J.gr
 refine ⟨T2.T.cl0 rfl,ScrubF_ok (bs:=memC.put m.tup) T2.J i1 (r.ext X2 r.pos) ⟨oB.1,by omega⟩ (fun h' F=>T2.J.row R2 (by omega) F) (Row.pb R2) R2.cap cb.2.2 (mem_B T.w) fun Y c' h3 t1 t2 K D3 P3 F3 S3=>?_⟩
 have z3:=F3.size
 obtain ⟨q1,_,_,q4,_⟩:=K.all ⟨gn,by omega⟩ cb.2.2
 refine H h3 Y c' t1 t2 K ⟨⟨D3,P3,⟨_,_,_,_,S3,fun _=>⟨by omega,by omega,by omega,by omega,by omega⟩⟩,K.g,K.sf,K.fu,K.dd,K.kn,by omega,q1,T.J.sb⟩,T2.J.other T2.T (by decide) F3,T2.M.jf T2.o.2.1 (fun g q=>T2.x g (by rcases q with q | q | q | q <;> simp [q])) F3,T.w,T.ck,⟨o.1,by omega,o.2.2⟩,T.x⟩ ((X2.mono oB.2).trans (T2.J.jext (by omega) F3))
end
end Go.Q.Yk
end
section
set_option maxRecDepth 100000
/- Strong: what is loaded where no record stands; Format, Open. -/
namespace Go.Q.Yk
open Go.Q.Sg
/-- a disk whose power stays -/
structure DS (B:Nat) (h:Heap) (d rn rs:Nat) (X:DK) (c:Nat) (slot i:Int):Prop where
 D:DAt B c h d rn rs X
 g:GoodX X
 sf:X.safe=[]
 fu:X.fuse=0
 dd:X.dead=false
 kn:KN X
 gr:grD X 0 512<=i
 b:BP X 0 256 slot
section
variable {B c d rn rs pr sr st lo hi:Nat} {h h':Heap} {X:DK} {slot i:Int} {v:S_api_Mem} {m:MemV}
theorem DS.ext (S:DS B h d rn rs X c slot i) (E:Ext h.size h h'):DS B h' d rn rs X c slot i:={ S with D:=S.D.ext E }
theorem JO.ds (J:JO B h d rn rs pr sr X c slot i):DS B h d rn rs X c slot i:=⟨J.D,J.g,J.sf,J.fu,J.dd,J.kn,J.gr,J.b⟩
theorem DS.new {D:DAt B c h d rn rs J0}:DS B h d rn rs J0 c (-1) 0:=⟨D,gJ0,rfl,rfl,rfl,(fun p hp=>by cases hp),(by rw [grJ0]; omega),bpJ0⟩
theorem DS.open' {k:Option Addr × Int->Heap->Prop} (S:DS B h d rn rs X c slot i) (hB:B<=h.size) (H:∀ pr sr h',JO B h' d rn rs pr sr X c slot i->Ext h.size h h'->h.size<=sr->k (some ⟨sr,0,none⟩,0) h'):journal_Open (some ⟨d,0,none⟩) k h :=
 JOpen_ok fun pr sr h2 P2 S2 X2 pB sB=>H pr sr h2 ⟨S.D.ext X2,P2,⟨_,_,_,_,S2,fun q=>by cases q⟩,S.g,S.sf,S.fu,S.dd,S.kn,S.gr,S.b,by omega⟩ X2 sB
theorem load0_ok {k:S_api_Mem × Int->Heap->Prop} (J:JO B h d rn rs pr sr X c slot i) (r:R0 h) (s0:0<=slot) (out:outW X (0 + slot * 256)=memC.put m.tup) (w:WfM m) (ck:chkM m=0) (nr:¬ RecW X (numW X 0 256 slot) 0 512)
  (H:∀ v h',MemH h.size h' v m->Ext h.size h h'->k (v,0) h'):strong_load (some ⟨sr,0,none⟩) k h:=by
 have cb:=chkM_bd ck
 unfold strong_load
 refine bx0 fun h2 P2 X2=>?_
 have z2:=X2.size
 have p2:=P2.lt
 obtain ⟨f,e,n,p,S2,_⟩:=(J.ext X2).S
 refine Recover_ok (l:=[]) (J.ext X2).D (J.ext X2).P S2 (r.ext X2 r.pos) J.g J.b (fun _=>.nil nr) (by simp) (fun q=>by omega) fun _ img s3 h3 ys Si li K X3=>?_
 have z3:=X3.size
 rw [if_neg (by simp)]
 rw [out] at Si li
 refine SGet_ok (m:=m) (fun h' E=>Si.ext E) li.1 li.2 (mem_B w) (by omega) w ck fun v h4 M4 X4=>?_
 have z4:=X4.size
 refine bx (cs:=S_api_Mem.cs v) rfl (by show 79<=79; omega) fun h5 P5 X5=>?_
 have z5:=X5.size
 rw [if_neg (by simp)]
 have l0:s3.len=0:=by
  have a:=K.r.1
  have b:=K.n
  rw [List.length_map,b] at a
  simpa using a.symm
 unfold strong_load_l1
 refine ⟨fun j h'=>j=0/\h'=h5,fun _ _=>0,⟨rfl,rfl⟩,?_⟩
 rintro j h' ⟨rfl,rfl⟩
 unfold strong_load_l1b
 rw [if_neg (by rw [l0]; decide)]
 have X25:Ext h2.size h2 h':=X3.trans ((X4.mono z3).trans (X5.mono (by omega)))
 refine ⟨v,CellsAt.of_blk P5,bset (cs:=S_api_Mem.cs v) (P2.ext X25 p2) rfl (by show 79<=79; omega) fun h6 P6 U6=>⟨v,CellsAt.of_blk P6,H v h6 ?_ (X2.trans ((X25.mono z2).trans (U6.ext (Nat.le_refl _) (by omega))))⟩⟩
 have z6:=U6.size
 exact (M4.keep (fun g h1 hg=>by rw [U6.block g (by omega) (by omega),X5.block g hg]) (by omega)).down (by omega)
/-- the first image is saved -/
theorem Format_ok {k:Int->Heap->Prop} (D:DAt B c h d rn rs J0) (r:R0 h) (oB:0 < B/\B<=h.size) (M:MemAt h v m) (w:WfM m) (ck:chkM m=0)
  (H:∀ Y c' h' t,DS B h' d rn rs Y c' t 1->0<=t->outW Y (0 + t * 256)=memC.put m.tup->numW Y 0 256 t=1->grD Y 0 512=1->(∀ a,512<=a->vD Y a=vD J0 a)->Ext B h h'->k 0 h'):strong_Format (some ⟨d,0,none⟩) v k h:=by
 have cb:=chkM_bd ck
 unfold strong_Format
 refine bx0 fun h2 P2 X2=>⟨v,CellsAt.of_blk P2,SChk_ok (M.ext X2) w fun h3 X3=>?_⟩
 have z2:=X2.size
 have z3:=X3.size
 have X03:=X2.trans (X3.mono z2)
 rw [if_neg (by rw [ck]; simp)]
 refine (DS.new (D:=D.ext X03)).open' (by omega) fun pr sr h4 J4 X4 sB=>?_
 have z4:=X4.size
 rw [if_neg (by simp)]
 obtain ⟨f,e,n,p,S4,_⟩:=J4.S
 have X04:=X03.trans (X4.mono (by omega))
 refine Recover_ok (l:=[]) J4.D J4.P S4 (r.ext X04 r.pos) J4.g J4.b (fun q=>by omega) (by simp) (fun _ h5 X5=>?_) (fun q=>by omega)
 have z5:=X5.size
 rw [if_neg (by simp)]
 have P5:=((P2.ext X3 P2.lt).ext X4 (P2.ext X3 P2.lt).lt).ext X5 ((P2.ext X3 P2.lt).ext X4 (P2.ext X3 P2.lt).lt).lt
 have X05:=X04.trans (X5.mono (by omega))
 refine ⟨v,CellsAt.of_blk P5,SPut_ok (M.ext X05) w fun s6 h6 R6 X6=>?_⟩
 have z6:=X6.size
 have J6:=(J4.ext X5).ext X6
 refine SaveF_ok (bs:=memC.put m.tup) J6 (by omega) (r.ext (X05.trans (X6.mono (by omega))) r.pos) (fun h' F=>J6.row R6 (by omega) F) (Row.pb R6) R6.cap cb.2.2 (mem_B w) fun Y c' h7 t J7 F7 _ o7 t0 h7' n7 g7=>?_
 rw [grJ0] at n7 g7
 refine H Y c' h7 t J7.ds t0 o7 (by omega) (by omega) h7' ((X05.mono oB.2).trans ((X6.mono (by omega)).trans (J6.jext (by omega) F7)))
/-- a store is opened -/
theorem SOpen_ok {k:Option Addr × Int->Heap->Prop} (S:DS B h d rn rs X c slot i) (i1:i<=900) (r:R0 h) (oB:0 < B/\B<=h.size) (s0:0<=slot) (out:outW X (0 + slot * 256)=memC.put m.tup) (w:WfM m) (ck:chkM m=0) (nr:¬ RecW X (numW X 0 256 slot) 0 512)
  (H:∀ pr sr st v h' Y c' t lo hi,STo B h' d rn rs pr sr st Y c' t (i + 1) v m lo hi->Ext B h h'->StAt h' sr d pr true (grD X 0 512 + 1) 0 512->0<=t->outW Y (0 + t * 256)=memC.put m.tup->numW Y 0 256 t=grD X 0 512 + 1->(∀ a,512<=a->vD Y a=vD X a)->k (some ⟨st,0,none⟩,0) h'):strong_Open (some ⟨d,0,none⟩) k h:=by
 have cb:=chkM_bd ck
 unfold strong_Open
 refine S.open' oB.2 fun pr sr h2 J2 X2 sB=>?_
 have z2:=X2.size
 rw [if_neg (by simp)]
 refine load0_ok J2 (r.ext X2 r.pos) s0 out w ck nr fun v h3 M3 X3=>?_
 have z3:=X3.size
 refine bx (cs:=S_api_Mem.cs v) rfl (by show 79<=79; omega) fun h4 P4 X4=>?_
 have z4:=X4.size
 rw [if_neg (by simp)]
 have M4:MemI h2.size h3.size h4 v m:=MemI.keep M3 fun g _ hg=>X4.block g hg
 refine ⟨v,CellsAt.of_blk P4,SPut_ok M4.now w fun s5 h5 R5 X5=>?_⟩
 have z5:=X5.size
 have X25:=X3.trans ((X4.mono z3).trans (X5.mono (by omega)))
 have J5:=J2.ext X25
 have jl:=J2.lt
 have M5:MemI h2.size h3.size h5 v m:=M4.keep fun g _ hg=>X5.block g (by omega)
 refine SaveF_ok (bs:=memC.put m.tup) J5 i1 (r.ext (X2.trans (X25.mono z2)) r.pos) (fun h' F=>J5.row R5 (by omega) F) (Row.pb R5) R5.cap cb.2.2 (mem_B w) fun Y c' h6 t J6 F6 S6 o6 t0 hi6 n6 _=>?_
 have z6:=F6.size
 rw [if_neg (by simp)]
 have P6:Blk h6 h3.size (S_api_Mem.cs v) 33:=J5.other (P4.ext X5 P4.lt) (by decide) F6
 have M6:=M5.jf (d:=d) (rn:=rn) (rs:=rs) (sr:=sr) (by omega) (fun g q=>.inl (by rcases q with q | q | q | q <;> subst q <;> omega)) F6
 have j6:=J6.lt
 refine ⟨v,CellsAt.of_blk P6,bx0 fun h7 P7 X7=>?_⟩
 have z7:=X7.size
 exact H pr sr h6.size v h7 Y c' t h2.size h3.size ⟨J6.ext X7,P7,M6.keep fun g _ hg=>X7.block g (by omega),w,ck,⟨by omega,by omega,by omega⟩,fun g q=>by rcases q with q | q | q | q | q <;> subst q <;> omega⟩ ((X2.mono oB.2).trans ((X25.mono (by omega)).trans ((J5.jext (by omega) F6).trans (X7.mono (by omega))))) (Blk.ext S6 X7 S6.lt) t0 o6 n6 hi6
end
end Go.Q.Yk
end
section
set_option maxRecDepth 100000
/- Strong: a change that has nothing but numbers is read. -/
namespace Go.Q.Yk
open Go.Q.Sg
abbrev zChg:S_api_Change:=⟨0,0,0,⟨0,[]⟩,⟨0,0,0,0,⟨none,0,0⟩,⟨none,0,0⟩⟩,⟨none,0,0⟩,⟨none,0,0⟩,ByteArray.empty⟩
structure CS (h0 h:Heap) (r q:Nat) (l:List Int) (v:S_api_Change):Prop where
 P:Blk h h0.size (S_api_Change.cs zChg) 40
 R:Rd h0.size h r l
 Q:Blk h q (S_api_Change.cs v) 40
 X:Ext h0.size h0 h
 o1:h0.size < r
 o2:r < q
section
variable {h0 h h':Heap} {r q:Nat} {l l':List Int} {v v':S_api_Change}
theorem CS.upd (G:CS h0 h r q l v) (U:Upd r h h') (R:Rd h0.size h' r l'):CS h0 h' r q l' v :=
 have o1:=G.o1
 have o2:=G.o2
 ⟨U.blk G.P (by omega),R,U.blk G.Q (by omega),G.X.trans (U.ext (by omega) G.X.size),o1,o2⟩
theorem CS.set (G:CS h0 h r q l v) (U:Upd q h h') (Q:Blk h' q (S_api_Change.cs v') 40):CS h0 h' r q l v' :=
 have o1:=G.o1
 have o2:=G.o2
 have X:=U.ext (B:=h0.size) (by omega) G.X.size
 ⟨U.blk G.P (by omega),G.R.keep X (U.block r G.R.lt (by omega)),Q,G.X.trans X,o1,o2⟩
theorem row_nil {B E:Nat} {h:Heap} {s:Slc} {vs:List S_api_Entry} (R:Row B h E 2 s (vs.flatMap S_api_Entry.cs)) (hv:vs=[]):s.len=0:=by
 subst hv
 have:=R.1
 simp at this
 omega
theorem ls_nil {α:Type} {cs:α->List Value} {w:Nat} {h:Heap} {s:Slc} (hs:s.len=0):LsAt cs w h s []:=⟨hs,fun i x hx=>by simp at hx⟩
theorem slc_nil {h:Heap} {s:Slc}:SlcAt h s (b8 []):=⟨fun _=>rfl,fun a _ j x hx=>by simp [b8] at hx⟩
/-- a change of numbers only -/
def cB (k n:Int):ChgV:=⟨[k],n,0,(0,List.replicate 32 0),0,0,0,0,[],[],[],[],[]⟩
theorem cB_ok {k n:Int} (hk:0<=k/\k < 256) (hn:u64 n):WfC (cB k n) where
 kind:=fun b hb=>by rw [List.mem_singleton.1 (show b∈[k] from hb)]; exact hk
 kindl:=rfl
 n:=hn
 node:=(by omega:(-9223372036854775808:Int)<=0/\(0:Int) < 9223372036854775808)
 chain:=(by unfold u64; omega:u64 0)
 chainb:=fun b hb=>by rw [List.eq_of_mem_replicate (show b∈List.replicate 32 (0:Int) from hb)]; omega
 chainl:=List.length_replicate
 kk:=(by omega:(-9223372036854775808:Int)<=0/\(0:Int) < 9223372036854775808)
 kt:=(by unfold u64; omega:u64 0)
 kv:=(by omega:(-9223372036854775808:Int)<=0/\(0:Int) < 9223372036854775808)
 ki:=(by unfold u64; omega:u64 0)
 ents:=fun e he=>by cases he
 entsl:=Nat.zero_le _
 snap:=nil_B
 snapl:=Nat.zero_le _
 gone:=fun e he=>by cases he
 gonel:=Nat.zero_le _
 boxes:=fun e he=>by cases he
 boxesl:=Nat.zero_le _
 ten:=nil_B
 tenl:=Nat.zero_le _
theorem cB_rt {k n:Int} (hn:u64 n):chgC.get (chgC.put (cB k n).tup)=some ((cB k n).tup,[]):=by
 have z1:(0:Int)<=0/\(0:Int)<=1048576:=by omega
 have z2:(0:Int)<=0/\(0:Int) < 18446744073709551616:=by omega
 have z3:(0:Int) < 18446744073709551616:=by omega
 have:=chgC.rt (cB k n).tup [] ⟨rfl,hn,z1,⟨z2,List.length_replicate⟩,z1,z2,z1,z2,⟨z3,fun e he=>by cases he⟩,z3,⟨z3,fun e he=>by cases he⟩,⟨z3,fun e he=>by cases he⟩,z3⟩
 rwa [List.append_nil] at this
theorem GetC_ok {kd n:Int} {s:Slc} {k:S_api_Change × Int->Heap->Prop} (hk:0<=kd/\kd < 256) (hn:u64 n) (hs:∀ h',Ext h0.size h0 h'->SlcAt h' s (b8 (chgC.put (cB kd n).tup))) (sl:s.len=(chgC.put (cB kd n).tup).length) (sc:s.len<=s.cap) (hz:(chgC.put (cB kd n).tup).length<=1000000)
  (H:∀ v h',ChgAt h' v (cB kd n)->v.f_Kind=kd->v.f_Node=0->Ext h0.size h0 h'->k (v,0) h'):strong_GetChange s k h0:=by
 have hB:isB (chgC.put (cB kd n).tup):=chg_B (cB_ok hk hn)
 have e:=cB_rt (k:=kd) hn
 generalize hl:chgC.put (cB kd n).tup=l at *
 obtain ⟨l1,e1,e⟩:=bind_parts e
 obtain ⟨l2,e2,e⟩:=bind_parts e
 obtain ⟨l3,e3,e⟩:=bind_parts e
 obtain ⟨l4,e4,e⟩:=bind_parts e
 obtain ⟨l5,e5,e⟩:=bind_parts e
 obtain ⟨l6,e6,e⟩:=bind_parts e
 obtain ⟨l7,e7,e⟩:=bind_parts e
 obtain ⟨l8,e8,e⟩:=bind_parts e
 obtain ⟨l9,e9,e⟩:=bind_parts e
 obtain ⟨l10,e10,e⟩:=bind_parts e
 obtain ⟨l11,e11,e⟩:=bind_parts e
 obtain ⟨l12,e12,e13⟩:=bind_parts e
 have e1:(bytesC 1).get l=some ([kd],l1):=e1
 have e2:getS l1=some (n,l2):=e2
 have e3:cntC.get l2=some (0,l3):=e3
 have e4:chC.get l3=some ((0,List.replicate 32 0),l4):=e4
 have e5:cntC.get l4=some (0,l5):=e5
 have e6:getS l5=some (0,l6):=e6
 have e7:cntC.get l6=some (0,l7):=e7
 have e8:getS l7=some (0,l8):=e8
 have e9:(manyC entC).get l8=some ([],l9):=e9
 have e10:txC.get l9=some ([],l10):=e10
 have e11:(manyC (bytesC 12)).get l10=some ([],l11):=e11
 have e12:(manyC boxC).get l11=some ([],l12):=e12
 have e13:txC.get l12=some ([],[]):=e13
 obtain ⟨x1,x2,x3⟩:=bytes_parts e1
 unfold strong_GetChange
 refine bx0 fun h2 P2 X2=>bx0 fun h4 Q4 X4=>?_
 have z2:=X2.size
 have z4:=X4.size
 obtain ⟨r,er⟩:∃ r,r=h2.size:=⟨_,rfl⟩
 rw [← er] at Q4 ⊢
 have X04:Ext h0.size h0 h4:=X2.trans (X4.mono z2)
 have p2':=P2.lt
 have P4:=P2.ext X4 p2'
 have R4:Rd h0.size h4 r l:=⟨s,Q4,⟨by omega,fun h' Y=>hs h' (X04.trans Y)⟩,sl,sc,hB,hz⟩
 refine rbytes_ok R4 (by omega) (by omega) fun sx h5 R5 U5 Rx=>?_
 rw [show (1:Int).toNat=1 from rfl,← x3] at R5
 rw [show (1:Int).toNat=1 from rfl,← x2] at Rx
 refine rshort_ok R5 e2 fun h6 R6 U6=>rcount_ok R6 e3 (by omega) fun h7 R7 U7=>rchain_ok R7 e4 fun vc h8 Cv R8 U8=>?_
 have U48:=((U5.trans U6).trans U7).trans U8
 have U58:=(U6.trans U7).trans U8
 have z8:=U48.size
 have P8:=U48.blk P4 (by omega)
 have X08:=X04.trans (U48.ext (B:=h0.size) (by omega) X04.size)
 have r8:=R8.lt
 have z58:=U58.size
 have Rx8:Row h4.size h8 5 1 sx (b8 [kd]):=Rx.keep fun g hg=>U58.block g (Rx.bd hg).2 (by have:=(Rx.bd hg).1; have:=R4.lt; omega)
 refine bx (cs:=S_api_Change.cs ⟨0,n,0,vc,⟨0,0,0,0,⟨none,0,0⟩,⟨none,0,0⟩⟩,⟨none,0,0⟩,⟨none,0,0⟩,ByteArray.empty⟩) rfl (by show 45<=45; omega) fun h9 Q9 X9=>?_
 obtain ⟨q,eq⟩:∃ q,q=h8.size:=⟨_,rfl⟩
 rw [← eq] at Q9 ⊢
 have z9:=X9.size
 have q9:=Q9.lt
 have G9:CS h0 h9 r q l4 _:=⟨P8.ext X9 (by omega),R8.ext X9,Q9,X08.trans (X9.mono X08.size),by omega,by omega⟩
 have rl4:=R4.lt
 have xq:∀ g,sx.blk=some g->g≠r/\g≠q:=fun g hg=>by have:=Rx8.bd hg; omega
 have Rx9:Row h4.size h9 5 1 sx (b8 [kd]):=Rx8.ext X9 fun g hg=>(Rx8.bd hg).2
 refine rcount_ok G9.R e5 (by omega) fun h10 R10 U10=>rshort_ok R10 e6 fun h11 R11 U11=>rcount_ok R11 e7 (by omega) fun h12 R12 U12=>rshort_ok R12 e8 fun h13 R13 U13=>?_
 have G13:=G9.upd (((U10.trans U11).trans U12).trans U13) R13
 refine bsetp (vs:=S_api_Keep.cs ⟨0,0,0,0,⟨none,0,0⟩,⟨none,0,0⟩⟩) G13.Q rfl (by show 36 + 6<=45; omega) fun h14 Q14 U14=>?_
 have G14:=G13.set (v':=⟨0,n,0,vc,⟨0,0,0,0,⟨none,0,0⟩,⟨none,0,0⟩⟩,⟨none,0,0⟩,⟨none,0,0⟩,ByteArray.empty⟩) U14 Q14
 refine rents_ok G14.R e9 fun s1 vs h15 R15 U15 Rs1 M1=>?_
 have G15:=G14.upd U15 R15
 have l1':s1.len=0:=row_nil Rs1 (List.eq_nil_of_length_eq_zero (by have:=M1.l; simpa using this))
 rw [add2]
 refine bset1 G15.Q (by show 40 < 45; omega) fun h16 Q16 U16=>?_
 have G16:=G15.set (v':=⟨0,n,0,vc,⟨0,0,0,0,s1,⟨none,0,0⟩⟩,⟨none,0,0⟩,⟨none,0,0⟩,ByteArray.empty⟩) U16 Q16
 refine rtext_ok G16.R e10 fun s2 h17 R17 U17 Rs2=>?_
 have G17:=G16.upd U17 R17
 have l2':s2.len=0:=by have:=Row.pb Rs2; simpa using this
 rw [add2]
 refine bset1 G17.Q (by show 41 < 45; omega) fun h18 Q18 U18=>?_
 have G18:=G17.set (v':=⟨0,n,0,vc,⟨0,0,0,0,s1,s2⟩,⟨none,0,0⟩,⟨none,0,0⟩,ByteArray.empty⟩) U18 Q18
 obtain ⟨g0,l11',g1,gn⟩:=many_parts e11
 have gz:g0.toNat=0:=by
  rcases Nat.eq_zero_or_pos g0.toNat with q | q
  ·exact q
  ·obtain ⟨n',en⟩:∃ n',g0.toNat=n' + 1:=⟨g0.toNat - 1,by omega⟩
   rw [en] at gn
   obtain ⟨_,_,_,_,_,q⟩:=getN_cons gn
   cases q
 rw [gz] at gn
 have gn:some (([]:List (List Int)),l11')=some ([],l11):=gn
 have el:l11'=l11:=by simpa using gn
 subst el
 have gb:=getS_parts G18.R.isB g1
 refine rshort_ok G18.R g1 fun h19 R19 U19=>?_
 have G19:=G18.upd U19 R19
 unfold strong_GetChange_l1
 refine ⟨fun i h'=>i=g0/\h'=h19,fun _ _=>0,⟨rfl,rfl⟩,?_⟩
 rintro i h' ⟨rfl,rfl⟩
 unfold strong_GetChange_l1b
 rw [if_neg (by rw [decide_eq_true_eq]; omega)]
 unfold strong_GetChange_g2
 rw [if_neg (by simp)]
 refine rsev_ok G19.R e12 fun s3 bs h20 R20 U20 Rs3 M3=>?_
 have G20:=G19.upd U20 R20
 have l3':s3.len=0:=by
  have hb:bs=[]:=List.eq_nil_of_length_eq_zero (by have:=M3.l; simpa using this)
  subst hb
  have:=Rs3.1
  simp at this
  omega
 refine bset1 G20.Q (by show 43 < 45; omega) fun h21 Q21 U21=>?_
 have G21:=G20.set (v':=⟨0,n,0,vc,⟨0,0,0,0,s1,s2⟩,⟨none,0,0⟩,s3,ByteArray.empty⟩) U21 Q21
 refine rtext_ok G21.R e13 fun s4 h22 R22 U22 Rs4=>?_
 have G22:=G21.upd U22 R22
 have l4':s4.len=0:=by have:=Row.pb Rs4; simpa using this
 refine ⟨[],by rw [l4']; rfl,slc_nil,bset1 G22.Q (by show 44 < 45; omega) fun h23 Q23 U23=>?_⟩
 have G23:=G22.set (v':=⟨0,n,0,vc,⟨0,0,0,0,s1,s2⟩,⟨none,0,0⟩,s3,bsOf []⟩) U23 Q23
 have R23:=G23.R
 obtain ⟨sr,Kr,_,srl,_⟩:=R23
 refine ⟨false,Kr.cl rfl,?_⟩
 rw [if_neg (by simp)]
 refine ⟨sr,Kr.cl0 rfl,?_⟩
 rw [show decide ((sr.len:Int) > 0)=false from by rw [srl]; rfl]
 unfold strong_GetChange_g3
 rw [if_neg (by simp)]
 have U923:Up2 r q h9 h23:=(Up2.r (((U10.trans U11).trans U12).trans U13)).trans ((Up2.q U14).trans ((Up2.r U15).trans ((Up2.q U16).trans ((Up2.r U17).trans ((Up2.q U18).trans ((Up2.r U19).trans ((Up2.r U20).trans ((Up2.q U21).trans ((Up2.r U22).trans (Up2.q U23))))))))))
 have Rx23:Row h4.size h23 5 1 sx (b8 [kd]):=Rx9.keep fun g hg=>U923.block g (Rx9.bd hg).2 (xq g hg).1 (xq g hg).2
 obtain ⟨a,ha,hc⟩:=Rx23.at (j:=0) (by rw [Row.pb Rx23]; simp)
 refine ⟨a,ha,by omega,by rw [Row.pb Rx23]; simp,kd,hc,?_⟩
 rw [wrapI64 (x:=kd) (by omega) (by omega)]
 refine bset0 G23.Q (by show 0 < 45; omega) fun h24 Q24 U24=>?_
 have G24:=G23.set (v':=⟨kd,n,0,vc,⟨0,0,0,0,s1,s2⟩,⟨none,0,0⟩,s3,bsOf []⟩) U24 Q24
 refine ⟨_,CellsAt.of_blk G24.Q,bset G24.P rfl (by show 45<=45; omega) fun h25 P25 U25=>⟨_,CellsAt.of_blk P25,?_⟩⟩
 refine H _ h25 ⟨?_,rfl,rfl,Cv,rfl,rfl,rfl,rfl,⟨[],ls_nil l1',Many.nil⟩,slc_nil,l2',ls_nil rfl,⟨[],ls_nil l3',Many.nil⟩,?_⟩ rfl rfl (G24.X.trans (U25.ext (Nat.le_refl _) G24.X.size))
 ·show [kd]=[kd % 256]
  rw [show kd % 256=kd from by omega]
 ·show sB (bsOf [])=[]
  rfl
end
end Go.Q.Yk
end

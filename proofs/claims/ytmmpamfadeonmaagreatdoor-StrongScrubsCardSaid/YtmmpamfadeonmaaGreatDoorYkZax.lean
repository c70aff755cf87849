/- A part of the proof of statements of this seat: lemmas, no statement of their own. -/
import Derived.Test.YtmmpamfadeonmaaGreatDoorYkZaw
set_option linter.unusedVariables false
set_option linter.unusedSimpArgs false
section
set_option maxRecDepth 100000
/- Strong: a change of the log is made. -/
namespace Go.Q.Yk
open Go.Q.Sg
section
variable {C b:Nat} {h:Heap} {ix tm p t:Int} {s:Slc} {us:List S_api_Entry} {es:List Ent}
theorem clent_ok {p0:Slc} {cs:List S_api_Entry} {k:Slc->Heap->Prop} {h:Heap} (L:LsAt S_api_Entry.cs 2 h p0 cs) (wl:cs.length<=1000000)
  (H:∀ s h',Row h.size h' 117 2 s (cs.flatMap S_api_Entry.cs)->Ext h.size h h'->k s h'):slices_Clone_api_Entry_api_Entry p0 k h:=by
 have vl:=L.l
 unfold slices_Clone_api_Entry_api_Entry
 cases ha:p0.a with
 | none =>
  rw [if_pos (by simp)]
  have hn:cs=[]:=by
   cases cs with
   | nil=>rfl
   | cons x r=>obtain ⟨a,q,_⟩:=L.at' 0 x rfl; rw [ha] at q; cases q
  subst hn
  exact H _ _ (Row.nil _ _ _ _) (Ext.refl _ _)
 | some a =>
  rw [if_neg (by simp)]
  have hp:∀ o:Obj,Ext h.size h (h.push o):=fun o=>Ext.push h o (Nat.le_refl _)
  refine ⟨_,_,rfl,rfl,cs.flatMap S_api_Entry.cs,(LsAt.slcs (w:=2) (fun x=>rfl) (by decide) L).ext (hp _),?_⟩
  have R:Row h.size (h.push (.cells ([]:List Value).toArray 117)) 117 2 ⟨some ⟨h.size,0,none⟩,0,0⟩ [] :=
   ⟨by simp,by simp [maxLen],.inr ⟨h.size,[],rfl,Nat.le_refl _,Blk.push _ _ _,Nat.le_refl _,by simp,by simp⟩⟩
  refine App.row R (by simp) rfl (by rw [Go.Q.Rw.fm_len (w:=2) (fun x=>rfl)]; omega) (fun v hv=>?_) (by simp only; omega) (by simp only [maxLen]; omega) fun s' h' R' _ hsz' ho _=>?_
  ·obtain ⟨x,_,hx⟩:=List.mem_flatMap.1 hv
   exact oneC (l:=S_api_Entry.cs x) (by kernel_rfl) v hx
  ·refine H s' h' (by simpa using R') ⟨by simp at hsz'; omega,fun i hi=>?_⟩
   rw [ho i (by simp; omega) (by simp [Slc.blk]; omega),(hp _).block i hi]
theorem many_drop {V α:Type} {R:V->α->Prop} {vs:List V} {xs:List α} (M:Many R vs xs) (n:Nat):Many R (vs.drop n) (xs.drop n) :=
 ⟨by simp [List.length_drop,M.l],fun i v x hv hx=>by rw [List.getElem?_drop] at hv hx; exact M.r _ _ _ hv hx⟩
theorem LogW.ext {h':Heap} (L:LogW C h b ix tm s us es) (X:Ext h.size h h'):LogW C h' b ix tm s us es :=
 ⟨L.k.ext X L.k.lt,L.r.ext X fun g hg=>(L.r.bd hg).2,L.m.imp fun v e E=>⟨E.t,E.r.ext X fun g hg=>(E.r.bd hg).2⟩,L.x,L.ok,L.sz,L.cb⟩
theorem cut_w {k:Int->Heap->Prop} (L:LogW C h b ix tm s us es) (p0:u64 p) (H:∀ r h' ix' tm' s' us' es',Ext C h h'->LogW C h' b ix' tm' s' us' es'->es'.length<=es.length->k r h'):rlog_Log_Cut (some ⟨b,0,none⟩) p k h:=by
 have sl:=L.l
 have sz:=L.sz
 have x:=L.x
 have q0:=p0
 have ml:=L.m.l
 have cap:=L.r.cap
 have cz:=L.cb
 have kl:=L.k.lt
 unfold u64 at x p0
 unfold rlog_Log_Cut
 rw [if_neg (by simp)]
 refine term_w L q0 fun t e he=>?_
 dsimp only
 by_cases c:e=0
 rotate_left
 ·rw [if_pos (by simpa using c)]
  exact H _ h _ _ _ _ _ (Ext.refl _ _) L (Nat.le_refl _)
 rw [if_neg (by simpa using c)]
 obtain ⟨b0,b1⟩:=he c
 refine ⟨_,rfl,s,L.k.cl rfl,_,L.k.cl0 rfl,?_⟩
 rw [wrap64]
 have e1:(p - (S_rlog_Log.f_index ⟨ix,tm,s⟩)) % 18446744073709551616=p - ix:=by show (p - ix) % _=_; omega
 rw [e1]
 refine ⟨_,by omega,by omega,by omega,Int.le_refl _,rfl,?_⟩
 have Ls:=(ls_ents L.r L.m).1.sub (a:=(p - ix).toNat) (b:=(s.len:Int).toNat) (m:=(s.cap:Int).toNat) (by omega) (by omega) (by omega)
 have et:us.take (s.len:Int).toNat=us:=List.take_of_length_le (by omega)
 rw [et] at Ls
 refine clent_ok Ls (by rw [List.length_drop]; omega) fun s2 h2 R2 X2=>?_
 have z2:=X2.size
 have L2:=L.ext X2
 refine bset1 L2.k (by show 2 < 3; omega) fun h3 K3 U3=>bset0 K3 (by show 0 < 3; omega) fun h4 K4 U4=>bset1 K4 (by show 1 < 3; omega) fun h5 K5 U5=>?_
 have z3:=U3.size
 have z4:=U4.size
 have z5:=U5.size
 have kp:∀ g,g < h2.size->g≠b->h5[g]? = h2[g]?:=fun g h1 hb=>(U5.block g (by omega) hb).trans ((U4.block g (by omega) hb).trans (U3.block g h1 hb))
 refine H _ h5 p t s2 (us.drop (p - ix).toNat) (es.drop (p - ix).toNat) ⟨by omega,fun g hg=>(kp g (by omega) (by omega)).trans (X2.block g (by omega))⟩ ⟨K5,?_,?_,q0,fun e he=>L.ok e (List.mem_of_mem_drop he),by rw [List.length_drop]; omega,L.cb⟩ (by rw [List.length_drop]; omega)
 ·exact (R2.mono (by omega)).keep fun g hg=>kp g (R2.bd hg).2 fun q=>by subst q; have:=(R2.bd hg).1; omega
 ·exact (many_drop L2.m _).imp fun v e E=>⟨E.t,E.r.keep fun g hg=>kp g (E.r.bd hg).2 fun q=>by subst q; exact E.r.ne_blk L2.k (by decide) hg⟩
theorem new_w {p0:Slc} {vs:List S_api_Entry} {k:Option Addr->Heap->Prop} (L:LsAt S_api_Entry.cs 2 h p0 vs) (M:Many (EntAt h) vs es) (ok:entOk es) (sz:es.length<=1000) (x:u64 ix)
  (H:∀ b s us h',LogW h.size h' b ix tm s us es->Ext h.size h h'->k (some ⟨b,0,none⟩) h'):rlog_New ix tm p0 k h:=by
 unfold rlog_New
 refine rcopied_ok L M (by omega) (fun e he=>(ok e he).2.2) fun s us h2 R2 M2 X2=>bx0 fun h3 P3 X3=>?_
 have z2:=X2.size
 exact H _ s us h3 ⟨P3,R2.ext X3 fun g hg=>(R2.bd hg).2,M2.imp fun v e E=>⟨E.t,E.r.ext X3 fun g hg=>(E.r.bd hg).2⟩,x,ok,sz,z2⟩ (X2.trans (X3.mono z2))
theorem entries_w {k:Slc->Heap->Prop} (L:LogW C h b ix tm s us es) (H:∀ s us h',Row h.size h' 117 2 s (us.flatMap S_api_Entry.cs)->Many (EntR h.size h') us es->Ext h.size h h'->k s h'):rlog_Log_Entries (some ⟨b,0,none⟩) k h:=by
 have sz:=L.sz
 unfold rlog_Log_Entries
 rw [if_neg (by simp)]
 exact ⟨_,rfl,s,L.k.cl rfl,rcopied_ok (ls_ents L.r L.m).1 (ls_ents L.r L.m).2 (by omega) (fun e he=>(L.ok e he).2.2) H⟩
/-- a step that touches one block, and blocks from C on -/
structure UC (C b:Nat) (h h':Heap):Prop where
 size:h.size<=h'.size
 block:∀ g,g < C->g≠b->h'[g]? = h[g]?
theorem UC.of_ext {C b:Nat} {h h':Heap} (X:Ext C h h'):UC C b h h':=⟨X.size,fun g hg _=>X.block g hg⟩
theorem UC.trans {C b:Nat} {x y z:Heap} (p:UC C b x y) (q:UC C b y z):UC C b x z:=⟨Nat.le_trans p.size q.size,fun g h1 h2=>(q.block g h1 h2).trans (p.block g h1 h2)⟩
theorem UC.ext {C b B:Nat} {h h':Heap} (p:UC C b h h') (h1:B<=b) (h2:B<=C):Ext B h h':=⟨p.size,fun g hg=>p.block g (by omega) (by omega)⟩
/-- the box of what is kept, and it -/
structure KS (B0 C b1:Nat) (h:Heap) (v:S_api_Mem) (m:MemV):Prop where
 P:Blk h b1 (S_api_Mem.cs v) 33
 M:MemR C h v m
 o1:B0<=b1
 o2:b1 < C
 cz:C<=h.size
section
variable {B0 b1:Nat} {v:S_api_Mem} {m:MemV} {h':Heap}
theorem KS.ext (K:KS B0 C b1 h v m) (X:Ext h.size h h'):KS B0 C b1 h' v m :=
 ⟨K.P.ext X K.P.lt,K.M.keep fun g _ hg=>X.block g hg,K.o1,K.o2,Nat.le_trans K.cz X.size⟩
theorem KS.upd (K:KS B0 C b1 h v m) (U:Upd b1 h h'):MemR C h' v m/\C<=h'.size/\UC C b1 h h' :=
 ⟨K.M.keep fun g h1 hg=>U.block g hg (by have:=K.o2; omega),Nat.le_trans K.cz U.size,⟨U.size,fun g hg hb=>U.block g (by have:=K.cz; omega) hb⟩⟩
/-- what was given up is still there -/
theorem keep_j2_ok {kb:Nat} {kv:S_api_Keep} {sn:List Int} {lg:Option Addr} {k:Int->Heap->Prop} (K:KS B0 C b1 h v m) (w:WfM m) (Q:Blk h kb (S_api_Keep.cs kv) 37)
  (SN:SlcAt h kv.f_Snap (b8 sn)) (snl:kv.f_Snap.len=sn.length) (sn1:sn.length<=1000000) (snb:isB sn) (kt:u64 kv.f_Term) (ki:u64 kv.f_Index)
  (LG:lg=none∨∃ b C' ix tm s us es,lg=some ⟨b,0,none⟩/\LogW C' h b ix tm s us es/\C<=C') (kn:kb≠b1)
  (H:∀ r h',UC C b1 h h'->(r=0->∃ v' m',Blk h' b1 (S_api_Mem.cs v') 33/\MemR C h' v' m'/\C<=h'.size/\WfM m')->k r h'):strong_keep_j2 (some ⟨b1,0,none⟩) ⟨kb,0,none⟩ lg k h:=by
 unfold strong_keep_j2
 refine ⟨_,Q.cl rfl,_,Q.cl rfl,kv.f_Snap,Q.cl rfl,?_⟩
 have go:∀ (s2:Slc) (us2:List S_api_Entry) (es2:List Ent) (h2:Heap),Ext h.size h h2->Row C h2 117 2 s2 (us2.flatMap S_api_Entry.cs)->Many (EntR C h2) us2 es2->entOk es2->es2.length<=1000 ->
   cellH h2 ((⟨kb,0,none⟩:Addr).add 5)=some (Slc.v kv.f_Snap)/\cellH h2 ((⟨kb,0,none⟩:Addr).add 1)=some (.int .u64 kv.f_Term)/\cellH h2 ((⟨kb,0,none⟩:Addr).add 3)=some (.int .u64 kv.f_Index)/\(slices_Clone_byte_byte kv.f_Snap (fun (r38:Slc) h39=>cellH h39 ((⟨kb,0,none⟩:Addr).add 1)=some (.int .u64 kv.f_Term)/\cellH h39 ((⟨kb,0,none⟩:Addr).add 3)=some (.int .u64 kv.f_Index)/\(∃ a42:Addr,(some (⟨b1,0,none⟩:Addr))=some a42/\(∃ h43:Heap,WrH h39 (a42.add 72)/\h43=setH h39 (a42.add 72) (.int .u64 kv.f_Index)/\(cellH h43 ((⟨kb,0,none⟩:Addr).add 1)=some (.int .u64 kv.f_Term)/\(∃ h45:Heap,WrH h43 (a42.add 73)/\h45=setH h43 (a42.add 73) (.int .u64 kv.f_Term)/\(∃ h46:Heap,WrH h45 (a42.add 75)/\h46=setH h45 (a42.add 75) (Slc.v s2)/\(∃ h47:Heap,WrH h46 (a42.add 74)/\h47=setH h46 (a42.add 74) (Slc.v r38)/\(strong_keep_j1 k h47)))))))) h2):=by
  intro s2 us2 es2 h2 X2 R2 M2 ok2 l2
  have z2:=X2.size
  have Q2:=Q.ext X2 Q.lt
  have K2:=K.ext X2
  refine ⟨Q2.cl rfl,Q2.cl rfl,Q2.cl rfl,Clone_ok snl (SN.ext X2) (by omega) fun s3 h3 R3 X3=>?_⟩
  have z3:=X3.size
  have Q3:=Q2.ext X3 Q2.lt
  have K3:=K2.ext X3
  refine ⟨Q3.cl rfl,Q3.cl rfl,_,rfl,bset1 K3.P (by show 72 < 79; omega) fun h4 P4 U4=>⟨(U4.blk Q3 kn).cl rfl,bset1 P4 (by show 73 < 79; omega) fun h5 P5 U5=>bset1 P5 (by show 75 < 79; omega) fun h6 P6 U6=>bset1 P6 (by show 74 < 79; omega) fun h7 P7 U7=>?_⟩⟩
  have z4:=U4.size
  have z5:=U5.size
  have z6:=U6.size
  have z7:=U7.size
  have o1:=K.o1
  have o2:=K.o2
  have cz:=K.cz
  have kp:∀ g,g < h3.size->g≠b1->h7[g]? = h3[g]?:=fun g hg hb=>(U7.block g (by omega) hb).trans ((U6.block g (by omega) hb).trans ((U5.block g (by omega) hb).trans (U4.block g hg hb)))
  have P7:Blk h7 b1 (S_api_Mem.cs { v with f_Base:=kv.f_Index,f_BaseTerm:=kv.f_Term,f_Entries:=s2,f_Snap:=s3 }) 33:=P7
  unfold strong_keep_j1
  refine H 0 h7 ⟨by omega,fun g hg hb=>?_⟩ fun _=>⟨_,{ m with base:=kv.f_Index,bterm:=kv.f_Term,ents:=es2,snap:=sn },P7,?_,by omega,?_⟩
  ·rw [kp g (by omega) hb,X3.block g (by omega),X2.block g (by omega)]
  ·have M3:MemR C h7 v m:=K3.M.keep fun g h1 hg=>kp g hg (by omega)
   have kr:∀ {E w:Nat} {s:Slc} {xs:List Value},Row C h2 E w s xs->Row C h7 E w s xs:=fun {E w s xs} R=>(R.ext X3 fun g hg=>(R.bd hg).2).keep fun g hg=>kp g (by have:=(R.bd hg).2; omega) (by have:=(R.bd hg).1; omega)
   have r3:Row C h7 5 1 s3 (b8 sn):=(R3.mono (by omega)).keep fun g hg=>kp g (R3.bd hg).2 (by have:=(R3.bd hg).1; omega)
   exact { M3 with base:=rfl,bterm:=rfl,snap:=r3,ents:=⟨us2,kr R2,M2.imp fun v e E=>⟨E.t,kr E.r⟩⟩ }
  ·exact { w with base:=ki,bterm:=kt,snap:=snb,snapl:=sn1,ents:=ok2,entsl:=by show es2.length<=_; omega }
 rcases LG with q | ⟨b,C',ix,tm,s,us,es,q,L,hC⟩
 ·subst q
  unfold rlog_Log_Entries
  rw [if_pos (by simp)]
  exact go _ [] [] h (Ext.refl _ _) (Row.nil _ _ _ _) Many.nil (fun e he=>by cases he) (by simp)
 ·subst q
  refine entries_w L fun s2 us2 h2 R2 M2 X2=>?_
  have cz:=K.cz
  exact go s2 us2 es h2 X2 (R2.mono cz) (M2.imp fun v e E=>⟨E.t,E.r.mono cz⟩) L.ok L.sz
theorem keep_ok {kv:S_api_Keep} {vs:List S_api_Entry} {more:List Ent} {sn:List Int} {k:Int->Heap->Prop} (K:KS B0 C b1 h v m) (w:WfM m) (ml:m.ents.length<=1000)
  (KE:∀ h',Ext B0 h h'->LsAt S_api_Entry.cs 2 h' kv.f_Entries vs/\Many (EntAt h') vs more/\SlcAt h' kv.f_Snap (b8 sn)) (kl:more.length<=1000) (ok:entOk more) (snl:kv.f_Snap.len=sn.length) (sn1:sn.length<=1000000) (snb:isB sn) (kt:u64 kv.f_Term) (ki:u64 kv.f_Index) (kvo:-9223372036854775808<=kv.f_Vote/\kv.f_Vote < 9223372036854775808)
  (H:∀ r h',UC C b1 h h'->(r=0->∃ v' m',Blk h' b1 (S_api_Mem.cs v') 33/\MemR C h' v' m'/\C<=h'.size/\WfM m')->k r h'):strong_keep (some ⟨b1,0,none⟩) kv k h:=by
 have o1:=K.o1
 have o2:=K.o2
 have cz:=K.cz
 unfold strong_keep
 refine bx0 fun h2 Q2 X2=>⟨_,Q2.cl0 rfl,?_⟩
 have z2:=X2.size
 have K2:=K.ext X2
 have X02:UC C b1 h h2:=.of_ext (X2.mono cz)
 have ne:∀ {g:Nat} {hh:Heap},g < hh.size->hh.size<=h.size->h.size≠g:=fun a b=>by omega
 by_cases c1:kv.f_Kind=1
 ·rw [if_pos (by simpa using c1)]
  refine ⟨_,Q2.cl rfl,_,Q2.cl rfl,_,rfl,bset1 K2.P (by show 70 < 79; omega) fun h3 P3 U3=>⟨(U3.blk Q2 (by omega)).cl rfl,bset1 P3 (by show 71 < 79; omega) fun h4 P4 U4=>?_⟩⟩
  have z3:=U3.size
  have z4:=U4.size
  have P4:Blk h4 b1 (S_api_Mem.cs { v with f_Term:=kv.f_Term,f_Vote:=kv.f_Vote }) 33:=P4
  have M4:MemR C h4 v m:=K2.M.keep fun g h1 hg=>(U4.block g (by omega) (by omega)).trans (U3.block g hg (by omega))
  unfold strong_keep_j1
  exact H 0 h4 ⟨by omega,fun g hg hb=>by rw [U4.block g (by omega) hb,U3.block g (by omega) hb,X02.block g hg hb]⟩ fun _=>⟨_,{ m with term:=kv.f_Term,vote:=kv.f_Vote },P4,{ M4 with term:=rfl,vote:=rfl },by omega,{ w with term:=kt,vote:=kvo }⟩
 rw [if_neg (by simpa using c1)]
 obtain ⟨es0,E1,E2⟩:=K2.M.ents
 obtain ⟨L0,N0⟩:=ls_ents E1 E2
 by_cases c2:kv.f_Kind=2
 ·rw [if_pos (by simpa using c2)]
  refine ⟨_,rfl,_,K2.P.cl rfl,_,K2.P.cl rfl,v.f_Entries,K2.P.cl rfl,new_w L0 N0 (fun e he=>w.ents e he) ml (by rw [K2.M.base]; exact w.base) fun lb s us h3 L3 X3=>?_⟩
  have z3:=X3.size
  have Q3:=Q2.ext X3 Q2.lt
  have K3:=K2.ext X3
  have X03:UC C b1 h h3:=X02.trans (.of_ext (X3.mono (by omega)))
  refine ⟨_,Q3.cl rfl,_,Q3.cl rfl,kv.f_Entries,Q3.cl rfl,append_w (vs:=vs) L3 z3 (fun h' X'=>?_) ok ki kl fun r h4 s4 us4 es4 X4 HR=>?_⟩
  ·have:=KE h' ((X03.trans (.of_ext (X'.mono (by omega)))).ext o1 (by omega))
   exact ⟨this.1,this.2.1⟩
  have z4:=X4.size
  by_cases er:r.2=0
  rotate_left
  ·rw [if_pos (by simpa using er)]
   exact H _ h4 (X03.trans (.of_ext (X4.mono (by omega)))) fun q=>absurd q er
  rw [if_neg (by simpa using er)]
  obtain ⟨L4,l4⟩:=HR er
  have K4:KS B0 C b1 h4 v m:=⟨K3.P.ext X4 (by omega),K2.M.keep fun g h1 hg=>(X4.block g hg).trans (X3.block g hg),o1,o2,by omega⟩
  refine entries_w L4 fun s5 us5 h5 R5 M5 X5=>?_
  have z5:=X5.size
  have K5:=K4.ext X5
  refine bset1 K5.P (by show 75 < 79; omega) fun h6 P6 U6=>?_
  have z6:=U6.size
  have P6:Blk h6 b1 (S_api_Mem.cs { v with f_Entries:=s5 }) 33:=P6
  obtain ⟨M6,c6,F6⟩:=K5.upd U6
  unfold strong_keep_j1
  have kr:∀ {E w:Nat} {s:Slc} {xs:List Value},Row h4.size h5 E w s xs->Row C h6 E w s xs:=fun {E w s xs} R=>(R.mono (by omega)).keep fun g hg=>U6.block g (R.bd hg).2 (by have:=(R.bd hg).1; omega)
  exact H 0 h6 ((X03.trans (.of_ext (X4.mono (by omega)))).trans ((UC.of_ext (X5.mono (by omega))).trans F6)) fun _=>⟨_,{ m with ents:=es4 },P6,{ M6 with ents:=⟨us5,kr R5,M5.imp fun v e E=>⟨E.t,kr E.r⟩⟩ },c6,{ w with ents:=L4.ok,entsl:=by show es4.length<=_; omega }⟩
 rw [if_neg (by simpa using c2)]
 by_cases c3:kv.f_Kind=3
 rotate_left
 ·rw [if_neg (by simpa using c3)]
  exact H _ h2 X02 fun q=>by cases q
 rw [if_pos (by simpa using c3)]
 refine ⟨_,rfl,_,K2.P.cl rfl,_,K2.P.cl rfl,v.f_Entries,K2.P.cl rfl,new_w L0 N0 (fun e he=>w.ents e he) ml (by rw [K2.M.base]; exact w.base) fun lb s us h3 L3 X3=>?_⟩
 have z3:=X3.size
 have Q3:=Q2.ext X3 Q2.lt
 have K3:=K2.ext X3
 have X03:UC C b1 h h3:=X02.trans (.of_ext (X3.mono (by omega)))
 have none_ok:∀ {h4:Heap},Ext h2.size h3 h4->∀ {lg:Option Addr},strong_keep_g3 (some ⟨b1,0,none⟩) ⟨h.size,0,none⟩ lg true k h4:=fun {h4} X4 {lg}=>by
  have z4:=X4.size
  have K4:KS B0 C b1 h4 v m:=⟨K3.P.ext X4 (by omega),K2.M.keep fun g h1 hg=>(X4.block g hg).trans (X3.block g hg),o1,o2,by omega⟩
  have X04:UC C b1 h h4:=X03.trans (.of_ext (X4.mono (by omega)))
  unfold strong_keep_g3
  rw [if_pos rfl]
  exact keep_j2_ok K4 w (Q3.ext X4 Q2.lt) (KE h4 (X04.ext o1 (by omega))).2.2 snl sn1 snb kt ki (.inl rfl) (by omega) fun r h' X'=>H r h' (X04.trans X')
 refine ⟨_,Q3.cl rfl,_,Q3.cl rfl,match_w L3 ki fun r hr=>?_⟩
 cases r with
 | false =>
  rw [if_pos (by simp)]
  exact none_ok (Ext.refl _ _)
 | true =>
  rw [if_neg (by simp)]
  refine ⟨_,Q3.cl rfl,cut_w L3 ki fun r h4 ix' tm' s' us' es' X4 L4 l4=>?_⟩
  have z4:=X4.size
  by_cases er:r=0
  rotate_left
  ·rw [show (r != 0)=true from by simpa using er]
   exact none_ok X4
  rw [show (r != 0)=false from by simpa using er]
  have K4:KS B0 C b1 h4 v m:=⟨K3.P.ext X4 (by omega),K2.M.keep fun g h1 hg=>(X4.block g hg).trans (X3.block g hg),o1,o2,by omega⟩
  have X04:UC C b1 h h4:=X03.trans (.of_ext (X4.mono (by omega)))
  unfold strong_keep_g3
  rw [if_neg (by simp)]
  exact keep_j2_ok K4 w (Q3.ext X4 Q2.lt) (KE h4 (X04.ext o1 (by omega))).2.2 snl sn1 snb kt ki (.inr ⟨lb,h2.size,ix',tm',s',us',es',rfl,L4,by omega⟩) (by omega) fun r h' X'=>H r h' (X04.trans X')
end
end
end Go.Q.Yk
end
section
set_option maxRecDepth 100000
/- Strong: boxes go, whichever: those that stay are some of them. -/
namespace Go.Q.Yk
open Go.Q.Sg
/-- a step that touches a row and new blocks only -/
structure UpS (s:Slc) (h h':Heap):Prop where
 size:h.size<=h'.size
 block:∀ g,g < h.size->s.blk≠some g->h'[g]? = h[g]?
theorem UpS.of_ext {s:Slc} {h h':Heap} (X:Ext h.size h h'):UpS s h h':=⟨X.size,fun g hg _=>X.block g hg⟩
theorem UpS.trans {s:Slc} {a b c:Heap} (p:UpS s a b) (q:UpS s b c):UpS s a c:=⟨Nat.le_trans p.size q.size,fun g h1 h2=>(q.block g (Nat.lt_of_lt_of_le h1 p.size) h2).trans (p.block g h1 h2)⟩
theorem fb_len (us:List S_api_Box):(us.flatMap S_api_Box.cs).length=us.length * 15:=Go.Q.Rw.fm_len (w:=15) (fun _=>rfl) us
theorem rowb_len {C:Nat} {h:Heap} {s:Slc} {us:List S_api_Box} (R:Row C h 76 15 s (us.flatMap S_api_Box.cs)):s.len=us.length:=by
 have:=R.1
 rw [fb_len] at this
 omega
theorem zrow_len (z:List Value) (n:Nat):(zrow z n).length=n * z.length:=by
 induction n with
 | zero=>simp [zrow]
 | succ n ih=>simp only [zrow,List.replicate_succ,List.flatten_cons,List.length_append] at ih ⊢; rw [ih,Nat.add_mul]; omega
theorem add_block (a:Addr) (n:Nat):(a.add n).block=a.block:=by unfold Addr.add; split <;> rfl
section
variable {C:Nat} {h:Heap} {s:Slc} {us:List S_api_Box} {ad:Addr}
theorem ixa_w {k:Int->Heap->Prop} (F:∀ h1,UpS s h h1->∀ u k',(∀ (r:Bool) h2,Ext h1.size h1 h2->k' r h2)->strong_Make_1 u ad k' h1) (L:LsAt S_api_Box.cs 15 h s us) (ul:us.length<=1000000)
  (H:∀ (r:Int) h',(r = -1∨0<=r/\r < us.length)->Ext h.size h h'->k r h'):slices_IndexFunc_api_Box_api_Box__strong_Make_1 s ad k h:=by
 have sl:=L.l
 unfold slices_IndexFunc_api_Box_api_Box__strong_Make_1
 refine ⟨fun i h'=>0<=i/\i<=us.length/\Ext h.size h h',fun i _=>(us.length - i).toNat,⟨by omega,by omega,Ext.refl _ _⟩,?_⟩
 rintro i h1 ⟨i0,i1,X1⟩
 unfold slices_IndexFunc_api_Box_api_Box__strong_Make_1_l1b
 by_cases q:i < us.length
 ·rw [if_pos (by rw [decide_eq_true_eq]; omega)]
  obtain ⟨a,u,ha,_,hlt,hu,hc⟩:=(L.ext X1).it i0 (by omega)
  refine ⟨a,ha,i0,hlt,u,hc,F h1 (.of_ext X1) u _ fun r h2 X2=>?_⟩
  have X:=X1.trans (X2.mono X1.size)
  cases r with
  | true=>rw [if_pos rfl]; exact H i h2 (.inr ⟨i0,q⟩) X
  | false =>
   rw [if_neg (by simp),wrapI64 (x:=i + 1) (by omega) (by omega)]
   exact ⟨⟨by omega,by omega,X⟩,by dsimp only; omega⟩
 ·rw [if_neg (by rw [decide_eq_true_eq]; omega)]
  exact ⟨_,rfl,H _ h1 (.inl rfl) X1⟩
theorem dela_w {k:Slc->Heap->Prop} (F:∀ h1,UpS s h h1->∀ u k',(∀ (r:Bool) h2,Ext h1.size h1 h2->k' r h2)->strong_Make_1 u ad k' h1) (R:Row C h 76 15 s (us.flatMap S_api_Box.cs)) (ul:us.length<=1000000)
  (H:∀ s' (us':List S_api_Box) h',UpS s h h'->Row C h' 76 15 s' (us'.flatMap S_api_Box.cs)->(∀ u∈us',u∈us)->us'.length<=us.length->k s' h'):slices_DeleteFunc_api_Box_api_Box__strong_Make_1 s ad k h:=by
 have sl:=rowb_len R
 have cap:=R.cap
 unfold slices_DeleteFunc_api_Box_api_Box__strong_Make_1
 refine ixa_w F (lsOf (w:=15) (fun x=>rfl) R.slc sl (by decide)) ul fun r h1 hr X1=>?_
 by_cases c:r = -1
 ·rw [if_pos (by simpa using c)]
  exact H s us h1 (.of_ext X1) (R.ext X1 fun g hg=>(R.bd hg).2) (fun u hu=>hu) (Nat.le_refl _)
 rw [if_neg (by simpa using c),wrapI64 (x:=r + 1) (by omega) (by omega)]
 refine ⟨_,rfl,fun q h'=>0<=q.1/\q.1 < q.2/\q.2<=us.length/\UpS s h h'/\∃ us':List S_api_Box,Row C h' 76 15 s (us'.flatMap S_api_Box.cs)/\us'.length=us.length/\∀ u∈us',u∈us,fun q _=>(us.length - q.2).toNat,⟨by dsimp only; omega,by dsimp only; omega,by dsimp only; omega,.of_ext X1,us,R.ext X1 fun g hg=>(R.bd hg).2,rfl,fun u hu=>hu⟩,?_⟩
 rintro i j h2 ⟨i0,ij,j1,U2,us2,R2,l2,m2⟩
 dsimp only at i0 ij j1
 unfold slices_DeleteFunc_api_Box_api_Box__strong_Make_1_l1b
 have L2:LsAt S_api_Box.cs 15 h2 s us2:=lsOf (w:=15) (fun x=>rfl) R2.slc (by omega) (by decide)
 have z2:=U2.size
 by_cases q:j < us.length
 ·rw [if_pos (by rw [decide_eq_true_eq]; omega)]
  obtain ⟨a,u,ha,_,hlt,hu,hc⟩:=L2.it (i:=j) (by omega) (by omega)
  refine ⟨a,ha,by omega,hlt,u,hc,bx (cs:=S_api_Box.cs u) rfl (by show 15<=15; omega) fun h3 P3 X3=>⟨u,CellsAt.of_blk P3,F h3 (U2.trans (.of_ext X3)) u _ fun r h4 X4=>?_⟩⟩
  have z3:=X3.size
  have z4:=X4.size
  have X24:=X3.trans (X4.mono z3)
  have R4:=R2.ext X24 fun g hg=>(R2.bd hg).2
  have U4:UpS s h h4:=U2.trans (.of_ext X24)
  cases r with
  | true =>
   rw [if_neg (by simp)]
   unfold slices_DeleteFunc_api_Box_api_Box__strong_Make_1_j2
   rw [wrapI64 (x:=j + 1) (by omega) (by omega)]
   exact ⟨_,rfl,⟨i0,by dsimp only; omega,by dsimp only; omega,U4,us2,R4,l2,m2⟩,by dsimp only; omega⟩
  | false =>
   rw [if_pos (by simp)]
   obtain ⟨w1,w2,w3⟩:=Go.Q.Rw.row_setS (w:=15) (fun x=>rfl) R4 (by omega) (i:=i.toNat) (by omega) u ha
   have hb:s.blk=some a.block:=by unfold Slc.blk; rw [ha]
   refine ⟨u,CellsAt.of_blk (P3.ext X4 P3.lt),a,ha,i0,by omega,_,w1,rfl,_,rfl,?_⟩
   unfold slices_DeleteFunc_api_Box_api_Box__strong_Make_1_j2
   rw [wrapI64 (x:=j + 1) (by omega) (by omega),wrapI64 (x:=i + 1) (by omega) (by omega)]
   refine ⟨_,rfl,⟨by dsimp only; omega,by dsimp only; omega,by dsimp only; omega,U4.trans ⟨by rw [setsH_size]; exact Nat.le_refl _,fun g hg hs=>setsH_other _ _ fun e=>hs (by rw [hb,e,add_block])⟩,us2.set i.toNat u,w2,by simpa using l2,fun x hx=>?_⟩,by dsimp only; omega⟩
   rcases List.mem_or_eq_of_mem_set hx with h | h
   ·exact m2 x h
   ·subst h; exact m2 x (List.mem_of_getElem? hu)
 ·rw [if_neg (by rw [decide_eq_true_eq]; omega)]
  obtain ⟨a,u,ha,_⟩:=L2.it (i:=0) (by omega) (by omega)
  have hb:s.blk=some a.block:=by unfold Slc.blk; rw [ha]
  have e17:subS s 15 i.toNat (s.len:Int).toNat (s.cap:Int).toNat=⟨some (a.add (i.toNat * 15)),s.len - i.toNat,s.cap - i.toNat⟩:=by
   simp only [subS,Int.toNat_natCast]
   rw [if_neg (by omega),ha]
   rfl
  have zl:(zrow [.string ByteArray.empty,.int .u32 0,.int .u8 0,.int .u8 0,.int .u8 0,.int .u8 0,.int .u8 0,.int .u8 0,.int .u8 0,.int .u8 0,.int .u8 0,.int .u8 0,.int .u8 0,.int .u8 0,.slice none 0 0] (s.len - i.toNat)).length=(s.len - i.toNat) * 15:=zrow_len _ _
  obtain ⟨w1,w2,w3⟩:=row_setp R2 (o:=i.toNat * 15) (vs:=zrow [.string ByteArray.empty,.int .u32 0,.int .u8 0,.int .u8 0,.int .u8 0,.int .u8 0,.int .u8 0,.int .u8 0,.int .u8 0,.int .u8 0,.int .u8 0,.int .u8 0,.int .u8 0,.int .u8 0,.slice none 0 0] (s.len - i.toNat)) (by omega) (by omega) ha
  refine ⟨_,i0,by omega,by omega,Int.le_refl _,rfl,?_⟩
  rw [e17]
  refine ⟨fun a' ha'=>by cases ha'; rw [zl] at w1; exact w1,_,rfl,_,Int.le_refl _,i0,by omega,Int.le_refl _,rfl,?_⟩
  have hs:0 < s.len:=by omega
  have Rc:=row_cut w2 (n:=i.toNat) (by omega) hs
  have e:((us2.flatMap S_api_Box.cs).take (i.toNat * 15) ++ zrow [.string ByteArray.empty,.int .u32 0,.int .u8 0,.int .u8 0,.int .u8 0,.int .u8 0,.int .u8 0,.int .u8 0,.int .u8 0,.int .u8 0,.int .u8 0,.int .u8 0,.int .u8 0,.int .u8 0,.slice none 0 0] (s.len - i.toNat) ++ (us2.flatMap S_api_Box.cs).drop (i.toNat * 15 + (zrow [.string ByteArray.empty,.int .u32 0,.int .u8 0,.int .u8 0,.int .u8 0,.int .u8 0,.int .u8 0,.int .u8 0,.int .u8 0,.int .u8 0,.int .u8 0,.int .u8 0,.int .u8 0,.int .u8 0,.slice none 0 0] (s.len - i.toNat)).length)).take (i.toNat * 15)=(us2.take i.toNat).flatMap S_api_Box.cs:=by
   have hl:((us2.flatMap S_api_Box.cs).take (i.toNat * 15)).length=i.toNat * 15:=by rw [List.length_take,fb_len]; omega
   rw [List.append_assoc,List.take_append_of_le_length (by omega),List.take_of_length_le (by omega),Go.Q.Rw.fm_take (w:=15) (fun _=>rfl)]
  rw [e] at Rc
  exact H _ (us2.take i.toNat) _ (U2.trans ⟨by show _<=(setsH _ _ _ _).size; rw [setsH_size]; exact Nat.le_refl _,fun g hg hs=>setsH_other _ _ fun e=>hs (by rw [hb,e,add_block])⟩) Rc (fun u hu=>m2 u (List.mem_of_mem_take hu)) (by rw [List.length_take]; omega)
theorem ixb_w {k:Int->Heap->Prop} (F:∀ h1,UpS s h h1->∀ u k',(∀ (r:Bool) h2,Ext h1.size h1 h2->k' r h2)->strong_Make_2 u ad k' h1) (L:LsAt S_api_Box.cs 15 h s us) (ul:us.length<=1000000)
  (H:∀ (r:Int) h',(r = -1∨0<=r/\r < us.length)->Ext h.size h h'->k r h'):slices_IndexFunc_api_Box_api_Box__strong_Make_2 s ad k h:=by
 have sl:=L.l
 unfold slices_IndexFunc_api_Box_api_Box__strong_Make_2
 refine ⟨fun i h'=>0<=i/\i<=us.length/\Ext h.size h h',fun i _=>(us.length - i).toNat,⟨by omega,by omega,Ext.refl _ _⟩,?_⟩
 rintro i h1 ⟨i0,i1,X1⟩
 unfold slices_IndexFunc_api_Box_api_Box__strong_Make_2_l1b
 by_cases q:i < us.length
 ·rw [if_pos (by rw [decide_eq_true_eq]; omega)]
  obtain ⟨a,u,ha,_,hlt,hu,hc⟩:=(L.ext X1).it i0 (by omega)
  refine ⟨a,ha,i0,hlt,u,hc,F h1 (.of_ext X1) u _ fun r h2 X2=>?_⟩
  have X:=X1.trans (X2.mono X1.size)
  cases r with
  | true=>rw [if_pos rfl]; exact H i h2 (.inr ⟨i0,q⟩) X
  | false =>
   rw [if_neg (by simp),wrapI64 (x:=i + 1) (by omega) (by omega)]
   exact ⟨⟨by omega,by omega,X⟩,by dsimp only; omega⟩
 ·rw [if_neg (by rw [decide_eq_true_eq]; omega)]
  exact ⟨_,rfl,H _ h1 (.inl rfl) X1⟩
theorem delb_w {k:Slc->Heap->Prop} (F:∀ h1,UpS s h h1->∀ u k',(∀ (r:Bool) h2,Ext h1.size h1 h2->k' r h2)->strong_Make_2 u ad k' h1) (R:Row C h 76 15 s (us.flatMap S_api_Box.cs)) (ul:us.length<=1000000)
  (H:∀ s' (us':List S_api_Box) h',UpS s h h'->Row C h' 76 15 s' (us'.flatMap S_api_Box.cs)->(∀ u∈us',u∈us)->us'.length<=us.length->k s' h'):slices_DeleteFunc_api_Box_api_Box__strong_Make_2 s ad k h:=by
 have sl:=rowb_len R
 have cap:=R.cap
 unfold slices_DeleteFunc_api_Box_api_Box__strong_Make_2
 refine ixb_w F (lsOf (w:=15) (fun x=>rfl) R.slc sl (by decide)) ul fun r h1 hr X1=>?_
 by_cases c:r = -1
 ·rw [if_pos (by simpa using c)]
  exact H s us h1 (.of_ext X1) (R.ext X1 fun g hg=>(R.bd hg).2) (fun u hu=>hu) (Nat.le_refl _)
 rw [if_neg (by simpa using c),wrapI64 (x:=r + 1) (by omega) (by omega)]
 refine ⟨_,rfl,fun q h'=>0<=q.1/\q.1 < q.2/\q.2<=us.length/\UpS s h h'/\∃ us':List S_api_Box,Row C h' 76 15 s (us'.flatMap S_api_Box.cs)/\us'.length=us.length/\∀ u∈us',u∈us,fun q _=>(us.length - q.2).toNat,⟨by dsimp only; omega,by dsimp only; omega,by dsimp only; omega,.of_ext X1,us,R.ext X1 fun g hg=>(R.bd hg).2,rfl,fun u hu=>hu⟩,?_⟩
 rintro i j h2 ⟨i0,ij,j1,U2,us2,R2,l2,m2⟩
 dsimp only at i0 ij j1
 unfold slices_DeleteFunc_api_Box_api_Box__strong_Make_2_l1b
 have L2:LsAt S_api_Box.cs 15 h2 s us2:=lsOf (w:=15) (fun x=>rfl) R2.slc (by omega) (by decide)
 have z2:=U2.size
 by_cases q:j < us.length
 ·rw [if_pos (by rw [decide_eq_true_eq]; omega)]
  obtain ⟨a,u,ha,_,hlt,hu,hc⟩:=L2.it (i:=j) (by omega) (by omega)
  refine ⟨a,ha,by omega,hlt,u,hc,bx (cs:=S_api_Box.cs u) rfl (by show 15<=15; omega) fun h3 P3 X3=>⟨u,CellsAt.of_blk P3,F h3 (U2.trans (.of_ext X3)) u _ fun r h4 X4=>?_⟩⟩
  have z3:=X3.size
  have z4:=X4.size
  have X24:=X3.trans (X4.mono z3)
  have R4:=R2.ext X24 fun g hg=>(R2.bd hg).2
  have U4:UpS s h h4:=U2.trans (.of_ext X24)
  cases r with
  | true =>
   rw [if_neg (by simp)]
   unfold slices_DeleteFunc_api_Box_api_Box__strong_Make_2_j2
   rw [wrapI64 (x:=j + 1) (by omega) (by omega)]
   exact ⟨_,rfl,⟨i0,by dsimp only; omega,by dsimp only; omega,U4,us2,R4,l2,m2⟩,by dsimp only; omega⟩
  | false =>
   rw [if_pos (by simp)]
   obtain ⟨w1,w2,w3⟩:=Go.Q.Rw.row_setS (w:=15) (fun x=>rfl) R4 (by omega) (i:=i.toNat) (by omega) u ha
   have hb:s.blk=some a.block:=by unfold Slc.blk; rw [ha]
   refine ⟨u,CellsAt.of_blk (P3.ext X4 P3.lt),a,ha,i0,by omega,_,w1,rfl,_,rfl,?_⟩
   unfold slices_DeleteFunc_api_Box_api_Box__strong_Make_2_j2
   rw [wrapI64 (x:=j + 1) (by omega) (by omega),wrapI64 (x:=i + 1) (by omega) (by omega)]
   refine ⟨_,rfl,⟨by dsimp only; omega,by dsimp only; omega,by dsimp only; omega,U4.trans ⟨by rw [setsH_size]; exact Nat.le_refl _,fun g hg hs=>setsH_other _ _ fun e=>hs (by rw [hb,e,add_block])⟩,us2.set i.toNat u,w2,by simpa using l2,fun x hx=>?_⟩,by dsimp only; omega⟩
   rcases List.mem_or_eq_of_mem_set hx with h | h
   ·exact m2 x h
   ·subst h; exact m2 x (List.mem_of_getElem? hu)
 ·rw [if_neg (by rw [decide_eq_true_eq]; omega)]
  obtain ⟨a,u,ha,_⟩:=L2.it (i:=0) (by omega) (by omega)
  have hb:s.blk=some a.block:=by unfold Slc.blk; rw [ha]
  have e17:subS s 15 i.toNat (s.len:Int).toNat (s.cap:Int).toNat=⟨some (a.add (i.toNat * 15)),s.len - i.toNat,s.cap - i.toNat⟩:=by
   simp only [subS,Int.toNat_natCast]
   rw [if_neg (by omega),ha]
   rfl
  have zl:(zrow [.string ByteArray.empty,.int .u32 0,.int .u8 0,.int .u8 0,.int .u8 0,.int .u8 0,.int .u8 0,.int .u8 0,.int .u8 0,.int .u8 0,.int .u8 0,.int .u8 0,.int .u8 0,.int .u8 0,.slice none 0 0] (s.len - i.toNat)).length=(s.len - i.toNat) * 15:=zrow_len _ _
  obtain ⟨w1,w2,w3⟩:=row_setp R2 (o:=i.toNat * 15) (vs:=zrow [.string ByteArray.empty,.int .u32 0,.int .u8 0,.int .u8 0,.int .u8 0,.int .u8 0,.int .u8 0,.int .u8 0,.int .u8 0,.int .u8 0,.int .u8 0,.int .u8 0,.int .u8 0,.int .u8 0,.slice none 0 0] (s.len - i.toNat)) (by omega) (by omega) ha
  refine ⟨_,i0,by omega,by omega,Int.le_refl _,rfl,?_⟩
  rw [e17]
  refine ⟨fun a' ha'=>by cases ha'; rw [zl] at w1; exact w1,_,rfl,_,Int.le_refl _,i0,by omega,Int.le_refl _,rfl,?_⟩
  have hs:0 < s.len:=by omega
  have Rc:=row_cut w2 (n:=i.toNat) (by omega) hs
  have e:((us2.flatMap S_api_Box.cs).take (i.toNat * 15) ++ zrow [.string ByteArray.empty,.int .u32 0,.int .u8 0,.int .u8 0,.int .u8 0,.int .u8 0,.int .u8 0,.int .u8 0,.int .u8 0,.int .u8 0,.int .u8 0,.int .u8 0,.int .u8 0,.int .u8 0,.slice none 0 0] (s.len - i.toNat) ++ (us2.flatMap S_api_Box.cs).drop (i.toNat * 15 + (zrow [.string ByteArray.empty,.int .u32 0,.int .u8 0,.int .u8 0,.int .u8 0,.int .u8 0,.int .u8 0,.int .u8 0,.int .u8 0,.int .u8 0,.int .u8 0,.int .u8 0,.int .u8 0,.int .u8 0,.slice none 0 0] (s.len - i.toNat)).length)).take (i.toNat * 15)=(us2.take i.toNat).flatMap S_api_Box.cs:=by
   have hl:((us2.flatMap S_api_Box.cs).take (i.toNat * 15)).length=i.toNat * 15:=by rw [List.length_take,fb_len]; omega
   rw [List.append_assoc,List.take_append_of_le_length (by omega),List.take_of_length_le (by omega),Go.Q.Rw.fm_take (w:=15) (fun _=>rfl)]
  rw [e] at Rc
  exact H _ (us2.take i.toNat) _ (U2.trans ⟨by show _<=(setsH _ _ _ _).size; rw [setsH_size]; exact Nat.le_refl _,fun g hg hs=>setsH_other _ _ fun e=>hs (by rw [hb,e,add_block])⟩) Rc (fun u hu=>m2 u (List.mem_of_mem_take hu)) (by rw [List.length_take]; omega)
/-- some of those that are there are there -/
theorem many_of {V α:Type} {R:V->α->Prop} {Q:α->Prop}:∀ {us:List V},(∀ u∈us,∃ b,R u b/\Q b)->∃ bs,Many R us bs/\∀ b∈bs,Q b
 | [],_=>⟨[],Many.nil,fun b hb=>by cases hb⟩
 | u :: us,h=>by
  obtain ⟨b,r,q⟩:=h u (by simp)
  obtain ⟨bs,M,k⟩:=many_of fun x hx=>h x (List.mem_cons_of_mem _ hx)
  refine ⟨b :: bs,⟨by simp [M.l],fun i v x hv hx=>?_⟩,fun x hx=>(List.mem_cons.1 hx).elim (fun e=>by subst e; exact q) (k x)⟩
  cases i with
  | zero=>simp at hv hx; subst hv; subst hx; exact r
  | succ i=>exact M.r i v x (by simpa using hv) (by simpa using hx)
theorem many_mem {V α:Type} {R:V->α->Prop} {us:List V} {bs:List α} (M:Many R us bs) {u:V} (hu:u∈us):∃ b,R u b/\b∈bs:=by
 obtain ⟨i,hi⟩:=List.getElem?_of_mem hu
 have hl:=(List.getElem?_eq_some_iff.1 hi).1
 have hb:bs[i]? = some (bs[i]'(by rw [← M.l]; exact hl)):=List.getElem?_eq_getElem _
 exact ⟨_,M.r i u _ hi hb,List.mem_of_getElem? hb⟩
end
end Go.Q.Yk
end
section
set_option maxRecDepth 100000
/- Strong: a change is made: what comes of it may be. -/
namespace Go.Q.Yk
open Go.Q.Sg
section
variable {B0 C b1 b3 b5:Nat} {h h':Heap} {v:S_api_Mem} {m:MemV}
theorem MemH.down {B B':Nat} (M:MemH B h v m) (hB:B'<=B):MemH B' h v m:=fun h2 e=>M h2 fun g h1 hg=>e g (by omega) hg
/-- all but the boxes; all but the chains -/
theorem MemR.boxless {s:Slc} {xs:List Value} (M:MemR C h v m) (R:Row C h 76 15 s xs) (e:∀ g,C<=g->g < h.size->s.blk≠some g->h'[g]? = h[g]?) :
  Row C h' 5 1 v.f_Snap (b8 m.snap)/\(∃ us,Row C h' 117 2 v.f_Entries (us.flatMap S_api_Entry.cs)/\Many (EntR C h') us m.ents)/\(∃ us,Row C h' 35 33 v.f_Chains (us.flatMap S_api_Chain.cs)/\Many ChAt us m.chains)/\∀ u b,BoxR C h u b->BoxR C h' u b:=by
 have kr:∀ {E w:Nat} {t:Slc} {ys:List Value},E≠76->Row C h E w t ys->Row C h' E w t ys:=fun hE Q=>Q.keep fun g hg=>e g (Q.bd hg).1 (Q.bd hg).2 (Q.ne_row R hE hg)
 obtain ⟨us,a,b⟩:=M.ents
 obtain ⟨cs,c,d⟩:=M.chains
 exact ⟨kr (by decide) M.snap,⟨us,kr (by decide) a,b.imp fun v e E=>⟨E.t,kr (by decide) E.r⟩⟩,⟨cs,kr (by decide) c,d⟩,fun u b E=>⟨E.t,E.e,E.n,kr (by decide) E.r⟩⟩
theorem MemR.chainless {s:Slc} {xs:List Value} (M:MemR C h v m) (R:Row C h 35 33 s xs) (e:∀ g,C<=g->g < h.size->s.blk≠some g->h'[g]? = h[g]?) :
  Row C h' 5 1 v.f_Snap (b8 m.snap)/\(∃ us,Row C h' 117 2 v.f_Entries (us.flatMap S_api_Entry.cs)/\Many (EntR C h') us m.ents)/\(∃ us,Row C h' 76 15 v.f_Boxes (us.flatMap S_api_Box.cs)/\Many (BoxR C h') us m.boxes):=by
 have kr:∀ {E w:Nat} {t:Slc} {ys:List Value},E≠35->Row C h E w t ys->Row C h' E w t ys:=fun hE Q=>Q.keep fun g hg=>e g (Q.bd hg).1 (Q.bd hg).2 (Q.ne_row R hE hg)
 obtain ⟨us,a,b⟩:=M.ents
 obtain ⟨cs,c,d⟩:=M.boxes
 exact ⟨kr (by decide) M.snap,⟨us,kr (by decide) a,b.imp fun v e E=>⟨E.t,kr (by decide) E.r⟩⟩,⟨cs,kr (by decide) c,d.imp fun u b E=>⟨E.t,E.e,E.n,kr (by decide) E.r⟩⟩⟩
theorem chk0 {m:MemV} (h:chkE m=0):chkM m=0:=by unfold chkM; rw [if_neg (by omega),h]
/-- what Make ends with -/
structure MK (h0:Heap) (Q:MemV->Prop) (E:Prop) (k:S_api_Mem × Int->Heap->Prop):Prop where
 ok:∀ v' m' h',MemH h0.size h' v' m'->Ext h0.size h0 h'->WfM m'->chkM m'=0->Q m'->k (v',0) h'
 no:∀ e h',e≠0->Ext h0.size h0 h'->E->k (zMem,e) h'
theorem j2_ok {h0:Heap} {Q:MemV->Prop} {E:Prop} {zs:List Value} {e:Int} {k:S_api_Mem × Int->Heap->Prop} (Z:MK h0 Q E k) (X:Ext h0.size h0 h) (K:KS h0.size C b1 h v m) (P5:Blk h b5 zs 33) (zl:zs.length=79) (h5:h0.size<=b5/\b5 < C/\b5≠b1) (w:WfM m) (c:e=0->chkM m=0/\Q m) (ce:e≠0->E):strong_Make_j2 ⟨b1,0,none⟩ ⟨b5,0,none⟩ e k h:=by
 have cz:=K.cz
 unfold strong_Make_j2
 by_cases q:e=0
 ·rw [if_neg (by simpa using q)]
  refine ⟨v,CellsAt.of_blk K.P,bset (cs:=S_api_Mem.cs v) P5 (by rw [zl]; rfl) (by omega) fun h2 P2 U2=>⟨v,CellsAt.of_blk P2,?_⟩⟩
  have M2:MemR C h2 v m:=K.M.keep fun g h1 hg=>U2.block g hg (by omega)
  exact Z.ok v m h2 (M2.held.down (by have:=K.o1; have:=K.o2; omega)) (X.trans (U2.ext h5.1 (by omega))) w (c q).1 (c q).2
 ·rw [if_pos (by simpa using q)]
  exact bset (cs:=S_api_Mem.cs zMem) P5 (by rw [zl]; rfl) (by omega) fun h2 P2 U2=>⟨zMem,CellsAt.of_blk P2,Z.no e h2 q (X.trans (U2.ext h5.1 (by omega))) (ce q)⟩
theorem j1_ok {h0:Heap} {Q:MemV->Prop} {E:Prop} {zs:List Value} {e:Int} {k:S_api_Mem × Int->Heap->Prop} (Z:MK h0 Q E k) (X:Ext h0.size h0 h) (K:e=0->KS h0.size C b1 h v m/\WfM m) (P5:Blk h b5 zs 33) (zl:zs.length=79) (h5:h0.size<=b5/\b5 < C/\b5≠b1) (c:e=0->Q m) (ce:(e=0->chkE m≠0)->E):strong_Make_j1 ⟨b1,0,none⟩ ⟨b5,0,none⟩ e k h:=by
 have z:=X.size
 unfold strong_Make_j1
 by_cases q:e=0
 ·rw [if_pos (by simpa using q)]
  obtain ⟨K,w⟩:=K q
  refine ⟨v,CellsAt.of_blk K.P,chk_ok K.M.now w fun h2 X2=>?_⟩
  exact j2_ok Z (X.trans (X2.mono z)) (K.ext X2) (P5.ext X2 P5.lt) zl h5 w (fun e=>⟨chk0 e,c q⟩) fun e=>ce fun _=>e
 ·rw [if_neg (by simpa using q)]
  unfold strong_Make_j2
  rw [if_pos (by simpa using q)]
  exact bset (cs:=S_api_Mem.cs zMem) P5 (by rw [zl]; rfl) (by omega) fun h2 P2 U2=>⟨zMem,CellsAt.of_blk P2,Z.no e h2 q (X.trans (U2.ext h5.1 z)) (ce fun e=>absurd e q)⟩
/-- a cell of the box is set -/
theorem set_j1 {h0:Heap} {Q:MemV->Prop} {E:Prop} {zs:List Value} {i:Nat} {x:Value} {v':S_api_Mem} {m':MemV} {k:S_api_Mem × Int->Heap->Prop} (Z:MK h0 Q E k) (X:Ext h0.size h0 h) (P:Blk h b1 (S_api_Mem.cs v) 33) (o:h0.size<=b1/\b1 < C/\C<=h.size) (P5:Blk h b5 zs 33) (zl:zs.length=79) (h5:h0.size<=b5/\b5 < C/\b5≠b1) (hi:i < 79)
  (hc:(S_api_Mem.cs v).set i x=S_api_Mem.cs v') (M:MemR C h v' m') (w:WfM m') (c:Q m') (ce:chkE m'≠0->E) :
  ∃ h3:Heap,WrH h ((⟨b1,0,none⟩:Addr).add i)/\h3=setH h ((⟨b1,0,none⟩:Addr).add i) x/\strong_Make_j1 ⟨b1,0,none⟩ ⟨b5,0,none⟩ 0 k h3 :=
 bset1 P hi fun h2 P2 U2=>j1_ok Z (X.trans (U2.ext o.1 (by have:=X.size; omega))) (fun _=>⟨⟨by rw [hc] at P2; exact P2,M.keep fun g h1 hg=>U2.block g hg (by omega),o.1,o.2.1,Nat.le_trans o.2.2 U2.size⟩,w⟩) (U2.blk P5 h5.2.2) zl h5 (fun _=>c) fun f=>ce (f rfl)
end
end Go.Q.Yk
end

/- A part of the proof of statements of this seat: lemmas, no statement of their own. -/
import Derived.Test.YtmmpamfadeonmaaGreatDoorYkZaq
import Derived.Test.YtmmpamfadeonmaaGreatDoorYkZav
set_option linter.unusedVariables false
set_option linter.unusedSimpArgs false
section
set_option maxRecDepth 100000
/- Strong: copies in new memory. -/
namespace Go.Q.Yk
open Go.Q.Sg
section
variable {h:Heap}
theorem rcopied_ok {p0:Slc} {vs:List S_api_Entry} {es:List Ent} {k:Slc->Heap->Prop} (L:LsAt S_api_Entry.cs 2 h p0 vs) (M:Many (EntAt h) vs es) (wl:es.length<=1000000) (cl:∀ e∈es,e.2.length<=1000000)
  (H:∀ s us h',Row h.size h' 117 2 s (us.flatMap S_api_Entry.cs)->Many (EntR h.size h') us es->Ext h.size h h'->k s h'):rlog_copied p0 k h:=by
 have vl:=L.l
 have ml:=M.l
 unfold rlog_copied
 refine ⟨fun q h'=>0<=q.2/\q.2<=es.length/\Ext h.size h h'/\∃ us,Row h.size h' 117 2 q.1 (us.flatMap S_api_Entry.cs)/\Many (EntR h.size h') us (es.take q.2.toNat),fun q _=>(es.length - q.2).toNat,⟨by dsimp only; omega,by dsimp only; omega,Ext.refl _ _,[],Row.nil _ _ _ _,Many.nil⟩,?_⟩
 rintro s i h1 ⟨i0,i1,X1,us,Rw,Mu⟩
 dsimp only at i0 i1 Rw Mu
 have z1:=X1.size
 unfold rlog_copied_l1b
 by_cases c:i < es.length
 rotate_left
 ·rw [if_neg (by rw [decide_eq_true_eq]; omega)]
  rw [show i.toNat=es.length from by omega,List.take_length] at Mu
  exact H s us h1 Rw Mu X1
 rw [if_pos (by rw [decide_eq_true_eq]; omega)]
 obtain ⟨e,he⟩:∃ e,es[i.toNat]? = some e:=⟨_,List.getElem?_eq_getElem (by omega)⟩
 obtain ⟨a,v,ha,_,hlt,hv,hc⟩:=(L.ext X1).it i0 (by omega)
 have E:=(M.r _ _ _ hv he).ext X1
 have ce:=cl e (List.mem_of_getElem? he)
 refine ⟨a,ha,i0,hlt,v,hc,bx (cs:=S_api_Entry.cs v) rfl (by show 2<=2; omega) fun h3 P3 X3=>?_⟩
 have z3:=X3.size
 have E3:=E.ext X3
 refine ⟨v.f_Term,P3.cl0 rfl,v.f_Cmd,P3.cl rfl,Clone_ok E3.l E3.s (by omega) fun s4 h4 R4 X4=>?_⟩
 have z4:=X4.size
 refine ⟨(P3.ext X4 P3.lt).cl0 rfl,bx0 fun h5 P5 X5=>?_⟩
 have z5:=X5.size
 have X15:Ext h1.size h1 h5:=X3.trans ((X4.mono z3).trans (X5.mono (by omega)))
 have Rw5:=Rw.ext X15 fun g hg=>(Rw.bd hg).2
 have Mu5:Many (EntR h.size h5) us (es.take i.toNat):=Mu.imp fun v e E=>⟨E.t,E.r.ext X15 fun g hg=>(E.r.bd hg).2⟩
 have R45:Row h.size h5 5 1 s4 (b8 e.2):=(R4.ext X5 fun g hg=>(R4.bd hg).2).mono (by omega)
 have M6:Many (EntR h.size h5) (us ++ [⟨v.f_Term,s4⟩]) (es.take i.toNat ++ [e]):=Mu5.snoc ⟨E.t,R45⟩
 have sl:s.len=i.toNat:=by
  have:=Rw.1
  rw [Go.Q.Rw.fm_len (w:=2) (fun x=>rfl)] at this
  have:=Mu.l
  rw [List.length_take] at this
  omega
 refine App.row Rw5 (by omega) rfl rfl (oneC (by kernel_rfl)) (by omega) (by simp only [maxLen]; omega) fun s8 h8 R8 l8 z8 F8 _=>?_
 have sb:∀ g,s.blk=some g->h.size<=g:=fun g hg=>(Rw5.bd hg).1
 rw [wrapI64 (x:=i + 1) (by omega) (by omega)]
 refine ⟨⟨by dsimp only; omega,by dsimp only; omega,⟨by omega,fun g hg=>?_⟩,us ++ [⟨v.f_Term,s4⟩],by rw [List.flatMap_append]; simpa using R8,?_⟩,by dsimp only; omega⟩
 ·rw [F8 g (by omega) fun q=>by have:=sb g q; omega]
  rw [X15.block g (by omega),X1.block g hg]
 ·dsimp only
  rw [show (i + 1).toNat=i.toNat + 1 from by omega,List.take_add_one,he]
  exact M6.imp fun v e E=>⟨E.t,E.r.keep fun g hg=>F8 g (E.r.bd hg).2 fun q=>Row.ne_row E.r Rw5 (by decide) hg q⟩
theorem owned_ok {p0:Slc} {vs:List S_api_Box} {bs:List BoxV} {k:Slc->Heap->Prop} (L:LsAt S_api_Box.cs 15 h p0 vs) (M:Many (BoxAt h) vs bs) (wl:bs.length<=1000000) (cl:∀ b∈bs,WfB b)
  (H:∀ s us h',Row h.size h' 76 15 s (us.flatMap S_api_Box.cs)->Many (BoxR h.size h') us bs->Ext h.size h h'->k s h'):strong_owned p0 k h:=by
 have vl:=L.l
 have ml:=M.l
 unfold strong_owned
 refine ⟨fun q h'=>0<=q.2/\q.2<=bs.length/\Ext h.size h h'/\∃ us,Row h.size h' 76 15 q.1 (us.flatMap S_api_Box.cs)/\Many (BoxR h.size h') us (bs.take q.2.toNat),fun q _=>(bs.length - q.2).toNat,⟨by dsimp only; omega,by dsimp only; omega,Ext.refl _ _,[],Row.nil _ _ _ _,Many.nil⟩,?_⟩
 rintro s i h1 ⟨i0,i1,X1,us,Rw,Mu⟩
 dsimp only at i0 i1 Rw Mu
 have z1:=X1.size
 unfold strong_owned_l1b
 by_cases c:i < bs.length
 rotate_left
 ·rw [if_neg (by rw [decide_eq_true_eq]; omega)]
  rw [show i.toNat=bs.length from by omega,List.take_length] at Mu
  exact H s us h1 Rw Mu X1
 rw [if_pos (by rw [decide_eq_true_eq]; omega)]
 obtain ⟨b,he⟩:∃ b,bs[i.toNat]? = some b:=⟨_,List.getElem?_eq_getElem (by omega)⟩
 obtain ⟨a,v,ha,_,hlt,hv,hc⟩:=(L.ext X1).it i0 (by omega)
 have E:=(M.r _ _ _ hv he).ext X1
 have ce:=(cl b (List.mem_of_getElem? he)).bl
 refine ⟨a,ha,i0,hlt,v,hc,bx (cs:=S_api_Box.cs v) rfl (by show 15<=15; omega) fun h3 P3 X3=>?_⟩
 have z3:=X3.size
 have E3:=E.ext X3
 have p3:=P3.lt
 refine ⟨v.f_Body,P3.cl rfl,Clone_ok E3.l E3.s (by omega) fun s4 h4 R4 X4=>?_⟩
 have z4:=X4.size
 refine bset1 (P3.ext X4 p3) (by show 14 < 15; omega) fun h4' P4 U4=>⟨{ v with f_Body:=s4 },CellsAt.of_blk P4,bx0 fun h5 P5 X5=>?_⟩
 have z4':=U4.size
 have z5:=X5.size
 have X15:Ext h1.size h1 h5:=X3.trans ((X4.mono z3).trans ((U4.ext (Nat.le_refl _) (by omega)).trans (X5.mono (by omega))))
 have Rw5:=Rw.ext X15 fun g hg=>(Rw.bd hg).2
 have Mu5:Many (BoxR h.size h5) us (bs.take i.toNat):=Mu.imp fun v e E=>⟨E.t,E.e,E.n,E.r.ext X15 fun g hg=>(E.r.bd hg).2⟩
 have R45:Row h.size h5 5 1 s4 (b8 b.2.2.2):=(R4.keep fun g hg=>by
  have:=R4.bd hg
  rw [X5.block g (by omega),U4.block g (by omega) (by omega)]).mono (by omega)
 have M6:Many (BoxR h.size h5) (us ++ [{ v with f_Body:=s4 }]) (bs.take i.toNat ++ [b]):=Mu5.snoc ⟨E.t,E.e,E.n,R45⟩
 have sl:s.len=i.toNat:=by
  have:=Rw.1
  rw [Go.Q.Rw.fm_len (w:=15) (fun x=>rfl)] at this
  have:=Mu.l
  rw [List.length_take] at this
  omega
 refine App.row Rw5 (by omega) rfl rfl (oneC (by kernel_rfl)) (by omega) (by simp only [maxLen]; omega) fun s8 h8 R8 l8 z8 F8 _=>?_
 have sb:∀ g,s.blk=some g->h.size<=g:=fun g hg=>(Rw5.bd hg).1
 rw [wrapI64 (x:=i + 1) (by omega) (by omega)]
 refine ⟨⟨by dsimp only; omega,by dsimp only; omega,⟨by omega,fun g hg=>?_⟩,us ++ [{ v with f_Body:=s4 }],by rw [List.flatMap_append]; simpa using R8,?_⟩,by dsimp only; omega⟩
 ·rw [F8 g (by omega) fun q=>by have:=sb g q; omega]
  rw [X15.block g (by omega),X1.block g hg]
 ·dsimp only
  rw [show (i + 1).toNat=i.toNat + 1 from by omega,List.take_add_one,he]
  exact M6.imp fun v e E=>⟨E.t,E.e,E.n,E.r.keep fun g hg=>F8 g (E.r.bd hg).2 fun q=>Row.ne_row E.r Rw5 (by decide) hg q⟩
end
end Go.Q.Yk
end
section
set_option maxRecDepth 100000
/- Strong: what is kept, in new memory. -/
namespace Go.Q.Yk
open Go.Q.Sg
section
variable {h:Heap}
theorem clch_ok {p0:Slc} {cs:List S_api_Chain} {k:Slc->Heap->Prop} (L:LsAt S_api_Chain.cs 33 h p0 cs) (wl:cs.length<=1000000)
  (H:∀ s h',Row h.size h' 35 33 s (cs.flatMap S_api_Chain.cs)->Ext h.size h h'->k s h'):slices_Clone_api_Chain_api_Chain p0 k h:=by
 have vl:=L.l
 unfold slices_Clone_api_Chain_api_Chain
 cases ha:p0.a with
 | none =>
  rw [if_pos (by simp)]
  have hn:cs=[]:=by
   cases cs with
   | nil=>rfl
   | cons x r=>obtain ⟨a,q,_⟩:=L.at' 0 x rfl; rw [ha] at q; cases q
  subst hn
  exact H _ _ (Row.nil _ _ _ _) (Ext.refl _ _)
 | some a =>
  rw [if_neg (by simp)]
  have hp:∀ o:Obj,Ext h.size h (h.push o):=fun o=>Ext.push h o (Nat.le_refl _)
  refine ⟨_,_,rfl,rfl,cs.flatMap S_api_Chain.cs,(LsAt.slcs (w:=33) (fun x=>rfl) (by decide) L).ext (hp _),?_⟩
  have R:Row h.size (h.push (.cells ([]:List Value).toArray 35)) 35 33 ⟨some ⟨h.size,0,none⟩,0,0⟩ [] :=
   ⟨by simp,by simp [maxLen],.inr ⟨h.size,[],rfl,Nat.le_refl _,Blk.push _ _ _,Nat.le_refl _,by simp,by simp⟩⟩
  refine App.row R (by simp) rfl (by rw [Go.Q.Rw.fm_len (w:=33) (fun x=>rfl)]; omega) (fun v hv=>?_) (by simp only; omega) (by simp only [maxLen]; omega) fun s' h' R' _ hsz' ho _=>?_
  ·obtain ⟨x,_,hx⟩:=List.mem_flatMap.1 hv
   exact oneC (l:=S_api_Chain.cs x) (by kernel_rfl) v hx
  ·refine H s' h' (by simpa using R') ⟨by simp at hsz'; omega,fun i hi=>?_⟩
   rw [ho i (by simp; omega) (by simp [Slc.blk]; omega),(hp _).block i hi]
theorem ls_ents {C:Nat} {s:Slc} {us:List S_api_Entry} {es:List Ent} (R:Row C h 117 2 s (us.flatMap S_api_Entry.cs)) (M:Many (EntR C h) us es):LsAt S_api_Entry.cs 2 h s us/\Many (EntAt h) us es:=by
 refine ⟨lsOf (w:=2) (fun x=>rfl) R.slc ?_ (by decide),M.imp fun v e E=>⟨E.t,E.r.slc,Row.pb E.r⟩⟩
 have:=R.1
 rw [Go.Q.Rw.fm_len (w:=2) (fun x=>rfl)] at this
 omega
theorem ls_boxes {C:Nat} {s:Slc} {us:List S_api_Box} {bs:List BoxV} (R:Row C h 76 15 s (us.flatMap S_api_Box.cs)) (M:Many (BoxR C h) us bs):LsAt S_api_Box.cs 15 h s us/\Many (BoxAt h) us bs:=by
 refine ⟨lsOf (w:=15) (fun x=>rfl) R.slc ?_ (by decide),M.imp fun v e E=>⟨E.t,E.e,E.n,E.r.slc,Row.pb E.r⟩⟩
 have:=R.1
 rw [Go.Q.Rw.fm_len (w:=15) (fun x=>rfl)] at this
 omega
theorem ls_chains {C:Nat} {s:Slc} {us:List S_api_Chain} (R:Row C h 35 33 s (us.flatMap S_api_Chain.cs)):LsAt S_api_Chain.cs 33 h s us:=by
 refine lsOf (w:=33) (fun x=>rfl) R.slc ?_ (by decide)
 have:=R.1
 rw [Go.Q.Rw.fm_len (w:=33) (fun x=>rfl)] at this
 omega
theorem logE_ok {p0:Slc} {vs:List S_api_Entry} {es:List Ent} {k:Slc->Heap->Prop} (L:LsAt S_api_Entry.cs 2 h p0 vs) (M:Many (EntAt h) vs es) (wl:es.length<=1000000) (cl:∀ e∈es,e.2.length<=1000000)
  (H:∀ s us h',Row h.size h' 117 2 s (us.flatMap S_api_Entry.cs)->Many (EntR h.size h') us es->Ext h.size h h'->k s h'):rlog_New 0 0 p0 (fun (r10:Option Addr) h11=>rlog_Log_Entries r10 k h11) h:=by
 unfold rlog_New
 refine rcopied_ok L M wl cl fun s us h2 R2 M2 X2=>bx0 fun h3 P3 X3=>?_
 have z2:=X2.size
 have z3:=X3.size
 have X03:=X2.trans (X3.mono z2)
 unfold rlog_Log_Entries
 dsimp only
 rw [if_neg (by simp)]
 have R3:=R2.ext X3 fun g hg=>(R2.bd hg).2
 have M3:Many (EntR h.size h3) us es:=M2.imp fun v e E=>⟨E.t,E.r.ext X3 fun g hg=>(E.r.bd hg).2⟩
 obtain ⟨L3,N3⟩:=ls_ents R3 M3
 exact ⟨_,rfl,s,P3.cl rfl,rcopied_ok L3 N3 wl cl fun s4 us4 h4 R4 M4 X4=>H s4 us4 h4 (R4.mono X03.size) (M4.imp fun v e E=>⟨E.t,E.r.mono X03.size⟩) (X03.trans (X4.mono X03.size))⟩
/-- what is kept, in rows of one's own -/
structure MemR (C:Nat) (h:Heap) (v:S_api_Mem) (m:MemV):Prop where
 node:v.f_Node=m.node
 n:v.f_N=m.n
 t:v.f_T=m.t
 boot:v.f_Boot=m.boot
 lease:v.f_Lease=m.lease
 x:[v.f_Share.f_X]=m.x
 y:v.f_Share.f_Y=m.y
 p:v.f_Proof=m.p
 term:v.f_Term=m.term
 vote:v.f_Vote=m.vote
 base:v.f_Base=m.base
 bterm:v.f_BaseTerm=m.bterm
 snap:Row C h 5 1 v.f_Snap (b8 m.snap)
 ents:∃ us,Row C h 117 2 v.f_Entries (us.flatMap S_api_Entry.cs)/\Many (EntR C h) us m.ents
 chains:∃ us,Row C h 35 33 v.f_Chains (us.flatMap S_api_Chain.cs)/\Many ChAt us m.chains
 boxes:∃ us,Row C h 76 15 v.f_Boxes (us.flatMap S_api_Box.cs)/\Many (BoxR C h) us m.boxes
 clean:v.f_Clean=m.clean
theorem MemR.keep {C:Nat} {h h':Heap} {v:S_api_Mem} {m:MemV} (M:MemR C h v m) (e:∀ g,C<=g->g < h.size->h'[g]? = h[g]?):MemR C h' v m:=by
 have kr:∀ {E w:Nat} {s:Slc} {xs:List Value},Row C h E w s xs->Row C h' E w s xs:=fun R=>R.keep fun g hg=>e g (R.bd hg).1 (R.bd hg).2
 obtain ⟨es,e1,e2⟩:=M.ents
 obtain ⟨cs,c1,c2⟩:=M.chains
 obtain ⟨bs,b1,b2⟩:=M.boxes
 exact { M with snap:=kr M.snap,ents:=⟨es,kr e1,e2.imp fun _ _ E=>⟨E.t,kr E.r⟩⟩,chains:=⟨cs,kr c1,c2⟩,boxes:=⟨bs,kr b1,b2.imp fun _ _ E=>⟨E.t,E.e,E.n,kr E.r⟩⟩ }
theorem MemR.now {C:Nat} {h:Heap} {v:S_api_Mem} {m:MemV} (M:MemR C h v m):MemAt h v m:=by
 obtain ⟨es,e1,e2⟩:=M.ents
 obtain ⟨cs,c1,c2⟩:=M.chains
 obtain ⟨bs,b1,b2⟩:=M.boxes
 exact ⟨M.node,M.n,M.t,M.boot,M.lease,M.x,M.y,M.p,M.term,M.vote,M.base,M.bterm,M.snap.slc,Row.pb M.snap,⟨es,ls_ents e1 e2⟩,⟨cs,ls_chains c1,c2⟩,⟨bs,ls_boxes b1 b2⟩,M.clean⟩
theorem MemR.held {C:Nat} {h:Heap} {v:S_api_Mem} {m:MemV} (M:MemR C h v m):MemH C h v m:=fun h' e=>(M.keep e).now
theorem copied_ok {v:S_api_Mem} {m:MemV} {k:S_api_Mem->Heap->Prop} (M:MemAt h v m) (w:WfM m) (H:∀ v' h',MemR h.size h' v' m->Ext h.size h h'->k v' h'):strong_copied v k h:=by
 unfold strong_copied
 refine bx0 fun h2 P2 X2=>bx0 fun h4 P4 X4=>?_
 have z2:=X2.size
 have z4:=X4.size
 have p2:=P2.lt
 have p4:=P4.lt
 have X04:=X2.trans (X4.mono z2)
 have M4:=M.ext X04
 have sl:=w.snapl
 have P5:=P2.ext X4 p2
 refine ⟨v.f_Snap,P5.cl rfl,Clone_ok M4.snapl M4.snap (by omega) fun s1 h7 R7 X7=>?_⟩
 have z7:=X7.size
 refine bset1 (P5.ext X7 (by omega)) (by show 74 < 79; omega) fun h8 P8 U8=>⟨v.f_Entries,P8.cl rfl,?_⟩
 have z8:=U8.size
 have X08:Ext h.size h h8:=X04.trans ((X7.mono (by omega)).trans (U8.ext (Nat.le_refl _) (by omega)))
 obtain ⟨es,E1,E2⟩:=(M.ext X08).ents
 refine logE_ok E1 E2 w.entsl (fun e he=>(w.ents e he).2.2) fun s2 us h13 R13 M13 X13=>?_
 have z13:=X13.size
 refine bset1 (P8.ext X13 P8.lt) (by show 75 < 79; omega) fun h14 P14 U14=>⟨v.f_Chains,P14.cl rfl,?_⟩
 have z14:=U14.size
 have X014:Ext h.size h h14:=X08.trans ((X13.mono (by omega)).trans (U14.ext (Nat.le_refl _) (by omega)))
 obtain ⟨cs,C1,C2⟩:=(M.ext X014).chains
 have cl:=C2.l
 have chl:=w.chainsl
 refine clch_ok C1 (by omega) fun s3 h17 R17 X17=>?_
 have z17:=X17.size
 refine bset1 (P14.ext X17 P14.lt) (by show 76 < 79; omega) fun h18 P18 U18=>⟨v.f_Boxes,P18.cl rfl,?_⟩
 have z18:=U18.size
 have X018:Ext h.size h h18:=X014.trans ((X17.mono (by omega)).trans (U18.ext (Nat.le_refl _) (by omega)))
 obtain ⟨bs,B1,B2⟩:=(M.ext X018).boxes
 refine owned_ok B1 B2 w.boxesl w.boxes fun s4 vs h21 R21 M21 X21=>?_
 have z21:=X21.size
 refine bset1 (P18.ext X21 P18.lt) (by show 77 < 79; omega) fun h22 P22 U22=>?_
 have z22:=U22.size
 have P22:Blk h22 h.size (S_api_Mem.cs { v with f_Snap:=s1,f_Entries:=s2,f_Chains:=s3,f_Boxes:=s4 }) 33:=P22
 have X022:Ext h.size h h22:=X018.trans ((X21.mono (by omega)).trans (U22.ext (Nat.le_refl _) (by omega)))
 -- a block that is neither of the two stays
 have k22:∀ g,g < h21.size->g≠h.size->h22[g]? = h21[g]?:=fun g h1 h2=>U22.block g h1 h2
 have k18:∀ g,g < h18.size->g≠h.size->h22[g]? = h18[g]?:=fun g h1 h2=>(k22 g (by omega) h2).trans (X21.block g h1)
 have k17:∀ g,g < h17.size->g≠h.size->h22[g]? = h17[g]?:=fun g h1 h2=>(k18 g (by omega) h2).trans (U18.block g h1 h2)
 have k14:∀ g,g < h14.size->g≠h.size->h22[g]? = h14[g]?:=fun g h1 h2=>(k17 g (by omega) h2).trans (X17.block g h1)
 have k13:∀ g,g < h13.size->g≠h.size->h22[g]? = h13[g]?:=fun g h1 h2=>(k14 g (by omega) h2).trans (U14.block g h1 h2)
 have k8:∀ g,g < h8.size->g≠h.size->h22[g]? = h8[g]?:=fun g h1 h2=>(k13 g (by omega) h2).trans (X13.block g h1)
 have k7:∀ g,g < h7.size->g≠h.size->h22[g]? = h7[g]?:=fun g h1 h2=>(k8 g (by omega) h2).trans (U8.block g h1 h2)
 have P4':Blk h22 h2.size _ 33:=P4.old ((k7 h2.size (by omega) (by omega)).trans (X7.block h2.size p4))
 refine ⟨_,CellsAt.of_blk P22,bset P4' rfl (by show 79<=79; omega) fun h24 P24 U24=>⟨_,CellsAt.of_blk P24,H _ h24 ?_ (X022.trans (U24.ext (by omega) (by omega)))⟩⟩
 have z24:=U24.size
 have kk:∀ g,h4.size<=g->g < h22.size->h24[g]? = h22[g]?:=fun g h1 h2'=>U24.block g h2' (by omega)
 have Rs:Row h4.size h24 5 1 s1 (b8 m.snap):=R7.keep fun g hg=>by
  have:=R7.bd hg
  rw [kk g this.1 (by omega),k7 g this.2 (by omega)]
 have Re:Row h8.size h24 117 2 s2 (us.flatMap S_api_Entry.cs):=R13.keep fun g hg=>by
  have:=R13.bd hg
  rw [kk g (by omega) (by omega),k13 g this.2 (by omega)]
 have Me:Many (EntR h8.size h24) us m.ents:=M13.imp fun v e E=>⟨E.t,E.r.keep fun g hg=>by
  have:=E.r.bd hg
  rw [kk g (by omega) (by omega),k13 g this.2 (by omega)]⟩
 have Rc:Row h14.size h24 35 33 s3 (cs.flatMap S_api_Chain.cs):=R17.keep fun g hg=>by
  have:=R17.bd hg
  rw [kk g (by omega) (by omega),k17 g this.2 (by omega)]
 have Rb:Row h18.size h24 76 15 s4 (vs.flatMap S_api_Box.cs):=R21.keep fun g hg=>by
  have:=R21.bd hg
  rw [kk g (by omega) (by omega),k22 g this.2 (by omega)]
 have Mb:Many (BoxR h18.size h24) vs m.boxes:=M21.imp fun v b E=>⟨E.t,E.e,E.n,E.r.keep fun g hg=>by
  have:=E.r.bd hg
  rw [kk g (by omega) (by omega),k22 g this.2 (by omega)]⟩
 exact ⟨M.node,M.n,M.t,M.boot,M.lease,M.x,M.y,M.p,M.term,M.vote,M.base,M.bterm,Rs.mono (by omega),⟨us,Re.mono (by omega),Me.imp fun _ _ E=>⟨E.t,E.r.mono (by omega)⟩⟩,⟨cs,Rc.mono (by omega),C2⟩,⟨vs,Rb.mono (by omega),Mb.imp fun _ _ E=>⟨E.t,E.e,E.n,E.r.mono (by omega)⟩⟩,M.clean⟩
end
end Go.Q.Yk
end
section
set_option maxRecDepth 100000
/- Strong: which boxes go: whatever it is. -/
namespace Go.Q.Yk
open Go.Q.Sg
section
variable {h:Heap}
theorem idx_ok {s:Slc} {gs:List (List Int)} {n:List Int} {k:Int->Heap->Prop} (L:LsAt (fun x:List Int=>arr 12 .u8 x) 12 h s gs) (gl:gs.length<=1000000) (H:∀ i h',Ext h.size h h'->k i h'):slices_Index_api_Nonce_api_Nonce s n k h:=by
 have sl:=L.l
 unfold slices_Index_api_Nonce_api_Nonce
 refine bx0 fun h2 P X2=>⟨fun i h'=>0<=i/\i<=gs.length/\h'=h2,fun i _=>(gs.length - i).toNat,⟨by omega,by omega,rfl⟩,?_⟩
 rintro i h' ⟨i0,i1,rfl⟩
 unfold slices_Index_api_Nonce_api_Nonce_l1b
 by_cases c:i < gs.length
 ·rw [if_pos (by rw [decide_eq_true_eq]; omega)]
  obtain ⟨a,x,ha,_,hlt,hx,hc⟩:=(L.ext X2).it i0 (by omega)
  refine ⟨n,CellsAt.of_blk P,a,ha,i0,hlt,x,hc,?_⟩
  rw [if_pos (rfl:BinOp.eql = .eql)]
  by_cases q:(nrm 12 n == nrm 12 x)=true
  ·rw [if_pos q]; exact H i _ X2
  ·rw [if_neg q,wrapI64 (x:=i + 1) (by omega) (by omega)]
   exact ⟨⟨by omega,by omega,rfl⟩,by dsimp only; omega⟩
 ·rw [if_neg (by rw [decide_eq_true_eq]; omega)]
  exact ⟨_,rfl,H _ _ X2⟩
theorem has_ok {s:Slc} {gs:List (List Int)} {n:List Int} {k:Bool->Heap->Prop} (L:LsAt (fun x:List Int=>arr 12 .u8 x) 12 h s gs) (gl:gs.length<=1000000) (H:∀ b h',Ext h.size h h'->k b h'):slices_Contains_api_Nonce_api_Nonce s n k h:=by
 unfold slices_Contains_api_Nonce_api_Nonce
 exact bx0 fun h2 P X2=>⟨n,CellsAt.of_blk P,idx_ok (L.ext X2) gl fun i h' X'=>H _ h' (X2.trans (X'.mono X2.size))⟩
theorem mk1_ok {b:Nat} {u:S_api_Box} {c:S_api_Change} {gs:List (List Int)} {k:Bool->Heap->Prop} (C:Blk h b (S_api_Change.cs c) 40) (L:LsAt (fun x:List Int=>arr 12 .u8 x) 12 h c.f_Gone gs) (gl:gs.length<=1000000) (H:∀ r h',Ext h.size h h'->k r h'):strong_Make_1 u (⟨b,0,none⟩:Addr) k h:=by
 unfold strong_Make_1
 exact bx0 fun h2 P X2=>⟨c.f_Gone,(C.ext X2 C.lt).cl rfl,u.f_Nonce,P.cls rfl,has_ok (L.ext X2) gl fun r h' X'=>H r h' (X2.trans (X'.mono X2.size))⟩
theorem mk2_ok {b:Nat} {u:S_api_Box} {c:S_api_Change} {k:Bool->Heap->Prop} (C:Blk h b (S_api_Change.cs c) 40) (H:∀ r h',Ext h.size h h'->k r h'):strong_Make_2 u (⟨b,0,none⟩:Addr) k h:=by
 unfold strong_Make_2
 exact bx0 fun h2 P X2=>⟨u.f_Tenant,P.cl0 rfl,c.f_Tenant,(C.ext X2 C.lt).cl rfl,H _ h2 X2⟩
end
end Go.Q.Yk
end
section
set_option maxRecDepth 100000
/- Strong: boxes go, whichever. -/
namespace Go.Q.Yk
open Go.Q.Sg
section
variable {h:Heap}
/-- a beginning of a row -/
theorem row_cut {B E w n:Nat} {s:Slc} {xs:List Value} (R:Row B h E w s xs) (hn:n<=s.len) (hs:0 < s.len):Row B h E w (subS s w (0:Int).toNat n s.cap) (xs.take (n * w)):=by
 rcases R.2.2 with ⟨k,k2,k3⟩ | ⟨g,cur,a1,a2,a3,a4,a5,a6⟩
 ·omega
 ·have hl:=R.1
  have hw:n * w<=s.len * w:=Nat.mul_le_mul_right _ hn
  have e:subS s w (0:Int).toNat n s.cap=⟨s.a,n,s.cap⟩:=by
   simp only [subS,Int.toNat_zero,Nat.sub_zero,Nat.zero_mul,a1]
   congr 1
   split
   ·rfl
   ·simp [Addr.add]
  rw [e]
  refine ⟨by show _=n * w; rw [List.length_take]; omega,R.2.1,.inr ⟨g,cur,a1,a2,a3,by show n<=s.cap; omega,a5,?_⟩⟩
  show cur.take (n * w)=_
  rw [← a6,List.take_take,Nat.min_eq_left hw]
end
end Go.Q.Yk
end
section
set_option maxRecDepth 100000
/- Strong: a log of one's own: whatever is done to it, it stays one. -/
namespace Go.Q.Yk
open Go.Q.Sg
theorem wrap64 (n:Int):IntKind.u64.wrap n=n % 18446744073709551616:=by
 unfold IntKind.wrap
 simp only [IntKind.signed,IntKind.bits,Bool.false_eq_true,if_false]
 rfl
def entOk (es:List Ent):Prop:=∀ e∈es,u64 e.1/\isB e.2/\e.2.length<=1000000
structure LogW (C:Nat) (h:Heap) (b:Nat) (ix tm:Int) (s:Slc) (us:List S_api_Entry) (es:List Ent):Prop where
 k:Blk h b (S_rlog_Log.cs ⟨ix,tm,s⟩) 191
 r:Row C h 117 2 s (us.flatMap S_api_Entry.cs)
 m:Many (EntR C h) us es
 x:u64 ix
 ok:entOk es
 sz:es.length<=1000
 cb:C<=b
section
variable {C b:Nat} {h:Heap} {ix tm p t:Int} {s:Slc} {us:List S_api_Entry} {es:List Ent}
theorem row_len2 {us:List S_api_Entry} {es:List Ent} {s:Slc} {h:Heap} (R:Row C h 117 2 s (us.flatMap S_api_Entry.cs)) (M:Many (EntR C h) us es):s.len=es.length:=by
 have:=R.1
 rw [Go.Q.Rw.fm_len (w:=2) (fun x=>rfl)] at this
 have:=M.l
 omega
theorem LogW.l (L:LogW C h b ix tm s us es):s.len=es.length:=row_len2 L.r L.m
theorem row_it {us:List S_api_Entry} {es:List Ent} {s:Slc} {h:Heap} (R:Row C h 117 2 s (us.flatMap S_api_Entry.cs)) (M:Many (EntR C h) us es) {i:Int} (i0:0<=i) (i1:i < es.length):∃ a u,s.a=some a/\cellH h (a.add (i.toNat * 2))=some (.int .u64 (S_api_Entry.f_Term u)):=by
 obtain ⟨a,u,ha,_,_,_,hc⟩:=(ls_ents R M).1.it i0 (by have:=M.l; omega)
 exact ⟨a,u,ha,cls0 hc rfl⟩
theorem last_w {k:Int × Int->Heap->Prop} (L:LogW C h b ix tm s us es) (H:∀ l t,(l=(ix + es.length) % 18446744073709551616)->k (l,t) h):rlog_Log_Last (some ⟨b,0,none⟩) k h:=by
 have sl:=L.l
 have sz:=L.sz
 have x:=L.x
 unfold u64 at x
 unfold rlog_Log_Last
 rw [if_neg (by simp)]
 refine ⟨_,rfl,s,L.k.cl rfl,_,rfl,?_⟩
 by_cases c:(s.len:Int) > 0
 ·rw [if_pos (by rw [decide_eq_true_eq]; exact c)]
  refine ⟨_,L.k.cl0 rfl,s,L.k.cl rfl,?_⟩
  rw [wrapI64 (x:=(s.len:Int) - 1) (by omega) (by omega)]
  obtain ⟨a,u,ha,hc⟩:=row_it L.r L.m (i:=(s.len:Int) - 1) (by omega) (by omega)
  refine ⟨a,ha,by omega,by omega,_,hc,H _ _ ?_⟩
  rw [wrap64,wrap64]
  show (ix + _) % _=_
  omega
 ·rw [if_neg (by rw [decide_eq_true_eq]; exact c)]
  exact ⟨_,L.k.cl0 rfl,_,L.k.cl rfl,H _ _ (by show ix=_; omega)⟩
theorem term_w {k:Int × Int->Heap->Prop} (L:LogW C h b ix tm s us es) (p0:u64 p) (H:∀ t e,(e=0->ix<=p/\p<=ix + es.length)->k (t,e) h):rlog_Log_Term (some ⟨b,0,none⟩) p k h:=by
 have sl:=L.l
 have sz:=L.sz
 have x:=L.x
 unfold u64 at x p0
 unfold rlog_Log_Term rlog_Log_Base
 rw [if_neg (by simp)]
 refine ⟨_,rfl,_,L.k.cl0 rfl,_,L.k.cl rfl,last_w L fun l t hl=>?_⟩
 dsimp only
 by_cases c1:p < ix
 ·rw [if_pos (by rw [decide_eq_true_eq]; exact c1)]
  exact H _ _ fun q=>by cases q
 rw [if_neg (by rw [decide_eq_true_eq]; exact c1)]
 by_cases c2:p > l
 ·rw [if_pos (by rw [decide_eq_true_eq]; exact c2)]
  exact H _ _ fun q=>by cases q
 rw [if_neg (by rw [decide_eq_true_eq]; exact c2)]
 have bd:p<=ix + es.length:=by omega
 by_cases c3:p=ix
 ·rw [if_pos (by simpa using c3)]
  exact H _ _ fun _=>⟨by omega,bd⟩
 rw [if_neg (by simpa using c3)]
 refine ⟨_,rfl,s,L.k.cl rfl,?_⟩
 rw [wrap64,wrap64,show ((p - ix) % 18446744073709551616 - 1) % 18446744073709551616=p - ix - 1 from by omega]
 obtain ⟨a,u,ha,hc⟩:=row_it L.r L.m (i:=p - ix - 1) (by omega) (by omega)
 exact ⟨a,ha,by omega,by omega,_,hc,H _ _ fun _=>⟨by omega,bd⟩⟩
theorem match_w {k:Bool->Heap->Prop} (L:LogW C h b ix tm s us es) (p0:u64 p) (H:∀ r:Bool,(r=true->ix<=p/\p<=ix + es.length)->k r h):rlog_Log_Match (some ⟨b,0,none⟩) p t k h:=by
 unfold rlog_Log_Match
 refine term_w L p0 fun t' e he=>H _ fun q=>?_
 simp only [Bool.and_eq_true,beq_iff_eq] at q
 exact he q.1
/-- a beginning of a row, with no room behind it -/
theorem row_cap {B E w n:Nat} {s:Slc} {xs:List Value} {h:Heap} (R:Row B h E w s xs) (hn:n<=s.len):Row B h E w (subS s w (0:Int).toNat n n) (xs.take (n * w)):=by
 have hl:=R.1
 have hm:=R.2.1
 have hw:n * w<=s.len * w:=Nat.mul_le_mul_right _ hn
 have e:subS s w (0:Int).toNat n n=⟨s.a,n,n⟩:=by
  simp only [subS,Int.toNat_zero,Nat.sub_zero,Nat.zero_mul]
  congr 1
  split
  ·rfl
  ·cases s.a <;> simp [Addr.add]
 rw [e]
 have hcap:=R.cap
 refine ⟨by show _=n * w; rw [List.length_take]; omega,by show n<=maxLen; omega,?_⟩
 rcases R.2.2 with ⟨k1,k2,k3⟩ | ⟨g,cur,a1,a2,a3,a4,a5,a6⟩
 ·exact .inl ⟨k1,by show n=0; omega,by show n=0; omega⟩
 ·refine .inr ⟨g,cur,a1,a2,a3,Nat.le_refl _,?_,?_⟩
  ·show n * w<=cur.length
   have:s.len * w<=s.cap * w:=Nat.mul_le_mul_right _ hcap
   omega
  ·show cur.take (n * w)=_
   rw [← a6,List.take_take,Nat.min_eq_left hw]
theorem many_take {V α:Type} {R:V->α->Prop} {vs:List V} {xs:List α} (M:Many R vs xs) (n:Nat):Many R (vs.take n) (xs.take n) :=
 ⟨by simp [List.length_take,M.l],fun i v x hv hx=>by
  rw [List.getElem?_take] at hv hx
  split at hv
  ·rename_i q; rw [if_pos q] at hx; exact M.r i v x hv hx
  ·cases hv⟩
theorem fe_take (us:List S_api_Entry) (n:Nat):(us.flatMap S_api_Entry.cs).take (n * 2)=(us.take n).flatMap S_api_Entry.cs:=Go.Q.Rw.fm_take (w:=2) (fun _=>rfl) us n
/-- where the turns over the entries that come stand -/
def AppW (C b:Nat) (ix tm:Int) (s:Slc) (n:Nat) (h:Heap) (q:Slc × Int) (h':Heap):Prop :=
 0<=q.2/\q.2<=n/\Ext C h h'/\Blk h' b (S_rlog_Log.cs ⟨ix,tm,s⟩) 191/\∃ us es,Row C h' 117 2 q.1 (us.flatMap S_api_Entry.cs)/\Many (EntR C h') us es/\entOk es/\(es.length:Int)<=1000 + q.2
theorem app_more {b12:Nat} {now:Slc} {i:Int} {n:Nat} {h0 h:Heap} {v:S_api_Entry} {e:Ent} {t0:Option Addr} {t1 t8 t40:Int} {t39:Slc} {k:Int × Int->Heap->Prop} {nx:Slc × Int->Heap->Prop} (cz:C<=h.size) (i0:0<=i) (i1:i < n) (nb:n<=1000) (X0:Ext C h0 h) (K:Blk h b (S_rlog_Log.cs ⟨ix,tm,s⟩) 191) (R:Row C h 117 2 now (us.flatMap S_api_Entry.cs)) (M:Many (EntR C h) us es) (ok:entOk es) (sz:(es.length:Int)<=1000 + i)
  (P:Blk h b12 (S_api_Entry.cs v) 117) (E:EntAt h v e) (w:u64 e.1/\isB e.2/\e.2.length<=1000000)
  (H:∀ q h',AppW C b ix tm s n h0 q h'->q.2=i + 1->nx q h'):rlog_Log_Append_j4 t0 t1 t8 ⟨b12,0,none⟩ t39 t40 i now k nx h:=by
 unfold rlog_Log_Append_j4
 refine ⟨v,CellsAt.of_blk P,bx0 fun h2 P2 X2=>?_⟩
 have z2:=X2.size
 have L2:LsAt S_api_Entry.cs 2 h2 ⟨some ⟨h.size,0,none⟩,1,1⟩ [v]:=⟨rfl,fun j x hx=>by
  have hj:j=0:=by have:=(List.getElem?_eq_some_iff.1 hx).1; simp at this; exact this
  subst hj
  simp only [List.getElem?_cons_zero,Option.some.injEq] at hx
  subst hx
  exact ⟨_,rfl,by rw [Nat.zero_mul,show (⟨h.size,0,none⟩:Addr).add 0=⟨h.size,0,none⟩ from by simp [Addr.add]]; exact CellsAt.of_blk P2⟩⟩
 have M2:Many (EntAt h2) [v] [e]:=Many.nil.snoc (E.ext X2)
 refine rcopied_ok L2 M2 (by simp) (fun x hx=>by simp at hx; subst hx; exact w.2.2) fun s3 us3 h3 R3 M3 X3=>?_
 have z3:=X3.size
 have X13:Ext h.size h h3:=X2.trans (X3.mono z2)
 have l3:s3.len=1:=row_len2 R3 M3
 have l3':=M3.l
 refine ⟨_,R3.slc,?_⟩
 have Rn:=R.ext X13 fun g hg=>(R.bd hg).2
 have nl:=row_len2 R M
 have fl:(us3.flatMap S_api_Entry.cs).length=2:=by rw [Go.Q.Rw.fm_len (w:=2) (fun x=>rfl),l3']; rfl
 refine App.row Rn (by omega) rfl (by rw [fl,l3]) (fun x hx=>?_) (by omega) (by simp only [maxLen]; omega) fun s8 h8 R8 l8 z8 F8 _=>?_
 ·obtain ⟨y,_,hy⟩:=List.mem_flatMap.1 hx
  exact oneC (l:=S_api_Entry.cs y) (by kernel_rfl) x hy
 unfold rlog_Log_Append_j3
 rw [wrapI64 (x:=i + 1) (by omega) (by omega)]
 have ne:∀ g,g < h3.size->now.blk≠some g->h8[g]? = h3[g]?:=fun g h1 h2=>F8 g h1 h2
 have Kb:Blk h3 b (S_rlog_Log.cs ⟨ix,tm,s⟩) 191:=K.ext X13 K.lt
 refine H _ _ ⟨by dsimp only; omega,by dsimp only; omega,X0.trans ⟨by omega,fun g hg=>?_⟩,?_,us ++ us3,es ++ [e],by rw [List.flatMap_append]; exact R8,?_,fun x hx=>?_,by simp; omega⟩ rfl
 ·rw [ne g (by omega) fun q=>by have:=(R.bd q).1; omega,X13.block g (by omega)]
 ·exact Kb.old (ne b Kb.lt (Rn.ne_blk Kb (by decide)))
 ·have keep:∀ {c:Nat} {v:S_api_Entry} {e:Ent},EntR c h3 v e->EntR c h8 v e:=fun E=>⟨E.t,E.r.keep fun g hg=>ne g (E.r.bd hg).2 fun q=>Row.ne_row E.r Rn (by decide) hg q⟩
  have Ma:Many (EntR C h8) us es:=M.imp fun v e E=>keep ⟨E.t,E.r.ext X13 fun g hg=>(E.r.bd hg).2⟩
  have Mb:Many (EntR C h8) us3 [e]:=M3.imp fun v e E=>keep ⟨E.t,E.r.mono (by omega)⟩
  match us3,l3',Mb with
  | [u],_,Mb=>exact Ma.snoc (Mb.r 0 u e rfl rfl)
 ·rcases List.mem_append.1 hx with q | q
  ·exact ok x q
  ·simp at q; subst q; exact w
theorem app_loop {x3:Int} {p3:Slc} {vs:List S_api_Entry} {more:List Ent} {k:Int × Int->Heap->Prop} (L:LogW C h b ix tm s us es) (cz:C<=h.size) (A:∀ h',Ext C h h'->LsAt S_api_Entry.cs 2 h' p3 vs/\Many (EntAt h') vs more) (wm:entOk more)
  (p0:u64 p) (hm:more.length<=1000) (hp:p<=ix + 1000)
  (H:∀ r h' s' us' es',Ext C h h'->(r.2=0->LogW C h' b ix tm s' us' es'/\es'.length<=64)->k r h') :
  rlog_Log_Append_l2 (some ⟨b,0,none⟩) p x3 p3 (more.length:Int) s 0 k h:=by
 have x:=L.x
 unfold u64 at x p0
 refine ⟨AppW C b ix tm s more.length h,fun q _=>(more.length - q.2).toNat,⟨by simp,by simp,Ext.refl _ _,L.k,us,es,L.r,L.m,L.ok,by have:=L.sz; simp; omega⟩,?_⟩
 rintro now i h1 ⟨i0,i1,X1,K1,us1,es1,R1,M1,ok1,sz1⟩
 dsimp only at i0 i1 R1 sz1
 have z1:=X1.size
 have nl:=row_len2 R1 M1
 unfold rlog_Log_Append_l2b
 obtain ⟨Lm,Mm⟩:=A h1 X1
 have ml:=Mm.l
 have Ll:=Lm.l
 by_cases hi:i < more.length
 rotate_left
 ·rw [if_neg (by simpa using hi)]
  by_cases c:(now.len:Int) > 64
  ·rw [if_pos (by rw [decide_eq_true_eq]; exact c)]
   exact H _ h1 now us1 es1 X1 fun q=>by cases q
  ·rw [if_neg (by rw [decide_eq_true_eq]; exact c)]
   refine ⟨_,rfl,bset1 K1 (by show 2 < 3; omega) fun h2 K2 U2=>H _ h2 now us1 es1 (X1.trans (U2.ext L.cb (by omega))) fun _=>⟨⟨K2,R1.keep fun g hg=>U2.block g (R1.bd hg).2 fun q=>by subst q; exact R1.ne_blk K1 (by decide) hg,M1.imp fun v e E=>⟨E.t,E.r.keep fun g hg=>U2.block g (E.r.bd hg).2 fun q=>by subst q; exact E.r.ne_blk K1 (by decide) hg⟩,L.x,ok1,by omega,L.cb⟩,by omega⟩⟩
 rw [if_pos (by simpa using hi)]
 obtain ⟨a,v,ha,_,hlt,hv,hc⟩:=Lm.it i0 (by omega)
 obtain ⟨e,he⟩:∃ e,more[i.toNat]? = some e:=⟨_,List.getElem?_eq_getElem (by omega)⟩
 have E1:=Mm.r _ _ _ hv he
 have we:=wm e (List.mem_of_getElem? he)
 refine ⟨a,ha,i0,hlt,v,hc,bx (cs:=S_api_Entry.cs v) rfl (by show 2<=2; omega) fun h2 P2 X2=>?_⟩
 have z2:=X2.size
 have K2:Blk h2 b _ _:=K1.ext X2 K1.lt
 have R2:=R1.ext X2 fun g hg=>(R1.bd hg).2
 have M2:Many (EntR C h2) us1 es1:=M1.imp fun v e E=>⟨E.t,E.r.ext X2 fun g hg=>(E.r.bd hg).2⟩
 have X02:Ext C h h2:=X1.trans (X2.mono (by omega))
 refine ⟨_,rfl,_,rfl,_,K2.cl0 rfl,?_⟩
 have skip:∀ {t39:Slc},rlog_Log_Append_j3 (some ⟨b,0,none⟩) p x3 t39 (more.length:Int) i now k (fun s' h'=>AppW C b ix tm s more.length h s' h'/\((more.length:Int) - s'.2).toNat < ((more.length:Int) - i).toNat) h2:=fun {t39}=>by
  unfold rlog_Log_Append_j3
  rw [wrapI64 (x:=i + 1) (by omega) (by omega)]
  exact ⟨⟨by dsimp only; omega,by dsimp only; omega,X02,K2,us1,es1,R2,M2,ok1,by dsimp only; omega⟩,by dsimp only; omega⟩
 have add:∀ {t39 nw:Slc} {us2:List S_api_Entry} {es2:List Ent},Row C h2 117 2 nw (us2.flatMap S_api_Entry.cs)->Many (EntR C h2) us2 es2->entOk es2->(es2.length:Int)<=1000 + i->rlog_Log_Append_j4 (some ⟨b,0,none⟩) p x3 ⟨h1.size,0,none⟩ t39 (more.length:Int) i nw k (fun s' h'=>AppW C b ix tm s more.length h s' h'/\((more.length:Int) - s'.2).toNat < ((more.length:Int) - i).toNat) h2:=fun {t39 nw us2 es2} R3 M3 ok3 sz3 =>
  app_more (by omega) i0 (by omega) hm X02 K2 R3 M3 ok3 sz3 P2 (E1.ext X2) we fun q h' A' e'=>⟨A',by rw [e']; omega⟩
 rw [wrap64,wrap64,wrap64]
 by_cases c1:((p + i % 18446744073709551616) % 18446744073709551616 + 1) % 18446744073709551616<=ix
 ·rw [if_pos (by rw [decide_eq_true_eq]; exact c1)]
  exact skip
 rw [if_neg (by rw [decide_eq_true_eq]; exact c1)]
 refine ⟨_,K2.cl0 rfl,_,rfl,?_⟩
 generalize hat:((p + i % 18446744073709551616) % 18446744073709551616 + 1) % 18446744073709551616=at' at c1 ⊢
 rw [wrap64,wrap64,show ((at' - ix) % 18446744073709551616 - 1) % 18446744073709551616=at' - ix - 1 from by omega,wrapI64 (x:=at' - ix - 1) (by omega) (by omega)]
 by_cases c2:at' - ix - 1 < (now.len:Int)
 rotate_left
 ·rw [if_neg (by rw [decide_eq_true_eq]; exact c2)]
  exact add R2 M2 ok1 (by omega)
 rw [if_pos (by rw [decide_eq_true_eq]; exact c2)]
 obtain ⟨a',u',ha',hc'⟩:=row_it R2 M2 (i:=at' - ix - 1) (by omega) (by omega)
 refine ⟨a',ha',by omega,c2,_,hc',v.f_Term,P2.cl0 rfl,?_⟩
 by_cases c3:u'.f_Term=v.f_Term
 ·rw [if_pos (by simpa using c3)]
  exact skip
 rw [if_neg (by simpa using c3)]
 have hcap:=R2.cap
 refine ⟨_,by omega,by omega,Int.le_refl _,by omega,rfl,?_⟩
 have Rc:=row_cap R2 (n:=(at' - ix - 1).toNat) (by omega)
 rw [fe_take] at Rc
 exact add Rc (many_take M2 _) (fun e he=>ok1 e (List.mem_of_mem_take he)) (by rw [List.length_take]; omega)
theorem append_w {p3:Slc} {vs:List S_api_Entry} {more:List Ent} {k:Int × Int->Heap->Prop} (L:LogW C h b ix tm s us es) (cz:C<=h.size) (A:∀ h',Ext C h h'->LsAt S_api_Entry.cs 2 h' p3 vs/\Many (EntAt h') vs more) (wm:entOk more)
  (p0:u64 p) (hm:more.length<=1000)
  (H:∀ r h' s' us' es',Ext C h h'->(r.2=0->LogW C h' b ix tm s' us' es'/\es'.length<=64)->k r h'):rlog_Log_Append (some ⟨b,0,none⟩) p t p3 k h:=by
 have x:=L.x
 have sz:=L.sz
 obtain ⟨Lm,Mm⟩:=A h (Ext.refl _ _)
 have ml:=Mm.l
 have Ll:=Lm.l
 have bad:∀ c,k (0,c) h∨True:=fun c=>.inr trivial
 have go:p<=ix + 1000->rlog_Log_Append_g1 (some ⟨b,0,none⟩) p p3 false k h:=fun hp=>by
  unfold rlog_Log_Append_g1
  rw [if_neg (by simp)]
  refine ⟨_,rfl,_,rfl,s,L.k.cl rfl,?_⟩
  rw [show (p3.len:Int)=(more.length:Int) from by omega]
  exact app_loop L cz A wm p0 hm hp H
 unfold rlog_Log_Append
 rw [if_neg (by simp)]
 refine ⟨_,rfl,_,L.k.cl0 rfl,?_⟩
 by_cases hp:p>=ix
 ·rw [if_pos (by simpa using hp)]
  refine match_w L p0 fun r hr=>?_
  cases r with
  | true=>exact go (by have:=hr rfl; omega)
  | false =>
   show rlog_Log_Append_g1 _ _ _ true _ _
   unfold rlog_Log_Append_g1
   rw [if_pos rfl]
   exact H _ h s us es (Ext.refl _ _) fun q=>by cases q
 ·rw [if_neg (by simpa using hp)]
  exact go (by omega)
end
end Go.Q.Yk
end

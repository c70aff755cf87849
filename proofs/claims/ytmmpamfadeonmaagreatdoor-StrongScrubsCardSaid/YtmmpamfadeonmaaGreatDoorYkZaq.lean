/- A part of the proof of statements of this seat: lemmas, no statement of their own. -/
import Derived.Test.YtmmpamfadeonmaaGreatDoorYkZap
import Derived.Shelf.SlGeneric
import Derived.Shelf.SlIterI.Nil
import Derived.Shelf.SlIter.Nil
import Derived.Shelf.SortM.Plain
import Derived.Shelf.SortM.SortNone
import Derived.Test.YtmmpamfadeonmaaGreatDoorProg
import Derived.Test.YtmmpamfadeonmaaGreatDoorYkZae
import Derived.Test.YtmmpamfadeonmaaGreatDoorYkZai
set_option linter.unusedVariables false
set_option linter.unusedSimpArgs false
section
set_option maxRecDepth 100000
/- Strong: what is kept is read: up to the chains. -/
namespace Go.Q.Yk
open Go.Q.Sg
theorem mem_y {v:S_api_Mem} {y:List Int} (hy:y.length=32):(S_api_Mem.cs v).take 6 ++ b8 y ++ (S_api_Mem.cs v).drop (6 + 32)=S_api_Mem.cs { v with f_Share:=⟨v.f_Share.f_X,y⟩ }:=by
 rw [show b8 y=arr 32 .u8 y from (arr_full hy).symm]; rfl
theorem mem_p {v:S_api_Mem} {y:List Int} (hy:y.length=32):(S_api_Mem.cs v).take 38 ++ b8 y ++ (S_api_Mem.cs v).drop (38 + 32)=S_api_Mem.cs { v with f_Proof:=y }:=by
 rw [show b8 y=arr 32 .u8 y from (arr_full hy).symm]; rfl
/-- what is left to be read behind the entries -/
def restC (n:Nat):=(listC n chC).bind fun _=>(manyC boxC).bind fun _=>shortC
section
variable {h0 h:Heap} {r q:Nat} {l l':List Int} {v:S_api_Mem} {m:MemV}
/-- behind the first five numbers -/
abbrev v1M (m:MemV) (y p:List Int) (s1 s2:Slc):S_api_Mem:=⟨m.node,m.n,m.t,m.boot,m.lease,⟨0,y⟩,p,m.term,m.vote,m.base,m.bterm,s1,s2,⟨none,0,0⟩,⟨none,0,0⟩,0⟩
theorem SGet_head {s:Slc} {k:S_api_Mem × Int->Heap->Prop} (hs:∀ h',Ext h0.size h0 h'->SlcAt h' s (b8 l)) (sl:s.len=l.length) (sc:s.len<=s.cap) (hB:isB l) (hz:l.length<=1000000) (w:WfM m) (cn:cntsM m) (e:memC.get l=some (m.tup,[]))
  (H:∀ r q sx s1 s2 l' h',GS h0 h' r q l' (v1M m m.y m.p s1 s2)->GRow (q + 1) h' (v1M m m.y m.p s1 s2) m sx->(restC m.n.toNat).get l'=some ((m.chains,m.boxes,m.clean),[])->strong_Get_l1 (⟨h0.size,0,none⟩:Addr) (⟨r,0,none⟩:Addr) (⟨q,0,none⟩:Addr) sx 0 k h'):strong_Get s k h0:=by
 obtain ⟨c1,c2,c3,c4,c5,c6,c7,c8,c9⟩:=cn
 obtain ⟨l1,e1,e⟩:=bind_parts e
 obtain ⟨l2,e2,e⟩:=bind_parts e
 obtain ⟨l3,e3,e⟩:=bind_parts e
 obtain ⟨l4,e4,e⟩:=bind_parts e
 obtain ⟨l5,e5,e⟩:=bind_parts e
 obtain ⟨l6,e6,e⟩:=bind_parts e
 obtain ⟨l7,e7,e⟩:=bind_parts e
 obtain ⟨l8,e8,e⟩:=bind_parts e
 obtain ⟨l9,e9,e⟩:=bind_parts e
 obtain ⟨l10,e10,e⟩:=bind_parts e
 obtain ⟨l11,e11,e⟩:=bind_parts e
 obtain ⟨l12,e12,e⟩:=bind_parts e
 obtain ⟨l13,e13,e⟩:=bind_parts e
 obtain ⟨l14,e14,e⟩:=bind_parts e
 have e1:cntC.get l=some (m.node,l1):=e1
 have e2:cntC.get l1=some (m.n,l2):=e2
 have e3:cntC.get l2=some (m.t,l3):=e3
 have e4:getS l3=some (m.boot,l4):=e4
 have e5:getS l4=some (m.lease,l5):=e5
 have e6:(bytesC 1).get l5=some (m.x,l6):=e6
 have e7:(bytesC 32).get l6=some (m.y,l7):=e7
 have e8:(bytesC 32).get l7=some (m.p,l8):=e8
 have e9:getS l8=some (m.term,l9):=e9
 have e10:cntC.get l9=some (m.vote,l10):=e10
 have e11:getS l10=some (m.base,l11):=e11
 have e12:getS l11=some (m.bterm,l12):=e12
 have e13:txC.get l12=some (m.snap,l13):=e13
 have e14:(manyC entC).get l13=some (m.ents,l14):=e14
 have e:(restC m.n.toNat).get l14=some ((m.chains,m.boxes,m.clean),[]):=e
 obtain ⟨x1,x2,x3⟩:=bytes_parts e6
 obtain ⟨y1,y2,y3⟩:=bytes_parts e7
 obtain ⟨p1,p2,p3⟩:=bytes_parts e8
 have yl:=w.yl
 have pl:=w.pl
 unfold strong_Get
 refine bx0 fun h2 P2 X2=>bx0 fun h4 Q4 X4=>?_
 have z2:=X2.size
 have z4:=X4.size
 obtain ⟨r,er⟩:∃ r,r=h2.size:=⟨_,rfl⟩
 rw [← er] at Q4 ⊢
 have X04:Ext h0.size h0 h4:=X2.trans (X4.mono z2)
 have p2':=P2.lt
 have P4:=P2.ext X4 p2'
 have R4:Rd h0.size h4 r l:=⟨s,Q4,⟨by omega,fun h' Y=>hs h' (X04.trans Y)⟩,sl,sc,hB,hz⟩
 refine rcount_ok R4 e1 (by omega) fun h5 R5 U5=>rcount_ok R5 e2 (by omega) fun h6 R6 U6=>rcount_ok R6 e3 (by omega) fun h7 R7 U7=>rshort_ok R7 e4 fun h8 R8 U8=>rshort_ok R8 e5 fun h9 R9 U9=>?_
 have U49:=(((U5.trans U6).trans U7).trans U8).trans U9
 have z9:=U49.size
 have P9:=U49.blk P4 (by omega)
 have X09:=X04.trans (U49.ext (B:=h0.size) (by omega) X04.size)
 have r9:=R9.lt
 refine bx (cs:=S_api_Mem.cs ⟨m.node,m.n,m.t,m.boot,m.lease,⟨0,[]⟩,[],0,0,0,0,⟨none,0,0⟩,⟨none,0,0⟩,⟨none,0,0⟩,⟨none,0,0⟩,0⟩) rfl (by show 79<=79; omega) fun h10 Q10 X10=>?_
 obtain ⟨q,eq⟩:∃ q,q=h9.size:=⟨_,rfl⟩
 rw [← eq] at Q10 ⊢
 have z10:=X10.size
 have q10:=Q10.lt
 have G10:GS h0 h10 r q l5 _:=⟨P9.ext X10 (by omega),R9.ext X10,Q10,X09.trans (X10.mono X09.size),by omega,by omega⟩
 refine rbytes_ok G10.R (by omega) (by omega) fun sx h11 R11 U11 Rx=>?_
 rw [show (1:Int).toNat=1 from rfl,← x3] at R11
 rw [show (1:Int).toNat=1 from rfl,← x2] at Rx
 have G11:=G10.upd U11 R11
 have Rx:=Rx.mono (show q + 1<=h10.size by omega)
 rw [add2,show subS ⟨some ((⟨q,0,none⟩:Addr).add (5 + 1)),32,32⟩ 1 (0:Int).toNat (32:Int).toNat 32=⟨some ((⟨q,0,none⟩:Addr).add (5 + 1)),32,32⟩ from subF,show subS ⟨some ((⟨q,0,none⟩:Addr).add 38),32,32⟩ 1 (0:Int).toNat (32:Int).toNat 32=⟨some ((⟨q,0,none⟩:Addr).add 38),32,32⟩ from subF]
 refine ⟨_,by omega,by omega,by omega,rfl,rarray_ok (off:=5 + 1) (n:=32) G11.R G11.Q (by omega) (by omega) (by show 6 + 32<=79; omega) y1 (by omega) fun h12 R12 F12 z12 Q12=>?_⟩
 rw [← y3] at R12
 rw [← y2] at Q12
 have Q12:Blk h12 q (S_api_Mem.cs (⟨m.node,m.n,m.t,m.boot,m.lease,⟨0,m.y⟩,[],0,0,0,0,⟨none,0,0⟩,⟨none,0,0⟩,⟨none,0,0⟩,⟨none,0,0⟩,0⟩:S_api_Mem)) 33:=by
  have:=mem_y (v:=(⟨m.node,m.n,m.t,m.boot,m.lease,⟨0,[]⟩,[],0,0,0,0,⟨none,0,0⟩,⟨none,0,0⟩,⟨none,0,0⟩,⟨none,0,0⟩,0⟩:S_api_Mem)) yl
  rw [← this]; exact Q12
 have U1112:Up2 r q h11 h12:=⟨z12,fun g h1 h2 h3=>F12 g h1 h3 h2⟩
 have X1112:Ext h0.size h11 h12:=⟨z12,fun g hg=>F12 g (by have:=G11.X.size; omega) (by omega) (by omega)⟩
 have G12:GS h0 h12 r q l7 _:=⟨G11.P.old (F12 _ G11.P.lt (by omega) (by omega)),R12,Q12,G11.X.trans X1112,G11.o1,G11.o2⟩
 have Rx:=U1112.row Rx (by omega) (by omega)
 refine ⟨_,by omega,by omega,by omega,rfl,rarray_ok (off:=38) (n:=32) G12.R G12.Q (by omega) (by omega) (by show 38 + 32<=79; omega) p1 (by omega) fun h13 R13 F13 z13 Q13=>?_⟩
 rw [← p3] at R13
 rw [← p2] at Q13
 have Q13:Blk h13 q (S_api_Mem.cs (⟨m.node,m.n,m.t,m.boot,m.lease,⟨0,m.y⟩,m.p,0,0,0,0,⟨none,0,0⟩,⟨none,0,0⟩,⟨none,0,0⟩,⟨none,0,0⟩,0⟩:S_api_Mem)) 33:=by
  have:=mem_p (v:=(⟨m.node,m.n,m.t,m.boot,m.lease,⟨0,m.y⟩,[],0,0,0,0,⟨none,0,0⟩,⟨none,0,0⟩,⟨none,0,0⟩,⟨none,0,0⟩,0⟩:S_api_Mem)) pl
  rw [← this]; exact Q13
 have U1213:Up2 r q h12 h13:=⟨z13,fun g h1 h2 h3=>F13 g h1 h3 h2⟩
 have X1213:Ext h0.size h12 h13:=⟨z13,fun g hg=>F13 g (by have:=G12.X.size; omega) (by omega) (by omega)⟩
 have G13:GS h0 h13 r q l8 _:=⟨G12.P.old (F13 _ G12.P.lt (by omega) (by omega)),R13,Q13,G12.X.trans X1213,G12.o1,G12.o2⟩
 have Rx:=U1213.row Rx (by omega) (by omega)
 refine rshort_ok G13.R e9 fun h14 R14 U14=>?_
 have G14:=G13.upd U14 R14
 refine rcount_ok R14 e10 (by omega) fun h15 R15 U15=>?_
 have G15:=G14.upd U15 R15
 refine bset1 G15.Q (by show 70 < 79; omega) fun h16 Q16 U16=>?_
 have G16:=G15.set (v':=(⟨m.node,m.n,m.t,m.boot,m.lease,⟨0,m.y⟩,m.p,m.term,0,0,0,⟨none,0,0⟩,⟨none,0,0⟩,⟨none,0,0⟩,⟨none,0,0⟩,0⟩:S_api_Mem)) U16 Q16
 refine bset1 G16.Q (by show 71 < 79; omega) fun h17 Q17 U17=>?_
 have G17:=G16.set (v':=(⟨m.node,m.n,m.t,m.boot,m.lease,⟨0,m.y⟩,m.p,m.term,m.vote,0,0,⟨none,0,0⟩,⟨none,0,0⟩,⟨none,0,0⟩,⟨none,0,0⟩,0⟩:S_api_Mem)) U17 Q17
 refine rshort_ok G17.R e11 fun h18 R18 U18=>?_
 have G18:=G17.upd U18 R18
 refine rshort_ok R18 e12 fun h19 R19 U19=>?_
 have G19:=G18.upd U19 R19
 refine bset1 G19.Q (by show 72 < 79; omega) fun h20 Q20 U20=>?_
 have G20:=G19.set (v':=(⟨m.node,m.n,m.t,m.boot,m.lease,⟨0,m.y⟩,m.p,m.term,m.vote,m.base,0,⟨none,0,0⟩,⟨none,0,0⟩,⟨none,0,0⟩,⟨none,0,0⟩,0⟩:S_api_Mem)) U20 Q20
 refine bset1 G20.Q (by show 73 < 79; omega) fun h21 Q21 U21=>?_
 have G21:=G20.set (v':=(⟨m.node,m.n,m.t,m.boot,m.lease,⟨0,m.y⟩,m.p,m.term,m.vote,m.base,m.bterm,⟨none,0,0⟩,⟨none,0,0⟩,⟨none,0,0⟩,⟨none,0,0⟩,0⟩:S_api_Mem)) U21 Q21
 refine rtext_ok G21.R e13 fun s1 h22 R22 U22 Rs=>?_
 have G22:=G21.upd U22 R22
 refine bset1 G22.Q (by show 74 < 79; omega) fun h23 Q23 U23=>?_
 have G23:=G22.set (v':=(⟨m.node,m.n,m.t,m.boot,m.lease,⟨0,m.y⟩,m.p,m.term,m.vote,m.base,m.bterm,s1,⟨none,0,0⟩,⟨none,0,0⟩,⟨none,0,0⟩,0⟩:S_api_Mem)) U23 Q23
 refine rents_ok G23.R e14 fun s2 vs h24 R24 U24 Re Me=>?_
 have G24:=G23.upd U24 R24
 refine bset1 G24.Q (by show 75 < 79; omega) fun h25 Q25 U25=>?_
 have G25:=G24.set (v':=v1M m m.y m.p s1 s2) U25 Q25
 have q21:=G21.Q.lt
 have q23:=G23.Q.lt
 have U1321:Up2 r q h13 h21:=(Up2.r U14).trans ((Up2.r U15).trans ((Up2.q U16).trans ((Up2.q U17).trans ((Up2.r U18).trans ((Up2.r U19).trans ((Up2.q U20).trans (Up2.q U21)))))))
 have U2225:Up2 r q h22 h25:=(Up2.q U23).trans ((Up2.r U24).trans (Up2.q U25))
 have U2425:Up2 r q h24 h25:=Up2.q U25
 have Rs:=Rs.mono (show q + 1<=h21.size by omega)
 have Re:=Re.mono (show q + 1<=h23.size by omega)
 refine H r q sx s1 s2 l14 h25 G25 ⟨(U1321.trans ((Up2.r U22).trans U2225)).row Rx (by omega) (by omega),U2225.row Rs (by omega) (by omega),vs,U2425.row Re (by omega) (by omega),Me.imp fun v e E=>⟨E.t,U2425.row (E.r.mono (show q + 1<=h23.size by omega)) (by omega) (by omega)⟩⟩ e
end
end Go.Q.Yk
end
section
set_option maxRecDepth 100000
/- Strong: what is kept is read: from the chains on. -/
namespace Go.Q.Yk
open Go.Q.Sg
theorem lsOf {α:Type} {cs:α->List Value} {w:Nat} (hc:∀ x,(cs x).length=w) {h:Heap} {s:Slc} {xs:List α} (S:SlcAt h s (xs.flatMap cs)) (hl:s.len=xs.length) (hw:0 < w):LsAt cs w h s xs:=by
 refine ⟨hl,fun i x hx=>?_⟩
 have h0:(xs.flatMap cs)[i * w + 0]? = (cs x)[0]?:=by rw [Go.Q.Rw.fm_get hc xs i 0 hw,hx]; rfl
 obtain ⟨v0,hv0⟩:∃ v,(cs x)[0]? = some v:=⟨_,List.getElem?_eq_getElem (by rw [hc]; exact hw)⟩
 rw [hv0] at h0
 obtain ⟨a,ha,_⟩:=slc_get S h0
 refine ⟨a,ha,fun j v hj=>?_⟩
 have hj2:j < w:=by have:=(List.getElem?_eq_some_iff.1 hj).1; rw [hc] at this; exact this
 rw [Go.Q.Rw.add_add2]
 refine S.2 a ha _ v ?_
 rw [Go.Q.Rw.fm_get hc xs i j hj2,hx]; exact hj
section
variable {h0 h:Heap} {r q:Nat} {l l':List Int} {m:MemV}
abbrev v2M (m:MemV) (s1 s2 sc:Slc):S_api_Mem:={ v1M m m.y m.p s1 s2 with f_Chains:=sc }
theorem SGet_tail {sx s1 s2:Slc} {k:S_api_Mem × Int->Heap->Prop} (w:WfM m) (cM:chkM m=0) (cn:cntsM m) (G:GS h0 h r q l (v1M m m.y m.p s1 s2)) (GR:GRow (q + 1) h (v1M m m.y m.p s1 s2) m sx) (e:(restC m.n.toNat).get l=some ((m.chains,m.boxes,m.clean),[]))
  (H:∀ v h',MemH h0.size h' v m->Ext h0.size h0 h'->k (v,0) h'):strong_Get_l1 (⟨h0.size,0,none⟩:Addr) (⟨r,0,none⟩:Addr) (⟨q,0,none⟩:Addr) sx 0 k h:=by
 obtain ⟨c1,c2,c3,c4,c5,c6,c7,c8,c9⟩:=cn
 obtain ⟨l1,e1,e⟩:=bind_parts e
 obtain ⟨l2,e2,e3⟩:=bind_parts e
 have e1:getN chC m.n.toNat l=some (m.chains,l1):=e1
 have e2:(manyC boxC).get l1=some (m.boxes,l2):=e2
 have e3:getS l2=some (m.clean,[]):=e3
 have o1:=G.o1
 have o2:=G.o2
 unfold strong_Get_l1
 refine ⟨fun i h'=>∃ done rest cs lc sc,m.chains=done ++ rest/\i=(done.length:Int)/\getN chC rest.length lc=some (rest,l1)/\GS h0 h' r q lc (v2M m s1 s2 sc)/\Row (q + 1) h' 35 33 sc (cs.flatMap S_api_Chain.cs)/\Many ChAt cs done/\GRow (q + 1) h' (v2M m s1 s2 sc) m sx,fun i _=>(m.n - i).toNat,⟨[],m.chains,[],l,⟨none,0,0⟩,rfl,rfl,by rw [show m.chains.length=m.n.toNat from by omega]; exact e1,G,Row.nil _ _ _ _,Many.nil,GR⟩,?_⟩
 rintro i h1 ⟨done,rest,cs,lc,sc,he,hi,gr,G1,Rc,Mc,GR1⟩
 have dl:done.length + rest.length=m.chains.length:=by rw [he,List.length_append]
 have q1:=G1.Q.lt
 unfold strong_Get_l1b
 refine ⟨m.n,G1.Q.cl rfl,?_⟩
 cases rest with
 | cons x rest =>
  rw [List.length_cons] at dl
  rw [if_pos (by rw [decide_eq_true_eq]; omega)]
  obtain ⟨x',l3,ys,ex,ey,exy⟩:=getN_cons gr
  cases exy
  have R1':=G1.R
  obtain ⟨sr,K,_⟩:=R1'
  refine ⟨false,K.cl rfl,?_⟩
  unfold strong_Get_g2
  rw [if_pos (by simp)]
  refine ⟨sc,G1.Q.cl rfl,rchain_ok G1.R ex fun vc h2 Cc R2 U2=>?_⟩
  have G2:=G1.upd U2 R2
  have z2:=U2.size
  refine ⟨G2.Q.cl rfl,bx0 fun h3 P3 X3=>?_⟩
  have z3:=X3.size
  have U13:Up2 r q h1 h3:=(Up2.r U2).trans ⟨z3,fun g hg _ _=>X3.block g hg⟩
  have G3:GS h0 h3 r q l3 (v2M m s1 s2 sc):=⟨G2.P.ext X3 G2.P.lt,R2.ext X3,G2.Q.ext X3 G2.Q.lt,G2.X.trans (X3.mono G2.X.size),G2.o1,G2.o2⟩
  have Rc3:=U13.row Rc (by omega) (by omega)
  have GR3:=GR1.up2 U13 (by omega) (by omega)
  have sl:sc.len=done.length:=by
   have:=Rc.1
   rw [Go.Q.Rw.fm_len (w:=33) (fun x=>rfl)] at this
   have:=Mc.l
   omega
  refine ⟨G3.Q.cl rfl,App.row Rc3 (by have:=G3.Q.lt; omega) rfl rfl (oneC (by kernel_rfl)) (by omega) (by simp only [maxLen]; omega) fun s4 h4 R4 l4 z4 F4 _=>?_⟩
  have sb:∀ g,sc.blk=some g->q + 1<=g:=fun g hg=>(Rc3.bd hg).1
  have old4:∀ g,g < h3.size->g<=q->h4[g]? = h3[g]?:=fun g hg hg2=>F4 g hg fun p=>by have:=sb g p; omega
  have X34:Ext h0.size h3 h4:=⟨z4,fun g hg=>old4 g (by have:=G3.X.size; omega) (by omega)⟩
  have G4:GS h0 h4 r q l3 (v2M m s1 s2 sc):=⟨G3.P.old (old4 _ G3.P.lt (by omega)),G3.R.keep X34 (old4 r G3.R.lt (by omega)),G3.Q.old (old4 q G3.Q.lt (Nat.le_refl _)),G3.X.trans X34,G3.o1,G3.o2⟩
  have GR4:GRow (q + 1) h4 (v2M m s1 s2 sc) m sx:=GR3.keep (fun g h1 h2 h3=>F4 g h2 (h3 sc rfl)) fun g s E w xs hE R hg=>Row.ne_row R Rc3 (by rcases hE with rfl | rfl <;> decide) hg
  refine bset1 G4.Q (by show 76 < 79; omega) fun h5 Q5 U5=>⟨_,rfl,?_⟩
  have G5:=G4.set (v':=v2M m s1 s2 s4) U5 Q5
  have GR5:=GR4.up2 (r:=r) (Up2.q U5) (by omega) (by omega)
  rw [wrapI64 (x:=i + 1) (by omega) (by omega)]
  refine ⟨⟨done ++ [x],rest,cs ++ [vc],l3,s4,by rw [he,List.append_assoc]; rfl,by rw [List.length_append,List.length_singleton]; omega,ey,G5,?_,Mc.snoc Cc,⟨GR5.x,GR5.snap,GR5.ents⟩⟩,by dsimp only; omega⟩
  rw [List.flatMap_append]
  have:=(Up2.q (r:=r) U5).row R4 (by omega) (by omega)
  simpa using this
 | nil =>
  rw [List.length_nil] at dl
  rw [if_neg (by rw [decide_eq_true_eq]; omega)]
  cases gr
  rw [List.append_nil] at he
  rw [← he] at Mc
  unfold strong_Get_g2
  rw [if_neg (by simp)]
  refine rsev_ok G1.R e2 fun sbx bs h2 R2 U2 Rb Mb=>?_
  have G2:=G1.upd U2 R2
  refine bset1 G2.Q (by show 77 < 79; omega) fun h3 Q3 U3=>?_
  have G3:=G2.set (v':={ v2M m s1 s2 sc with f_Boxes:=sbx }) U3 Q3
  refine rshort_ok G3.R e3 fun h4 R4 U4=>?_
  have G4:=G3.upd U4 R4
  refine bset1 G4.Q (by show 78 < 79; omega) fun h5 Q5 U5=>?_
  have G5:=G4.set (v':={ v2M m s1 s2 sc with f_Boxes:=sbx,f_Clean:=m.clean }) U5 Q5
  have q2:=G2.Q.lt
  have U15:Up2 r q h1 h5:=(Up2.r U2).trans ((Up2.q U3).trans ((Up2.r U4).trans (Up2.q U5)))
  have U25:Up2 r q h2 h5:=(Up2.q U3).trans ((Up2.r U4).trans (Up2.q U5))
  have R5':=G5.R
  obtain ⟨sr,K,_,srl,_⟩:=R5'
  refine ⟨false,K.cl rfl,?_⟩
  rw [if_neg (by simp)]
  refine ⟨sr,K.cl0 rfl,?_⟩
  rw [show decide ((sr.len:Int) > 0)=false from by rw [srl]; rfl]
  unfold strong_Get_g3
  rw [if_neg (by simp)]
  have GR5:=GR1.up2 U15 (by omega) (by omega)
  have Rc5:=U15.row Rc (by omega) (by omega)
  have Rb:=Rb.mono (show q + 1<=h1.size by omega)
  have Rb5:=U25.row Rb (by omega) (by omega)
  have Mb5:Many (BoxR (q + 1) h5) bs m.boxes:=Mb.imp fun v b E=>⟨E.t,E.e,E.n,U25.row (E.r.mono (show q + 1<=h1.size by omega)) (by omega) (by omega)⟩
  have xl:=w.xl
  obtain ⟨x,hx⟩:∃ x,m.x=[x]:=by
   match hm:m.x with
   | [x]=>exact ⟨x,rfl⟩
   | []=>rw [hm] at xl; cases xl
   | a :: b :: c=>rw [hm] at xl; simp at xl
  have Rx:=GR5.x
  rw [hx] at Rx
  obtain ⟨a,ha,hc⟩:=Rx.at (j:=0) (by rw [Row.pb Rx]; simp)
  refine ⟨a,ha,by omega,by rw [Row.pb Rx]; simp,x,hc,?_⟩
  refine bset1 G5.Q (by show 5 < 79; omega) fun h6 Q6 U6=>?_
  have G6:=G5.set (v':=⟨m.node,m.n,m.t,m.boot,m.lease,⟨x,m.y⟩,m.p,m.term,m.vote,m.base,m.bterm,s1,s2,sc,sbx,m.clean⟩) U6 Q6
  have U6':Up2 r q h5 h6:=Up2.q U6
  have GR6:=GR5.up2 U6' (by omega) (by omega)
  have Rc6:=U6'.row Rc5 (by omega) (by omega)
  have Rb6:=U6'.row Rb5 (by omega) (by omega)
  have Mb6:Many (BoxR (q + 1) h6) bs m.boxes:=Mb5.imp fun v b E=>⟨E.t,E.e,E.n,U6'.row E.r (by omega) (by omega)⟩
  obtain ⟨vs,Re6,Me6⟩:=GR6.ents
  have MH:MemH (q + 1) h6 ⟨m.node,m.n,m.t,m.boot,m.lease,⟨x,m.y⟩,m.p,m.term,m.vote,m.base,m.bterm,s1,s2,sc,sbx,m.clean⟩ m:=fun h' ke=>by
   have kr:∀ {E w:Nat} {s:Slc} {xs:List Value},Row (q + 1) h6 E w s xs->Row (q + 1) h' E w s xs:=fun R=>R.keep fun g hg=>ke g (R.bd hg).1 (R.bd hg).2
   have Rs:=kr GR6.snap
   have Re:=kr Re6
   have Rc:=kr Rc6
   have Rb:=kr Rb6
   refine ⟨rfl,rfl,rfl,rfl,rfl,hx.symm,rfl,rfl,rfl,rfl,rfl,rfl,Rs.slc,Row.pb Rs,⟨vs,lsOf (w:=2) (fun x=>rfl) Re.slc ?_ (by decide),Me6.imp fun v e E=>⟨E.t,(kr E.r).slc,Row.pb (kr E.r)⟩⟩,⟨cs,lsOf (w:=33) (fun x=>rfl) Rc.slc ?_ (by decide),Mc⟩,⟨bs,lsOf (w:=15) (fun x=>rfl) Rb.slc ?_ (by decide),Mb6.imp fun v b E=>⟨E.t,E.e,E.n,(kr E.r).slc,Row.pb (kr E.r)⟩⟩,rfl⟩
   ·have:s2.len * 2=(vs.flatMap S_api_Entry.cs).length:=Re.1.symm
    rw [Go.Q.Rw.fm_len (w:=2) (fun x=>rfl)] at this
    show s2.len=_
    omega
   ·have:sc.len * 33=(cs.flatMap S_api_Chain.cs).length:=Rc.1.symm
    rw [Go.Q.Rw.fm_len (w:=33) (fun x=>rfl)] at this
    show sc.len=_
    omega
   ·have:sbx.len * 15=(bs.flatMap S_api_Box.cs).length:=Rb.1.symm
    rw [Go.Q.Rw.fm_len (w:=15) (fun x=>rfl)] at this
    show sbx.len=_
    omega
  refine ⟨_,CellsAt.of_blk G6.Q,SChk_ok MH.now w fun h7 X7=>?_⟩
  rw [cM]
  rw [if_neg (by simp)]
  refine ⟨_,CellsAt.of_blk (G6.Q.ext X7 G6.Q.lt),bset (G6.P.ext X7 G6.P.lt) rfl (by show 79<=79; omega) fun h8 P8 U8=>⟨_,CellsAt.of_blk P8,?_⟩⟩
  have z7:=X7.size
  have z6:=G6.X.size
  have q6:=G6.Q.lt
  refine H _ h8 ?_ ((G6.X.trans (X7.mono z6)).trans (U8.ext (Nat.le_refl _) (by omega)))
  exact fun h' ke=>MH h' fun g hg hl=>by
   rw [ke g (by omega) (by have:=U8.size; omega),U8.block g (by omega) (by omega),X7.block g hl]
theorem SGet_ok {s:Slc} {k:S_api_Mem × Int->Heap->Prop} (hs:∀ h',Ext h0.size h0 h'->SlcAt h' s (b8 (memC.put m.tup))) (sl:s.len=(memC.put m.tup).length) (sc:s.len<=s.cap) (hB:isB (memC.put m.tup)) (hz:(memC.put m.tup).length<=1000000) (w:WfM m) (cM:chkM m=0)
  (H:∀ v h',MemH h0.size h' v m->Ext h0.size h0 h'->k (v,0) h'):strong_Get s k h0:=by
 have cn:cntsM m:=by
  unfold chkM chkE at cM
  by_cases c:cntsM m
  ·exact c
  ·rw [if_neg c] at cM; simp at cM
 exact SGet_head hs sl sc hB hz w cn (mem_rt w cM) fun r q sx s1 s2 l' h' G GR e=>SGet_tail w cM cn G GR e H
end
end Go.Q.Yk
end
section
/- The numbers of the functions and types that maps.Keys, maps.Clone, slices.Sorted and slices.Sort reach at this program, and that their bodies are the ones that the library has walked. -/
namespace Go.Proofs
open Go.Shelf
def Tryz.keysI_ren:Go.Shelf.Ren:=⟨fun | 7=>63 | 10=>97 | n=>n,fun | 23=>98 | 26=>3 | 3=>115 | 28=>121 | 0=>0 | 27=>120 | 33=>161 | 4=>4 | n=>n,fun | n=>n⟩
theorem Tryz.keysI:Go.Proofs.SlLaysZI.n7 Tryz.prog Tryz.keysI_ren:={
 mixed:=by kernel_rfl
 f7:=⟨Tryz.f63.name,by decide,Tryz.func63.trans (congrArg some (by kernel_rfl))⟩
 f10:=⟨Tryz.f97.name,by decide,Tryz.func97.trans (congrArg some (by kernel_rfl))⟩
 t0:=Tryz.underlying0
 a0:=Tryz.isAgg0
 z0:=Tryz.sizeOf0
 v0:=Tryz.zeroValue0
 t4:=Tryz.underlying4
 a4:=Tryz.isAgg4
 z4:=Tryz.sizeOf4
 v4:=Tryz.zeroValue4
 t23:=Tryz.underlying98
 a23:=Tryz.isAgg98
 z23:=Tryz.sizeOf98
 v23:=Tryz.zeroValue98
 t26:=Tryz.underlying3
 a26:=Tryz.isAgg3
 z26:=Tryz.sizeOf3
 v26:=Tryz.zeroValue3
 t27:=Tryz.underlying120
 a27:=Tryz.isAgg120
 z27:=Tryz.sizeOf120
 v27:=Tryz.zeroValue120
 t28:=Tryz.underlying121
 a28:=Tryz.isAgg121
 z28:=Tryz.sizeOf121
 v28:=Tryz.zeroValue121
 t33:=Tryz.underlying161
 a33:=Tryz.isAgg161
 z33:=Tryz.sizeOf161
 v33:=Tryz.zeroValue161 }
def Tryz.sortedI_ren:Go.Shelf.Ren:=⟨fun | 6=>62 | 8=>95 | 9=>96 | 11=>120 | 13=>122 | 12=>121 | 23=>145 | 24=>146 | 14=>136 | 15=>137 | 16=>138 | 17=>139 | 18=>140 | 19=>141 | 20=>142 | 21=>143 | 22=>144 | 25=>152 | 26=>153 | 27=>154 | 28=>155 | 29=>156 | 30=>157 | 31=>161 | n=>n,fun | 26=>3 | 28=>121 | 24=>118 | 0=>0 | 3=>3 | 37=>123 | 48=>72 | 50=>22 | 4=>4 | 40=>207 | 39=>206 | 45=>212 | 5=>5 | 9=>9 | 51=>223 | 55=>226 | 57=>233 | 58=>234 | 33=>161 | n=>n,fun | n=>n⟩
theorem Tryz.sortedI:Go.Proofs.SlLaysZI.n6 Tryz.prog Tryz.sortedI_ren:={
 mixed:=by kernel_rfl
 f6:=⟨Tryz.f62.name,by decide,Tryz.func62.trans (congrArg some (by kernel_rfl))⟩
 f8:=⟨Tryz.f95.name,by decide,Tryz.func95.trans (congrArg some (by kernel_rfl))⟩
 f11:=⟨Tryz.f120.name,by decide,Tryz.func120.trans (congrArg some (by kernel_rfl))⟩
 t0:=Tryz.underlying0
 a0:=Tryz.isAgg0
 z0:=Tryz.sizeOf0
 v0:=Tryz.zeroValue0
 t24:=Tryz.underlying118
 a24:=Tryz.isAgg118
 z24:=Tryz.sizeOf118
 v24:=Tryz.zeroValue118
 t26:=Tryz.underlying3
 a26:=Tryz.isAgg3
 z26:=Tryz.sizeOf3
 v26:=Tryz.zeroValue3
 t28:=Tryz.underlying121
 a28:=Tryz.isAgg121
 z28:=Tryz.sizeOf121
 v28:=Tryz.zeroValue121
 i26:=by kernel_rfl }
def Tryz.sortI_ren:Go.Shelf.Ren:=⟨fun | 5=>96 | 8=>122 | 7=>121 | 19=>145 | 20=>146 | 10=>136 | 11=>137 | 12=>138 | 13=>139 | 14=>140 | 15=>141 | 16=>142 | 17=>143 | 18=>144 | 30=>152 | 31=>153 | 32=>154 | 33=>155 | 34=>156 | 35=>157 | 40=>161 | n=>n,fun | 23=>118 | 25=>3 | 3=>3 | 32=>123 | 22=>118 | 0=>0 | 44=>72 | 46=>22 | 4=>4 | 36=>207 | 35=>206 | 41=>212 | 5=>5 | 9=>9 | 53=>223 | 57=>226 | 63=>233 | 64=>234 | n=>n,fun | n=>n⟩
theorem Tryz.sortI:Go.Proofs.SlLaysM.n5 Tryz.prog Tryz.sortI_ren:={
 mixed:=by kernel_rfl
 f5:=⟨Tryz.f96.name,by decide,Tryz.func96.trans (congrArg some (by kernel_rfl))⟩
 f7:=⟨Tryz.f121.name,by decide,Tryz.func121.trans (congrArg some (by kernel_rfl))⟩
 f8:=Tryz.func122.trans (congrArg some (by kernel_rfl))
 f10:=⟨Tryz.f136.name,by decide,Tryz.func136.trans (congrArg some (by kernel_rfl))⟩
 f11:=⟨Tryz.f137.name,by decide,Tryz.func137.trans (congrArg some (by kernel_rfl))⟩
 f12:=⟨Tryz.f138.name,by decide,Tryz.func138.trans (congrArg some (by kernel_rfl))⟩
 f13:=⟨Tryz.f139.name,by decide,Tryz.func139.trans (congrArg some (by kernel_rfl))⟩
 f14:=⟨Tryz.f140.name,by decide,Tryz.func140.trans (congrArg some (by kernel_rfl))⟩
 f15:=⟨Tryz.f141.name,by decide,Tryz.func141.trans (congrArg some (by kernel_rfl))⟩
 f16:=⟨Tryz.f142.name,by decide,Tryz.func142.trans (congrArg some (by kernel_rfl))⟩
 f17:=⟨Tryz.f143.name,by decide,Tryz.func143.trans (congrArg some (by kernel_rfl))⟩
 f18:=⟨Tryz.f144.name,by decide,Tryz.func144.trans (congrArg some (by kernel_rfl))⟩
 f19:=Tryz.func145.trans (congrArg some (by kernel_rfl))
 f20:=Tryz.func146.trans (congrArg some (by kernel_rfl))
 f30:=⟨Tryz.f152.name,by decide,Tryz.func152.trans (congrArg some (by kernel_rfl))⟩
 f31:=Tryz.func153.trans (congrArg some (by kernel_rfl))
 f32:=Tryz.func154.trans (congrArg some (by kernel_rfl))
 f33:=⟨Tryz.f155.name,by decide,Tryz.func155.trans (congrArg some (by kernel_rfl))⟩
 f34:=⟨Tryz.f156.name,by decide,Tryz.func156.trans (congrArg some (by kernel_rfl))⟩
 f35:=⟨Tryz.f157.name,by decide,Tryz.func157.trans (congrArg some (by kernel_rfl))⟩
 f40:=⟨Tryz.f161.name,by decide,Tryz.func161.trans (congrArg some (by kernel_rfl))⟩
 t0:=Tryz.underlying0
 a0:=Tryz.isAgg0
 z0:=Tryz.sizeOf0
 v0:=Tryz.zeroValue0
 t3:=Tryz.underlying3
 a3:=Tryz.isAgg3
 z3:=Tryz.sizeOf3
 v3:=Tryz.zeroValue3
 t4:=Tryz.underlying4
 a4:=Tryz.isAgg4
 z4:=Tryz.sizeOf4
 v4:=Tryz.zeroValue4
 t5:=Tryz.underlying5
 a5:=Tryz.isAgg5
 z5:=Tryz.sizeOf5
 v5:=Tryz.zeroValue5
 t9:=Tryz.underlying9
 a9:=Tryz.isAgg9
 z9:=Tryz.sizeOf9
 v9:=Tryz.zeroValue9
 t22:=Tryz.underlying118
 a22:=Tryz.isAgg118
 z22:=Tryz.sizeOf118
 v22:=Tryz.zeroValue118
 t23:=Tryz.underlying118
 a23:=Tryz.isAgg118
 z23:=Tryz.sizeOf118
 v23:=Tryz.zeroValue118
 t25:=Tryz.underlying3
 a25:=Tryz.isAgg3
 z25:=Tryz.sizeOf3
 v25:=Tryz.zeroValue3
 t32:=Tryz.underlying123
 a32:=Tryz.isAgg123
 z32:=Tryz.sizeOf123
 v32:=Tryz.zeroValue123
 t35:=Tryz.underlying206
 a35:=Tryz.isAgg206
 z35:=Tryz.sizeOf206
 v35:=Tryz.zeroValue206
 t36:=Tryz.underlying207
 a36:=Tryz.isAgg207
 z36:=Tryz.sizeOf207
 v36:=Tryz.zeroValue207
 t41:=Tryz.underlying212
 a41:=Tryz.isAgg212
 z41:=Tryz.sizeOf212
 v41:=Tryz.zeroValue212
 t44:=Tryz.underlying72
 a44:=Tryz.isAgg72
 z44:=Tryz.sizeOf72
 v44:=Tryz.zeroValue72
 t46:=Tryz.underlying22
 a46:=Tryz.isAgg22
 z46:=Tryz.sizeOf22
 v46:=Tryz.zeroValue22
 t53:=Tryz.underlying223
 a53:=Tryz.isAgg223
 z53:=Tryz.sizeOf223
 v53:=Tryz.zeroValue223
 t57:=Tryz.underlying226
 a57:=Tryz.isAgg226
 z57:=Tryz.sizeOf226
 v57:=Tryz.zeroValue226
 t63:=Tryz.underlying233
 a63:=Tryz.isAgg233
 z63:=Tryz.sizeOf233
 v63:=Tryz.zeroValue233
 t64:=Tryz.underlying234
 a64:=Tryz.isAgg234
 z64:=Tryz.sizeOf234
 v64:=Tryz.zeroValue234 }
end Go.Proofs
end
section
set_option maxRecDepth 100000
namespace Go.Q
open Go.RowKit Go.Maps Go.Shelf Go.Proofs
open Go.WideElems (Fit rd rg)
/-! ### what the kit's contracts ask of a map -/
def RZ:Value->Option (DataW Unit × List MemPlace):=fun _=>some (.lit (.bool true),[])
theorem owns_of {P:Program} {kt:TypeId} {d:TypeDesc} {h:Heap} {r:Nat} {l:List (Value × Value)} (M:MapH d h r l) (hk:∀ p∈l,∃ y,keyOf P kt p.1=some y) (hl:l.length<=maxLen) (w:World) (hw:w.heap=h) :
    ∃ D0:List (Lit × DataW Unit),w.ownsMap P kt RZ r l.length (.map D0)/\D0.Perm (l.map fun p=>((keyOf P kt p.1).getD (.bool false),.lit (.bool true))):=by
  obtain ⟨es,ck,hb,hs,_,hl2⟩:=M
  have hn:es.size=l.length:=by rw [← hl2]; simp
  refine ⟨(es.toList.map (rg P kt RZ)).foldr DataW.insert [],⟨es,ck,by rw [hw]; exact hb,⟨by omega,hs,fun x hx=>?_⟩,by omega,rfl⟩,?_⟩
  · obtain ⟨y,hy⟩:=hk (x.key,x.val) (by rw [← hl2]; exact List.mem_map.2 ⟨x,hx,rfl⟩)
    exact ⟨(y,.lit (.bool true)),by unfold rd; rw [hy]; rfl⟩
  · refine (Go.WideShapes.sorted_perm _).trans ?_
    rw [← hl2,List.map_map]
    refine List.Perm.of_eq (List.map_congr_left fun x hx=>?_)
    obtain ⟨y,hy⟩:=hk (x.key,x.val) (by rw [← hl2]; exact List.mem_map.2 ⟨x,hx,rfl⟩)
    show rg P kt RZ x=((keyOf P kt x.key).getD _,_)
    unfold rg rd
    rw [hy]; rfl
theorem row_of_owns {w:World} {B E wd n:Nat} {v:Value} {xs:List Value} (h:w.ownsRow B E wd v n xs):∃ s:Slc,v=Slc.v s/\s.len=n/\Row B w.heap E wd s xs:=by
  obtain ⟨hl,hc⟩:=h
  rcases hc with ⟨rfl,rfl⟩ | ⟨g,cap,cur,rfl,hB,hg,hn,hm,hs,ht⟩
  · exact ⟨⟨none,0,0⟩,rfl,rfl,by simpa using hl,by simp [maxLen],.inl ⟨rfl,rfl,rfl⟩⟩
  · exact ⟨⟨some ⟨g,0,none⟩,n,cap⟩,rfl,rfl,hl,hm,.inr ⟨g,cur.toList,rfl,hB,⟨0,0,by simpa using hg,.inl (Nat.le_refl _)⟩,hn,by simp [hs],ht⟩⟩
theorem CallsH.of_calls {P:Program} {f:FuncId} {args:Array Value} {h:Heap} {Φ:Value->Heap->Prop} (H:∀ w,w.heap=h->Calls P f args w fun e w'=>∃ v,e = .returned v/\Go.RowKit.Below w.heap.size w w'/\Φ v w'.heap):CallsH P f args h Φ :=
  fun w hw=>(H w hw).mono fun r w' ⟨v,e,B,p⟩=>⟨v,e,⟨B.os,B.tape,B.output,rfl,fun h=>by cases h⟩,p⟩
end Go.Q
namespace Go.Q.Yk
open Go.RowKit Go.Maps Go.Sort Go.Shelf Go.Proofs
abbrev MapI (h:Heap) (m:Option Nat) (l:List (Int × S_disk_sector)):Prop:=MapAt (K:=Int) (V:=S_disk_sector) (.int .i64) (Value.int .i64) (fun v:S_disk_sector=>Value.agg (S_disk_sector.cs v).toArray) h m l
/-- maps.Keys, by the kit's contract -/
def maps_Keys_map_int_disk_sector_int_disk_sector (m:Option Nat) (k:Value->Heap->Prop) (h:Heap):Prop :=
  k (.func (.func 97) #[] #[.pointer (some ⟨h.size,0,none⟩)]) (h.push (.cells #[.map m] 98))
theorem maps_Keys_map_int_disk_sector_int_disk_sector_ok:CallOk Tryz.prog 63:=⟨_,Tryz.func63,by kernel_rfl,by kernel_rfl⟩
theorem maps_Keys_map_int_disk_sector_int_disk_sector_ref (m:Option Nat) (k:Value->Heap->Prop) (h:Heap) (H:maps_Keys_map_int_disk_sector_int_disk_sector m k h):CallsH Tryz.prog 63 #[.map m] h (fun v h'=>∃ r:Value,v=r/\k r h'):=by
  refine CallsH.of_calls fun w hw=>?_
  have c:CallsIn Fence.wide 5 Tryz.prog 63 #[.map m] w fun e w'=>e = .returned (.func (.func 97) #[] #[.pointer (some ⟨w.heap.size,0,none⟩)])/\w'=w.alloc (.cells #[.map m] 98):=AnyZI.keys_in Tryz.keysI Fence.wide 5 trivial rfl m w
  refine (callsIn_wide.1 c).mono ?_
  rintro e w' ⟨rfl,rfl⟩
  refine ⟨_,rfl,(Below.refl _ w).alloc (Nat.le_refl _) _,_,rfl,?_⟩
  subst hw
  exact H
theorem sortsI (m:Nat):AnyZI.SortsIn Tryz.prog Tryz.sortedI_ren Fence.wide m :=
  ⟨fun blk off cap ss W hH hblk hsz=>callsIn_wide.2 (AnyM.slices_Sort_int Tryz.sortI blk off cap ss W hH hblk hsz),
   fun p cap W=>callsIn_wide.2 (AnyM.slices_Sort_int_none Tryz.sortI p cap W)⟩
def srtI (l:List Int):List Int:=l.mergeSort fun x y=>decide (x<=y)
/-- slices.Sorted of maps.Keys, by the kit's contracts -/
def slices_Sorted_int (f:Value) (k:Slc->Heap->Prop) (h:Heap):Prop :=
  ∃ (bx r:Nat) (l:List (Int × S_disk_sector)),f = .func (.func 97) #[] #[.pointer (some ⟨bx,0,none⟩)]/\cellH h ⟨bx,0,none⟩=some (.map (some r))/\MapI h (some r) l/\(∀ p∈l,(Lit.int .i64 p.1).wf=true)/\l.length<=1000000 /\
    ∀ s h',Row h.size h' 3 1 s ((srtI (l.map (·.1))).map (Value.int .i64))->s.len=l.length->Ext h.size h h'->k s h'
theorem slices_Sorted_int_ok:CallOk Tryz.prog 62:=⟨_,Tryz.func62,by kernel_rfl,by kernel_rfl⟩
theorem slices_Sorted_int_ref (f:Value) (k:Slc->Heap->Prop) (h:Heap) (H:slices_Sorted_int f k h):CallsH Tryz.prog 62 #[f] h (fun v h'=>∃ r:Slc,v=Slc.v r/\k r h'):=by
  obtain ⟨bx,r,l,rfl,hb,M,wf,hl,H⟩:=H
  refine CallsH.of_calls fun w hw=>?_
  have hlm:(l.map fun p:Int × S_disk_sector=>((Value.int .i64 p.1:Value),(Value.agg (S_disk_sector.cs p.2).toArray:Value))).length=l.length:=by simp
  obtain ⟨D0,own,perm⟩:=owns_of (P:=Tryz.prog) (kt:=3) M (fun p hp=>by
    obtain ⟨q,hq,rfl⟩:=List.mem_map.1 hp
    exact ⟨_,keyOf_int_mk Tryz.underlying3 (wf q hq)⟩) (by rw [hlm]; simp only [maxLen]; omega) w hw
  have hsz:Maps.size (H:=Unit) (.map D0)=l.length:=by
    show D0.length=_
    rw [perm.length_eq]; simp
  have kp:(intKeys (H:=Unit) (.map D0)).Perm (l.map (·.1)):=by
    refine (perm.map fun p=>intOf p.1).trans ?_
    rw [List.map_map,List.map_map]
    refine List.Perm.of_eq (List.map_congr_left fun q hq=>?_)
    show intOf ((keyOf Tryz.prog 3 (.int .i64 q.1)).getD _)=q.1
    rw [keyOf_int_mk Tryz.underlying3 (wf q hq)]; rfl
  have hbl:bx < w.heap.size:=by rw [hw]; exact cellH_lt hb
  have hcell:w.cell? ⟨bx,0,none⟩=some (.map (some r)):=by subst hw; exact hb
  have hseq:SeqGives Fence.wide 2 Tryz.prog 97 #[.pointer (some ⟨bx,0,none⟩)] encZ (fun ss=>ss.Perm (intKeys (H:=Unit) (.map D0))) (Maps.size (H:=Unit) (.map D0)) w :=
    AnyZI.keys_gives (ρ:=Tryz.keysI_ren) { Tryz.keysI with } Fence.wide _ trivial rfl (by omega) bx r _ _ w hbl hcell own
  have cS:=AnyZI.sorted_in Tryz.sortedI Fence.wide 5 trivial trivial trivial trivial rfl (by omega) (sortsI _) (enters_of Tryz.func96 (by kernel_rfl) rfl) 97 #[.pointer (some ⟨bx,0,none⟩)] trivial (enters_of Tryz.func97 (by kernel_rfl) rfl) _ _ (by rw [hsz]; simp only [maxLen]; omega) (by rw [hsz]; omega) w hseq
  change CallsIn _ _ Tryz.prog 62 _ _ _ at cS
  refine (callsIn_wide.1 cS).mono ?_
  rintro e w' ⟨v,ss,rfl,hS,hrow,_,hB⟩
  have hrow':w'.ownsRow w.heap.size 3 1 v ss.length ((ss.mergeSort fun x y=>decide (x<=y)).map encZ):=hrow
  obtain ⟨s,rfl,sl,R⟩:=row_of_owns hrow'
  have pk:=hS.trans kp
  have eq:ss.mergeSort (fun x y=>decide (x<=y))=srtI (l.map (·.1)):=mergeSort_of_perm_i pk
  rw [eq] at R
  refine ⟨_,rfl,hB,_,rfl,H s _ ?_ (by rw [sl,pk.length_eq,List.length_map]) ?_⟩
  · subst hw; exact R
  · subst hw; exact ⟨hB.size,hB.block⟩
end Go.Q.Yk
end

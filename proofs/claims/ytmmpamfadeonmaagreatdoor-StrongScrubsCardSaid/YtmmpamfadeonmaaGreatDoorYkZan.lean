/- A part of the proof of statements of this seat: lemmas, no statement of their own. -/
import Derived.Test.YtmmpamfadeonmaaGreatDoorYkZal
import Derived.Test.YtmmpamfadeonmaaGreatDoorYkZam
set_option linter.unusedVariables false
set_option linter.unusedSimpArgs false
section
set_option maxRecDepth 100000
/- Strong: forms are laid. -/
namespace Go.Q.Yk
open Go.Q.Sg
structure EntAt (h:Heap) (v:S_api_Entry) (e:Ent):Prop where
 t:v.f_Term=e.1
 s:SlcAt h v.f_Cmd (b8 e.2)
 l:v.f_Cmd.len=e.2.length
theorem EntAt.ext {h h':Heap} {v:S_api_Entry} {e:Ent} (E:EntAt h v e) (X:Ext h.size h h'):EntAt h' v e:=⟨E.t,E.s.ext X,E.l⟩
structure ChAt (v:S_api_Chain) (c:Int × List Int):Prop where
 i:v.f_Index=c.1
 k:v.f_Key=c.2
section
variable {p0 p1:Slc} {l:List Int} {k:Slc->Heap->Prop} {h:Heap}
theorem stext_ok {t:List Int} (hl:p0.len=l.length) (hs:SlcAt h p0 (b8 l)) (hsz:l.length<=17592186044416) (tl:p1.len=t.length) (ts:SlcAt h p1 (b8 t)) (ht:t.length<=17592186044416)
  (H:Lays' h (l ++ tx t) k):strong_text p0 p1 k h:=by
 unfold strong_text
 rw [wrapU64 (by omega) (by omega),tl]
 refine PutShort_ok hl hs (by omega) (by omega) (by omega) fun s1 h1 R1 X1=>?_
 have:=shortL_len t.length
 refine ⟨_,ts.ext X1,AppB R1 X1.size rfl (by rw [List.length_append]; omega) fun s' h' R' X'=>H s' h' ?_ (X1.trans X')⟩
 rw [List.append_assoc] at R'
 exact R'
theorem numbers_ok {B:Nat} {ns:List Int} (R:Row B h 5 1 p0 (b8 l)) (hB:B<=h.size) (hsz:l.length + 10 * ns.length<=35184372088832) (N:SlcAt h p1 (ns.map (Value.int .u64))) (nl:p1.len=ns.length) (hn:∀ n∈ns,u64 n)
  (H:∀ s' h',Row B h' 5 1 s' (b8 (l ++ ns.flatMap shortL))->Ext h.size h h'->k s' h'):strong_numbers p0 p1 k h:=by
 unfold strong_numbers
 refine ⟨fun q h'=>0<=q.2/\q.2<=ns.length/\Row B h' 5 1 q.1 (b8 (l ++ (ns.take q.2.toNat).flatMap shortL))/\Ext h.size h h',fun q _=>(ns.length - q.2).toNat,⟨by dsimp only; omega,by dsimp only; omega,by simpa using R,Ext.refl _ _⟩,?_⟩
 rintro s i h1 ⟨i0,i1,R1,X1⟩
 dsimp only at i0 i1 R1
 have z:=X1.size
 unfold strong_numbers_l1b
 by_cases c:i < ns.length
 ·rw [if_pos (by rw [decide_eq_true_eq]; omega)]
  obtain ⟨n,hn'⟩:∃ n,ns[i.toNat]? = some n:=⟨_,List.getElem?_eq_getElem (by omega)⟩
  obtain ⟨a,ha,hv⟩:=slc_get (N.ext X1) (i:=i.toNat) (v:=.int .u64 n) (by rw [List.getElem?_map,hn']; rfl)
  have nb:=hn n (List.mem_of_getElem? hn')
  refine ⟨a,ha,by omega,by omega,n,by rw [Nat.mul_one]; exact hv,?_⟩
  have hl2:((ns.take i.toNat).flatMap shortL).length<=ns.length * 10:=fm_le_take (fun x _=>shortL_len x) _
  refine PutShort_ok (Row.pb R1) R1.slc (by rw [List.length_append]; omega) nb.1 nb.2 fun s' h' R' X'=>?_
  rw [wrapI64 (x:=i + 1) (by omega) (by omega)]
  refine ⟨⟨by dsimp only; omega,by dsimp only; omega,?_,X1.trans (X'.mono z)⟩,by dsimp only; omega⟩
  dsimp only
  rw [show (i + 1).toNat=i.toNat + 1 from by omega,fm_take shortL hn',← List.append_assoc]
  exact R'.mono (by omega)
 ·rw [if_neg (by rw [decide_eq_true_eq]; omega)]
  rw [show i.toNat=ns.length from by omega,List.take_length] at R1
  exact H s h1 R1 X1
theorem entries_ok {vs:List S_api_Entry} {es:List Ent} (hl:p0.len=l.length) (hs:SlcAt h p0 (b8 l)) (hsz:l.length<=9000000000000) (L:LsAt S_api_Entry.cs 2 h p1 vs) (M:Many (EntAt h) vs es) (w:∀ e∈es,u64 e.1/\isB e.2/\e.2.length<=1000000) (wl:es.length<=1000000)
  (H:Lays' h (l ++ (manyC entC).put es) k):strong_entries p0 p1 k h:=by
 unfold strong_entries
 have vl:=L.l
 have ml:=M.l
 have q1:=shortL_len es.length
 rw [wrapU64 (x:=(p1.len:Int)) (by omega) (by omega),show (p1.len:Int)=es.length from by omega]
 refine PutShort_ok hl hs (by omega) (by omega) (by omega) fun s1 h1 R1 X1=>?_
 refine ⟨fun q h'=>0<=q.2/\q.2<=es.length/\Row h.size h' 5 1 q.1 (b8 (l ++ shortL es.length ++ (es.take q.2.toNat).flatMap entC.put))/\Ext h.size h h',fun q _=>(es.length - q.2).toNat,⟨by dsimp only; omega,by dsimp only; omega,by simpa using R1,X1⟩,?_⟩
 rintro s i h2 ⟨i0,i1,R2,X2⟩
 dsimp only at i0 i1 R2
 have z2:=X2.size
 have hl2:((es.take i.toNat).flatMap entC.put).length<=es.length * 1000020:=fm_le_take (fun x hx=>ent_len (w x hx).2.2) _
 unfold strong_entries_l1b
 by_cases c:i < es.length
 ·rw [if_pos (by rw [decide_eq_true_eq]; omega)]
  obtain ⟨e,he⟩:∃ e,es[i.toNat]? = some e:=⟨_,List.getElem?_eq_getElem (by omega)⟩
  obtain ⟨a,v,ha,_,hlt,hv,hc⟩:=(L.ext X2).it i0 (by omega)
  have E:=(M.r _ _ _ hv he).ext X2
  obtain ⟨w1,w2,w3⟩:=w e (List.mem_of_getElem? he)
  refine ⟨a,ha,i0,hlt,v,hc,bx (cs:=S_api_Entry.cs v) rfl (by show 2<=2; omega) fun h3 P3 X3=>?_⟩
  have z3:=X3.size
  refine ⟨v.f_Term,P3.cl0 rfl,v.f_Cmd,P3.cl rfl,?_⟩
  rw [E.t]
  have R3:=R2.ext X3 fun g hg=>(R2.bd hg).2
  refine PutShort_ok (Row.pb R3) R3.slc (by rw [List.length_append,List.length_append]; omega) w1.1 w1.2 fun s4 h4 R4 X4=>?_
  have z4:=X4.size
  have q4:=shortL_len e.1
  refine ⟨(P3.ext X4 P3.lt).cl rfl,?_⟩
  have E4:=(E.ext X3).ext X4
  refine stext_ok (Row.pb R4) R4.slc (by rw [List.length_append,List.length_append,List.length_append]; omega) E4.l E4.s (by omega) fun s5 h5 R5 X5=>?_
  rw [wrapI64 (x:=i + 1) (by omega) (by omega)]
  refine ⟨⟨by dsimp only; omega,by dsimp only; omega,?_,X2.trans ((X3.mono z2).trans ((X4.mono (by omega)).trans (X5.mono (by omega))))⟩,by dsimp only; omega⟩
  dsimp only
  rw [show (i + 1).toNat=i.toNat + 1 from by omega,fm_take entC.put he]
  rw [show l ++ shortL es.length ++ ((es.take i.toNat).flatMap entC.put ++ entC.put e)=l ++ shortL es.length ++ (es.take i.toNat).flatMap entC.put ++ shortL e.1 ++ tx e.2 from by
   show _ ++ (_ ++ (shortL e.1 ++ tx e.2))=_
   simp only [List.append_assoc]]
  exact R5.mono (by omega)
 ·rw [if_neg (by rw [decide_eq_true_eq]; omega)]
  rw [show i.toNat=es.length from by omega,List.take_length,List.append_assoc] at R2
  exact H s h2 R2 X2
theorem chain_ok {v:S_api_Chain} {c:Int × List Int} (hl:p0.len=l.length) (hs:SlcAt h p0 (b8 l)) (hsz:l.length<=17592186044416) (C:ChAt v c) (w0:u64 c.1) (w1:c.2.length=32)
  (H:Lays' h (l ++ chC.put c) k):strong_chain p0 v k h:=by
 unfold strong_chain
 refine bx0 fun h2 P X=>⟨v.f_Index,P.cl0 rfl,_,by omega,by omega,by omega,rfl,?_⟩
 have z2:=X.size
 rw [C.i]
 refine PutShort_ok hl (hs.ext X) (by omega) w0.1 w0.2 fun s3 h3 R3 X3=>?_
 have z3:=X3.size
 have q:=shortL_len c.1
 have ea:arr 32 .u8 v.f_Key=b8 c.2:=by rw [C.k]; exact arr_full w1
 have hc:=(P.ext X3 P.lt).cls (i:=1) (ys:=arr 32 .u8 v.f_Key) rfl
 rw [ea] at hc
 rw [show subS ⟨some ((⟨h.size,0,none⟩:Addr).add 1),32,32⟩ 1 (0:Int).toNat (32:Int).toNat 32=⟨some ((⟨h.size,0,none⟩:Addr).add 1),32,32⟩ from subF]
 refine ⟨b8 c.2,⟨(fun q=>by cases q),fun a ha j x hj=>by cases ha; exact hc j x hj⟩,AppB R3 z3 w1.symm (by rw [List.length_append]; omega) fun s4 h4 R4 X4=>H s4 h4 ?_ ?_⟩
 ·rw [List.append_assoc] at R4
  exact R4.mono (by omega)
 ·exact X.trans ((X3.trans X4).mono z2)
theorem several_ok {vs:List S_api_Box} {bs:List BoxV} (hl:p0.len=l.length) (hs:SlcAt h p0 (b8 l)) (hsz:l.length<=9000000000000) (L:LsAt S_api_Box.cs 15 h p1 vs) (M:Many (BoxAt h) vs bs) (w:∀ b∈bs,WfB b) (wl:bs.length<=1000000)
  (H:Lays' h (l ++ (manyC boxC).put bs) k):strong_several p0 p1 k h:=by
 unfold strong_several
 have vl:=L.l
 have ml:=M.l
 have q1:=shortL_len bs.length
 rw [wrapU64 (x:=(p1.len:Int)) (by omega) (by omega),show (p1.len:Int)=bs.length from by omega]
 refine PutShort_ok hl hs (by omega) (by omega) (by omega) fun s1 h1 R1 X1=>?_
 refine ⟨fun q h'=>0<=q.2/\q.2<=bs.length/\Row h.size h' 5 1 q.1 (b8 (l ++ shortL bs.length ++ (bs.take q.2.toNat).flatMap boxC.put))/\Ext h.size h h',fun q _=>(bs.length - q.2).toNat,⟨by dsimp only; omega,by dsimp only; omega,by simpa using R1,X1⟩,?_⟩
 rintro s i h2 ⟨i0,i1,R2,X2⟩
 dsimp only at i0 i1 R2
 have z2:=X2.size
 have hl2:((bs.take i.toNat).flatMap boxC.put).length<=bs.length * 2000036:=fm_le_take (fun x hx=>box_len (w x hx)) _
 unfold strong_several_l1b
 by_cases c:i < bs.length
 ·rw [if_pos (by rw [decide_eq_true_eq]; omega)]
  obtain ⟨b,hb⟩:∃ b,bs[i.toNat]? = some b:=⟨_,List.getElem?_eq_getElem (by omega)⟩
  obtain ⟨a,v,ha,_,hlt,hv,hc⟩:=(L.ext X2).it i0 (by omega)
  have E:=(M.r _ _ _ hv hb).ext X2
  refine ⟨a,ha,i0,hlt,v,hc,bx (cs:=S_api_Box.cs v) rfl (by show 15<=15; omega) fun h3 P3 X3=>?_⟩
  have z3:=X3.size
  have R3:=R2.ext X3 fun g hg=>(R2.bd hg).2
  refine ⟨v,CellsAt.of_blk P3,Put_ok' (Row.pb R3) R3.slc (by rw [List.length_append,List.length_append]; omega) (E.ext X3) (w b (List.mem_of_getElem? hb)) fun s5 h5 R5 X5=>?_⟩
  rw [wrapI64 (x:=i + 1) (by omega) (by omega)]
  refine ⟨⟨by dsimp only; omega,by dsimp only; omega,?_,X2.trans ((X3.mono z2).trans (X5.mono (by omega)))⟩,by dsimp only; omega⟩
  dsimp only
  rw [show (i + 1).toNat=i.toNat + 1 from by omega,fm_take boxC.put hb,← List.append_assoc]
  exact R5.mono (by omega)
 ·rw [if_neg (by rw [decide_eq_true_eq]; omega)]
  rw [show i.toNat=bs.length from by omega,List.take_length,List.append_assoc] at R2
  exact H s h2 R2 X2
end
end Go.Q.Yk
end
section
set_option maxRecDepth 100000
/- Strong: what is kept, and a change, are laid. -/
namespace Go.Q.Yk
open Go.Q.Sg
theorem add2 {b i j:Nat}:((⟨b,0,none⟩:Addr).add i).add j=(⟨b,0,none⟩:Addr).add (i + j):=by simp
theorem Blk.arrS {h:Heap} {b E i n:Nat} {cs:List Value} {y:List Int} (P:Blk h b cs E) (hd:(cs.drop i).take (arr n .u8 y).length=arr n .u8 y) (hy:y.length=n):SlcAt h ⟨some ((⟨b,0,none⟩:Addr).add i),n,n⟩ (b8 y):=by
 have hc:=P.cls hd
 rw [show arr n .u8 y=b8 y from arr_full hy] at hc
 exact ⟨(fun q=>by cases q),fun a ha j x hj=>by cases ha; exact hc j x hj⟩
/-- what is kept, in memory -/
structure MemAt (h:Heap) (v:S_api_Mem) (m:MemV):Prop where
 node:v.f_Node=m.node
 n:v.f_N=m.n
 t:v.f_T=m.t
 boot:v.f_Boot=m.boot
 lease:v.f_Lease=m.lease
 x:[v.f_Share.f_X]=m.x
 y:v.f_Share.f_Y=m.y
 p:v.f_Proof=m.p
 term:v.f_Term=m.term
 vote:v.f_Vote=m.vote
 base:v.f_Base=m.base
 bterm:v.f_BaseTerm=m.bterm
 snap:SlcAt h v.f_Snap (b8 m.snap)
 snapl:v.f_Snap.len=m.snap.length
 ents:∃ vs,LsAt S_api_Entry.cs 2 h v.f_Entries vs/\Many (EntAt h) vs m.ents
 chains:∃ vs,LsAt S_api_Chain.cs 33 h v.f_Chains vs/\Many ChAt vs m.chains
 boxes:∃ vs,LsAt S_api_Box.cs 15 h v.f_Boxes vs/\Many (BoxAt h) vs m.boxes
 clean:v.f_Clean=m.clean
theorem MemAt.ext {h h':Heap} {v:S_api_Mem} {m:MemV} (M:MemAt h v m) (X:Ext h.size h h'):MemAt h' v m :=
 { M with
  snap:=M.snap.ext X
  ents:=by obtain ⟨vs,a,b⟩:=M.ents; exact ⟨vs,a.ext X,b.imp fun _ _ e=>e.ext X⟩
  chains:=by obtain ⟨vs,a,b⟩:=M.chains; exact ⟨vs,a.ext X,b⟩
  boxes:=by obtain ⟨vs,a,b⟩:=M.boxes; exact ⟨vs,a.ext X,b.imp fun _ _ e=>e.ext X⟩ }
structure ChgAt (h:Heap) (v:S_api_Change) (c:ChgV):Prop where
 kind:c.kind=[v.f_Kind % 256]
 n:v.f_N=c.n
 node:v.f_Node=c.node
 chain:ChAt v.f_Chain c.chain
 kk:v.f_Keep.f_Kind=c.kk
 kt:v.f_Keep.f_Term=c.kt
 kv:v.f_Keep.f_Vote=c.kv
 ki:v.f_Keep.f_Index=c.ki
 ents:∃ vs,LsAt S_api_Entry.cs 2 h v.f_Keep.f_Entries vs/\Many (EntAt h) vs c.ents
 snap:SlcAt h v.f_Keep.f_Snap (b8 c.snap)
 snapl:v.f_Keep.f_Snap.len=c.snap.length
 gone:LsAt (fun x:List Int=>arr 12 .u8 x) 12 h v.f_Gone c.gone
 boxes:∃ vs,LsAt S_api_Box.cs 15 h v.f_Boxes vs/\Many (BoxAt h) vs c.boxes
 ten:sB v.f_Tenant=c.ten
theorem ChgAt.ext {h h':Heap} {v:S_api_Change} {c:ChgV} (M:ChgAt h v c) (X:Ext h.size h h'):ChgAt h' v c :=
 { M with
  snap:=M.snap.ext X
  ents:=by obtain ⟨vs,a,b⟩:=M.ents; exact ⟨vs,a.ext X,b.imp fun _ _ e=>e.ext X⟩
  gone:=M.gone.ext X
  boxes:=by obtain ⟨vs,a,b⟩:=M.boxes; exact ⟨vs,a.ext X,b.imp fun _ _ e=>e.ext X⟩ }
theorem u64_mod (x:Int):u64 (x % 18446744073709551616):=⟨by omega,by omega⟩
theorem fm_nums:∀ {ns:List Int},(ns.flatMap shortL).length<=10 * ns.length:=fun {ns}=>by
 have:=fm_le (f:=shortL) (xs:=ns) (c:=10) fun x _=>shortL_len x
 omega
theorem SPut_ok {v:S_api_Mem} {m:MemV} {k:Slc->Heap->Prop} {h:Heap} (M:MemAt h v m) (w:WfM m) (H:Lays' h (memC.put m.tup) k):strong_Put v k h:=by
 unfold strong_Put
 refine bx0 fun h2 P X2=>⟨v.f_Node,P.cl0 rfl,v.f_N,P.cl rfl,v.f_T,P.cl rfl,v.f_Boot,P.cl rfl,v.f_Lease,P.cl rfl,bx0 fun h3 P3 X3=>?_⟩
 have z2:=X2.size
 have z3:=X3.size
 have pl:=P.lt
 have M2:=M.ext X2
 obtain ⟨b,eb⟩:∃ b,b=h.size:=⟨_,rfl⟩
 rw [← eb] at P pl ⊢
 have at':∀ {hi:Heap},Ext h2.size h2 hi->Blk hi b (S_api_Mem.cs v) 33:=fun X=>P.ext X pl
 rw [wU64,wU64,wU64,M.node,M.n,M.t,M.boot,M.lease] at P3
 refine numbers_ok (B:=h2.size) (l:=[]) (ns:=[m.node % 18446744073709551616,m.n % 18446744073709551616,m.t % 18446744073709551616,m.boot,m.lease]) (Row.nil _ _ _ _) z3 (by simp) (Blk.slc (o:=0) (n:=5) P3 rfl) rfl (fun n hn=>?_) fun s4 h4 R4 X4=>?_
 ·simp only [List.mem_cons,List.not_mem_nil,or_false] at hn
  rcases hn with rfl | rfl | rfl | rfl | rfl
  ·exact u64_mod _
  ·exact u64_mod _
  ·exact u64_mod _
  ·exact w.boot
  ·exact w.lease
 have z4:=X4.size
 have l4:=fm_nums (ns:=[m.node % 18446744073709551616,m.n % 18446744073709551616,m.t % 18446744073709551616,m.boot,m.lease])
 have C4:=X3.trans (X4.mono z3)
 have Q4:=at' C4
 rw [List.nil_append] at R4
 obtain ⟨A,eA⟩:∃ A,A=([m.node % 18446744073709551616,m.n % 18446744073709551616,m.t % 18446744073709551616,m.boot,m.lease].flatMap shortL):=⟨_,rfl⟩
 rw [← eA] at R4 l4
 simp only [List.length_cons,List.length_nil] at l4
 rw [add2,show subS ⟨some ((⟨b,0,none⟩:Addr).add (5 + 1)),32,32⟩ 1 (0:Int).toNat (32:Int).toNat 32=⟨some ((⟨b,0,none⟩:Addr).add (5 + 1)),32,32⟩ from subF,show subS ⟨some ((⟨b,0,none⟩:Addr).add 38),32,32⟩ 1 (0:Int).toNat (32:Int).toNat 32=⟨some ((⟨b,0,none⟩:Addr).add 38),32,32⟩ from subF]
 refine ⟨v.f_Share.f_X,Q4.cl rfl,_,by omega,by omega,by omega,rfl,_,by omega,by omega,by omega,rfl,bx0 fun h5 P5 X5=>?_⟩
 have z5:=X5.size
 have C5:=C4.trans (X5.mono C4.size)
 have xl:=w.xl
 have yl:=w.yl
 have ql:=w.pl
 refine AppB (m:=[v.f_Share.f_X]) (R4.ext X5 fun g hg=>(R4.bd hg).2) (by omega) rfl (by simp only [List.length_singleton]; omega) fun s6 h6 R6 X6=>?_
 have C6:=C5.trans X6
 rw [M.x] at R6
 refine ⟨_,by rw [← M.y] at yl ⊢; exact Blk.arrS (at' C6) (y:=v.f_Share.f_Y) rfl yl,AppB (m:=m.y) R6 C6.size yl.symm (by rw [List.length_append]; omega) fun s7 h7 R7 X7=>?_⟩
 have C7:=C6.trans X7
 refine ⟨_,by rw [← M.p] at ql ⊢; exact Blk.arrS (at' C7) (y:=v.f_Proof) rfl ql,AppB (m:=m.p) R7 C7.size ql.symm (by simp only [List.length_append]; omega) fun s8 h8 R8 X8=>?_⟩
 have C8:=C7.trans X8
 have Q8:=at' C8
 refine ⟨v.f_Term,Q8.cl rfl,v.f_Vote,Q8.cl rfl,v.f_Base,Q8.cl rfl,v.f_BaseTerm,Q8.cl rfl,bx0 fun h9 P9 X9=>?_⟩
 have C9:=C8.trans (X9.mono C8.size)
 rw [wU64,M.term,M.vote,M.base,M.bterm] at P9
 have l8:(A ++ m.x ++ m.y ++ m.p).length<=200:=by simp only [List.length_append]; omega
 obtain ⟨D,eD⟩:∃ D,D=A ++ m.x ++ m.y ++ m.p:=⟨_,rfl⟩
 rw [← eD] at R8 l8
 refine numbers_ok (B:=h2.size) (l:=D) (ns:=[m.term,m.vote % 18446744073709551616,m.base,m.bterm]) (R8.ext X9 fun g hg=>(R8.bd hg).2) C9.size (by simp only [List.length_cons,List.length_nil]; omega) (Blk.slc (o:=0) (n:=4) P9 rfl) rfl (fun n hn=>?_) fun s10 h10 R10 X10=>?_
 ·simp only [List.mem_cons,List.not_mem_nil,or_false] at hn
  rcases hn with rfl | rfl | rfl | rfl
  ·exact w.term
  ·exact u64_mod _
  ·exact w.base
  ·exact w.bterm
 have C10:=C9.trans (X10.mono C9.size)
 have l10:=fm_nums (ns:=[m.term,m.vote % 18446744073709551616,m.base,m.bterm])
 simp only [List.length_cons,List.length_nil] at l10
 obtain ⟨F,eF⟩:∃ F,F=D ++ [m.term,m.vote % 18446744073709551616,m.base,m.bterm].flatMap shortL:=⟨_,rfl⟩
 have lF:F.length<=240:=by rw [eF,List.length_append]; omega
 rw [← eF] at R10
 have Q10:=at' C10
 have old:∀ {hi:Heap},Ext h2.size h2 hi->MemAt hi v m:=fun X=>M2.ext X
 have M10:=old C10
 have sl:=w.snapl
 refine ⟨v.f_Snap,Q10.cl rfl,v.f_Entries,Q10.cl rfl,stext_ok (Row.pb R10) R10.slc (by omega) M10.snapl M10.snap (by omega) fun s11 h11 R11 X11=>?_⟩
 have C11:=C10.trans (X11.mono C10.size)
 have M11:=old C11
 have q11:=shortL_len m.snap.length
 have l11:(F ++ tx m.snap).length<=1000250:=by unfold tx; simp only [List.length_append]; omega
 obtain ⟨G,eG⟩:∃ G,G=F ++ tx m.snap:=⟨_,rfl⟩
 rw [← eG] at R11 l11
 obtain ⟨es,E1,E2⟩:=M11.ents
 refine ⟨(at' C11).cl rfl,entries_ok (Row.pb R11) R11.slc (by omega) E1 E2 w.ents w.entsl fun s12 h12 R12 X12=>?_⟩
 have C12:=C11.trans (X12.mono C11.size)
 have M12:=old C12
 obtain ⟨cs,E3,E4⟩:=M12.chains
 have q12:=shortL_len m.ents.length
 have el:=w.entsl
 have l12:(G ++ (manyC entC).put m.ents).length<=2000000000000:=by
  have:(m.ents.flatMap entC.put).length<=m.ents.length * 1000020:=fm_le fun x hx=>ent_len (w.ents x hx).2.2
  show (G ++ (shortL m.ents.length ++ m.ents.flatMap entC.put)).length<=_
  simp only [List.length_append]; omega
 obtain ⟨I,eI⟩:∃ I,I=G ++ (manyC entC).put m.ents:=⟨_,rfl⟩
 rw [← eI] at R12 l12
 refine ⟨v.f_Chains,(at' C12).cl rfl,?_⟩
 have vl:=E3.l
 have ml:=E4.l
 have chl:=w.chainsl
 refine ⟨fun q h'=>0<=q.2/\q.2<=m.chains.length/\Row h2.size h' 5 1 q.1 (b8 (I ++ (m.chains.take q.2.toNat).flatMap chC.put))/\Ext h2.size h2 h',fun q _=>(m.chains.length - q.2).toNat,⟨by dsimp only; omega,by dsimp only; omega,by simpa using R12.mono (by have:=C11.size; omega),C12⟩,?_⟩
 rintro s i h13 ⟨i0,i1,R13,C13⟩
 dsimp only at i0 i1 R13
 have z13:=C13.size
 have M13:=old C13
 have hl2:((m.chains.take i.toNat).flatMap chC.put).length<=m.chains.length * 42:=fm_le_take (fun x hx=>ch_len (w.chains x hx).2.2) _
 unfold strong_Put_l1b
 have same:∃ cs,LsAt S_api_Chain.cs 33 h13 v.f_Chains cs/\Many ChAt cs m.chains:=M13.chains
 obtain ⟨cs',E5,E6⟩:=same
 have vl':=E5.l
 have ml':=E6.l
 by_cases c:i < m.chains.length
 ·rw [if_pos (by rw [decide_eq_true_eq]; omega)]
  obtain ⟨ch,hch⟩:∃ ch,m.chains[i.toNat]? = some ch:=⟨_,List.getElem?_eq_getElem (by omega)⟩
  obtain ⟨a,u,ha,_,hlt,hu,hc⟩:=E5.it i0 (by omega)
  have E:=E6.r _ _ _ hu hch
  obtain ⟨w1,w2,w3⟩:=w.chains ch (List.mem_of_getElem? hch)
  refine ⟨a,ha,i0,hlt,u,hc,bx (cs:=S_api_Chain.cs u) rfl (by show 33<=33; omega) fun h14 P14 X14=>?_⟩
  have z14:=X14.size
  have R14:=R13.ext X14 fun g hg=>(R13.bd hg).2
  refine ⟨u,CellsAt.of_blk P14,chain_ok (Row.pb R14) R14.slc (by rw [List.length_append]; omega) E w1 w3 fun s15 h15 R15 X15=>?_⟩
  rw [wrapI64 (x:=i + 1) (by omega) (by omega)]
  refine ⟨⟨by dsimp only; omega,by dsimp only; omega,?_,C13.trans ((X14.mono z13).trans (X15.mono (by omega)))⟩,by dsimp only; omega⟩
  dsimp only
  rw [show (i + 1).toNat=i.toNat + 1 from by omega,fm_take chC.put hch,← List.append_assoc]
  exact R15.mono (by omega)
 ·rw [if_neg (by rw [decide_eq_true_eq]; omega)]
  rw [show i.toNat=m.chains.length from by omega,List.take_length] at R13 hl2
  have Q13:=at' C13
  obtain ⟨bs,E7,E8⟩:=M13.boxes
  refine ⟨v.f_Boxes,Q13.cl rfl,v.f_Clean,Q13.cl rfl,several_ok (Row.pb R13) R13.slc (by rw [List.length_append]; omega) E7 E8 w.boxes w.boxesl fun s14 h14 R14 X14=>?_⟩
  have C14:=C13.trans (X14.mono C13.size)
  refine ⟨(at' C14).cl rfl,?_⟩
  have q14:=shortL_len m.boxes.length
  have bl:=w.boxesl
  have l14:((manyC boxC).put m.boxes).length<=2000100000000:=by
   have:(m.boxes.flatMap boxC.put).length<=m.boxes.length * 2000036:=fm_le fun x hx=>box_len (w.boxes x hx)
   show (shortL m.boxes.length ++ m.boxes.flatMap boxC.put).length<=_
   simp only [List.length_append]; omega
  rw [M.clean]
  refine PutShort_ok (Row.pb R14) R14.slc (by simp only [List.length_append] at hl2 ⊢; omega) w.clean.1 w.clean.2 fun s15 h15 R15 X15=>H s15 h15 ?_ (X2.trans ((C14.trans (X15.mono C14.size)).mono z2))
  have e:memC.put m.tup=I ++ m.chains.flatMap chC.put ++ (manyC boxC).put m.boxes ++ shortL m.clean:=by
   rw [eI,eG,eF,eD,eA]
   simp only [List.flatMap_cons,List.flatMap_nil,List.append_nil,List.append_assoc]
   rfl
  rw [e]
  exact R15.mono (by have:=C14.size; omega)
end Go.Q.Yk
end
section
set_option maxRecDepth 100000
/- Strong: a change is laid. -/
namespace Go.Q.Yk
open Go.Q.Sg
theorem S2B_ok {t:ByteArray} {k:Slc->Heap->Prop} {h:Heap} (H:∀ s' h',Row h.size h' 5 1 s' (b8 (sB t))->Ext h.size h h'->k s' h'):S2B 5 h t k:=by
 intro c hc hm
 have hl:(b8 (sB t) ++ List.replicate (c - t.size) (Value.int .u8 0)).length=c:=by simp [sB_len]; omega
 have P:=Blk.pushM h (b8 (sB t) ++ List.replicate (c - t.size) (Value.int .u8 0)) 5 (lo:=c) (hi:=c + 1) (by omega)
 refine H _ _ ⟨by simp [sB_len],hm,.inr ⟨h.size,_,rfl,Nat.le_refl _,P,hc,by rw [hl,Nat.mul_one]; exact Nat.le_refl _,?_⟩⟩ (Ext.push h _ (Nat.le_refl _))
 rw [List.take_left' (by simp [sB_len])]
theorem gone_len {l:List (List Int)} (h:∀ g∈l,isB g/\g.length=12):∀ g∈l,((bytesC 12).put g).length<=12:=fun g hg=>by
 have:=(h g hg).2
 show g.length<=12
 omega
theorem PutC_end {v:S_api_Change} {c:ChgV} {b:Nat} {h2 h:Heap} {s:Slc} {A:List Int} {k:Slc->Heap->Prop} (M:ChgAt h2 v c) (w:WfC c) (P:Blk h2 b (S_api_Change.cs v) 40) (X:Ext h2.size h2 h) (R:Row h2.size h 5 1 s (b8 A)) (lA:A.length<=8000000000000)
  (H:∀ s' h',Row h2.size h' 5 1 s' (b8 (A ++ (manyC boxC).put c.boxes ++ tx c.ten))->Ext h2.size h2 h'->k s' h'):∃ v31:Slc,cellH h ((⟨b,0,none⟩:Addr).add 43)=some (Slc.v v31)/\(∃ v32:ByteArray,cellH h ((⟨b,0,none⟩:Addr).add 44)=some (.string v32)/\((strong_several s v31 (fun (r33:Slc) h34=>cellH h34 ((⟨b,0,none⟩:Addr).add 44)=some (.string v32)/\(v32.size<=maxLen/\S2B 5 h34 v32 (fun s36 h37=>strong_text r33 s36 (fun (r38:Slc) h39=>k r38 h39) h37))) h)/\(v32.size<=maxLen/\S2B 5 h v32 (fun s40 h41=>cellH h41 ((⟨b,0,none⟩:Addr).add 43)=some (Slc.v v31)/\(strong_several s v31 (fun (r43:Slc) h44=>strong_text r43 s40 (fun (r45:Slc) h46=>k r45 h46) h44) h41))))):=by
 have pl:=P.lt
 have at':∀ {hi:Heap},Ext h2.size h2 hi->Blk hi b (S_api_Change.cs v) 40:=fun X=>P.ext X pl
 have old:∀ {hi:Heap},Ext h2.size h2 hi->ChgAt hi v c:=fun X=>M.ext X
 have Q:=at' X
 have z:=X.size
 have tl:=w.tenl
 have ts:v.f_Tenant.size=c.ten.length:=by rw [← M.ten,sB_len]
 have mx:v.f_Tenant.size<=maxLen:=by rw [ts]; simp only [maxLen]; omega
 have bl:=w.boxesl
 have q0:=shortL_len c.boxes.length
 have lB:((manyC boxC).put c.boxes).length<=2000100000000:=by
  have:(c.boxes.flatMap boxC.put).length<=c.boxes.length * 2000036:=fm_le fun x hx=>box_len (w.boxes x hx)
  show (shortL c.boxes.length ++ c.boxes.flatMap boxC.put).length<=_
  simp only [List.length_append]; omega
 refine ⟨v.f_Boxes,Q.cl rfl,v.f_Tenant,Q.cl rfl,?_,mx,?_⟩
 ·obtain ⟨bs,E7,E8⟩:=(old X).boxes
  refine several_ok (Row.pb R) R.slc (by omega) E7 E8 w.boxes w.boxesl fun s14 h14 R14 X14=>?_
  have C14:=X.trans (X14.mono z)
  refine ⟨(at' C14).cl rfl,mx,S2B_ok fun s15 h15 R15 X15=>?_⟩
  have C15:=C14.trans (X15.mono C14.size)
  rw [M.ten] at R15
  have R14':=R14.ext X15 fun g hg=>(R14.bd hg).2
  exact stext_ok (Row.pb R14') R14'.slc (by rw [List.length_append]; omega) (Row.pb R15) R15.slc (by omega) fun s16 h16 R16 X16=>H s16 h16 (R16.mono (by have:=C15.size; omega)) (C15.trans (X16.mono C15.size))
 ·refine S2B_ok fun s15 h15 R15 X15=>?_
  have C15:=X.trans (X15.mono z)
  rw [M.ten] at R15
  have R':=R.ext X15 fun g hg=>(R.bd hg).2
  obtain ⟨bs,E7,E8⟩:=(old C15).boxes
  refine ⟨(at' C15).cl rfl,several_ok (Row.pb R') R'.slc (by omega) E7 E8 w.boxes w.boxesl fun s14 h14 R14 X14=>?_⟩
  have C14:=C15.trans (X14.mono C15.size)
  have R15':=R15.ext X14 fun g hg=>(R15.bd hg).2
  exact stext_ok (Row.pb R14) R14.slc (by rw [List.length_append]; omega) (Row.pb R15') R15'.slc (by omega) fun s16 h16 R16 X16=>H s16 h16 (R16.mono (by have:=C14.size; omega)) (C14.trans (X16.mono C14.size))
theorem PutC_j1 {v:S_api_Change} {c:ChgV} {b:Nat} {h2 h:Heap} {s:Slc} {D:List Int} {k:Slc->Heap->Prop} (M:ChgAt h2 v c) (w:WfC c) (P:Blk h2 b (S_api_Change.cs v) 40) (X:Ext h2.size h2 h) (R:Row h2.size h 5 1 s (b8 D)) (lD:D.length<=300)
  (H:∀ s' h',Row h2.size h' 5 1 s' (b8 (D ++ [c.kk % 18446744073709551616,c.kt,c.kv % 18446744073709551616,c.ki].flatMap shortL ++ (manyC entC).put c.ents ++ tx c.snap ++ (manyC (bytesC 12)).put c.gone ++ (manyC boxC).put c.boxes ++ tx c.ten))->Ext h2.size h2 h'->k s' h'):strong_PutChange_j1 (⟨b,0,none⟩:Addr) s k h:=by
 have pl:=P.lt
 have at':∀ {hi:Heap},Ext h2.size h2 hi->Blk hi b (S_api_Change.cs v) 40:=fun X=>P.ext X pl
 have old:∀ {hi:Heap},Ext h2.size h2 hi->ChgAt hi v c:=fun X=>M.ext X
 unfold strong_PutChange_j1
 simp only [add2]
 have Q:=at' X
 refine ⟨v.f_Keep.f_Kind,Q.cl rfl,v.f_Keep.f_Term,Q.cl rfl,v.f_Keep.f_Vote,Q.cl rfl,v.f_Keep.f_Index,Q.cl rfl,bx0 fun h9 P9 X9=>?_⟩
 have C9:=X.trans (X9.mono X.size)
 rw [wU64,wU64,M.kk,M.kt,M.kv,M.ki] at P9
 refine numbers_ok (B:=h2.size) (l:=D) (ns:=[c.kk % 18446744073709551616,c.kt,c.kv % 18446744073709551616,c.ki]) (R.ext X9 fun g hg=>(R.bd hg).2) C9.size (by simp only [List.length_cons,List.length_nil]; omega) (Blk.slc (o:=0) (n:=4) P9 rfl) rfl (fun n hn=>?_) fun s10 h10 R10 X10=>?_
 ·simp only [List.mem_cons,List.not_mem_nil,or_false] at hn
  rcases hn with rfl | rfl | rfl | rfl
  ·exact u64_mod _
  ·exact w.kt
  ·exact u64_mod _
  ·exact w.ki
 have C10:=C9.trans (X10.mono C9.size)
 have l10:=fm_nums (ns:=[c.kk % 18446744073709551616,c.kt,c.kv % 18446744073709551616,c.ki])
 simp only [List.length_cons,List.length_nil] at l10
 obtain ⟨F,eF⟩:∃ F,F=D ++ [c.kk % 18446744073709551616,c.kt,c.kv % 18446744073709551616,c.ki].flatMap shortL:=⟨_,rfl⟩
 have lF:F.length<=340:=by rw [eF,List.length_append]; omega
 rw [← eF] at R10 H
 have Q10:=at' C10
 have M10:=old C10
 obtain ⟨es,E1,E2⟩:=M10.ents
 refine ⟨v.f_Keep.f_Entries,Q10.cl rfl,v.f_Keep.f_Snap,Q10.cl rfl,entries_ok (Row.pb R10) R10.slc (by omega) E1 E2 w.ents w.entsl fun s12 h12 R12 X12=>?_⟩
 have C12:=C10.trans (X12.mono C10.size)
 have M12:=old C12
 have q12:=shortL_len c.ents.length
 have el:=w.entsl
 have l12:(F ++ (manyC entC).put c.ents).length<=2000000000000:=by
  have:(c.ents.flatMap entC.put).length<=c.ents.length * 1000020:=fm_le fun x hx=>ent_len (w.ents x hx).2.2
  show (F ++ (shortL c.ents.length ++ c.ents.flatMap entC.put)).length<=_
  simp only [List.length_append]; omega
 obtain ⟨G,eG⟩:∃ G,G=F ++ (manyC entC).put c.ents:=⟨_,rfl⟩
 rw [← eG] at R12 l12 H
 have sl:=w.snapl
 refine ⟨(at' C12).cl rfl,stext_ok (Row.pb R12) R12.slc (by omega) M12.snapl M12.snap (by omega) fun s13 h13 R13 X13=>?_⟩
 have C13:=C12.trans (X13.mono C12.size)
 have q13:=shortL_len c.snap.length
 have l13:(G ++ tx c.snap).length<=2000002000000:=by unfold tx; simp only [List.length_append]; omega
 obtain ⟨I,eI⟩:∃ I,I=G ++ tx c.snap:=⟨_,rfl⟩
 rw [← eI] at R13 l13 H
 have gl:=w.gonel
 have Lg:=(old C13).gone
 have gll:=Lg.l
 refine ⟨v.f_Gone,(at' C13).cl rfl,?_⟩
 rw [wrapU64 (x:=(v.f_Gone.len:Int)) (by omega) (by omega),show (v.f_Gone.len:Int)=c.gone.length from by omega]
 refine PutShort_ok (Row.pb R13) R13.slc (by omega) (by omega) (by omega) fun s14 h14 R14 X14=>?_
 have C14:=C13.trans (X14.mono C13.size)
 have q14:=shortL_len c.gone.length
 refine ⟨v.f_Gone,(at' C14).cl rfl,?_⟩
 refine ⟨fun q h'=>0<=q.2/\q.2<=c.gone.length/\Row h2.size h' 5 1 q.1 (b8 (I ++ shortL c.gone.length ++ (c.gone.take q.2.toNat).flatMap (bytesC 12).put))/\Ext h2.size h2 h',fun q _=>(c.gone.length - q.2).toNat,⟨by dsimp only; omega,by dsimp only; omega,by simpa using R14.mono (by have:=C13.size; omega),C14⟩,?_⟩
 rintro s' i h15 ⟨i0,i1,R15,C15⟩
 dsimp only at i0 i1 R15
 have z15:=C15.size
 have hl2:((c.gone.take i.toNat).flatMap (bytesC 12).put).length<=c.gone.length * 12:=fm_le_take (gone_len w.gone) _
 unfold strong_PutChange_l2b
 have E5:=(old C15).gone
 by_cases ci:i < c.gone.length
 ·rw [if_pos (by rw [decide_eq_true_eq]; omega)]
  obtain ⟨a,g,ha,_,hlt,hg,hc⟩:=E5.it i0 (by omega)
  obtain ⟨w1,w2⟩:=w.gone g (List.mem_of_getElem? hg)
  refine ⟨a,ha,i0,hlt,g,hc,bx (cs:=arr 12 .u8 g) rfl (by show 12<=12; omega) fun h16 P16 X16=>?_⟩
  have z16:=X16.size
  have R16:=R15.ext X16 fun g hg=>(R15.bd hg).2
  rw [show subS ⟨some (⟨h15.size,0,none⟩:Addr),12,12⟩ 1 (0:Int).toNat (12:Int).toNat 12=⟨some (⟨h15.size,0,none⟩:Addr),12,12⟩ from subF]
  rw [show arr 12 .u8 g=b8 g from arr_full w2] at P16
  refine ⟨_,by omega,by omega,by omega,rfl,_,Blk.slc (o:=0) (n:=12) (ys:=b8 g) P16 (by rw [List.drop_zero,List.take_of_length_le (by rw [List.length_map]; omega)]),AppB (m:=g) R16 (by omega) w2.symm (by simp only [List.length_append]; omega) fun s17 h17 R17 X17=>?_⟩
  rw [wrapI64 (x:=i + 1) (by omega) (by omega)]
  refine ⟨⟨by dsimp only; omega,by dsimp only; omega,?_,C15.trans ((X16.mono z15).trans X17)⟩,by dsimp only; omega⟩
  dsimp only
  rw [show (i + 1).toNat=i.toNat + 1 from by omega,fm_take (bytesC 12).put hg,← List.append_assoc]
  exact R17
 ·rw [if_neg (by rw [decide_eq_true_eq]; omega)]
  rw [show i.toNat=c.gone.length from by omega,List.take_length] at R15 hl2
  refine PutC_end M w P C15 R15 (by simp only [List.length_append]; omega) fun s16 h16 R16 C16=>H s16 h16 ?_ C16
  rw [List.append_assoc I] at R16
  exact R16
theorem PutC_ok {v:S_api_Change} {c:ChgV} {k:Slc->Heap->Prop} {h:Heap} (M:ChgAt h v c) (w:WfC c) (H:Lays' h (chgC.put c.tup) k):strong_PutChange v k h:=by
 unfold strong_PutChange
 refine bx0 fun h2 P X2=>⟨v.f_Kind,P.cl0 rfl,v.f_N,P.cl rfl,v.f_Node,P.cl rfl,v.f_Chain,P.cls rfl,?_⟩
 have z2:=X2.size
 have pl:=P.lt
 have M2:=M.ext X2
 obtain ⟨b,eb⟩:∃ b,b=h.size:=⟨_,rfl⟩
 rw [← eb] at P pl ⊢
 have at':∀ {hi:Heap},Ext h2.size h2 hi->Blk hi b (S_api_Change.cs v) 40:=fun X=>P.ext X pl
 have cl:=w.chainl
 have hn:∀ n∈[c.n,c.node % 18446744073709551616],u64 n:=fun n hn=>by
  simp only [List.mem_cons,List.not_mem_nil,or_false] at hn
  rcases hn with rfl | rfl
  ·exact w.n
  ·exact u64_mod _
 have l4:=fm_nums (ns:=[c.n,c.node % 18446744073709551616])
 simp only [List.length_cons,List.length_nil] at l4
 -- the head, and what follows
 have go:∀ {h5 h6:Heap} {b1 b2:Nat},Ext h2.size h2 h5->Blk h5 b1 [.int .u8 (v.f_Kind % 256)] 5->h2.size<=b1->Blk h5 b2 [.int .u64 c.n,.int .u64 (c.node % 18446744073709551616)] 22 ->
   strong_numbers (⟨some ⟨b1,0,none⟩,1,1⟩:Slc) (⟨some ⟨b2,0,none⟩,2,2⟩:Slc) (fun (r59:Slc) h60=>CellsAt h60 ((⟨b,0,none⟩:Addr).add 3) (S_api_Chain.cs v.f_Chain)/\(strong_chain r59 v.f_Chain (fun (r62:Slc) h63=>strong_PutChange_j1 (⟨b,0,none⟩:Addr) r62 k h63) h60)) h5:=fun {h5 h6 b1 b2} C5 P5 hb P6=>by
  have R5:Row h2.size h5 5 1 ⟨some ⟨b1,0,none⟩,1,1⟩ (b8 [v.f_Kind % 256]):=Row.of_blk (zs:=[]) (by simpa using P5) hb rfl rfl (by simp only [maxLen]; omega)
  refine numbers_ok (B:=h2.size) (ns:=[c.n,c.node % 18446744073709551616]) R5 C5.size (by simp) (Blk.slc (o:=0) (n:=2) P6 rfl) rfl hn fun s7 h7 R7 X7=>?_
  have C7:=C5.trans (X7.mono C5.size)
  refine ⟨(at' C7).cls rfl,chain_ok (Row.pb R7) R7.slc (by simp only [List.length_append,List.length_singleton]; omega) M.chain w.chain cl fun s8 h8 R8 X8=>?_⟩
  have C8:=C7.trans (X8.mono C7.size)
  have lc:=ch_len cl
  refine PutC_j1 M2 w P C8 (R8.mono C7.size) (by simp only [List.length_append,List.length_singleton]; omega) fun s9 h9 R9 C9=>H s9 h9 ?_ (X2.trans (C9.mono z2))
  have e:chgC.put c.tup=[v.f_Kind % 256] ++ [c.n,c.node % 18446744073709551616].flatMap shortL ++ chC.put c.chain ++ [c.kk % 18446744073709551616,c.kt,c.kv % 18446744073709551616,c.ki].flatMap shortL ++ (manyC entC).put c.ents ++ tx c.snap ++ (manyC (bytesC 12)).put c.gone ++ (manyC boxC).put c.boxes ++ tx c.ten:=by
   rw [← M.kind]
   simp only [List.flatMap_cons,List.flatMap_nil,List.append_nil,List.append_assoc]
   rfl
  rw [e]
  exact R9.mono z2
 refine ⟨bx0 fun h3 P3 X3=>⟨(at' X3).cls rfl,(at' X3).cl rfl,(at' X3).cl rfl,bx0 fun h4 P4 X4=>?_⟩,bx0 fun h3 P3 X3=>⟨(at' X3).cls rfl,(at' X3).cl0 rfl,bx0 fun h4 P4 X4=>?_⟩⟩
 ·have C4:=X3.trans (X4.mono X3.size)
  rw [wU8] at P3
  rw [wU64,M.n,M.node] at P4
  exact ⟨(at' C4).cls rfl,go (h6:=h4) C4 (P3.ext X4 P3.lt) (Nat.le_refl _) P4⟩
 ·have C4:=X3.trans (X4.mono X3.size)
  rw [wU8] at P4
  rw [wU64,M.n,M.node] at P3
  exact ⟨(at' C4).cls rfl,go (h6:=h4) C4 P4 X3.size (P3.ext X4 P3.lt)⟩
end Go.Q.Yk
end

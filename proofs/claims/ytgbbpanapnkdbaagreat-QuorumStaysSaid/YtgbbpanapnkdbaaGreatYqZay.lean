/- A part of the proof of statements of this seat: lemmas, no statement of their own. -/
import Derived.Test.YtgbbpanapnkdbaaGreatYqZax
import Derived.Test.YtgbbpanapnkdbaaGreatYqZat
import Derived.Test.YtgbbpanapnkdbaaGreatYqZao
set_option linter.unusedVariables false
set_option linter.unusedSimpArgs false
section
set_option maxRecDepth 100000
/- Contracts: a query is run. -/
namespace Go.Q.Yq
open Go.Q.Rw
abbrev qcs5:=S_api_Query.cs
theorem sel_U (t:ByteArray) {P:ByteArray->Prop} (h:P (ofL (U t))):P t:=by rwa [ofL_U] at h
theorem Check_ok {q:S_api_Query} {k:Int->Heap->Prop} {h:Heap} (hs:q.f_Select.size<=100000000) (H:∀ h',Ext h.size h h'->k (chkQ q) h'):query_Check q k h:=by
 unfold query_Check
 refine bx0 fun h2 B1 X1=>⟨q.f_Select,B1.cl0 rfl,?_⟩
 have z1:=X1.size
 refine sel_U q.f_Select (P:=fun t=>label_Selector t _ h2) ?_
 have ul:=U_len q.f_Select
 refine Selector_ok (by omega) (fun h5 e X5=>?_) (fun name qs s h5 e R rl X5=>?_)
 ·have z5:=X5.size
  refine bx rfl (by decide) fun h8 B8 X8=>?_
  rw [if_pos (by decide)]
  have:=H h8 (X1.trans ((X5.mono z1).trans (X8.mono (by omega))))
  unfold chkQ at this
  rw [e] at this
  exact this
 ·have z5:=X5.size
  refine bx rfl (by decide) fun h8 B8 X8=>?_
  have z8:=X8.size
  rw [if_neg (by simp)]
  have X:=X1.trans ((X5.mono z1).trans (X8.mono (by omega)))
  have H2:=H h8 X
  have C1:=(B1.ext X5 B1.lt).ext X8 (Nat.lt_of_lt_of_le B1.lt z5)
  unfold chkQ at H2
  rw [e] at H2
  simp only [Option.isNone_some,Bool.false_eq_true,if_false] at H2
  refine ⟨q.f_Agg,C1.cl rfl,?_⟩
  unfold query_Check_g1 query_Check_g3 query_Check_g2
  by_cases h0:q.f_Agg < 0
  ·rw [if_pos (by simpa using h0),if_pos rfl,if_pos rfl]
   rw [if_pos (by omega)] at H2; exact H2
  ·rw [if_neg (by simpa using h0)]
   refine ⟨q.f_Agg,C1.cl rfl,?_⟩
   by_cases h6:q.f_Agg > 6
   ·rw [if_pos (by simpa using h6),if_pos rfl]
    rw [if_pos (by omega)] at H2; exact H2
   ·rw [if_neg (by simpa using h6)]
    refine ⟨q.f_Agg,C1.cl rfl,?_⟩
    by_cases e6:q.f_Agg=6
    ·rw [if_pos (by simpa using e6)]
     refine ⟨q.f_Step,C1.cl rfl,?_⟩
     by_cases st:q.f_Step < 1
     ·rw [if_pos (by simpa using st)]
      rw [if_pos (by omega)] at H2; exact H2
     ·rw [if_neg (by simpa using st)]
      rw [if_neg (by omega)] at H2; exact H2
    ·rw [if_neg (by simpa using e6),if_neg (by simp)]
     rw [if_neg (by omega)] at H2; exact H2
theorem parse_len {l n:Tx} {ls:List LU} (hl:l.length<=100000000) (h:parseU l=some (n,ls)):okL ls/\ls.length<=8:=by
 unfold parseU at h
 cases hs:selU l with
 | none=>rw [hs] at h; cases h
 | some x =>
  obtain ⟨name,qs⟩:=x
  rw [hs] at h
  dsimp only at h
  obtain ⟨a,b,c⟩:=sel_len hs
  split at h
  ·cases h
  ·split at h
   ·cases h
    refine ⟨fun x hx=>?_,by simpa using c⟩
    obtain ⟨y,hy,rfl⟩:=List.mem_map.1 hx
    have:=b y hy
    dsimp only
    omega
   ·cases h
theorem lsOf {α β:Type} {cs:α->List Value} {w:Nat} {f:β->α} (hc:∀ x,(cs x).length=w) (hw:0 < w) {B E:Nat} {h:Heap} {s:Slc} {xs:List β} (R:Row B h E w s (xs.flatMap fun x=>cs (f x))) (hl:s.len=xs.length):LsAt cs w h s (xs.map f):=by
 refine ls_of_slc hc ?_ (by simp [hl]) hw
 have:=R.slc
 rw [List.flatMap_map]; exact this
theorem Ask_ok {q:S_api_Query} {p1:Slc} {l:List Pc} {hz:Int} {k:Slc × Int->Heap->Prop} {h:Heap} (L:Pcs h p1 l) (m:l.length<=1000000) (hs:q.f_Select.size<=100000000) (hp:∀ p∈l,p.f_Series.size<=100000000)
  (H0:∀ h',chkQ q≠0->Ext h.size h h'->k (⟨none,0,0⟩,chkQ q) h')
  (H1:∀ zs s h',chkQ q=0->IsMrg l zs->Row h.size h' 89 5 s ((askQ q hz zs).flatMap S_api_Piece.cs)->s.len=(askQ q hz zs).length->Ext h.size h h'->k (s,0) h'):query_Ask q p1 hz k h:=by
 unfold query_Ask
 refine bx0 fun h2 B1 X1=>⟨q,CellsAt.of_blk B1,Check_ok hs fun h5 X5=>?_⟩
 have z1:=X1.size
 have z5:=X5.size
 have X05:=X1.trans (X5.mono z1)
 by_cases hc:chkQ q=0
 rotate_left
 ·rw [if_pos (by simpa using hc)]
  exact H0 h5 hc X05
 rw [if_neg (by simpa using hc)]
 have l1:=B1.lt
 have C1:=B1.ext X5 l1
 refine ⟨q.f_Select,C1.cl0 rfl,sel_U q.f_Select (P:=fun t=>label_Selector t _ h5) ?_⟩
 have ul:=U_len q.f_Select
 refine Selector_ok (by omega) (fun h8 e X8=>?_) (fun name qs sq h8 e Rq ql X8=>?_)
 ·unfold chkQ at hc
  rw [e] at hc
  simp at hc
 have z8:=X8.size
 have hask:∀ zs,askQ q hz zs=askP q.f_From q.f_To hz (chs name qs) zs:=fun zs=>by unfold askQ; rw [e]
 refine bx rfl (by decide) fun h11 B9 X11=>⟨_,_,rfl,rfl,?_⟩
 have z11:=X11.size
 have XM:=Ext.push h11 (.map #[] 0) (Nat.le_refl _)
 have M0:MapAt .string Value.string Value.bool (h11.push (.map #[] 0)) (some h11.size) ([]:List (ByteArray × Bool)):=MapAt.mk0
 have B9':=B9.ext XM B9.lt
 have l9:=B9.lt
 generalize h11.push (.map #[] 0)=h13 at *
 have z13:=XM.size
 have ml:=M0.lt
 have X013:Ext h.size h h13:=X05.trans ((X8.mono (by omega)).trans ((X11.mono (by omega)).trans (XM.mono (by omega))))
 have D1:Blk h13 h.size (qcs5 q) 28:=((C1.ext X8 (by omega)).ext X11 (by omega)).ext XM (by omega)
 have Rq13:Row h5.size h13 174 3 sq (qs.flatMap qcs):=(Rq.ext X11 fun g hg=>(Rq.bd hg).2).ext XM fun g hg=>by have:=(Rq.bd hg).2; omega
 refine ⟨q.f_From,D1.cl rfl,q.f_To,D1.cl rfl,bx0 fun h17 B16 X17=>⟨(D1.ext X17 D1.lt).cl rfl,(D1.ext X17 D1.lt).cl rfl,?_⟩⟩
 have z17:=X17.size
 have X017:=X013.trans (X17.mono (by omega))
 refine Merge_ok B16 (L.ext X017) m fun zs t h21 IM R21 tl X21=>?_
 have z21:=X21.size
 have E1:=(D1.ext X17 D1.lt).ext X21 (Nat.lt_of_lt_of_le D1.lt z17)
 refine ⟨E1.cl rfl,E1.cl rfl,?_⟩
 have zl:=IM.len
 have et:(if hz > q.f_From then hz else q.f_From)=max q.f_From hz:=by split <;> omega
 refine Between_ok (ls_of_slc pcs5 R21.slc tl (by decide)) (by omega) fun u h25 R25 ul25 X25=>?_
 have z25:=X25.size
 rw [et] at R25 ul25
 obtain ⟨bs,eb⟩:∃ bs,bs=zs.filter fun p=>decide (max q.f_From hz<=p.f_T) && decide (p.f_T<=q.f_To):=⟨_,rfl⟩
 rw [← eb] at R25 ul25
 have fin:askQ q hz zs=bs.filter fun p=>chs name qs p.f_Series:=by
  rw [hask,eb,List.filter_filter]
  unfold askP
  congr 1
  funext p
  rw [Bool.and_comm]
 have bl:bs.length<=1000000:=by rw [eb]; exact Nat.le_trans (List.length_filter_le _ _) (by omega)
 have X1325:Ext h13.size h13 h25:=X17.trans ((X21.mono z17).trans (X25.mono (by omega)))
 have M25:=M0.ext X1325 ml
 have F9:=B9'.ext X1325 B9'.lt
 have Rq25:=Rq13.ext X1325 fun g hg=>(Rq13.bd hg).2
 have X025:=X013.trans (X1325.mono X013.size)
 have hpb:∀ p∈bs,p.f_Series.size<=100000000:=fun p hp'=>by rw [eb] at hp'; exact hp p (IM.sub p (List.mem_filter.1 hp').1)
 have hq8:=(sel_len e).2.2
 unfold query_Ask_l1
 refine ⟨fun r h'=>0<=r.2/\r.2<=(bs.length:Int)/\Upd h11.size h25 h'/\Row h25.size h' 89 5 r.1 (((bs.take r.2.toNat).filter fun p=>chs name qs p.f_Series).flatMap S_api_Piece.cs)/\r.1.len=((bs.take r.2.toNat).filter fun p=>chs name qs p.f_Series).length/\∃ ml:List (ByteArray × Bool),MapAt .string Value.string Value.bool h' (some h11.size) ml/\∀ e∈ml,e.2=chs name qs e.1,
  fun r _=>bs.length - r.2.toNat,⟨by dsimp only; omega,by dsimp only; omega,Upd.refl _ _,by simpa using Row.nil _ _ _ _,by simp,[],M25,by simp⟩,?_⟩
 rintro t12 i h26 ⟨i0,i1,UU,R,rl,ml,M,me⟩
 dsimp only at i0 i1 R rl ⊢
 have z26:=UU.size
 have base:∀ {h'},Upd h11.size h25 h'->Ext h.size h h':=fun {h'} U=>X025.trans (U.ext (by omega) X025.size)
 unfold query_Ask_l1b
 have uT:∀ {h'},Upd h11.size h25 h'->Pcs h' u bs:=fun {h'} U=>ls_of_slc pcs5 (R25.keep fun g hg=>U.block g (R25.bd hg).2 (by have:=(R25.bd hg).1; omega)).slc ul25 (by decide)
 have uE:∀ {a b},Upd h11.size h25 a->Ext h25.size a b->Upd h11.size h25 b:=fun {a b} U X=>⟨Nat.le_trans U.size X.size,fun g hg hn=>(X.block g hg).trans (U.block g hg hn)⟩
 rw [ul25]
 by_cases hi:i < (bs.length:Int)
 rotate_left
 ·rw [if_neg (by simpa using hi)]
  rw [take_all (by omega)] at R rl
  exact H1 zs t12 h26 hc IM (by rw [fin]; exact R.mono (by omega)) (by rw [fin]; exact rl) (base UU)
 rw [if_pos (by simpa using hi)]
 obtain ⟨a,x,ha,g0,g1,hx,hcx⟩:=(uT UU).it i0 hi
 have xs:=hpb x (List.mem_of_getElem? hx)
 have tk:=take1 i0 hx
 refine ⟨a,ha,g0,by rw [← ul25]; exact g1,x,hcx,bx rfl (by decide) fun h30 B28 X30=>⟨x.f_Series,B28.cl0 rfl,ml,M.ext X30 M.lt,?_⟩⟩
 have z30:=X30.size
 have U30:=uE UU (X30.mono z26)
 have lfl:((bs.take i.toNat).filter fun p=>chs name qs p.f_Series).length<=1000000:=Nat.le_trans (List.length_filter_le _ _) (by rw [List.length_take]; omega)
 have j3:∀ h' ml',Upd h11.size h25 h'->(∀ g,g < h30.size->g≠h11.size->h'[g]? = h30[g]?)->h30.size<=h'.size->MapAt .string Value.string Value.bool h' (some h11.size) ml'->(∀ e∈ml',e.2=chs name qs e.1) ->
   query_Ask_j3 ⟨h8.size,0,none⟩ h11.size t12 ⟨h26.size,0,none⟩ u (bs.length:Int) i (chs name qs x.f_Series) k (fun r h'=>(0<=r.2/\r.2<=(bs.length:Int)/\Upd h11.size h25 h'/\Row h25.size h' 89 5 r.1 (((bs.take r.2.toNat).filter fun p=>chs name qs p.f_Series).flatMap S_api_Piece.cs)/\r.1.len=((bs.take r.2.toNat).filter fun p=>chs name qs p.f_Series).length/\∃ ml:List (ByteArray × Bool),MapAt .string Value.string Value.bool h' (some h11.size) ml/\∀ e∈ml,e.2=chs name qs e.1)/\bs.length - r.2.toNat < bs.length - i.toNat) h':=fun h' ml' U' K' z' M' me'=>by
  have Rk:Row h25.size h' 89 5 t12 _:=(R.ext X30 fun g hg=>(R.bd hg).2).keep fun g hg=>K' g (by have:=(R.bd hg).2; omega) (by have:=(R.bd hg).1; omega)
  have Bk:Blk h' h26.size (S_api_Piece.cs x) 89:=B28.old (K' _ B28.lt (by omega))
  unfold query_Ask_j3 query_Ask_j2
  rw [wI i0 hi bl]
  cases hch:chs name qs x.f_Series with
  | true =>
   rw [if_pos rfl]
   have ef:(bs.take (i + 1).toNat).filter (fun p=>chs name qs p.f_Series)=(bs.take i.toNat).filter (fun p=>chs name qs p.f_Series) ++ [x]:=by rw [tk,List.filter_append]; simp [hch]
   refine ⟨x,CellsAt.of_blk Bk,bx0 fun h35 B35 X35=>app1 (Rk.ext X35 fun g hg=>(Rk.bd hg).2) (by have:=X35.size; omega) rfl rfl (pcs_one x) (by omega) (by unfold maxLen; omega) fun s h37 R37 l37 X37=>?_⟩
   have z35:=X35.size
   have X3:=(X35.mono (B':=h25.size) (by omega)).trans X37
   refine ⟨⟨by dsimp only; omega,by dsimp only; omega,uE U' X3,?_,?_,ml',M'.ext X3 (by omega),me'⟩,by dsimp only; omega⟩
   ·dsimp only; rw [ef,List.flatMap_append]; simpa using R37
   ·dsimp only; rw [ef,l37,rl]; simp
  | false =>
   rw [if_neg (by simp)]
   have ef:(bs.take (i + 1).toNat).filter (fun p=>chs name qs p.f_Series)=(bs.take i.toNat).filter (fun p=>chs name qs p.f_Series):=by rw [tk,List.filter_append]; simp [hch]
   refine ⟨⟨by dsimp only; omega,by dsimp only; omega,U',?_,?_,ml',M',me'⟩,by dsimp only; omega⟩
   ·dsimp only; rw [ef]; exact Rk
   ·dsimp only; rw [ef]; exact rl
 cases hg:mget ml x.f_Series with
 | some b =>
  rw [if_neg (by simp)]
  have:=me _ (mget_mem hg)
  dsimp only at this
  rw [show ((some b:Option Bool).getD false)=chs name qs x.f_Series from this]
  exact j3 h30 ml U30 (fun _ _ _=>rfl) (Nat.le_refl _) (M.ext X30 M.lt) me
 | none =>
  rw [if_pos (by simp)]
  refine ⟨x.f_Series,B28.cl0 rfl,sel_U x.f_Series (P:=fun t=>label_Parse t _ h30) ?_⟩
  have ux:=U_len x.f_Series
  have g4:∀ h' b,b=chs name qs x.f_Series->Ext h30.size h30 h'->query_Ask_g4 ⟨h8.size,0,none⟩ h11.size t12 ⟨h26.size,0,none⟩ u (bs.length:Int) i b k _ h':=fun h' b hb X'=>by
   subst hb
   have z':=X'.size
   have M':=(M.ext X30 M.lt).ext X' (by omega)
   unfold query_Ask_g4
   refine ⟨x.f_Series,(B28.ext X' B28.lt).cl0 rfl,_,ml,_,rfl,M',rfl,j3 _ (mput ml x.f_Series (chs name qs x.f_Series)) ?_ (fun g hg hn=>?_) (by rw [setM_size]; exact z') (M'.put kStr _ _) fun e he=>?_⟩
   ·have U':=uE U30 (X'.mono (by omega))
    exact ⟨by rw [setM_size]; exact U'.size,fun g hg hn=>by rw [setM_other hn]; exact U'.block g hg hn⟩
   ·rw [setM_other hn]; exact X'.block g hg
   ·have none':mput ml x.f_Series (chs name qs x.f_Series)=ml ++ [(x.f_Series,chs name qs x.f_Series)]:=mput_none (mget_not hg)
    rw [none'] at he
    rcases List.mem_append.1 he with he | he
    ·exact me e he
    ·simp only [List.mem_singleton] at he; subst he; rfl
  refine Parse_ok (by omega) (fun h40 ep X40=>?_) (fun n ls sl h40 ep Rl ll X40=>?_)
  ·refine bx rfl (by decide) fun h43 B41 X43=>?_
   rw [if_neg (by decide)]
   exact g4 h43 false (by unfold chs; rw [ep]) (X40.trans (X43.mono X40.size))
  ·have z40:=X40.size
   refine bx rfl (by decide) fun h43 B41 X43=>?_
   rw [if_pos (by simp)]
   have z43:=X43.size
   have X3043:Ext h30.size h30 h43:=X40.trans (X43.mono z40)
   have k43:∀ g,g < h25.size->g≠h11.size->h43[g]? = h25[g]?:=fun g hg hn=>(X3043.block g (by omega)).trans (U30.block g hg hn)
   have F43:Blk h43 h8.size (S_api_Selector.cs ⟨ofL name,sq⟩) 139:=F9.old (k43 _ F9.lt (by omega))
   have Rq43:=Rq25.keep fun g hg=>k43 g (Rq25.bd hg).2 (by have:=(Rq.bd hg).2; omega)
   obtain ⟨okl,l8⟩:=parse_len (by omega) ep
   refine ⟨_,CellsAt.of_blk F43,_,CellsAt.of_blk B41,Chooses_ok (qs:=qs) (ls:=ls) (lsOf scs3_len (by decide) Rq43 ql) ?_ (by omega) (by omega) okl fun h51 X51=>g4 h51 _ ?_ (X3043.trans (X51.mono (by omega)))⟩
   ·exact (lsOf labcs_len (by decide) Rl ll).ext X43
   ·unfold chs; rw [ep]
theorem askQ_sub {q:S_api_Query} {hz:Int} {zs:List Pc}:List.Sublist (askQ q hz zs) zs:=by
 unfold askQ
 split
 ·exact List.nil_sublist _
 ·exact List.filter_sublist
theorem grp_mem {l g:List Pc} (h:g∈grp l):List.Sublist g l:=by
 have:=grp_flat l
 have h2:List.Sublist g (grp l).flatten:=List.sublist_flatten_of_mem h
 rwa [this] at h2
theorem Run_ok {q:S_api_Query} {p1:Slc} {l:List Pc} {hz:Int} {k:Slc × Int->Heap->Prop} {h:Heap} (L:Pcs h p1 l) (m:l.length<=1000) (hs:q.f_Select.size<=100000000) (hp:∀ p∈l,p.f_Series.size<=100000000/\in64 p.f_V/\in64 p.f_T) (q6:in64 q.f_Step)
  (H:∀ zs s h',IsMrg l zs∨(chkQ q≠0/\zs=[])->Ext h.size h h'->RowsV h' s (runP q hz zs).1->(∀ g,s.blk=some g->h.size<=g)->k (s,(runP q hz zs).2) h'):query_Run q p1 hz k h:=by
 unfold query_Run
 refine bx0 fun h2 B1 X1=>⟨q,CellsAt.of_blk B1,?_⟩
 have z1:=X1.size
 refine Ask_ok (L.ext X1) (by omega) hs (fun p h=>(hp p h).1) (fun h5 hc X5=>?_) (fun zs s h5 hc IM R sl X5=>?_)
 ·rw [if_pos (by simpa using hc)]
  have e:runP q hz []=([],chkQ q):=by unfold runP; rw [if_pos hc]
  have:=H [] ⟨none,0,0⟩ h5 (.inr ⟨hc,rfl⟩) (X1.trans (X5.mono z1))
  rw [e] at this
  exact this (.nil _) fun g hg=>by cases hg
 ·rw [if_neg (by simp)]
  have z5:=X5.size
  have X05:=X1.trans (X5.mono z1)
  obtain ⟨as',ea⟩:∃ x,x=askQ q hz zs:=⟨_,rfl⟩
  have er:runP q hz zs=match rowsL q.f_Agg q.f_Step (grp as') with | none=>([],19) | some r=>(r,0):=by unfold runP; rw [if_neg (by simpa using hc),ea]; rfl
  rw [← ea] at R sl
  have sub:List.Sublist as' zs:=by rw [ea]; exact askQ_sub
  have al:as'.length<=1000:=Nat.le_trans sub.length_le (Nat.le_trans IM.len m)
  have qa:0<=q.f_Agg/\q.f_Agg<=6/\(q.f_Agg=6->0 < q.f_Step):=by
   unfold chkQ at hc
   split at hc
   ·omega
   ·split at hc
    ·omega
    ·omega
  have hb:∀ p∈as',in64 p.f_V/\in64 p.f_T:=fun p h=>(hp p (IM.sub p (sub.mem h))).2
  have srt:=IM.srt.sublist sub
  refine Groups_ok (ls_of_slc pcs5 R.slc sl (by decide)) (by omega) R.cap fun t ss h7 R7 tl G X7=>?_
  have z7:=X7.size
  have X07:=X05.trans (X7.mono (by omega))
  have C1:=(B1.ext X5 B1.lt).ext X7 (Nat.lt_of_lt_of_le B1.lt z5)
  have gl:ss.length=(grp as').length:=G.1
  have gfl:=grp_flat as'
  have glen:∀ n,((grp as').take n).flatten.length<=1000:=fun n=>by
   have:((grp as').take n).flatten.length<=(grp as').flatten.length:=by
    conv=>rhs; rw [← List.take_append_drop n (grp as'),List.flatten_append]
    simp
   rw [gfl] at this; omega
  have gcount:(grp as').length<=1000:=by
   have key:∀ gs:List (List Pc),(∀ g∈gs,g≠[])->gs.length<=gs.flatten.length:=fun gs=>by
    induction gs with
    | nil=>simp
    | cons g r ih =>
     intro hne
     have:=ih fun x hx=>hne x (List.mem_cons_of_mem _ hx)
     have:=List.length_pos_iff.2 (hne g List.mem_cons_self)
     simp only [List.length_cons,List.flatten_cons,List.length_append]; omega
   have:=key (grp as') fun g hg=>grp_ne hg
   rw [gfl] at this; omega
  unfold query_Run_l1
  refine ⟨fun r h'=>0<=r.2/\r.2<=(ss.length:Int)/\Ext h7.size h7 h'/\∃ rs,Row h7.size h' 118 4 r.1 (rvs rs)/\r.1.len=rs.length/\rs.length<=((grp as').take r.2.toNat).flatten.length/\rowsL q.f_Agg q.f_Step (grp as')=(rowsL q.f_Agg q.f_Step ((grp as').drop r.2.toNat)).map (rs ++ ·),
   fun r _=>ss.length - r.2.toNat,⟨by dsimp only; omega,by dsimp only; omega,Ext.refl _ _,[],Row.nil _ _ _ _,rfl,by simp,by simp⟩,?_⟩
  rintro t10 i h8 ⟨i0,i1,X8,rs,Rr,rl,rb,eR⟩
  dsimp only at i0 i1 Rr rl rb eR ⊢
  have z8:=X8.size
  have X08:=X07.trans (X8.mono X07.size)
  unfold query_Run_l1b
  rw [tl]
  by_cases hi:i < (ss.length:Int)
  ·rw [if_pos (by simpa using hi)]
   obtain ⟨sg,hsg⟩:∃ x,ss[i.toNat]? = some x:=⟨_,List.getElem?_eq_getElem (by omega)⟩
   obtain ⟨g,hg⟩:∃ x,(grp as')[i.toNat]? = some x:=⟨_,List.getElem?_eq_getElem (by omega)⟩
   have gm:=List.mem_of_getElem? hg
   have Lg:=(G.2 _ _ _ hsg hg).ext X8
   have R78:=R7.ext X8 fun g hg=>(R7.bd hg).2
   obtain ⟨a,ha,hcl⟩:=slc_get R78.slc (i:=i.toNat) (v:=Slc.v sg) (by rw [List.getElem?_map,hsg]; rfl)
   have gs:=grp_mem gm
   have ed:(grp as').drop i.toNat=g :: (grp as').drop (i + 1).toNat:=by
    rw [show (i + 1).toNat=i.toNat + 1 from by omega]
    obtain ⟨h1,h2⟩:=List.getElem?_eq_some_iff.1 hg
    rw [← h2]; exact List.drop_eq_getElem_cons h1
   have D1:=C1.ext X8 C1.lt
   have ptw:g.Pairwise fun a b=>a.f_T < b.f_T:=by
    refine List.Pairwise.imp_of_mem ?_ (srt.sublist gs)
    intro a b ha hb hlt
    have:=grp_same gm a ha b hb
    rcases hlt with hlt | hlt
    ·rw [this,cS_self] at hlt; omega
    ·exact hlt.2
   refine ⟨a,ha,i0,hi,sg,by rw [Nat.mul_one]; exact hcl,q,CellsAt.of_blk D1,?_⟩
   refine Rows_ok Lg (by have:=gs.length_le; omega) (fun p h=>hb p (gs.mem h)) (grp_ne gm) ptw ⟨qa.1,qa.2.1⟩ qa.2.2 q6 (fun h9 e X9=>?_) (fun r2 s2 h9 e X9 V=>?_)
   ·rw [if_pos (by decide)]
    have e2:runP q hz zs=([],19):=by rw [er,eR,ed]; unfold rowsL; rw [e]; rfl
    have:=H zs ⟨none,0,0⟩ h9 (.inl IM) (X08.trans (X9.mono X08.size))
    rw [e2] at this
    exact this (.nil _) fun g hg=>by cases hg
   ·rw [if_neg (by simp)]
    have z9:=X9.size
    have rlen:r2.length<=g.length:=by
     unfold rowsP at e
     have gp:1<=g.length:=List.length_pos_iff.2 (grp_ne gm)
     split at e
     ·cases e; simp
     split at e
     ·cases e; simpa using gp
     split at e
     ·cases e; simpa using gp
     split at e
     ·cases e; simpa using gp
     split at e
     ·cases e; simpa using gp
     split at e
     ·split at e
      ·cases e; simp
      ·cases hr:rateP g with
       | none=>rw [hr] at e; cases e
       | some n=>rw [hr] at e; cases e; simpa using gp
     ·cases e
      have key:∀ (g:List Pc) (o:List RI),(g.foldl (eachE q.f_Step) o).length<=o.length + g.length:=fun g=>by
       induction g with
       | nil=>simp
       | cons p r ih =>
        intro o
        rw [List.foldl_cons]
        have h1:=ih (eachE q.f_Step o p)
        have h2:=eachE_len q.f_Step o p
        simp only [List.length_cons]; omega
      simpa [eachP] using key g []
    have tkf:((grp as').take (i + 1).toNat).flatten.length=((grp as').take i.toNat).flatten.length + g.length:=by
     rw [take1 i0 hg,List.flatten_append]; simp
    have gb:=glen (i + 1).toNat
    refine ⟨rvs r2,V.1,app1 (Rr.ext X9 fun g hg=>(Rr.bd hg).2) (by omega) rfl (by rw [rvs_len,V.2]) (rvs_cells r2) (by rw [V.2]; omega) (by rw [V.2]; unfold maxLen; omega) fun s h14 R14 l14 X14=>?_⟩
    rw [wI i0 hi (by omega)]
    refine ⟨⟨by dsimp only; omega,by dsimp only; omega,(X8.trans (X9.mono z8)).trans X14,rs ++ r2,by rw [rvs_app]; exact R14,by rw [l14,rl,V.2]; simp,?_,?_⟩,by dsimp only; omega⟩
    ·dsimp only; rw [tkf,List.length_append]; omega
    ·dsimp only
     rw [eR,ed]
     conv=>lhs; unfold rowsL
     rw [e]
     dsimp only
     rw [Option.map_map]
     congr 1
     funext y
     simp
  ·rw [if_neg (by simpa using hi)]
   have ed:(grp as').drop i.toNat=[]:=List.drop_of_length_le (by omega)
   rw [ed] at eR
   have e2:runP q hz zs=(rs,0):=by rw [er,eR]; simp [rowsL]
   have:=H zs t10 h8 (.inl IM) X08
   rw [e2] at this
   exact this (.of Rr rl) fun g hg=>by have:=(Rr.bd hg).1; have:=X07.size; omega
end Go.Q.Yq
end
section
set_option maxRecDepth 100000
/- Quorum: a node says yes. -/
namespace Go.Q.Yq
open Go.Q.Rw
/-- what a query is run over -/
structure RunH (q:S_api_Query) (ps:List S_api_Piece):Prop where
 l:ps.length<=1000
 s:q.f_Select.size<=100000000
 p:∀ p∈ps,p.f_Series.size<=100000000/\in64 p.f_V/\in64 p.f_T
 t:in64 q.f_Step
theorem pcs_slc {h:Heap} {s:Slc} {ps:List S_api_Piece} (S:SlcAt h s (pcv ps)) (l:s.len=ps.length):Pcs h s ps:=ls_of_slc (cs:=S_api_Piece.cs) (w:=5) (fun _=>rfl) S l (by decide)
theorem Yj2_ok {h:Heap} {g:Nat} {x:S_api_Op} {ps:List S_api_Piece} {nl yl:Nat} {k:Bool->Heap->Prop} (B:Blk h g (S_api_Op.cs x) 39) (xy:x.f_Yes.len=yl) (xn:x.f_Nodes.len=nl) (nz:nl<=1000000)
  (P:Imm (fun b=>b=g) h fun h'=>SlcAt h' x.f_Pieces (pcv ps)) (pl:x.f_Pieces.len=ps.length) (RH:x.f_Kind=2->RunH x.f_Q ps)
  (H0:(yl:Int) < needs x.f_Kind nl->∀ h',Ext h.size h h'->k true h')
  (H1:¬ (yl:Int) < needs x.f_Kind nl->x.f_Kind≠2->∀ h',Blk h' g (S_api_Op.cs { x with f_Done:=true }) 39->Stp (fun b=>b=g) h h'->k true h')
  (H2:¬ (yl:Int) < needs x.f_Kind nl->x.f_Kind=2->∀ zs s h',(IsMrg ps zs∨chkQ x.f_Q≠0/\zs=[])->Blk h' g (S_api_Op.cs { x with f_Done:=true,f_Rows:=s,f_E:=(runP x.f_Q x.f_Low zs).2 }) 39->RowsV h' s (runP x.f_Q x.f_Low zs).1->(∀ b,s.blk=some b->h.size<=b)->Stp (fun b=>b=g) h h'->k true h') :
  quorum_Desk_Yes_j2 (some ⟨g,0,none⟩) k h:=by
 have bl:=B.lt
 unfold quorum_Desk_Yes_j2
 refine ⟨_,rfl,x.f_Yes,B.cl rfl,x,CellsAt.of_blk B,Needs_ok (by rw [xn]; simp only [maxLen]; omega) fun h14 X14=>⟨(B.ext X14 bl).cl rfl,?_⟩⟩
 have z14:=X14.size
 have B14:=B.ext X14 bl
 rw [xy,xn]
 by_cases c:(yl:Int) < needs x.f_Kind nl
 ·rw [if_pos (by simpa using c)]; exact H0 c h14 X14
 rw [if_neg (by simpa using c)]
 refine bset1 B14 (by show 30 < 33; decide) fun h16 B16 U16=>⟨x.f_Kind,B16.cl rfl,?_⟩
 have z16:=U16.size
 have s16:Stp (fun b=>b=g) h h16:=(Stp.of_ext X14).trans' (Stp.of_upd U16 (.inl rfl))
 by_cases kd:x.f_Kind=2
 ·rw [if_pos (by simpa using kd)]
  have R:=RH kd
  have B16':Blk h16 g (S_api_Op.cs { x with f_Done:=true }) 39:=B16
  refine ⟨x.f_Q,B16'.cls rfl,x.f_Pieces,B16'.cl rfl,x.f_Low,B16'.cl rfl,?_⟩
  have Lp:Pcs h16 x.f_Pieces ps:=pcs_slc (P h16 s16) pl
  refine Run_ok Lp R.l R.s R.p R.t fun zs s h22 hm X22 RV fr=>?_
  have z22:=X22.size
  have B22:=B16'.ext X22 B16'.lt
  refine bset1 B22 (by show 32 < 33; decide) fun h23 B23 U23=>bset1 B23 (by rw [List.length_set]; show 31 < 33; decide) fun h24 B24 U24=>?_
  unfold quorum_Desk_Yes_j3
  have U:=U23.trans U24
  refine H2 c kd zs s h24 hm B24 ⟨⟨RV.1.1,fun a ha j v hj=>?_⟩,RV.2⟩ (fun b hb=>by have:=fr b hb; omega) (s16.trans' ((Stp.of_ext X22).trans' (Stp.of_upd U (.inl rfl))))
  have cc:=RV.1.2 a ha j v hj
  have ab:(a.add j).block=a.block:=by unfold Addr.add; split <;> rfl
  have:=fr a.block (by unfold Slc.blk; rw [ha])
  have lt:=cellH_lt cc
  rw [cellH_of (h:=h22) (h':=h24) (U.block _ lt (by rw [ab]; have:=B16'.lt; omega))]
  exact cc
 ·rw [if_neg (by simpa using kd)]
  unfold quorum_Desk_Yes_j3
  exact H1 c kd h16 B16 s16
end Go.Q.Yq
end
section
set_option maxRecDepth 100000
/- Quorum: how many rows there are; what is off the desk's blocks. -/
namespace Go.Q.Yq
theorem each_len (step:Int):∀ (g:List Pc) (o:List RI),(g.foldl (eachE step) o).length<=o.length + g.length
 | [],o=>by simp
 | p :: r,o=>by
  have h1:=eachE_len step o p
  have h2:=each_len step r (eachE step o p)
  simp only [List.foldl_cons,List.length_cons]; omega
theorem rowsP_len {agg step:Int} {g:List Pc} {rs:List RI} (ne:g≠[]) (h:rowsP agg step g=some rs):rs.length<=g.length:=by
 have pos:0 < g.length:=List.length_pos_iff.2 ne
 unfold rowsP at h
 split at h
 ·cases h; simp
 split at h
 ·cases h; simp; omega
 split at h
 ·cases h; simp; omega
 split at h
 ·cases h; simp; omega
 split at h
 ·cases h; simp; omega
 split at h
 ·split at h
  ·cases h; simp
  ·cases hr:rateP g with
   | none=>rw [hr] at h; cases h
   | some n=>rw [hr] at h; cases h; simp; omega
 ·cases h
  have:=each_len step g []
  simpa [eachP] using this
theorem rowsL_len {agg step:Int}:∀ {gs:List (List Pc)} {rs:List RI},(∀ g∈gs,g≠[])->rowsL agg step gs=some rs->rs.length<=gs.flatten.length
 | [],rs,_,h=>by cases h; simp
 | g :: r,rs,ne,h=>by
  unfold rowsL at h
  cases hp:rowsP agg step g with
  | none=>rw [hp] at h; cases h
  | some x =>
   rw [hp] at h
   dsimp only at h
   cases hl:rowsL agg step r with
   | none=>rw [hl] at h; cases h
   | some y =>
    rw [hl] at h; cases h
    have h1:=rowsP_len (ne g (by simp)) hp
    have h2:=rowsL_len (fun a ha=>ne a (by simp [ha])) hl
    simp only [List.length_append,List.flatten_cons]; omega
theorem askQ_len (q:S_api_Query) (hz:Int) (zs:List Pc):(askQ q hz zs).length<=zs.length:=by
 unfold askQ
 split
 ·simp
 ·exact List.length_filter_le _ _
theorem runP_len (q:S_api_Query) (hz:Int) (zs:List Pc):(runP q hz zs).1.length<=zs.length:=by
 unfold runP
 split
 ·simp
 ·split
  ·simp
  ·rename_i rs h
   have h1:=rowsL_len (fun g hg=>grp_ne hg) h
   rw [grp_flat] at h1
   exact Nat.le_trans h1 (askQ_len q hz zs)
theorem slc_imm {O:BSet} {h:Heap} {s:Slc} {vs:List Value} (S:SlcAt h s vs) (off:∀ b,s.blk=some b->¬ O b):Imm O h fun h'=>SlcAt h' s vs:=fun h' st=>⟨S.1,fun a ha j v hj=>by
 have c:=S.2 a ha j v hj
 have ab:(a.add j).block=a.block:=by unfold Addr.add; split <;> rfl
 rw [cellH_of (h:=h) (h':=h') (st.block _ (cellH_lt c) (by rw [ab]; exact off a.block (by unfold Slc.blk; rw [ha])))]
 exact c⟩
end Go.Q.Yq
end
section
set_option maxRecDepth 100000
/- Quorum: a node says yes: what becomes of the op. -/
namespace Go.Q.Yq
open Go.Q.Rw
/-- what becomes of an op's values when a node says yes -/
structure YesR (o:OpV) (node:Int) (told:List S_api_Piece) (o':OpV):Prop where
 ns:o'.ns=o.ns
 ys:o'.ys=o.ys ++ [node]
 wr:o'.wr=o.wr
 ps:if o.x.f_Kind=2 then IsMrg (o.ps ++ told) o'.ps else o'.ps=o.ps
 x:(((o.ys.length + 1:Nat):Int) < needs o.x.f_Kind o.ns.length/\o'.x=o.x/\o'.rs=o.rs) ∨
  (¬ ((o.ys.length + 1:Nat):Int) < needs o.x.f_Kind o.ns.length/\o.x.f_Kind≠2/\o'.x = { o.x with f_Done:=true }/\o'.rs=o.rs) ∨
  (¬ ((o.ys.length + 1:Nat):Int) < needs o.x.f_Kind o.ns.length/\o.x.f_Kind=2/\∃ zs,(IsMrg o'.ps zs∨chkQ o.x.f_Q≠0/\zs=[])/\o'.x = { o.x with f_Done:=true,f_E:=(runP o.x.f_Q o.x.f_Low zs).2 }/\o'.rs=(runP o.x.f_Q o.x.f_Low zs).1.map toRow)
theorem Yes_ok {h:Heap} {r m:Nat} {E:List Ent} {n node:Int} {t:Slc} {told:List S_api_Piece} {k:Bool->Heap->Prop} (D:DeskA h r m E) (nz:∀ e∈E,e.o.ns.length<=1000000) (yz:∀ e∈E,e.o.ys.length<=1000000) (pz:∀ e∈E,e.o.ps.length<=1000) (tz:told.length<=1000)
  (T:Imm (OwnD r m E) h fun h'=>Pcs h' t told) (RH:∀ e∈E,e.n=n->e.o.x.f_Kind=2->∀ ps,IsMrg (e.o.ps ++ told) ps->RunH e.o.x.f_Q ps) (N:(∀ e,look E n=some e->e.o.x.f_Done=false->node∈e.o.ns->node∈e.o.ys)->k false h)
  (H:∀ (i:Nat) e x' o' h',E[i]? = some e->e.n=n->look E n=some e->e.o.x.f_Done=false->node∈e.o.ns->node ∉ e.o.ys->YesR e.o node told o'->DeskA h' r m (E.set i { e with x:=x',o:=o' })->Stp e.own h h'->(∀ b,Ent.own { e with x:=x',o:=o' } b->e.own b∨h.size<=b)->k true h') :
  quorum_Desk_Yes (some ⟨r,0,none⟩) n node t k h:=by
 unfold quorum_Desk_Yes
 have no:(∀ e,look E n=some e->e.o.x.f_Done=false->node∈e.o.ns->node∈e.o.ys)->∀ p,quorum_Desk_Yes_g1 node t p true k h:=fun q p=>by unfold quorum_Desk_Yes_g1; rw [if_pos rfl]; exact N q
 refine open_ok D nz (fun hl=>?_) fun i e hi en hl=>?_
 ·rw [if_pos (by simp)]; exact no (fun e he=>by rw [hl] at he; cases he) _
 have he:=List.mem_of_getElem? hi
 have K:=D.ok e he
 have M:=K.m
 have ez:=nz e he; have eyz:=yz e he; have epz:=pz e he
 by_cases c':¬ (e.o.x.f_Done=false/\node∈e.o.ns)
 ·rw [decide_eq_false c',if_pos (by simp)]; exact no (fun e' he' d q=>by rw [hl] at he'; cases he'; exact absurd ⟨d,q⟩ c') _
 have c:=Decidable.not_not.1 c'
 rw [decide_eq_true c,if_neg (by simp)]
 refine ⟨⟨e.g,0,none⟩,rfl,e.x.f_Yes,K.B.cl rfl,Has_ok ⟨M.y,M.yl,K.Y.cap⟩ eyz ?_⟩
 by_cases cy:node∈e.o.ys
 ·rw [decide_eq_true cy]; exact no (fun e' he' _ _=>by rw [hl] at he'; cases he'; exact cy) _
 rw [decide_eq_false cy]
 have kd:e.x.f_Kind=e.o.x.f_Kind:=by rw [← K.be]; rfl
 have qd:e.x.f_Q=e.o.x.f_Q:=by rw [← K.be]; rfl
 have ld:e.x.f_Low=e.o.x.f_Low:=by rw [← K.be]; rfl
 unfold quorum_Desk_Yes_g1
 rw [if_neg (by simp)]
 refine ⟨⟨e.g,0,none⟩,rfl,e.x.f_Yes,K.B.cl rfl,bx0 fun h6 B6 X6=>?_⟩
 have z6:=X6.size
 have gl:=K.B.lt
 have Y6:Row 0 h6 3 1 e.x.f_Yes (ints e.o.ys):=K.Y.keep fun b hb=>X6.block b (K.Y.bd hb).2
 refine App.row Y6 (Nat.zero_le _) rfl rfl (by simp [Value.oneCell']) (by rw [M.yl]; omega) (by rw [M.yl]; simp only [maxLen]; omega) fun s7 h8 R8 l8 z8 o8 b8=>?_
 have l8':s7.len=e.o.ys.length + 1:=by rw [l8,M.yl]
 have st8:Stp e.own h h8:=(Stp.of_ext X6).trans' ⟨z8,fun g hg hn=>o8 g hg fun q=>hn (.inr q)⟩
 have B8:Blk h8 e.g (S_api_Op.cs e.x) 39:=(K.B.ext X6 gl).old (o8 _ (by omega) fun q=>K.gy q)
 have yg:s7.blk≠some e.g:=fun q=>by
  rcases b8 with b8 | b8
  ·exact K.gy (b8 ▸ q)
  ·rw [b8] at q; have:=Option.some.inj q; omega
 refine bset1 B8 (by show 28 < 33; decide) fun h9 B9 U9=>?_
 have z9:=U9.size
 have B9':Blk h9 e.g (S_api_Op.cs { e.x with f_Yes:=s7 }) 39:=B9
 have st9:Stp e.own h h9:=st8.trans' (Stp.of_upd U9 (.inl (.inl rfl)))
 have upO:∀ {a b:Heap},Stp e.own a b->Stp (OwnD r m E) a b:=fun s=>s.mono fun b hb=>.inl (.inr (.inr ⟨e,he,hb⟩))
 have R9:Row 0 h9 3 1 s7 (ints (e.o.ys ++ [node])):=by
  have:ints (e.o.ys ++ [node])=ints e.o.ys ++ [.int .i64 node]:=by unfold ints; simp
  rw [this]
  exact R8.keep fun b hb=>U9.block b (R8.bd hb).2 fun q=>yg (q ▸ hb)
 have offO:∀ {O:BSet},(∀ b,O b->OwnD r m E b∨s7.blk=some b)->∀ b,O b->OwnD r m E b∨h.size<=b:=fun {O} hO b hb=>(hO b hb).elim .inl fun q=>by
  rcases b8 with b8 | b8
  ·exact .inl (.inr (.inr ⟨e,he,.inr (b8 ▸ q)⟩))
  ·rw [b8] at q; exact .inr (by have:=Option.some.inj q; omega)
 -- the blocks of the op as it becomes
 have eo:∀ (x':S_api_Op) (o':OpV),x'.f_Yes=s7->∀ b,Ent.own { e with x:=x',o:=o' } b->e.own b∨h.size<=b:=fun x' o' xy b hb=>by
  rcases hb with hb | hb
  ·exact .inl (.inl hb)
  ·rw [show ({ e with x:=x',o:=o' }:Ent).x.f_Yes=s7 from xy] at hb
   rcases b8 with b8 | b8
   ·exact .inl (.inr (b8 ▸ hb))
   ·rw [b8] at hb; cases hb; exact .inr z6
 -- from the pieces on
 have tail:∀ (x2:S_api_Op) (ps2:List S_api_Piece) (h3:Heap),x2 = { e.x with f_Yes:=s7,f_Pieces:=x2.f_Pieces }->Blk h3 e.g (S_api_Op.cs x2) 39->Stp (fun b=>b=e.g) h9 h3 ->
   (if e.o.x.f_Kind=2 then IsMrg (e.o.ps ++ told) ps2 else ps2=e.o.ps)->x2.f_Pieces.len=ps2.length->SlcAt h3 x2.f_Pieces (pcv ps2) ->
   (∀ O h',(∀ b,O b->OwnD r m E b∨s7.blk=some b)->Stp (OwnD r m E) h h'->Stp (fun b=>b=e.g) h3 h'->Imm O h' fun h'=>SlcAt h' x2.f_Pieces (pcv ps2))->quorum_Desk_Yes_j2 (some ⟨e.g,0,none⟩) k h3:=fun x2 ps2 h3 hx B3 S3 hps hpl P3 PI=>by
  have z3:=S3.size
  have pl2:ps2.length<=2000:=by
   split at hps
   ·have:=hps.len; rw [List.length_append] at this; omega
   ·rw [hps]; omega
  have done:∀ (x':S_api_Op) (rs':List S_api_Row) (h':Heap),x'.f_Yes=s7->x'.f_Nodes=e.x.f_Nodes->x'.f_Pieces=x2.f_Pieces->x'.f_Cmd.f_Wrapped=e.x.f_Cmd.f_Wrapped->x'.f_N=e.x.f_N->Blk h' e.g (S_api_Op.cs x') 39->Stp (fun b=>b=e.g) h3 h' ->
    x'.f_Rows.len=rs'.length->rs'.length * 40<=140737488355328->(∀ O,(∀ b,O b->OwnD r m E b∨s7.blk=some b)->Stp (OwnD r m E) h h'->Imm O h' fun h'=>SlcAt h' x'.f_Rows (rwv rs')) ->
    DeskA h' r m (E.set i { e with x:=x',o:=⟨bare x',ps2,e.o.ns,e.o.ys ++ [node],rs',e.o.wr⟩ })/\Stp e.own h h':=fun x' rs' h' xy xn xp xw xN B' S' rl rz RI'=>by
   have stG:∀ {a b:Heap},Stp (fun b=>b=e.g) a b->Stp e.own a b:=fun s=>s.mono fun b hb=>.inl (.inl hb)
   have st':Stp e.own h h':=st9.trans' ((stG S3).trans' (stG S'))
   have eo':=eo x' ⟨bare x',ps2,e.o.ns,e.o.ys ++ [node],rs',e.o.wr⟩ xy
   have sub:∀ b,OwnD r m (E.set i { e with x:=x',o:=⟨bare x',ps2,e.o.ns,e.o.ys ++ [node],rs',e.o.wr⟩ }) b->OwnD r m E b∨s7.blk=some b:=fun b hb=>by
    rcases hb with hb | hb | ⟨a,ha,hb⟩
    ·exact .inl (.inl hb)
    ·exact .inl (.inr (.inl hb))
    ·obtain ⟨j,hj⟩:=List.getElem?_of_mem ha
     have il:=(List.getElem?_eq_some_iff.1 hi).1
     by_cases q:j=i
     ·subst q; rw [List.getElem?_set_self il] at hj; cases hj
      rcases hb with hb | hb
      ·exact .inl (.inr (.inr ⟨e,he,.inl hb⟩))
      ·exact .inr (by rw [← xy]; exact hb)
     ·rw [List.getElem?_set_ne (fun x=>q x.symm)] at hj
      exact .inl (.inr (.inr ⟨a,List.mem_of_getElem? hj,hb⟩))
   refine ⟨D.turn hi st' rfl rfl eo' ⟨B',rfl,xN.trans K.n,?_,?_,?_,by rw [xp]; exact hpl,by rw [xn]; exact K.nl,by rw [xn]; exact K.nc,rl,by rw [xw]; exact K.wl,⟨by show ps2.length * 48<=_; omega,K.z.n,by show (e.o.ys ++ [node]).length * 8<=_; rw [List.length_append]; simp; omega,rz,K.z.w⟩⟩,st'⟩
   ·show Row 0 h' 3 1 x'.f_Yes _
    rw [xy]
    exact R9.keep fun b hb=>by
     have:=(R9.bd hb).2
     rw [S'.block b (by omega) (fun q=>yg (q ▸ hb)),S3.block b this (fun q=>yg (q ▸ hb))]
   ·show x'.f_Yes.blk≠_
    rw [xy]; exact yg
   ·intro hz sz
    have old:=(K.I.step (upO st') (own_set hi eo')) hz sz
    have p1:=PI _ h' sub (upO st') S' hz sz
    have r1:=RI' _ sub (upO st') hz sz
    refine ⟨by show SlcAt hz x'.f_Pieces _; rw [xp]; exact p1,by show SlcAt hz x'.f_Nodes _; rw [xn]; exact old.2.1,r1,by show SlcAt hz x'.f_Cmd.f_Wrapped _; rw [xw]; exact old.2.2.2⟩
  have k2:x2.f_Kind=e.o.x.f_Kind:=by rw [hx]; exact kd
  have q2:x2.f_Q=e.o.x.f_Q:=by rw [hx]; exact qd
  have lo2:x2.f_Low=e.o.x.f_Low:=by rw [hx]; exact ld
  have b2:bare x2=e.o.x:=(congrArg bare hx).trans K.be
  have xY:x2.f_Yes=s7:=by rw [hx]
  have xn2:x2.f_Nodes=e.x.f_Nodes:=by rw [hx]
  have xw2:x2.f_Cmd.f_Wrapped=e.x.f_Cmd.f_Wrapped:=by rw [hx]
  have xN2:x2.f_N=e.x.f_N:=by rw [hx]
  have xr2:x2.f_Rows=e.x.f_Rows:=by rw [hx]
  have rI:∀ O h',(∀ b,O b->OwnD r m E b∨s7.blk=some b)->Stp (OwnD r m E) h h'->Imm O h' fun h'=>SlcAt h' x2.f_Rows (rwv e.o.rs):=fun O h' hO st=>by
   rw [xr2]
   exact (K.I.step st (offO hO)).imp fun _ q=>q.2.2.1
  refine Yj2_ok (yl:=e.o.ys.length + 1) (nl:=e.o.ns.length) B3 (by rw [xY]; exact l8') (by rw [xn2]; exact K.nl) ez (PI (fun b=>b=e.g) h3 (fun b hb=>.inl (.inr (.inr ⟨e,he,.inl hb⟩))) (upO (st9.trans' (S3.mono fun b hb=>.inl (.inl hb)))) (Stp.refl _ _)) hpl (fun kk=>?_) (fun lt h' X'=>?_) (fun lt kk h' B' S'=>?_) fun lt kk zs s h' hm B' RV fr S'=>?_
  ·rw [q2]; rw [k2] at kk; rw [if_pos kk] at hps; exact RH e he en kk ps2 hps
  ·obtain ⟨D',st'⟩:=done x2 e.o.rs h' xY xn2 rfl xw2 xN2 (B3.ext X' B3.lt) (Stp.of_ext X') (by rw [xr2]; exact K.rl) K.z.r (fun O hO st=>rI O h' hO st)
   exact H i e x2 ⟨bare x2,ps2,e.o.ns,e.o.ys ++ [node],e.o.rs,e.o.wr⟩ h' hi en hl c.1 c.2 cy ⟨rfl,rfl,rfl,hps,.inl ⟨by rw [← k2]; exact lt,b2,rfl⟩⟩ D' st' (eo _ _ xY)
  ·obtain ⟨D',st'⟩:=done { x2 with f_Done:=true } e.o.rs h' xY xn2 rfl xw2 xN2 B' S' (by show x2.f_Rows.len=_; rw [xr2]; exact K.rl) K.z.r (fun O hO st=>rI O h' hO st)
   exact H i e { x2 with f_Done:=true } ⟨bare { x2 with f_Done:=true },ps2,e.o.ns,e.o.ys ++ [node],e.o.rs,e.o.wr⟩ h' hi en hl c.1 c.2 cy ⟨rfl,rfl,rfl,hps,.inr (.inl ⟨by rw [← k2]; exact lt,by rw [← k2]; exact kk,by show bare { x2 with f_Done:=true } = _; rw [← b2]; rfl,rfl⟩)⟩ D' st' (eo _ _ xY)
  ·have zl:zs.length<=2000:=by
    rcases hm with hm | ⟨_,rfl⟩
    ·have:=hm.len; omega
    ·simp
   have rl:=runP_len x2.f_Q x2.f_Low zs
   obtain ⟨D',st'⟩:=done { x2 with f_Done:=true,f_Rows:=s,f_E:=(runP x2.f_Q x2.f_Low zs).2 } ((runP x2.f_Q x2.f_Low zs).1.map toRow) h' xY xn2 rfl xw2 xN2 B' S' (by show s.len=_; rw [RV.2,List.length_map]) (by rw [List.length_map]; omega) (fun O hO st=>slc_imm (s:=s) RV.1 fun b hb ob=>by
    have:=fr b hb
    rcases hO b ob with q | q
    ·have:=D.lt q; omega
    ·have:=(R9.bd q).2; omega)
   rw [q2] at hm
   refine H i e { x2 with f_Done:=true,f_Rows:=s,f_E:=(runP x2.f_Q x2.f_Low zs).2 } ⟨bare { x2 with f_Done:=true,f_Rows:=s,f_E:=(runP x2.f_Q x2.f_Low zs).2 },ps2,e.o.ns,e.o.ys ++ [node],(runP x2.f_Q x2.f_Low zs).1.map toRow,e.o.wr⟩ h' hi en hl c.1 c.2 cy ⟨rfl,rfl,rfl,hps,.inr (.inr ⟨by rw [← k2]; exact lt,by rw [← k2]; exact kk,zs,?_,?_,?_⟩)⟩ D' st' (eo _ _ xY)
   ·exact hm
   ·show bare { x2 with f_Done:=true,f_Rows:=s,f_E:=(runP x2.f_Q x2.f_Low zs).2 } = _
    rw [q2,lo2,← b2]; rfl
   ·show (runP x2.f_Q x2.f_Low zs).1.map toRow=_
    rw [q2,lo2]
 refine ⟨e.x.f_Kind,B9.cl rfl,?_⟩
 rw [kd]
 by_cases k2:e.o.x.f_Kind=2
 ·rw [if_pos (by simpa using k2)]
  refine ⟨e.x.f_Pieces,B9'.cl rfl,bx0 fun h28 B28 X28=>?_⟩
  have z28:=X28.size
  have st28:Stp e.own h h28:=st9.trans' (Stp.of_ext X28)
  refine MergeN_ok (ss:=[e.x.f_Pieces,t]) (ls:=[e.o.ps,told]) (c:=2) B28 ⟨rfl,fun i s l hs hl=>?_⟩ (by simp) (fun l hl=>?_) (by simp; omega) fun zs u h30 IM Rz ul X30=>?_
  ·match i,hs,hl with
   | 0,hs,hl=>cases hs; cases hl; exact pcs_slc (K.I h28 (upO st28)).1 K.pl
   | 1,hs,hl=>cases hs; cases hl; exact T h28 (upO st28)
   | i + 2,hs,hl=>simp at hs
  ·simp at hl; rcases hl with rfl | rfl <;> omega
  ·have z30:=X30.size
   have B30:=(B9'.ext X28 B9'.lt).ext X30 (by have:=B9'.lt; omega)
   refine bset1 B30 (by show 3 < 33; decide) fun h31 B31 U31=>?_
   have z31:=U31.size
   have uS:∀ h',Stp (fun b=>b=e.g) h31 h'->SlcAt h' u (pcv zs):=fun h' S' =>
    (Rz.keep (h':=h') fun b hb=>by
     have b1:=Rz.bd hb
     have:=B9'.lt
     rw [S'.block b (by omega) (by omega),U31.block b b1.2 (by omega)]).slc
   refine tail { e.x with f_Yes:=s7,f_Pieces:=u } zs h31 rfl B31 ((Stp.of_ext X28).trans' ((Stp.of_ext X30).trans' (Stp.of_upd U31 (.inl rfl)))) (by rw [if_pos k2]; simpa using IM) ul (uS h31 (Stp.refl _ _)) fun O h' hO st S'=>slc_imm (uS h' S') fun b hb ob=>?_
   have b1:=(Rz.bd hb).1
   rcases hO b ob with q | q
   ·have:=D.lt q; omega
   ·have:=(R9.bd q).2; omega
 ·rw [if_neg (by simpa using k2)]
  exact tail { e.x with f_Yes:=s7 } e.o.ps h9 rfl B9' (Stp.refl _ _) (by rw [if_neg k2]) K.pl (K.I h9 (upO st9)).1 fun O h' hO st S'=>(K.I.step st (offO hO)).imp fun _ q=>q.1
end Go.Q.Yq
end
section
set_option maxRecDepth 100000
/- Quorum: two ops of one value are the same to the document. -/
namespace Go.Q.Yq
section
variable {s t:Slc} {k:Bool->Heap->Prop} {h:Heap}
theorem SameI_ok {l:List Int} (A:SlcAt h s (ints l)) (al:s.len=l.length) (B:SlcAt h t (ints l)) (bl:t.len=l.length) (m:l.length<=4611686018427387904) (H:k true h):ref18_SameInts s t k h:=by
 unfold ref18_SameInts
 rw [al,bl,if_neg (by simp)]
 unfold ref18_SameInts_l1
 refine ⟨fun i h'=>h'=h/\0<=i/\i<=(l.length:Int),fun i _=>l.length - i.toNat,⟨rfl,Int.le_refl _,by omega⟩,?_⟩
 rintro i h' ⟨rfl,i0,i1⟩
 unfold ref18_SameInts_l1b
 rw [al,bl]
 by_cases hi:i < (l.length:Int)
 ·rw [if_pos (by simpa using hi)]
  obtain ⟨v,hv⟩:∃ v,l[i.toNat]? = some v:=⟨_,List.getElem?_eq_getElem (by omega)⟩
  obtain ⟨a,ha,hc⟩:=slc_get A (i:=i.toNat) (v:=.int .i64 v) (by rw [List.getElem?_map,hv]; rfl)
  obtain ⟨b,hb,hd⟩:=slc_get B (i:=i.toNat) (v:=.int .i64 v) (by rw [List.getElem?_map,hv]; rfl)
  refine ⟨a,ha,i0,hi,v,by rw [Nat.mul_one]; exact hc,b,hb,i0,hi,v,by rw [Nat.mul_one]; exact hd,?_⟩
  rw [if_neg (by simp)]
  exact ⟨_,rfl,by rw [wrapI64 (by omega) (by omega)]; exact ⟨⟨rfl,by omega,by omega⟩,by show l.length - (i + 1).toNat < l.length - i.toNat; omega⟩⟩
 ·rw [if_neg (by simpa using hi)]; exact H
theorem SameP_ok {l:List S_api_Piece} (A:SlcAt h s (pcv l)) (al:s.len=l.length) (B:SlcAt h t (pcv l)) (bl:t.len=l.length) (m:l.length<=4611686018427387904) (H:k true h):ref13_Same s t k h:=by
 have LA:LsAt S_api_Piece.cs 5 h s l:=Rw.ls_of_slc (cs:=S_api_Piece.cs) (w:=5) (fun _=>rfl) A al (by decide)
 have LB:LsAt S_api_Piece.cs 5 h t l:=Rw.ls_of_slc (cs:=S_api_Piece.cs) (w:=5) (fun _=>rfl) B bl (by decide)
 unfold ref13_Same
 rw [al,bl,if_neg (by simp)]
 unfold ref13_Same_l1
 refine ⟨fun i h'=>h'=h/\0<=i/\i<=(l.length:Int),fun i _=>l.length - i.toNat,⟨rfl,Int.le_refl _,by omega⟩,?_⟩
 rintro i h' ⟨rfl,i0,i1⟩
 unfold ref13_Same_l1b
 rw [al,bl]
 by_cases hi:i < (l.length:Int)
 ·rw [if_pos (by simpa using hi)]
  obtain ⟨a,x,ha,_,_,hx,hc⟩:=LA.it i0 hi
  obtain ⟨b,y,hb,_,_,hy,hd⟩:=LB.it i0 hi
  obtain rfl:y=x:=Option.some.inj (hy.symm.trans hx)
  refine ⟨a,ha,i0,hi,y,hc,b,hb,i0,hi,y,hd,?_⟩
  rw [if_neg (by simp)]
  exact ⟨_,rfl,by rw [wrapI64 (by omega) (by omega)]; exact ⟨⟨rfl,by omega,by omega⟩,by show l.length - (i + 1).toNat < l.length - i.toNat; omega⟩⟩
 ·rw [if_neg (by simpa using hi)]; exact H
theorem SameR_ok {l:List S_api_Row} (A:SlcAt h s (rwv l)) (al:s.len=l.length) (B:SlcAt h t (rwv l)) (bl:t.len=l.length) (m:l.length<=4611686018427387904) (H:k true h):ref19_SameRows s t k h:=by
 have LA:LsAt S_api_Row.cs 4 h s l:=Rw.ls_of_slc (cs:=S_api_Row.cs) (w:=4) (fun _=>rfl) A al (by decide)
 have LB:LsAt S_api_Row.cs 4 h t l:=Rw.ls_of_slc (cs:=S_api_Row.cs) (w:=4) (fun _=>rfl) B bl (by decide)
 unfold ref19_SameRows
 rw [al,bl,if_neg (by simp)]
 unfold ref19_SameRows_l1
 refine ⟨fun i h'=>h'=h/\0<=i/\i<=(l.length:Int),fun i _=>l.length - i.toNat,⟨rfl,Int.le_refl _,by omega⟩,?_⟩
 rintro i h' ⟨rfl,i0,i1⟩
 unfold ref19_SameRows_l1b
 rw [al,bl]
 by_cases hi:i < (l.length:Int)
 ·rw [if_pos (by simpa using hi)]
  obtain ⟨a,x,ha,_,_,hx,hc⟩:=LA.it i0 hi
  obtain ⟨b,y,hb,_,_,hy,hd⟩:=LB.it i0 hi
  obtain rfl:y=x:=Option.some.inj (hy.symm.trans hx)
  refine ⟨a,ha,i0,hi,y,hc,b,hb,i0,hi,y,hd,?_⟩
  rw [if_neg (by simp)]
  exact ⟨_,rfl,by rw [wrapI64 (by omega) (by omega)]; exact ⟨⟨rfl,by omega,by omega⟩,by show l.length - (i + 1).toNat < l.length - i.toNat; omega⟩⟩
 ·rw [if_neg (by simpa using hi)]; exact H
end
theorem Same31_ok {x y:S_api_Op} {o:OpV} {k:Bool->Heap->Prop} {h:Heap} (M:OpM h x o) (M':OpM h y o) (Z:OpZ o) (H:∀ h',Ext h.size h h'->k true h'):ref31_Same x y k h:=by
 have zp:=Z.p; have zn:=Z.n; have zy:=Z.y; have zr:=Z.r
 have be:bare x=bare y:=M.e.trans M'.e.symm
 have e1:x.f_N=y.f_N:=by have:=congrArg S_api_Op.f_N be; exact this
 have e2:x.f_Kind=y.f_Kind:=by have:=congrArg S_api_Op.f_Kind be; exact this
 have e3:x.f_Tenant=y.f_Tenant:=by have:=congrArg S_api_Op.f_Tenant be; exact this
 have e4:x.f_Age=y.f_Age:=by have:=congrArg S_api_Op.f_Age be; exact this
 have e5:x.f_Done=y.f_Done:=by have:=congrArg S_api_Op.f_Done be; exact this
 have e6:x.f_E=y.f_E:=by have:=congrArg S_api_Op.f_E be; exact this
 unfold ref31_Same
 refine bx0 fun h2 P2 X2=>bx0 fun h4 P4 X4=>?_
 have z2:=X2.size
 have Q2:=P2.ext X4 P2.lt
 have X04:Ext h.size h h4:=X2.trans (X4.mono z2)
 have A:=M.ext X04
 have B:=M'.ext X04
 refine ⟨x.f_N,Q2.cl0 rfl,y.f_N,P4.cl0 rfl,?_⟩
 rw [e1,if_pos (by simp)]
 refine ⟨x.f_Kind,Q2.cl rfl,y.f_Kind,P4.cl rfl,?_⟩
 unfold ref31_Same_g1
 rw [e2,if_pos (by simp)]
 refine ⟨x.f_Tenant,Q2.cl rfl,y.f_Tenant,P4.cl rfl,?_⟩
 unfold ref31_Same_g2
 rw [e3,if_pos (by simp)]
 refine ⟨x.f_Pieces,Q2.cl rfl,y.f_Pieces,P4.cl rfl,SameP_ok A.p A.pl B.p B.pl (by omega) ?_⟩
 unfold ref31_Same_g3
 rw [if_pos rfl]
 refine ⟨x.f_Nodes,Q2.cl rfl,y.f_Nodes,P4.cl rfl,SameI_ok A.n A.nl B.n B.nl (by omega) ?_⟩
 unfold ref31_Same_g4
 rw [if_pos rfl]
 refine ⟨x.f_Yes,Q2.cl rfl,y.f_Yes,P4.cl rfl,SameI_ok A.y A.yl B.y B.yl (by omega) ?_⟩
 unfold ref31_Same_g5
 rw [if_pos rfl]
 refine ⟨x.f_Age,Q2.cl rfl,y.f_Age,P4.cl rfl,?_⟩
 unfold ref31_Same_g6
 rw [e4,if_pos (by simp)]
 refine ⟨x.f_Done,Q2.cl rfl,y.f_Done,P4.cl rfl,?_⟩
 unfold ref31_Same_g7
 rw [e5,if_pos (by simp)]
 refine ⟨x.f_E,Q2.cl rfl,y.f_E,P4.cl rfl,?_⟩
 unfold ref31_Same_g8
 rw [e6,if_pos (by simp)]
 refine ⟨x.f_Rows,Q2.cl rfl,y.f_Rows,P4.cl rfl,SameR_ok A.r A.rl B.r B.rl (by omega) ?_⟩
 unfold ref31_Same_g9
 exact H h4 X04
end Go.Q.Yq
end

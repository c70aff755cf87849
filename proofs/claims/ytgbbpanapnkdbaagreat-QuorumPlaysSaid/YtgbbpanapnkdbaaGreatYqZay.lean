/- A part of the proof of statements of this seat: lemmas, no statement of their own. -/
import Derived.Test.YtgbbpanapnkdbaaGreatYqZax
import Derived.Test.YtgbbpanapnkdbaaGreatYqZau
import Derived.Test.YtgbbpanapnkdbaaGreatYqZao
set_option linter.unusedVariables false
set_option linter.unusedSimpArgs false
set_option maxRecDepth 100000
section
/- Contracts: what is merged of several lists. -/
namespace Go.Q.Yq
open Go.Q.Rw
theorem Kk {b n c:Nat} {ss:List Slc} {ls:List (List Pc)} {k:KP Slc} {h:Heap} (S:Blk h b (ss.map Slc.v) n) (ML:ss.length=ls.length/\∀ (i:Nat) s l,ss[i]? = some s->ls[i]? = some l->Pcs h s l) (sm:ss.length<=1000000) (lm:∀ l∈ls,l.length<=1000000) (m:ls.flatten.length<=1000000)
  (H:∀ zs t h',nK ls.flatten zs->Row h.size h' 89 5 t (zs.flatMap ae.cs)->t.len=zs.length->Ext h.size h h'->k t h'):oU ⟨some ⟨b,0,none⟩,ss.length,c⟩ k h:=by
 unfold oU
 refine ⟨_,_,rfl,rfl,?_⟩
 have X1:=Ext.push h (.map #[] 0) (Nat.le_refl _)
 have M1:jr kfP vfP (h.push (.map #[] 0)) h.size ([]:PM):=jr.mk0 h
 have S1:=S.ext X1 S.lt
 generalize h.push (.map #[] 0)=h1 at *
 have z1:=X1.size
 have ml1:=M1.lt
 unfold vR
 refine ⟨fun i h'=>0<=i/\i<=(ss.length:Int)/\Ext h.size h h'/\jr kfP vfP h' h.size ((ls.take i.toNat).flatten.foldl jZ [])/\h.size < h'.size,fun i _=>ss.length - i.toNat,⟨Int.le_refl _,by omega,X1,by simpa using M1,ml1⟩,?_⟩
 rintro j h2 ⟨j0,j1,X2,M2,z2⟩
 unfold uK
 by_cases hj:j < (ss.length:Int)
 ·rw [if_pos (by simpa using hj)]
  have hjs:j.toNat < ss.length:=by omega
  have hjl:j.toNat < ls.length:=by have:=ML.1; omega
  obtain ⟨s,hs⟩:∃ s,ss[j.toNat]? = some s:=⟨_,List.getElem?_eq_getElem hjs⟩
  obtain ⟨l,hl⟩:∃ l,ls[j.toNat]? = some l:=⟨_,List.getElem?_eq_getElem hjl⟩
  have L:=ML.2 _ s l hs hl
  have m1:=lm l (List.mem_of_getElem? hl)
  obtain ⟨pre,ep⟩:∃ pre,pre=(ls.take j.toNat).flatten:=⟨_,rfl⟩
  have en:(ls.take (j + 1).toNat).flatten=pre ++ l:=by rw [take1 j0 hl,List.flatten_append,← ep]; simp
  rw [← ep] at M2
  refine ⟨_,rfl,j0,hj,s,(S.ext X2 S.lt).cl (by rw [Nat.mul_one,List.getElem?_map,hs]; rfl),?_⟩
  unfold wM
  refine ⟨fun i h'=>0<=i/\i<=(l.length:Int)/\Ext h.size h h'/\h.size < h'.size/\jr kfP vfP h' h.size ((pre ++ l.take i.toNat).foldl jZ []),fun i _=>l.length - i.toNat,⟨Int.le_refl _,by omega,X2,z2,by simpa using M2⟩,?_⟩
  rintro i h3 ⟨i0,i1,X3,z3,M3⟩
  unfold uC
  rw [L.l]
  by_cases hi:i < (l.length:Int)
  ·rw [if_pos (by simpa using hi)]
   obtain ⟨a,x,ha,g0,g1,hx,hc⟩:=(L.ext X3).it i0 hi
   rw [L.l] at g1
   have fm:(pre ++ l.take (i + 1).toNat).foldl jZ []=jZ ((pre ++ l.take i.toNat).foldl jZ []) x:=by rw [take1 i0 hx,← List.append_assoc,List.foldl_append]; rfl
   obtain ⟨acc,ea⟩:∃ acc,acc=(pre ++ l.take i.toNat).foldl jZ []:=⟨_,rfl⟩
   rw [← ea] at fm M3
   refine ⟨a,ha,g0,g1,x,hc,bx rfl (by decide) fun h9 B9 X9=>⟨x,ai.aL B9,FZ fun h12 X12=>?_⟩⟩
   have z9:=X9.size
   have z12:=X12.size
   have X312:Ext h3.size h3 h12:=X9.trans (X12.mono z9)
   have X012:Ext h.size h h12:=X3.trans (X312.mono (by omega))
   have M12:=M3.ext X312 z3
   have done:∀ h',Ext h.size h h'->h.size < h'.size->jr kfP vfP h' h.size (jZ acc x)->jk h.size ⟨some ⟨b,0,none⟩,ss.length,c⟩ (ss.length:Int) j s (l.length:Int) i k (fun i h'=>(0<=i/\i<=(ss.length:Int)/\Ext h.size h h'/\jr kfP vfP h' h.size ((ls.take i.toNat).flatten.foldl jZ [])/\h.size < h'.size)/\ss.length - i.toNat < ss.length - j.toNat) (fun s h'=>(0<=s/\s<=(l.length:Int)/\Ext h.size h h'/\h.size < h'.size/\jr kfP vfP h' h.size ((pre ++ l.take s.toNat).foldl jZ []))/\l.length - s.toNat < l.length - i.toNat) h':=fun h' X' z' M'=>by
    unfold jk
    rw [wI i0 hi m1]
    exact ⟨⟨by omega,by omega,X',z',by rw [fm]; exact M'⟩,by omega⟩
   have B12:=B9.ext X12 B9.lt
   by_cases ok:okP x=true
   ·rw [if_pos ok,if_neg (by simp)]
    refine ⟨x.ak,B12.cl0 rfl,x.f_T,B12.cl rfl,bx rfl (by decide) fun h17 B17 X17=>⟨plc x,ai.aL B17,acc,M12.ext X17 (by omega),bx rfl (by decide) fun h22 B22 X22=>?_⟩⟩
    have z17:=X17.size
    have z22:=X22.size
    have X322:Ext h3.size h3 h22:=(X312.trans (X17.mono (by omega))).trans (X22.mono (by omega))
    have X022:Ext h.size h h22:=X3.trans (X322.mono (by omega))
    have M22:=M3.ext X322 z3
    have C9:=(B12.ext X17 B12.lt).ext X22 (Nat.lt_of_lt_of_le B12.lt z17)
    have C17:=B17.ext X22 B17.lt
    have j4f:∀ h',Ext h22.size h22 h'->jZ acc x=vB acc (plc x) x->eT h.size ⟨h3.size,0,none⟩ ⟨h12.size,0,none⟩ ⟨some ⟨b,0,none⟩,ss.length,c⟩ (ss.length:Int) j s (l.length:Int) i false k _ (fun s h'=>(0<=s/\s<=(l.length:Int)/\Ext h.size h h'/\h.size < h'.size/\jr kfP vfP h' h.size ((pre ++ l.take s.toNat).foldl jZ []))/\l.length - s.toNat < l.length - i.toNat) h':=fun h' X' e=>by
     have z':=X'.size
     unfold eT
     rw [if_neg (by simp)]
     refine ⟨plc x,(ai.aL C17).ext X',x,(ai.aL C9).ext X',_,acc,_,rfl,M22.ext X' (by omega),rfl,done _ ((X022.trans (X'.mono (by omega))).trans (Ext.ry _ _ _ (Nat.le_refl _))) (by rw [vL]; omega) ?_⟩
     rw [e]
     exact (M22.ext X' (by omega)).put nO (plc x) x
    have eS:jZ acc x=(match jP acc (plc x) with | some q=>if rG q x>=0 then acc else vB acc (plc x) x | none=>vB acc (plc x) x):=by unfold jZ; exact if_pos ok
    cases hg:jP acc (plc x) with
    | none =>
     rw [hg] at eS
     dsimp only at eS
     rw [if_neg (by simp)]
     exact j4f h22 (Ext.refl _ _) eS
    | some y =>
     rw [hg] at eS B22
     dsimp only at eS
     rw [if_pos (by simp)]
     have ci:∀ {b:Nat} {z:ae} {g:Heap},Blk g b (ae.cs z) 89->ai g ((⟨b,0,none⟩:Addr).add 3) (aG.cs z.dB):=fun R=>R.cls rfl
     refine ⟨y.dB,ci B22,x.dB,ci C9,y.f_V,B22.cl rfl,x.f_V,C9.cl rfl,Il fun h33 X33=>⟨(C9.ext X33 C9.lt).cl rfl,(B22.ext X33 B22.lt).cl rfl,GH (bx0 fun h39 B39 X39=>?_)⟩⟩
     refine JG (xs:=[vk y.dB x.dB,cI y.f_V x.f_V]) B39 (by simp) ?_
     have X2:=X33.trans (X39.mono X33.size)
     show eT _ _ _ _ _ _ _ _ _ (decide (rG y x>=0)) _ _ _ _
     by_cases ho:rG y x>=0
     ·rw [if_pos ho] at eS
      rw [show decide (rG y x>=0)=true from by simpa using ho]
      unfold eT
      rw [if_pos rfl]
      have z2':=X2.size
      exact done _ (X022.trans (X2.mono (by omega))) (by omega) (by rw [eS]; exact M22.ext X2 (by omega))
     ·rw [if_neg ho] at eS
      rw [show decide (rG y x>=0)=false from by simpa using ho]
      exact j4f _ X2 eS
   ·rw [if_neg ok,if_pos (by simp)]
    exact done h12 X012 (by omega) (by unfold jZ; rw [if_neg ok]; exact M12)
  ·rw [if_neg (by simpa using hi)]
   rw [oV (by omega),← en] at M3
   rw [wI j0 hj sm]
   exact ⟨⟨by omega,by omega,X3,M3,z3⟩,by show ss.length - (j + 1).toNat < ss.length - j.toNat; omega⟩
 ·rw [if_neg (by simpa using hj)]
  rw [oV (by have:=ML.1; omega)] at M2
  have IM:=Av.fold ls.flatten ls.flatten.length
  rw [List.take_length] at IM
  obtain ⟨es,ck,m1,m2,m3⟩:=M2
  unfold aU
  refine bx0 fun h3 B3 X3=>?_
  have z3:=X3.size
  unfold bR iP
  refine ⟨h2.size,h.size,ck,es,(ls.flatten.foldl jZ []).map (·.2),rfl,B3.cl0 rfl,by rw [X3.block _ z2]; exact m1,m2,?_,?_,?_⟩
  ·have:=congrArg (List.map (·.2)) m3
   rw [List.map_map,List.map_map] at this
   rw [List.map_map]
   exact this
  ·rw [List.length_map]; exact Nat.le_trans IM.len m
  ·intro t xs h4 hp R hl X4
   have z4:=X4.size
   refine ⟨rfl,h3.size,xs,R,hl,z4,?_,fun zs h5 pz sz R5 X5=>?_⟩
   ·rw [hp.length_eq,List.length_map]; exact Nat.le_trans IM.len m
   ·refine H zs t h5 (IM.mrg (pz.trans hp) sz) (R5.mono (by omega)) (by rw [hl,pz.length_eq]) ?_
    exact ((X2.trans (X3.mono (by omega))).trans (X4.mono (by omega))).trans (X5.mono (by omega))
end Go.Q.Yq
end
section
/- Contracts: a query is run. -/
namespace Go.Q.Yq
open Go.Q.Rw
abbrev Tj:=aC.cs
theorem FN (t:ByteArray) {P:ByteArray->Prop} (h:P (ofL (U t))):P t:=by rwa [N8] at h
theorem Me {q:aC} {k:KP Int} {h:Heap} (hs:q.dF.size<=100000000) (H:∀ h',Ext h.size h h'->k (tZ q) h'):xE q k h:=by
 unfold xE
 refine bx0 fun h2 B1 X1=>⟨q.dF,B1.cl0 rfl,?_⟩
 have z1:=X1.size
 refine FN q.dF (P:=fun t=>je t _ h2) ?_
 have ul:=FX q.dF
 refine Be (by omega) (fun h5 e X5=>?_) (fun name qs s h5 e R rl X5=>?_)
 ·have z5:=X5.size
  refine bx rfl (by decide) fun h8 B8 X8=>?_
  rw [if_pos (by decide)]
  have:=H h8 (X1.trans ((X5.mono z1).trans (X8.mono (by omega))))
  unfold tZ at this
  rw [e] at this
  exact this
 ·have z5:=X5.size
  refine bx rfl (by decide) fun h8 B8 X8=>?_
  have z8:=X8.size
  rw [if_neg (by simp)]
  have X:=X1.trans ((X5.mono z1).trans (X8.mono (by omega)))
  have H2:=H h8 X
  have C1:=(B1.ext X5 B1.lt).ext X8 (Nat.lt_of_lt_of_le B1.lt z5)
  unfold tZ at H2
  rw [e] at H2
  simp only [Option.isNone_some,Bool.false_eq_true,if_false] at H2
  refine ⟨q.aW,C1.cl rfl,?_⟩
  unfold rD rM rO
  by_cases h0:q.aW < 0
  ·rw [if_pos (by simpa using h0),if_pos rfl,if_pos rfl]
   rw [if_pos (by omega)] at H2; exact H2
  ·rw [if_neg (by simpa using h0)]
   refine ⟨q.aW,C1.cl rfl,?_⟩
   by_cases h6:q.aW > 6
   ·rw [if_pos (by simpa using h6),if_pos rfl]
    rw [if_pos (by omega)] at H2; exact H2
   ·rw [if_neg (by simpa using h6)]
    refine ⟨q.aW,C1.cl rfl,?_⟩
    by_cases e6:q.aW=6
    ·rw [if_pos (by simpa using e6)]
     refine ⟨q.aX,C1.cl rfl,?_⟩
     by_cases st:q.aX < 1
     ·rw [if_pos (by simpa using st)]
      rw [if_pos (by omega)] at H2; exact H2
     ·rw [if_neg (by simpa using st)]
      rw [if_neg (by omega)] at H2; exact H2
    ·rw [if_neg (by simpa using e6),if_neg (by simp)]
     rw [if_neg (by omega)] at H2; exact H2
theorem F5 {l n:Tx} {ls:List LU} (hl:l.length<=100000000) (h:p8 l=some (n,ls)):okL ls/\ls.length<=8:=by
 unfold p8 at h
 cases hs:sG l with
 | none=>rw [hs] at h; cases h
 | some x =>
  obtain ⟨name,qs⟩:=x
  rw [hs] at h
  dsimp only at h
  obtain ⟨a,b,c⟩:=Dg hs
  split at h
  ·cases h
  ·split at h
   ·cases h
    refine ⟨fun x hx=>?_,by simpa using c⟩
    obtain ⟨y,hy,rfl⟩:=List.mem_map.1 hx
    have:=b y hy
    dsimp only
    omega
   ·cases h
theorem Kn {α β:Type} {cs:α->List Value} {w:Nat} {f:β->α} (hc:∀ x,(cs x).length=w) (hw:0 < w) {B E:Nat} {h:Heap} {s:Slc} {xs:List β} (R:Row B h E w s (xs.flatMap fun x=>cs (f x))) (hl:s.len=xs.length):LsAt cs w h s (xs.map f):=by
 refine iH hc ?_ (by simp [hl]) hw
 have:=R.slc
 rw [List.flatMap_map]; exact this
theorem PO {q:aC} {p1:Slc} {l:List Pc} {hz:Int} {k:KP (Slc × Int)} {h:Heap} (L:Pcs h p1 l) (m:l.length<=1000000) (hs:q.dF.size<=100000000) (hp:∀ p∈l,p.ak.size<=100000000)
  (H0:∀ h',tZ q≠0->Ext h.size h h'->k (⟨none,0,0⟩,tZ q) h')
  (H1:∀ zs s h',tZ q=0->nK l zs->Row h.size h' 89 5 s ((AJ q hz zs).flatMap ae.cs)->s.len=(AJ q hz zs).length->Ext h.size h h'->k (s,0) h'):Bw q p1 hz k h:=by
 unfold Bw
 refine bx0 fun h2 B1 X1=>⟨q,ai.aL B1,Me hs fun h5 X5=>?_⟩
 have z1:=X1.size
 have z5:=X5.size
 have X05:=X1.trans (X5.mono z1)
 by_cases hc:tZ q=0
 rotate_left
 ·rw [if_pos (by simpa using hc)]
  exact H0 h5 hc X05
 rw [if_neg (by simpa using hc)]
 have l1:=B1.lt
 have C1:=B1.ext X5 l1
 refine ⟨q.dF,C1.cl0 rfl,FN q.dF (P:=fun t=>je t _ h5) ?_⟩
 have ul:=FX q.dF
 refine Be (by omega) (fun h8 e X8=>?_) (fun name qs sq h8 e Rq ql X8=>?_)
 ·unfold tZ at hc
  rw [e] at hc
  simp at hc
 have z8:=X8.size
 have hask:∀ zs,AJ q hz zs=Nn q.pK q.FE hz (chs name qs) zs:=fun zs=>by unfold AJ; rw [e]
 refine bx rfl (by decide) fun h11 B9 X11=>⟨_,_,rfl,rfl,?_⟩
 have z11:=X11.size
 have XM:=Ext.push h11 (.map #[] 0) (Nat.le_refl _)
 have M0:MapAt .string Value.string Value.bool (h11.push (.map #[] 0)) (some h11.size) ([]:List (ByteArray × Bool)):=MapAt.mk0
 have B9':=B9.ext XM B9.lt
 have l9:=B9.lt
 generalize h11.push (.map #[] 0)=h13 at *
 have z13:=XM.size
 have ml:=M0.lt
 have X013:Ext h.size h h13:=X05.trans ((X8.mono (by omega)).trans ((X11.mono (by omega)).trans (XM.mono (by omega))))
 have D1:Blk h13 h.size (Tj q) 28:=((C1.ext X8 (by omega)).ext X11 (by omega)).ext XM (by omega)
 have Rq13:Row h5.size h13 174 3 sq (qs.flatMap qcs):=(Rq.ext X11 fun g hg=>(Rq.bd hg).2).ext XM fun g hg=>by have:=(Rq.bd hg).2; omega
 refine ⟨q.pK,D1.cl rfl,q.FE,D1.cl rfl,bx0 fun h17 B16 X17=>⟨(D1.ext X17 D1.lt).cl rfl,(D1.ext X17 D1.lt).cl rfl,?_⟩⟩
 have z17:=X17.size
 have X017:=X013.trans (X17.mono (by omega))
 refine L8 B16 (L.ext X017) m fun zs t h21 IM R21 tl X21=>?_
 have z21:=X21.size
 have E1:=(D1.ext X17 D1.lt).ext X21 (Nat.lt_of_lt_of_le D1.lt z17)
 refine ⟨E1.cl rfl,E1.cl rfl,?_⟩
 have zl:=IM.len
 have et:(if hz > q.pK then hz else q.pK)=max q.pK hz:=by split <;> omega
 refine Ik (iH Aw R21.slc tl (by decide)) (by omega) fun u h25 R25 ul25 X25=>?_
 have z25:=X25.size
 rw [et] at R25 ul25
 obtain ⟨bs,eb⟩:∃ bs,bs=zs.filter fun p=>decide (max q.pK hz<=p.f_T) && decide (p.f_T<=q.FE):=⟨_,rfl⟩
 rw [← eb] at R25 ul25
 have fin:AJ q hz zs=bs.filter fun p=>chs name qs p.ak:=by
  rw [hask,eb,List.filter_filter]
  unfold Nn
  congr 1
  funext p
  rw [Bool.and_comm]
 have bl:bs.length<=1000000:=by rw [eb]; exact Nat.le_trans (List.length_filter_le _ _) (by omega)
 have X1325:Ext h13.size h13 h25:=X17.trans ((X21.mono z17).trans (X25.mono (by omega)))
 have M25:=M0.ext X1325 ml
 have F9:=B9'.ext X1325 B9'.lt
 have Rq25:=Rq13.ext X1325 fun g hg=>(Rq13.bd hg).2
 have X025:=X013.trans (X1325.mono X013.size)
 have hpb:∀ p∈bs,p.ak.size<=100000000:=fun p hp'=>by rw [eb] at hp'; exact hp p (IM.sub p (List.mem_filter.1 hp').1)
 have hq8:=(Dg e).2.2
 unfold Dx
 refine ⟨fun r h'=>0<=r.2/\r.2<=(bs.length:Int)/\Upd h11.size h25 h'/\Row h25.size h' 89 5 r.1 (((bs.take r.2.toNat).filter fun p=>chs name qs p.ak).flatMap ae.cs)/\r.1.len=((bs.take r.2.toNat).filter fun p=>chs name qs p.ak).length/\∃ ml:List (ByteArray × Bool),MapAt .string Value.string Value.bool h' (some h11.size) ml/\∀ e∈ml,e.2=chs name qs e.1,
  fun r _=>bs.length - r.2.toNat,⟨by dsimp only; omega,by dsimp only; omega,Upd.refl _ _,by simpa using Row.nil _ _ _ _,by simp,[],M25,by simp⟩,?_⟩
 rintro t12 i h26 ⟨i0,i1,UU,R,rl,ml,M,me⟩
 dsimp only at i0 i1 R rl ⊢
 have z26:=UU.size
 have base:∀ {h'},Upd h11.size h25 h'->Ext h.size h h':=fun {h'} U=>X025.trans (U.ext (by omega) X025.size)
 unfold Ch
 have uT:∀ {h'},Upd h11.size h25 h'->Pcs h' u bs:=fun {h'} U=>iH Aw (R25.keep fun g hg=>U.block g (R25.bd hg).2 (by have:=(R25.bd hg).1; omega)).slc ul25 (by decide)
 have uE:∀ {a b},Upd h11.size h25 a->Ext h25.size a b->Upd h11.size h25 b:=fun {a b} U X=>⟨Nat.le_trans U.size X.size,fun g hg hn=>(X.block g hg).trans (U.block g hg hn)⟩
 rw [ul25]
 by_cases hi:i < (bs.length:Int)
 rotate_left
 ·rw [if_neg (by simpa using hi)]
  rw [oV (by omega)] at R rl
  exact H1 zs t12 h26 hc IM (by rw [fin]; exact R.mono (by omega)) (by rw [fin]; exact rl) (base UU)
 rw [if_pos (by simpa using hi)]
 obtain ⟨a,x,ha,g0,g1,hx,hcx⟩:=(uT UU).it i0 hi
 have xs:=hpb x (List.mem_of_getElem? hx)
 have tk:=take1 i0 hx
 refine ⟨a,ha,g0,by rw [← ul25]; exact g1,x,hcx,bx rfl (by decide) fun h30 B28 X30=>⟨x.ak,B28.cl0 rfl,ml,M.ext X30 M.lt,?_⟩⟩
 have z30:=X30.size
 have U30:=uE UU (X30.mono z26)
 have lfl:((bs.take i.toNat).filter fun p=>chs name qs p.ak).length<=1000000:=Nat.le_trans (List.length_filter_le _ _) (by rw [List.length_take]; omega)
 have j3:∀ h' ml',Upd h11.size h25 h'->(∀ g,g < h30.size->g≠h11.size->h'[g]? = h30[g]?)->h30.size<=h'.size->MapAt .string Value.string Value.bool h' (some h11.size) ml'->(∀ e∈ml',e.2=chs name qs e.1) ->
   rf ⟨h8.size,0,none⟩ h11.size t12 ⟨h26.size,0,none⟩ u (bs.length:Int) i (chs name qs x.ak) k (fun r h'=>(0<=r.2/\r.2<=(bs.length:Int)/\Upd h11.size h25 h'/\Row h25.size h' 89 5 r.1 (((bs.take r.2.toNat).filter fun p=>chs name qs p.ak).flatMap ae.cs)/\r.1.len=((bs.take r.2.toNat).filter fun p=>chs name qs p.ak).length/\∃ ml:List (ByteArray × Bool),MapAt .string Value.string Value.bool h' (some h11.size) ml/\∀ e∈ml,e.2=chs name qs e.1)/\bs.length - r.2.toNat < bs.length - i.toNat) h':=fun h' ml' U' K' z' M' me'=>by
  have Rk:Row h25.size h' 89 5 t12 _:=(R.ext X30 fun g hg=>(R.bd hg).2).keep fun g hg=>K' g (by have:=(R.bd hg).2; omega) (by have:=(R.bd hg).1; omega)
  have Bk:Blk h' h26.size (ae.cs x) 89:=B28.old (K' _ B28.lt (by omega))
  unfold rf vw
  rw [wI i0 hi bl]
  cases hch:chs name qs x.ak with
  | true =>
   rw [if_pos rfl]
   have ef:(bs.take (i + 1).toNat).filter (fun p=>chs name qs p.ak)=(bs.take i.toNat).filter (fun p=>chs name qs p.ak) ++ [x]:=by rw [tk,List.filter_append]; simp [hch]
   refine ⟨x,ai.aL Bk,bx0 fun h35 B35 X35=>app1 (Rk.ext X35 fun g hg=>(Rk.bd hg).2) (by have:=X35.size; omega) rfl rfl (Dc x) (by omega) (by unfold maxLen; omega) fun s h37 R37 l37 X37=>?_⟩
   have z35:=X35.size
   have X3:=(X35.mono (B':=h25.size) (by omega)).trans X37
   refine ⟨⟨by dsimp only; omega,by dsimp only; omega,uE U' X3,?_,?_,ml',M'.ext X3 (by omega),me'⟩,by dsimp only; omega⟩
   ·dsimp only; rw [ef,List.flatMap_append]; simpa using R37
   ·dsimp only; rw [ef,l37,rl]; simp
  | false =>
   rw [if_neg (by simp)]
   have ef:(bs.take (i + 1).toNat).filter (fun p=>chs name qs p.ak)=(bs.take i.toNat).filter (fun p=>chs name qs p.ak):=by rw [tk,List.filter_append]; simp [hch]
   refine ⟨⟨by dsimp only; omega,by dsimp only; omega,U',?_,?_,ml',M',me'⟩,by dsimp only; omega⟩
   ·dsimp only; rw [ef]; exact Rk
   ·dsimp only; rw [ef]; exact rl
 cases hg:jP ml x.ak with
 | some b =>
  rw [if_neg (by simp)]
  have:=me _ (EU hg)
  dsimp only at this
  rw [show ((some b:Option Bool).getD false)=chs name qs x.ak from this]
  exact j3 h30 ml U30 (fun _ _ _=>rfl) (Nat.le_refl _) (M.ext X30 M.lt) me
 | none =>
  rw [if_pos (by simp)]
  refine ⟨x.ak,B28.cl0 rfl,FN x.ak (P:=fun t=>tY t _ h30) ?_⟩
  have ux:=FX x.ak
  have g4:∀ h' b,b=chs name qs x.ak->Ext h30.size h30 h'->rA ⟨h8.size,0,none⟩ h11.size t12 ⟨h26.size,0,none⟩ u (bs.length:Int) i b k _ h':=fun h' b hb X'=>by
   subst hb
   have z':=X'.size
   have M':=(M.ext X30 M.lt).ext X' (by omega)
   unfold rA
   refine ⟨x.ak,(B28.ext X' B28.lt).cl0 rfl,_,ml,_,rfl,M',rfl,j3 _ (vB ml x.ak (chs name qs x.ak)) ?_ (fun g hg hn=>?_) (by rw [vL]; exact z') (M'.put OD _ _) fun e he=>?_⟩
   ·have U':=uE U30 (X'.mono (by omega))
    exact ⟨by rw [vL]; exact U'.size,fun g hg hn=>by rw [sJ hn]; exact U'.block g hg hn⟩
   ·rw [sJ hn]; exact X'.block g hg
   ·have none':vB ml x.ak (chs name qs x.ak)=ml ++ [(x.ak,chs name qs x.ak)]:=zf (EZ hg)
    rw [none'] at he
    rcases List.mem_append.1 he with he | he
    ·exact me e he
    ·simp only [List.mem_singleton] at he; subst he; rfl
  refine KE (by omega) (fun h40 ep X40=>?_) (fun n ls sl h40 ep Rl ll X40=>?_)
  ·refine bx rfl (by decide) fun h43 B41 X43=>?_
   rw [if_neg (by decide)]
   exact g4 h43 false (by unfold chs; rw [ep]) (X40.trans (X43.mono X40.size))
  ·have z40:=X40.size
   refine bx rfl (by decide) fun h43 B41 X43=>?_
   rw [if_pos (by simp)]
   have z43:=X43.size
   have X3043:Ext h30.size h30 h43:=X40.trans (X43.mono z40)
   have k43:∀ g,g < h25.size->g≠h11.size->h43[g]? = h25[g]?:=fun g hg hn=>(X3043.block g (by omega)).trans (U30.block g hg hn)
   have F43:Blk h43 h8.size (af.cs ⟨ofL name,sq⟩) 139:=F9.old (k43 _ F9.lt (by omega))
   have Rq43:=Rq25.keep fun g hg=>k43 g (Rq25.bd hg).2 (by have:=(Rq.bd hg).2; omega)
   obtain ⟨okl,l8⟩:=F5 (by omega) ep
   refine ⟨_,ai.aL F43,_,ai.aL B41,Iq (qs:=qs) (ls:=ls) (Kn o7 (by decide) Rq43 ql) ?_ (by omega) (by omega) okl fun h51 X51=>g4 h51 _ ?_ (X3043.trans (X51.mono (by omega)))⟩
   ·exact (Kn vH (by decide) Rl ll).ext X43
   ·unfold chs; rw [ep]
theorem Ib {q:aC} {hz:Int} {zs:List Pc}:List.Sublist (AJ q hz zs) zs:=by
 unfold AJ
 split
 ·exact List.nil_sublist _
 ·exact List.filter_sublist
theorem MZ {l g:List Pc} (h:g∈grp l):List.Sublist g l:=by
 have:=Fb l
 have h2:List.Sublist g (grp l).flatten:=List.sublist_flatten_of_mem h
 rwa [this] at h2
theorem PH {q:aC} {p1:Slc} {l:List Pc} {hz:Int} {k:KP (Slc × Int)} {h:Heap} (L:Pcs h p1 l) (m:l.length<=1000) (hs:q.dF.size<=100000000) (hp:∀ p∈l,p.ak.size<=100000000/\bJ p.f_V/\bJ p.f_T) (q6:bJ q.aX)
  (H:∀ zs s h',nK l zs∨(tZ q≠0/\zs=[])->Ext h.size h h'->Ee h' s (oh q hz zs).1->(∀ g,s.blk=some g->h.size<=g)->k (s,(oh q hz zs).2) h'):BD q p1 hz k h:=by
 unfold BD
 refine bx0 fun h2 B1 X1=>⟨q,ai.aL B1,?_⟩
 have z1:=X1.size
 refine PO (L.ext X1) (by omega) hs (fun p h=>(hp p h).1) (fun h5 hc X5=>?_) (fun zs s h5 hc IM R sl X5=>?_)
 ·rw [if_pos (by simpa using hc)]
  have e:oh q hz []=([],tZ q):=by unfold oh; rw [if_pos hc]
  have:=H [] ⟨none,0,0⟩ h5 (.inr ⟨hc,rfl⟩) (X1.trans (X5.mono z1))
  rw [e] at this
  exact this (.nil _) fun g hg=>by cases hg
 ·rw [if_neg (by simp)]
  have z5:=X5.size
  have X05:=X1.trans (X5.mono z1)
  obtain ⟨as',ea⟩:∃ x,x=AJ q hz zs:=⟨_,rfl⟩
  have er:oh q hz zs=match qX q.aW q.aX (grp as') with | none=>([],19) | some r=>(r,0):=by unfold oh; rw [if_neg (by simpa using hc),ea]; rfl
  rw [← ea] at R sl
  have sub:List.Sublist as' zs:=by rw [ea]; exact Ib
  have al:as'.length<=1000:=Nat.le_trans sub.length_le (Nat.le_trans IM.len m)
  have qa:0<=q.aW/\q.aW<=6/\(q.aW=6->0 < q.aX):=by
   unfold tZ at hc
   split at hc
   ·omega
   ·split at hc
    ·omega
    ·omega
  have hb:∀ p∈as',bJ p.f_V/\bJ p.f_T:=fun p h=>(hp p (IM.sub p (sub.mem h))).2
  have srt:=IM.srt.sublist sub
  refine Kh (iH Aw R.slc sl (by decide)) (by omega) R.cap fun t ss h7 R7 tl G X7=>?_
  have z7:=X7.size
  have X07:=X05.trans (X7.mono (by omega))
  have C1:=(B1.ext X5 B1.lt).ext X7 (Nat.lt_of_lt_of_le B1.lt z5)
  have gl:ss.length=(grp as').length:=G.1
  have gfl:=Fb as'
  have glen:∀ n,((grp as').take n).flatten.length<=1000:=fun n=>by
   have:((grp as').take n).flatten.length<=(grp as').flatten.length:=by
    conv=>rhs; rw [← List.take_append_drop n (grp as'),List.flatten_append]
    simp
   rw [gfl] at this; omega
  have gcount:(grp as').length<=1000:=by
   have key:∀ gs:List (List Pc),(∀ g∈gs,g≠[])->gs.length<=gs.flatten.length:=fun gs=>by
    induction gs with
    | nil=>simp
    | cons g r ih =>
     intro hne
     have:=ih fun x hx=>hne x (List.mem_cons_of_mem _ hx)
     have:=List.length_pos_iff.2 (hne g List.mem_cons_self)
     simp only [List.length_cons,List.flatten_cons,List.length_append]; omega
   have:=key (grp as') fun g hg=>Gt hg
   rw [gfl] at this; omega
  unfold CL
  refine ⟨fun r h'=>0<=r.2/\r.2<=(ss.length:Int)/\Ext h7.size h7 h'/\∃ rs,Row h7.size h' 118 4 r.1 (rvs rs)/\r.1.len=rs.length/\rs.length<=((grp as').take r.2.toNat).flatten.length/\qX q.aW q.aX (grp as')=(qX q.aW q.aX ((grp as').drop r.2.toNat)).map (rs ++ ·),
   fun r _=>ss.length - r.2.toNat,⟨by dsimp only; omega,by dsimp only; omega,Ext.refl _ _,[],Row.nil _ _ _ _,rfl,by simp,by simp⟩,?_⟩
  rintro t10 i h8 ⟨i0,i1,X8,rs,Rr,rl,rb,eR⟩
  dsimp only at i0 i1 Rr rl rb eR ⊢
  have z8:=X8.size
  have X08:=X07.trans (X8.mono X07.size)
  unfold Cc
  rw [tl]
  by_cases hi:i < (ss.length:Int)
  ·rw [if_pos (by simpa using hi)]
   obtain ⟨sg,hsg⟩:∃ x,ss[i.toNat]? = some x:=⟨_,List.getElem?_eq_getElem (by omega)⟩
   obtain ⟨g,hg⟩:∃ x,(grp as')[i.toNat]? = some x:=⟨_,List.getElem?_eq_getElem (by omega)⟩
   have gm:=List.mem_of_getElem? hg
   have Lg:=(G.2 _ _ _ hsg hg).ext X8
   have R78:=R7.ext X8 fun g hg=>(R7.bd hg).2
   obtain ⟨a,ha,hcl⟩:=u6 R78.slc (i:=i.toNat) (v:=Slc.v sg) (by rw [List.getElem?_map,hsg]; rfl)
   have gs:=MZ gm
   have ed:(grp as').drop i.toNat=g :: (grp as').drop (i + 1).toNat:=by
    rw [show (i + 1).toNat=i.toNat + 1 from by omega]
    obtain ⟨h1,h2⟩:=List.getElem?_eq_some_iff.1 hg
    rw [← h2]; exact List.drop_eq_getElem_cons h1
   have D1:=C1.ext X8 C1.lt
   have ptw:g.Pairwise fun a b=>a.f_T < b.f_T:=by
    refine List.Pairwise.imp_of_mem ?_ (srt.sublist gs)
    intro a b ha hb hlt
    have:=Kz gm a ha b hb
    rcases hlt with hlt | hlt
    ·rw [this,Dv] at hlt; omega
    ·exact hlt.2
   refine ⟨a,ha,i0,hi,sg,by rw [Nat.mul_one]; exact hcl,q,ai.aL D1,?_⟩
   refine NK Lg (by have:=gs.length_le; omega) (fun p h=>hb p (gs.mem h)) (Gt gm) ptw ⟨qa.1,qa.2.1⟩ qa.2.2 q6 (fun h9 e X9=>?_) (fun r2 s2 h9 e X9 V=>?_)
   ·rw [if_pos (by decide)]
    have e2:oh q hz zs=([],19):=by rw [er,eR,ed]; unfold qX; rw [e]; rfl
    have:=H zs ⟨none,0,0⟩ h9 (.inl IM) (X08.trans (X9.mono X08.size))
    rw [e2] at this
    exact this (.nil _) fun g hg=>by cases hg
   ·rw [if_neg (by simp)]
    have z9:=X9.size
    have rlen:r2.length<=g.length:=by
     unfold gU at e
     have gp:1<=g.length:=List.length_pos_iff.2 (Gt gm)
     split at e
     ·cases e; simp
     split at e
     ·cases e; simpa using gp
     split at e
     ·cases e; simpa using gp
     split at e
     ·cases e; simpa using gp
     split at e
     ·cases e; simpa using gp
     split at e
     ·split at e
      ·cases e; simp
      ·cases hr:AP g with
       | none=>rw [hr] at e; cases e
       | some n=>rw [hr] at e; cases e; simpa using gp
     ·cases e
      have key:∀ (g:List Pc) (o:List RI),(g.foldl (qJ q.aX) o).length<=o.length + g.length:=fun g=>by
       induction g with
       | nil=>simp
       | cons p r ih =>
        intro o
        rw [List.foldl_cons]
        have h1:=ih (qJ q.aX o p)
        have h2:=Bu q.aX o p
        simp only [List.length_cons]; omega
      simpa [lQ] using key g []
    have tkf:((grp as').take (i + 1).toNat).flatten.length=((grp as').take i.toNat).flatten.length + g.length:=by
     rw [take1 i0 hg,List.flatten_append]; simp
    have gb:=glen (i + 1).toNat
    refine ⟨rvs r2,V.1,app1 (Rr.ext X9 fun g hg=>(Rr.bd hg).2) (by omega) rfl (by rw [Bp,V.2]) (Ky r2) (by rw [V.2]; omega) (by rw [V.2]; unfold maxLen; omega) fun s h14 R14 l14 X14=>?_⟩
    rw [wI i0 hi (by omega)]
    refine ⟨⟨by dsimp only; omega,by dsimp only; omega,(X8.trans (X9.mono z8)).trans X14,rs ++ r2,by rw [BI]; exact R14,by rw [l14,rl,V.2]; simp,?_,?_⟩,by dsimp only; omega⟩
    ·dsimp only; rw [tkf,List.length_append]; omega
    ·dsimp only
     rw [eR,ed]
     conv=>lhs; unfold qX
     rw [e]
     dsimp only
     rw [Option.map_map]
     congr 1
     funext y
     simp
  ·rw [if_neg (by simpa using hi)]
   have ed:(grp as').drop i.toNat=[]:=List.drop_of_length_le (by omega)
   rw [ed] at eR
   have e2:oh q hz zs=(rs,0):=by rw [er,eR]; simp [qX]
   have:=H zs t10 h8 (.inl IM) X08
   rw [e2] at this
   exact this (.of Rr rl) fun g hg=>by have:=(Rr.bd hg).1; have:=X07.size; omega
end Go.Q.Yq
end
section
/- Quorum: a node says yes. -/
namespace Go.Q.Yq
open Go.Q.Rw
/-- what a query is run over -/
structure Jb (q:aC) (ps:List ae):Prop where
 l:ps.length<=1000
 s:q.dF.size<=100000000
 p:∀ p∈ps,p.ak.size<=100000000/\bJ p.f_V/\bJ p.f_T
 t:bJ q.aX
theorem Dr {h:Heap} {s:Slc} {ps:List ae} (S:SlcAt h s (pcv ps)) (l:s.len=ps.length):Pcs h s ps:=iH (cs:=ae.cs) (w:=5) (fun _=>rfl) S l (by decide)
theorem PK {h:Heap} {g:Nat} {x:aj} {ps:List ae} {nl yl:Nat} {k:KP Bool} (B:Blk h g (aj.cs x) 39) (xy:x.eD.len=yl) (xn:x.aQ.len=nl) (nz:nl<=1000000)
  (P:Imm (fun b=>b=g) h fun h'=>SlcAt h' x.aP (pcv ps)) (pl:x.aP.len=ps.length) (RH:x.aJ=2->Jb x.f_Q ps)
  (H0:(yl:Int) < needs x.aJ nl->∀ h',Ext h.size h h'->k true h')
  (H1:¬ (yl:Int) < needs x.aJ nl->x.aJ≠2->∀ h',Blk h' g (aj.cs { x with aI:=true }) 39->Stp (fun b=>b=g) h h'->k true h')
  (H2:¬ (yl:Int) < needs x.aJ nl->x.aJ=2->∀ zs s h',(nK ps zs∨tZ x.f_Q≠0/\zs=[])->Blk h' g (aj.cs { x with aI:=true,dV:=s,f_E:=(oh x.f_Q x.kX zs).2 }) 39->Ee h' s (oh x.f_Q x.kX zs).1->(∀ b,s.blk=some b->h.size<=b)->Stp (fun b=>b=g) h h'->k true h') :
  iE (some ⟨g,0,none⟩) k h:=by
 have bl:=B.lt
 unfold iE
 refine ⟨_,rfl,x.eD,B.cl rfl,x,ai.aL B,EN (by rw [xn]; simp only [maxLen]; omega) fun h14 X14=>⟨(B.ext X14 bl).cl rfl,?_⟩⟩
 have z14:=X14.size
 have B14:=B.ext X14 bl
 rw [xy,xn]
 by_cases c:(yl:Int) < needs x.aJ nl
 ·rw [if_pos (by simpa using c)]; exact H0 c h14 X14
 rw [if_neg (by simpa using c)]
 refine jI B14 (by show 30 < 33; decide) fun h16 B16 U16=>⟨x.aJ,B16.cl rfl,?_⟩
 have z16:=U16.size
 have s16:Stp (fun b=>b=g) h h16:=(Stp.oL X14).trans' (Stp.vX U16 (.inl rfl))
 by_cases kd:x.aJ=2
 ·rw [if_pos (by simpa using kd)]
  have R:=RH kd
  have B16':Blk h16 g (aj.cs { x with aI:=true }) 39:=B16
  refine ⟨x.f_Q,B16'.cls rfl,x.aP,B16'.cl rfl,x.kX,B16'.cl rfl,?_⟩
  have Lp:Pcs h16 x.aP ps:=Dr (P h16 s16) pl
  refine PH Lp R.l R.s R.p R.t fun zs s h22 hm X22 RV fr=>?_
  have z22:=X22.size
  have B22:=B16'.ext X22 B16'.lt
  refine jI B22 (by show 32 < 33; decide) fun h23 B23 U23=>jI B23 (by rw [List.length_set]; show 31 < 33; decide) fun h24 B24 U24=>?_
  unfold kF
  have U:=U23.trans U24
  refine H2 c kd zs s h24 hm B24 ⟨⟨RV.1.1,fun a ha j v hj=>?_⟩,RV.2⟩ (fun b hb=>by have:=fr b hb; omega) (s16.trans' ((Stp.oL X22).trans' (Stp.vX U (.inl rfl))))
  have cc:=RV.1.2 a ha j v hj
  have ab:(a.add j).block=a.block:=by unfold Addr.add; split <;> rfl
  have:=fr a.block (by unfold Slc.blk; rw [ha])
  have lt:=om cc
  rw [uw (h:=h22) (h':=h24) (U.block _ lt (by rw [ab]; have:=B16'.lt; omega))]
  exact cc
 ·rw [if_neg (by simpa using kd)]
  unfold kF
  exact H1 c kd h16 B16 s16
end Go.Q.Yq
end
section
/- Quorum: how many rows there are; what is off the desk's blocks. -/
namespace Go.Q.Yq
theorem GX (step:Int):∀ (g:List Pc) (o:List RI),(g.foldl (qJ step) o).length<=o.length + g.length
 | [],o=>by simp
 | p :: r,o=>by
  have h1:=Bu step o p
  have h2:=GX step r (qJ step o p)
  simp only [List.foldl_cons,List.length_cons]; omega
theorem J6 {agg step:Int} {g:List Pc} {rs:List RI} (ne:g≠[]) (h:gU agg step g=some rs):rs.length<=g.length:=by
 have pos:0 < g.length:=List.length_pos_iff.2 ne
 unfold gU at h
 split at h
 ·cases h; simp
 split at h
 ·cases h; simp; omega
 split at h
 ·cases h; simp; omega
 split at h
 ·cases h; simp; omega
 split at h
 ·cases h; simp; omega
 split at h
 ·split at h
  ·cases h; simp
  ·cases hr:AP g with
   | none=>rw [hr] at h; cases h
   | some n=>rw [hr] at h; cases h; simp; omega
 ·cases h
  have:=GX step g []
  simpa [lQ] using this
theorem FL {agg step:Int}:∀ {gs:List (List Pc)} {rs:List RI},(∀ g∈gs,g≠[])->qX agg step gs=some rs->rs.length<=gs.flatten.length
 | [],rs,_,h=>by cases h; simp
 | g :: r,rs,ne,h=>by
  unfold qX at h
  cases hp:gU agg step g with
  | none=>rw [hp] at h; cases h
  | some x =>
   rw [hp] at h
   dsimp only at h
   cases hl:qX agg step r with
   | none=>rw [hl] at h; cases h
   | some y =>
    rw [hl] at h; cases h
    have h1:=J6 (ne g (by simp)) hp
    have h2:=FL (fun a ha=>ne a (by simp [ha])) hl
    simp only [List.length_append,List.flatten_cons]; omega
theorem KF (q:aC) (hz:Int) (zs:List Pc):(AJ q hz zs).length<=zs.length:=by
 unfold AJ
 split
 ·simp
 ·exact List.length_filter_le _ _
theorem Hy (q:aC) (hz:Int) (zs:List Pc):(oh q hz zs).1.length<=zs.length:=by
 unfold oh
 split
 ·simp
 ·split
  ·simp
  ·rename_i rs h
   have h1:=FL (fun g hg=>Gt hg) h
   rw [Fb] at h1
   exact Nat.le_trans h1 (KF q hz zs)
theorem xz {O:kQ} {h:Heap} {s:Slc} {vs:List Value} (S:SlcAt h s vs) (off:∀ b,s.blk=some b->¬ O b):Imm O h fun h'=>SlcAt h' s vs:=fun h' st=>⟨S.1,fun a ha j v hj=>by
 have c:=S.2 a ha j v hj
 have ab:(a.add j).block=a.block:=by unfold Addr.add; split <;> rfl
 rw [uw (h:=h) (h':=h') (st.block _ (om c) (by rw [ab]; exact off a.block (by unfold Slc.blk; rw [ha])))]
 exact c⟩
end Go.Q.Yq
end
section
/- Quorum: a node says yes: what becomes of the op. -/
namespace Go.Q.Yq
open Go.Q.Rw
/-- what becomes of an op's values when a node says yes -/
structure OT (o:OpV) (node:Int) (told:List ae) (o':OpV):Prop where
 ns:o'.ns=o.ns
 ys:o'.ys=o.ys ++ [node]
 wr:o'.wr=o.wr
 ps:if o.x.aJ=2 then nK (o.ps ++ told) o'.ps else o'.ps=o.ps
 x:(((o.ys.length + 1:Nat):Int) < needs o.x.aJ o.ns.length/\o'.x=o.x/\o'.rs=o.rs) ∨
  (¬ ((o.ys.length + 1:Nat):Int) < needs o.x.aJ o.ns.length/\o.x.aJ≠2/\o'.x = { o.x with aI:=true }/\o'.rs=o.rs) ∨
  (¬ ((o.ys.length + 1:Nat):Int) < needs o.x.aJ o.ns.length/\o.x.aJ=2/\∃ zs,(nK o'.ps zs∨tZ o.x.f_Q≠0/\zs=[])/\o'.x = { o.x with aI:=true,f_E:=(oh o.x.f_Q o.x.kX zs).2 }/\o'.rs=(oh o.x.f_Q o.x.kX zs).1.map rC)
theorem Jh {h:Heap} {r m:Nat} {E:List Ent} {n node:Int} {t:Slc} {told:List ae} {k:KP Bool} (D:gW h r m E) (nz:∀ e∈E,e.o.ns.length<=1000000) (yz:∀ e∈E,e.o.ys.length<=1000000) (pz:∀ e∈E,e.o.ps.length<=1000) (tz:told.length<=1000)
  (T:Imm (fG r m E) h fun h'=>Pcs h' t told) (RH:∀ e∈E,e.n=n->e.o.x.aJ=2->∀ ps,nK (e.o.ps ++ told) ps->Jb e.o.x.f_Q ps) (N:(∀ e,look E n=some e->e.o.x.aI=false->node∈e.o.ns->node∈e.o.ys)->k false h)
  (H:∀ (i:Nat) e x' o' h',E[i]? = some e->e.n=n->look E n=some e->e.o.x.aI=false->node∈e.o.ns->node ∉ e.o.ys->OT e.o node told o'->gW h' r m (E.set i { e with x:=x',o:=o' })->Stp e.own h h'->(∀ b,Ent.own { e with x:=x',o:=o' } b->e.own b∨h.size<=b)->(∀ b,Slo x' o' b->Slo e.x e.o b∨h.size<=b)->k true h') :
  lq (some ⟨r,0,none⟩) n node t k h:=by
 unfold lq
 have no:(∀ e,look E n=some e->e.o.x.aI=false->node∈e.o.ns->node∈e.o.ys)->∀ p,iK node t p true k h:=fun q p=>by unfold iK; rw [if_pos rfl]; exact N q
 refine JB D nz (fun hl=>?_) fun i e hi en hl=>?_
 ·rw [if_pos (by simp)]; exact no (fun e he=>by rw [hl] at he; cases he) _
 have he:=List.mem_of_getElem? hi
 have K:=D.ok e he
 have M:=K.m
 have ez:=nz e he; have eyz:=yz e he; have epz:=pz e he
 by_cases c':¬ (e.o.x.aI=false/\node∈e.o.ns)
 ·rw [decide_eq_false c',if_pos (by simp)]; exact no (fun e' he' d q=>by rw [hl] at he'; cases he'; exact absurd ⟨d,q⟩ c') _
 have c:=Decidable.not_not.1 c'
 rw [decide_eq_true c,if_neg (by simp)]
 refine ⟨⟨e.g,0,none⟩,rfl,e.x.eD,K.B.cl rfl,Gj ⟨M.y,M.yl,K.Y.cap⟩ eyz ?_⟩
 by_cases cy:node∈e.o.ys
 ·rw [decide_eq_true cy]; exact no (fun e' he' _ _=>by rw [hl] at he'; cases he'; exact cy) _
 rw [decide_eq_false cy]
 have kd:e.x.aJ=e.o.x.aJ:=by rw [← K.be]; rfl
 have qd:e.x.f_Q=e.o.x.f_Q:=by rw [← K.be]; rfl
 have ld:e.x.kX=e.o.x.kX:=by rw [← K.be]; rfl
 unfold iK
 rw [if_neg (by simp)]
 refine ⟨⟨e.g,0,none⟩,rfl,e.x.eD,K.B.cl rfl,bx0 fun h6 B6 X6=>?_⟩
 have z6:=X6.size
 have gl:=K.B.lt
 have Y6:Row 0 h6 3 1 e.x.eD (ints e.o.ys):=K.Y.keep fun b hb=>X6.block b (K.Y.bd hb).2
 refine App.row Y6 (Nat.zero_le _) rfl rfl (by simp [Value.oneCell']) (by rw [M.yl]; omega) (by rw [M.yl]; simp only [maxLen]; omega) fun s7 h8 R8 l8 z8 o8 b8=>?_
 have l8':s7.len=e.o.ys.length + 1:=by rw [l8,M.yl]
 have st8:Stp e.own h h8:=(Stp.oL X6).trans' ⟨z8,fun g hg hn=>o8 g hg fun q=>hn (.inr q)⟩
 have B8:Blk h8 e.g (aj.cs e.x) 39:=(K.B.ext X6 gl).old (o8 _ (by omega) fun q=>K.gy q)
 have yg:s7.blk≠some e.g:=fun q=>by
  rcases b8 with b8 | b8
  ·exact K.gy (b8 ▸ q)
  ·rw [b8] at q; have:=Option.some.inj q; omega
 refine jI B8 (by show 28 < 33; decide) fun h9 B9 U9=>?_
 have z9:=U9.size
 have B9':Blk h9 e.g (aj.cs { e.x with eD:=s7 }) 39:=B9
 have st9:Stp e.own h h9:=st8.trans' (Stp.vX U9 (.inl (.inl rfl)))
 have upO:∀ {a b:Heap},Stp e.own a b->Stp (fG r m E) a b:=fun s=>s.mono fun b hb=>.inl (.inr (.inr ⟨e,he,hb⟩))
 have R9:Row 0 h9 3 1 s7 (ints (e.o.ys ++ [node])):=by
  have:ints (e.o.ys ++ [node])=ints e.o.ys ++ [.int .i64 node]:=by unfold ints; simp
  rw [this]
  exact R8.keep fun b hb=>U9.block b (R8.bd hb).2 fun q=>yg (q ▸ hb)
 have offO:∀ {O:kQ},(∀ b,O b->fG r m E b∨s7.blk=some b)->∀ b,O b->fG r m E b∨h.size<=b:=fun {O} hO b hb=>(hO b hb).elim .inl fun q=>by
  rcases b8 with b8 | b8
  ·exact .inl (.inr (.inr ⟨e,he,.inr (b8 ▸ q)⟩))
  ·rw [b8] at q; exact .inr (by have:=Option.some.inj q; omega)
 -- the blocks of the op as it becomes
 have eo:∀ (x':aj) (o':OpV),x'.eD=s7->∀ b,Ent.own { e with x:=x',o:=o' } b->e.own b∨h.size<=b:=fun x' o' xy b hb=>by
  rcases hb with hb | hb
  ·exact .inl (.inl hb)
  ·rw [show ({ e with x:=x',o:=o' }:Ent).x.eD=s7 from xy] at hb
   rcases b8 with b8 | b8
   ·exact .inl (.inr (b8 ▸ hb))
   ·rw [b8] at hb; cases hb; exact .inr z6
 -- from the pieces on
 have tail:∀ (x2:aj) (ps2:List ae) (h3:Heap),x2 = { e.x with eD:=s7,aP:=x2.aP }->Blk h3 e.g (aj.cs x2) 39->Stp (fun b=>b=e.g) h9 h3 ->
   (if e.o.x.aJ=2 then nK (e.o.ps ++ told) ps2 else ps2=e.o.ps)->x2.aP.len=ps2.length->SlcAt h3 x2.aP (pcv ps2) ->
   (∀ O h',(∀ b,O b->fG r m E b∨s7.blk=some b)->Stp (fG r m E) h h'->Stp (fun b=>b=e.g) h3 h'->Imm O h' fun h'=>SlcAt h' x2.aP (pcv ps2))->(∀ b,x2.aP.blk=some b->ps2≠[]->Slo e.x e.o b∨h.size<=b)->iE (some ⟨e.g,0,none⟩) k h3:=fun x2 ps2 h3 hx B3 S3 hps hpl P3 PI SP=>by
  have z3:=S3.size
  have pl2:ps2.length<=2000:=by
   split at hps
   ·have:=hps.len; rw [List.length_append] at this; omega
   ·rw [hps]; omega
  have done:∀ (x':aj) (rs':List aH) (h':Heap),x'.eD=s7->x'.aQ=e.x.aQ->x'.aP=x2.aP->x'.oM.dD=e.x.oM.dD->x'.f_N=e.x.f_N->Blk h' e.g (aj.cs x') 39->Stp (fun b=>b=e.g) h3 h' ->
    x'.dV.len=rs'.length->rs'.length * 40<=140737488355328->(∀ O,(∀ b,O b->fG r m E b∨s7.blk=some b)->Stp (fG r m E) h h'->Imm O h' fun h'=>SlcAt h' x'.dV (rwv rs')) ->
    gW h' r m (E.set i { e with x:=x',o:=⟨bare x',ps2,e.o.ns,e.o.ys ++ [node],rs',e.o.wr⟩ })/\Stp e.own h h':=fun x' rs' h' xy xn xp xw xN B' S' rl rz RI'=>by
   have stG:∀ {a b:Heap},Stp (fun b=>b=e.g) a b->Stp e.own a b:=fun s=>s.mono fun b hb=>.inl (.inl hb)
   have st':Stp e.own h h':=st9.trans' ((stG S3).trans' (stG S'))
   have eo':=eo x' ⟨bare x',ps2,e.o.ns,e.o.ys ++ [node],rs',e.o.wr⟩ xy
   have sub:∀ b,fG r m (E.set i { e with x:=x',o:=⟨bare x',ps2,e.o.ns,e.o.ys ++ [node],rs',e.o.wr⟩ }) b->fG r m E b∨s7.blk=some b:=fun b hb=>by
    rcases hb with hb | hb | ⟨a,ha,hb⟩
    ·exact .inl (.inl hb)
    ·exact .inl (.inr (.inl hb))
    ·obtain ⟨j,hj⟩:=List.getElem?_of_mem ha
     have il:=(List.getElem?_eq_some_iff.1 hi).1
     by_cases q:j=i
     ·subst q; rw [List.getElem?_set_self il] at hj; cases hj
      rcases hb with hb | hb
      ·exact .inl (.inr (.inr ⟨e,he,.inl hb⟩))
      ·exact .inr (by rw [← xy]; exact hb)
     ·rw [List.getElem?_set_ne (fun x=>q x.symm)] at hj
      exact .inl (.inr (.inr ⟨a,List.mem_of_getElem? hj,hb⟩))
   refine ⟨D.turn hi st' rfl rfl eo' ⟨B',rfl,xN.trans K.n,?_,?_,?_,by rw [xp]; exact hpl,by rw [xn]; exact K.nl,by rw [xn]; exact K.nc,rl,by rw [xw]; exact K.wl,⟨by show ps2.length * 48<=_; omega,K.z.n,by show (e.o.ys ++ [node]).length * 8<=_; rw [List.length_append]; simp; omega,rz,K.z.w⟩⟩,st'⟩
   ·show Row 0 h' 3 1 x'.eD _
    rw [xy]
    exact R9.keep fun b hb=>by
     have:=(R9.bd hb).2
     rw [S'.block b (by omega) (fun q=>yg (q ▸ hb)),S3.block b this (fun q=>yg (q ▸ hb))]
   ·show x'.eD.blk≠_
    rw [xy]; exact yg
   ·intro hz sz
    have old:=(K.I.step (upO st') (BG hi eo')) hz sz
    have p1:=PI _ h' sub (upO st') S' hz sz
    have r1:=RI' _ sub (upO st') hz sz
    refine ⟨by show SlcAt hz x'.aP _; rw [xp]; exact p1,by show SlcAt hz x'.aQ _; rw [xn]; exact old.2.1,r1,by show SlcAt hz x'.oM.dD _; rw [xw]; exact old.2.2.2⟩
  have k2:x2.aJ=e.o.x.aJ:=by rw [hx]; exact kd
  have q2:x2.f_Q=e.o.x.f_Q:=by rw [hx]; exact qd
  have lo2:x2.kX=e.o.x.kX:=by rw [hx]; exact ld
  have b2:bare x2=e.o.x:=(congrArg bare hx).trans K.be
  have xY:x2.eD=s7:=by rw [hx]
  have xn2:x2.aQ=e.x.aQ:=by rw [hx]
  have xw2:x2.oM.dD=e.x.oM.dD:=by rw [hx]
  have xN2:x2.f_N=e.x.f_N:=by rw [hx]
  have xr2:x2.dV=e.x.dV:=by rw [hx]
  have rI:∀ O h',(∀ b,O b->fG r m E b∨s7.blk=some b)->Stp (fG r m E) h h'->Imm O h' fun h'=>SlcAt h' x2.dV (rwv e.o.rs):=fun O h' hO st=>by
   rw [xr2]
   exact (K.I.step st (offO hO)).imp fun _ q=>q.2.2.1
  have sli:∀ (x':aj) (bx:aj) (rs':List aH),x'.aQ=e.x.aQ->x'.aP=x2.aP->x'.oM.dD=e.x.oM.dD->(∀ b,x'.dV.blk=some b->rs'≠[]->Slo e.x e.o b∨h.size<=b)->∀ b,Slo x' ⟨bx,ps2,e.o.ns,e.o.ys ++ [node],rs',e.o.wr⟩ b->Slo e.x e.o b∨h.size<=b:=fun x' bx rs' q1 q2 q3 q4 b hb=>by
   rcases hb with ⟨q,w⟩ | ⟨q,w⟩ | ⟨q,w⟩ | ⟨q,w⟩
   ·rw [q2] at q; exact SP b q w
   ·rw [q1] at q; exact .inl (.inr (.inl ⟨q,w⟩))
   ·exact q4 b q w
   ·rw [q3] at q; exact .inl (.inr (.inr (.inr ⟨q,w⟩)))
  have sr:∀ b,x2.dV.blk=some b->e.o.rs≠[]->Slo e.x e.o b∨h.size<=b:=fun b q w=>by rw [xr2] at q; exact .inl (.inr (.inr (.inl ⟨q,w⟩)))
  refine PK (yl:=e.o.ys.length + 1) (nl:=e.o.ns.length) B3 (by rw [xY]; exact l8') (by rw [xn2]; exact K.nl) ez (PI (fun b=>b=e.g) h3 (fun b hb=>.inl (.inr (.inr ⟨e,he,.inl hb⟩))) (upO (st9.trans' (S3.mono fun b hb=>.inl (.inl hb)))) (Stp.refl _ _)) hpl (fun kk=>?_) (fun lt h' X'=>?_) (fun lt kk h' B' S'=>?_) fun lt kk zs s h' hm B' RV fr S'=>?_
  ·rw [q2]; rw [k2] at kk; rw [if_pos kk] at hps; exact RH e he en kk ps2 hps
  ·obtain ⟨D',st'⟩:=done x2 e.o.rs h' xY xn2 rfl xw2 xN2 (B3.ext X' B3.lt) (Stp.oL X') (by rw [xr2]; exact K.rl) K.z.r (fun O hO st=>rI O h' hO st)
   exact H i e x2 ⟨bare x2,ps2,e.o.ns,e.o.ys ++ [node],e.o.rs,e.o.wr⟩ h' hi en hl c.1 c.2 cy ⟨rfl,rfl,rfl,hps,.inl ⟨by rw [← k2]; exact lt,b2,rfl⟩⟩ D' st' (eo _ _ xY) (sli x2 _ _ xn2 rfl xw2 sr)
  ·obtain ⟨D',st'⟩:=done { x2 with aI:=true } e.o.rs h' xY xn2 rfl xw2 xN2 B' S' (by show x2.dV.len=_; rw [xr2]; exact K.rl) K.z.r (fun O hO st=>rI O h' hO st)
   exact H i e { x2 with aI:=true } ⟨bare { x2 with aI:=true },ps2,e.o.ns,e.o.ys ++ [node],e.o.rs,e.o.wr⟩ h' hi en hl c.1 c.2 cy ⟨rfl,rfl,rfl,hps,.inr (.inl ⟨by rw [← k2]; exact lt,by rw [← k2]; exact kk,by show bare { x2 with aI:=true } = _; rw [← b2]; rfl,rfl⟩)⟩ D' st' (eo _ _ xY) (sli _ _ _ xn2 rfl xw2 sr)
  ·have zl:zs.length<=2000:=by
    rcases hm with hm | ⟨_,rfl⟩
    ·have:=hm.len; omega
    ·simp
   have rl:=Hy x2.f_Q x2.kX zs
   obtain ⟨D',st'⟩:=done { x2 with aI:=true,dV:=s,f_E:=(oh x2.f_Q x2.kX zs).2 } ((oh x2.f_Q x2.kX zs).1.map rC) h' xY xn2 rfl xw2 xN2 B' S' (by show s.len=_; rw [RV.2,List.length_map]) (by rw [List.length_map]; omega) (fun O hO st=>xz (s:=s) RV.1 fun b hb ob=>by
    have:=fr b hb
    rcases hO b ob with q | q
    ·have:=D.lt q; omega
    ·have:=(R9.bd q).2; omega)
   rw [q2] at hm
   refine H i e { x2 with aI:=true,dV:=s,f_E:=(oh x2.f_Q x2.kX zs).2 } ⟨bare { x2 with aI:=true,dV:=s,f_E:=(oh x2.f_Q x2.kX zs).2 },ps2,e.o.ns,e.o.ys ++ [node],(oh x2.f_Q x2.kX zs).1.map rC,e.o.wr⟩ h' hi en hl c.1 c.2 cy ⟨rfl,rfl,rfl,hps,.inr (.inr ⟨by rw [← k2]; exact lt,by rw [← k2]; exact kk,zs,?_,?_,?_⟩)⟩ D' st' (eo _ _ xY) (sli _ _ _ xn2 rfl xw2 fun b q _=>.inr (by have:=fr b q; have:=st9.size; omega))
   ·exact hm
   ·show bare { x2 with aI:=true,dV:=s,f_E:=(oh x2.f_Q x2.kX zs).2 } = _
    rw [q2,lo2,← b2]; rfl
   ·show (oh x2.f_Q x2.kX zs).1.map rC=_
    rw [q2,lo2]
 refine ⟨e.x.aJ,B9.cl rfl,?_⟩
 rw [kd]
 by_cases k2:e.o.x.aJ=2
 ·rw [if_pos (by simpa using k2)]
  refine ⟨e.x.aP,B9'.cl rfl,bx0 fun h28 B28 X28=>?_⟩
  have z28:=X28.size
  have st28:Stp e.own h h28:=st9.trans' (Stp.oL X28)
  refine Kk (ss:=[e.x.aP,t]) (ls:=[e.o.ps,told]) (c:=2) B28 ⟨rfl,fun i s l hs hl=>?_⟩ (by simp) (fun l hl=>?_) (by simp; omega) fun zs u h30 IM Rz ul X30=>?_
  ·match i,hs,hl with
   | 0,hs,hl=>cases hs; cases hl; exact Dr (K.I h28 (upO st28)).1 K.pl
   | 1,hs,hl=>cases hs; cases hl; exact T h28 (upO st28)
   | i + 2,hs,hl=>simp at hs
  ·simp at hl; rcases hl with rfl | rfl <;> omega
  ·have z30:=X30.size
   have B30:=(B9'.ext X28 B9'.lt).ext X30 (by have:=B9'.lt; omega)
   refine jI B30 (by show 3 < 33; decide) fun h31 B31 U31=>?_
   have z31:=U31.size
   have uS:∀ h',Stp (fun b=>b=e.g) h31 h'->SlcAt h' u (pcv zs):=fun h' S' =>
    (Rz.keep (h':=h') fun b hb=>by
     have b1:=Rz.bd hb
     have:=B9'.lt
     rw [S'.block b (by omega) (by omega),U31.block b b1.2 (by omega)]).slc
   refine tail { e.x with eD:=s7,aP:=u } zs h31 rfl B31 ((Stp.oL X28).trans' ((Stp.oL X30).trans' (Stp.vX U31 (.inl rfl)))) (by rw [if_pos k2]; simpa using IM) ul (uS h31 (Stp.refl _ _)) (fun O h' hO st S'=>xz (uS h' S') fun b hb ob=>?_) (fun b q _=>.inr (by have:=(Rz.bd q).1; have:=st9.size; omega))
   have b1:=(Rz.bd hb).1
   rcases hO b ob with q | q
   ·have:=D.lt q; omega
   ·have:=(R9.bd q).2; omega
 ·rw [if_neg (by simpa using k2)]
  exact tail { e.x with eD:=s7 } e.o.ps h9 rfl B9' (Stp.refl _ _) (by rw [if_neg k2]) K.pl (K.I h9 (upO st9)).1 (fun O h' hO st S'=>(K.I.step st (offO hO)).imp fun _ q=>q.1) fun b q w=>.inl (.inl ⟨q,w⟩)
end Go.Q.Yq
end

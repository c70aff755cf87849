/- A part of the proof of statements of this seat: lemmas, no statement of their own. -/
import Derived.Test.YtmmpamfadeonmaaGreatDoorYkZah
import Derived.Test.YtmmpamfadeonmaaGreatDoorYkZad
import Derived.OpenShut
import Derived.Lib.LaidTab
import Derived.Test.YtmmpamfadeonmaaGreatDoorYkZab
import Derived.Test.YtmmpamfadeonmaaGreatDoorYkZae
import Derived.MapKept
import Derived.Maps.RangeRun
import Derived.WideKeyRuns
set_option linter.unusedVariables false
set_option linter.unusedSimpArgs false
section
set_option maxRecDepth 100000
/- Slot: the fingerprint of bytes, walked whole. -/
namespace Go.Q.Yk
theorem lenB_at (z:Int) {j:Nat} (hj:j < 8):(lenB z)[j]? = some (IntKind.u8.wrap (shr .u64 z (IntKind.u64.wrap (56 - 8 * (j:Int))).toNat)):=by
 have:j=0∨j=1∨j=2∨j=3∨j=4∨j=5∨j=6∨j=7:=by omega
 rcases this with rfl | rfl | rfl | rfl | rfl | rfl | rfl | rfl <;> rfl
theorem view_eq {g o n c:Nat} (hc:c≠0):subS ⟨some ⟨g,o,none⟩,n,c⟩ 1 (0:Int).toNat (64:Int).toNat ((c:Nat):Int).toNat=⟨some ⟨g,o,none⟩,64,c⟩:=by
 unfold subS
 simp only [Int.toNat_natCast,Int.toNat_zero,Nat.sub_zero,Nat.zero_mul]
 rw [if_neg hc]
 simp only [Option.map_some,add_mk,Nat.add_zero]
 rfl
theorem view_next {g o n c:Nat} (hc:c≠64):subS ⟨some ⟨g,o,none⟩,n,c⟩ 1 (64:Int).toNat ((n:Nat):Int).toNat ((c:Nat):Int).toNat=⟨some ⟨g,o + 64,none⟩,n - 64,c - 64⟩:=by
 unfold subS
 simp only [Int.toNat_natCast]
 rw [if_neg (by show ¬ c=64; exact hc)]
 simp only [Option.map_some,add_mk]
 rfl
theorem Of_ok {p0 s:Slc} {bs:List Int} {k:List Int->Heap->Prop} {h:Heap} (r:R0 h) (S:SlcAt h p0 [Slc.v s]) (l:p0.len=1) (A:SlcAt h s (b8 bs)) (ls:s.len=bs.length) (m:bs.length<=60000)
  (H:∀ h',Ext h.size h h'->k (shaD bs) h'):sha_Of p0 k h:=by
 have r0:=r.pos
 unfold sha_Of
 refine ⟨_,_,rfl,rfl,?_⟩
 have P:=Blk.push h (arr 32 .u8 ([]:List Int)) 27
 have W:=Ext.push h (.cells (arr 32 .u8 ([]:List Int)).toArray 27) (Nat.le_refl _)
 have pl:=P.lt
 generalize h.push (.cells (arr 32 .u8 ([]:List Int)).toArray 27)=h2 at *
 have z2:=W.size
 refine Concat_ok (L:=[(s,bs)]) (S.ext W) l (fun q hq=>by rw [List.mem_singleton] at hq; rw [hq]; exact ⟨A.ext W,ls⟩) (by simp) (by simp [flatS]; omega) fun s4 h4 R4 X4=>?_
 have ef:flatS [(s,bs)]=bs:=by simp [flatS]
 rw [ef] at R4
 have z4:=X4.size
 have l4:s4.len=bs.length:=by have:=R4.len; rw [this,List.length_map]
 obtain ⟨b1,eb1⟩:∃ y,y=h.size:=⟨_,rfl⟩
 have P4:=P.ext X4 pl
 have X04:Ext b1 h h4:=by rw [eb1]; exact W.trans (X4.mono z2)
 have R4':Row (b1 + 1) h4 5 1 s4 (b8 bs):=R4.mono (by omega)
 rw [← eb1] at P4 r0 H ⊢
 have zb4:b1 + 1<=h4.size:=by omega
 clear P W X4 R4 S
 refine ⟨_,rfl,_,_,rfl,rfl,?_⟩
 rw [l4,show shl .u64 (IntKind.u64.wrap ((bs.length:Nat):Int)) (3:Int).toNat=sizeD bs.length from rfl]
 have W7:=Ext.push h4 (.cells ([.int .u8 128]:List Value).toArray 5) (Nat.le_refl _)
 have R7:=R4'.pushed (.cells ([.int .u8 128]:List Value).toArray 5)
 generalize h4.push (.cells ([.int .u8 128]:List Value).toArray 5)=h7 at *
 have z7:=W7.size
 have P7:=P4.ext W7 P4.lt
 have X07:Ext b1 h h7:=X04.trans (W7.mono (by omega))
 -- one byte more
 have app:∀ {t:Slc} {h1:Heap} {l1:List Int} {v:Int} {K:Slc->Heap->Prop},Row (b1 + 1) h1 5 1 t (b8 l1)->Blk h1 b1 (arr 32 .u8 ([]:List Int)) 27->Ext b1 h h1->l1.length<=61000->b1 + 1<=h1.size ->
   (∀ t' h2,Row (b1 + 1) h2 5 1 t' (b8 (l1 ++ [v]))->Blk h2 b1 (arr 32 .u8 ([]:List Int)) 27->Ext b1 h h2->t'.len=l1.length + 1->b1 + 1<=h2.size->K t' h2)->App 5 1 1 [.int .u8 0] h1 t 1 [.int .u8 v] K:=fun {t h1 l1 v K} R B X hl hz F=>by
  have lt:t.len=l1.length:=by have:=R.len; rw [this,List.length_map]
  refine App.row2 R hz rfl (by simp) (fun x hx=>by rw [List.mem_singleton] at hx; rw [hx]; rfl) (by omega) (by simp only [maxLen]; omega) fun t' h2 R2 l2 z2 kp _ _=>?_
  have ne:∀ i,i<=b1->t.blk≠some i:=fun i hi e=>by have:=(R.bd e).1; omega
  refine F t' h2 (by rw [b8,List.map_append]; exact R2) (B.old (kp b1 B.lt (ne b1 (Nat.le_refl _)))) (X.trans ⟨z2,fun i hi=>kp i (by omega) (ne i (by omega))⟩) (by omega) (by omega)
 refine app R7 P7 X07 (by omega) (by omega) fun s8 h9 R9 P9 X9 l9 z9=>?_
 -- bytes 00
 unfold sha_Of_l1
 refine ⟨fun t h'=>∃ j,j<=padN bs.length/\Row (b1 + 1) h' 5 1 t (b8 (bs ++ [128] ++ List.replicate j 0))/\Blk h' b1 (arr 32 .u8 ([]:List Int)) 27/\Ext b1 h h'/\t.len=bs.length + 1 + j/\b1 + 1<=h'.size,fun t _=>bs.length + 1 + padN bs.length - t.len,⟨0,Nat.zero_le _,by simpa using R9,P9,X9,by omega,z9⟩,?_⟩
 rintro t h1 ⟨j,hj,R1,P1,X1,lt,z1⟩
 have pn:padN bs.length < 64:=by unfold padN; omega
 have pm:(bs.length + 1 + padN bs.length) % 64=56:=by unfold padN; omega
 unfold sha_Of_l1b
 rw [lt,and63 (by omega)]
 by_cases c:(bs.length + 1 + j) % 64=56
 ·have ej:j=padN bs.length:=by omega
  rw [if_neg (by rw [c]; decide)]
  rw [ej] at R1
  clear lt c hj
  -- the size
  unfold sha_Of_l2
  refine ⟨fun q h'=>∃ i:Nat,i<=8/\q.2=56 - 8 * (i:Int)/\Row (b1 + 1) h' 5 1 q.1 (b8 (bs ++ [128] ++ List.replicate (padN bs.length) 0 ++ (lenB (sizeD bs.length)).take i))/\Blk h' b1 (arr 32 .u8 ([]:List Int)) 27/\Ext b1 h h'/\b1 + 1<=h'.size,fun q _=>(q.2 + 8).toNat,⟨0,Nat.zero_le _,rfl,by simpa using R1,P1,X1,z1⟩,?_⟩
  rintro t2 q2 h2' ⟨i,hi,e2,R2,P2,X2,z2'⟩
  dsimp only at e2 R2
  unfold sha_Of_l2b
  by_cases c2:i < 8
  ·rw [if_pos (by rw [decide_eq_true_eq]; omega)]
   refine ⟨nn64 _,_,_,rfl,rfl,?_⟩
   have W3:=Ext.push h2' (.cells ([.int .u8 (IntKind.u8.wrap (shr .u64 (sizeD bs.length) (IntKind.u64.wrap q2).toNat))]:List Value).toArray 5) (Nat.le_refl _)
   have R3:=R2.pushed (.cells ([.int .u8 (IntKind.u8.wrap (shr .u64 (sizeD bs.length) (IntKind.u64.wrap q2).toNat))]:List Value).toArray 5)
   generalize h2'.push (.cells ([.int .u8 (IntKind.u8.wrap (shr .u64 (sizeD bs.length) (IntKind.u64.wrap q2).toNat))]:List Value).toArray 5)=h3 at *
   have z3:=W3.size
   have ll:(lenB (sizeD bs.length)).length=8:=rfl
   refine app R3 (P2.ext W3 P2.lt) (X2.trans (W3.mono (by omega))) (by simp only [List.length_append,List.length_replicate,List.length_take,ll,List.length_singleton]; omega) (by omega) fun t' h4' R4 P4' X4' _ z4'=>?_
   refine ⟨_,rfl,?_⟩
   rw [wrapI64 (by omega) (by omega)]
   refine ⟨⟨i + 1,by omega,by dsimp only; omega,?_,P4',X4',z4'⟩,by dsimp only; omega⟩
   rw [List.take_add_one,lenB_at _ c2,Option.toList_some,← List.append_assoc,← e2]
   exact R4
  ·rw [if_neg (by rw [decide_eq_true_eq]; omega)]
   have e8:i=8:=by omega
   rw [e8,List.take_of_length_le (show (lenB (sizeD bs.length)).length<=8 from Nat.le_refl _)] at R2
   change Row (b1 + 1) h2' 5 1 t2 (b8 (padD bs)) at R2
   obtain ⟨c',lM⟩:=padD_len bs
   generalize eM:padD bs=M at *
   have lt2:t2.len=64 * (c' + 1):=by have:=R2.len; rw [this,List.length_map,lM]
   refine Start_ok fun h21 X21=>?_
   have z21:=X21.size
   refine ⟨_,_,rfl,rfl,?_⟩
   have Q:=Blk.push h21 (arr 8 .u32 ([]:List Int)) 218
   have W22:=Ext.push h21 (.cells (arr 8 .u32 ([]:List Int)).toArray 218) (Nat.le_refl _)
   generalize h21.push (.cells (arr 8 .u32 ([]:List Int)).toArray 218)=h23 at *
   refine ⟨_,WrsAt.of_blk Q (by show 8<=8; omega),rfl,?_⟩
   have Q24:Blk (setsH h23 ⟨h21.size,0,none⟩ 0 (arr 8 .u32 startL)) h21.size (u32s (blkUp M 0)) 218:=Q.sets_all rfl
   have X24:Ext h21.size h21 (setsH h23 ⟨h21.size,0,none⟩ 0 (arr 8 .u32 startL)):=W22.trans (Ext.sets _ _ _ (Nat.le_refl _))
   generalize setsH h23 ⟨h21.size,0,none⟩ 0 (arr 8 .u32 startL)=h24 at *
   have X224:Ext h2'.size h2' h24:=X21.trans (X24.mono z21)
   have z24:=X224.size
   have R24:=R2.ext X224 fun g hg=>(R2.bd hg).2
   obtain ⟨b22,eb⟩:∃ y,y=h21.size:=⟨_,rfl⟩
   have P24:=P2.ext X224 P2.lt
   have pl2:=P2.lt
   rw [← eb] at Q24 ⊢
   have bb:b1 < b22:=by omega
   obtain ⟨g,zs,et,gB,Bg,lc,gb⟩:=R24.opened (by omega)
   have gl:g < h2'.size:=(R2.bd gb).2
   have gn:g≠b22:=by omega
   have lbg:(b8 M ++ zs).length>=t2.len:=by rw [List.length_append,List.length_map]; omega
   have capl:64 * (c' + 1)<=t2.cap:=by omega
   generalize t2.cap=cp at *
   rw [lt2] at et
   rw [et]
   unfold sha_Of_l3
   refine ⟨fun t h'=>∃ j,j<=c'/\t=⟨some ⟨g,64 * j,none⟩,64 * (c' + 1 - j),cp - 64 * j⟩/\Blk h' g (b8 M ++ zs) 5/\Blk h' b1 (arr 32 .u8 ([]:List Int)) 27/\Blk h' b22 (u32s (blkUp M j)) 218/\Ext b1 h h',fun t _=>t.len,⟨0,Nat.zero_le _,rfl,Bg,P24,Q24,X2.trans (X224.mono (by omega))⟩,?_⟩
   rintro t3 h5 ⟨j3,hj3,rfl,B5,P5,Q5,X5⟩
   have Q5l:=Q5.lt
   unfold sha_Of_l3b
   have lb:=blkUp_len M j3
   have e8:arr 8 .u32 (blkUp M j3)=u32s (blkUp M j3):=arr_full lb
   refine ⟨blkUp M j3,by rw [e8]; exact CellsAt.of_blk Q5,_,by omega,by omega,by show (64:Int)<=((cp - 64 * j3:Nat):Int); omega,by omega,rfl,?_⟩
   rw [view_eq (by omega)]
   have hd:((b8 M ++ zs).drop (64 * j3)).take 64=b8 ((M.drop (64 * j3)).take 64):=by
    rw [List.drop_append_of_le_length (by rw [List.length_map]; omega),List.take_append_of_le_length (by rw [List.length_drop,List.length_map]; omega),← List.map_drop,← List.map_take]
   refine Step_ok (bl:=(M.drop (64 * j3)).take 64) (r.ext X5 r0) lb (B5.slc hd) rfl (by rw [List.length_take,List.length_drop]; omega) (by show 64<=cp - 64 * j3; omega) fun h6 X6=>?_
   have z6:=X6.size
   have Q6:=Q5.ext X6 Q5.lt
   have P6:=P5.ext X6 P5.lt
   have B6:=B5.ext X6 B5.lt
   have lb1:=blkUp_len M (j3 + 1)
   have e9:arr 8 .u32 (stepD (blkUp M j3) ((M.drop (64 * j3)).take 64))=u32s (blkUp M (j3 + 1)):=arr_full lb1
   refine ⟨_,WrsAt.of_blk Q6 (by rw [List.length_map,lb]; omega),rfl,?_⟩
   rw [e9]
   have Q7:Blk (setsH h6 ⟨b22,0,none⟩ 0 (u32s (blkUp M (j3 + 1)))) b22 (u32s (blkUp M (j3 + 1))) 218:=Q6.sets_all (by rw [List.length_map,List.length_map,lb,lb1])
   have o7:∀ i,i≠b22->(setsH h6 ⟨b22,0,none⟩ 0 (u32s (blkUp M (j3 + 1))))[i]? = h6[i]?:=fun i hi=>setsH_other _ _ hi
   have X7:Ext b1 h (setsH h6 ⟨b22,0,none⟩ 0 (u32s (blkUp M (j3 + 1)))):=(X5.trans (X6.mono (by omega))).trans (Ext.sets _ _ _ (by show b1<=b22; omega))
   generalize setsH h6 ⟨b22,0,none⟩ 0 (u32s (blkUp M (j3 + 1)))=h7' at *
   have P7':=P6.old (o7 b1 (by omega))
   have B7':=B6.old (o7 g gn)
   refine ⟨_,by omega,by show (64:Int)<=((64 * (c' + 1 - j3):Nat):Int); omega,by show ((64 * (c' + 1 - j3):Nat):Int)<=((cp - 64 * j3:Nat):Int); omega,by omega,rfl,?_⟩
   by_cases last:j3=c'
   ·rw [if_pos (by
     show ((((64 * (c' + 1 - j3):Nat):Int).toNat - (64:Int).toNat:Nat):Int) == 0
     rw [last]; simp)]
    refine ⟨_,_,rfl,rfl,?_⟩
    have U:=Blk.push h7' (arr 32 .u8 ([]:List Int)) 27
    have W8:=Ext.push h7' (.cells (arr 32 .u8 ([]:List Int)).toArray 27) (Nat.le_refl _)
    have q7:=Q7.lt
    have p7:=P7'.lt
    generalize h7'.push (.cells (arr 32 .u8 ([]:List Int)).toArray 27)=h8 at *
    refine Out_ok (B:=b1) (h0:=h) (P7'.ext W8 p7) (Q7.ext W8 q7) U ⟨by omega,by omega,by omega⟩ ⟨Nat.le_refl _,by omega⟩ lb1 (X7.trans (W8.mono (by omega))) fun h' X'=>?_
    have:=H h' X'
    unfold shaD at this
    rw [eM,lM,show 64 * (c' + 1) / 64=j3 + 1 from by omega] at this
    exact this
   ·rw [if_neg (by
     show ¬ (((((64 * (c' + 1 - j3):Nat):Int).toNat - (64:Int).toNat:Nat):Int) == 0)=true
     simp; omega)]
    rw [view_next (by omega)]
    refine ⟨⟨j3 + 1,by omega,?_,B7',P7',Q7,X7⟩,by show 64 * (c' + 1 - j3) - 64 < 64 * (c' + 1 - j3); omega⟩
    congr 1 <;> omega
 ·rw [if_pos (by simp; omega)]
  refine ⟨_,_,rfl,rfl,?_⟩
  have W3:=Ext.push h1 (.cells ([.int .u8 0]:List Value).toArray 5) (Nat.le_refl _)
  have R3:=R1.pushed (.cells ([.int .u8 0]:List Value).toArray 5)
  generalize h1.push (.cells ([.int .u8 0]:List Value).toArray 5)=h3 at *
  have z3:=W3.size
  refine app R3 (P1.ext W3 P1.lt) (X1.trans (W3.mono (by omega))) (by simp only [List.length_append,List.length_replicate,List.length_singleton]; omega) (by omega) fun t' h4' R4 P4' X4' lt' z4'=>?_
  have nj:j≠padN bs.length:=fun e=>c (by rw [e]; exact pm)
  simp only [List.length_append,List.length_replicate,List.length_singleton] at lt'
  refine ⟨⟨j + 1,by omega,?_,P4',X4',by omega,z4'⟩,by dsimp only; omega⟩
  rw [List.replicate_succ',← List.append_assoc]
  exact R4
end Go.Q.Yk
end
section
/- Arguments that are arrays of numbers. -/
namespace Go.Q
open Go.ChangeShapes Go.WideShapes
section
variable {H:Type} {enc:TypeId × Value->H} {P:Program} {t e:TypeId} {n:Nat} {q:IntKind} {w W:World} {base:Nat} {sp:Nat->Bool} {held:Bool}
end
end Go.Q
end
section
/- Strong: what the row's list gives: the rounds' constants in memory. -/
namespace Go.Q
theorem rounds_of {P:Program} {W:World} {A C:TypeId}
  (hg:P.globalNamed "quaestor/sha.rounds" = some 0) (hty:(P.globals[0]?).map (·.type)=some A) (ht:P.underlying A=some (.array 64 C)) (he:P.underlying C=some (.int .u32)) (hce:P.cellsOf C=1) (hct:P.cellsOf A=64)
  (h:laidMet P [("quaestor/sha.rounds",Lib.tabData .u32 Yk.rcL)] W):Yk.R0 W.heap:=by
 obtain ⟨ps,⟨g',t',cs,fuel,p,q,hg',ht',hvar,hd,_,_⟩,_⟩:=h
 obtain rfl:=Option.some.inj (hg.symm.trans hg')
 obtain rfl:=Option.some.inj (hty.symm.trans ht')
 have h1:=Lib.cells_of_tab ht he hce hct hd
 intro j v hj
 have:=World.var?_cell hg hvar j
 rw [add_mk,Nat.zero_add]
 rw [cell_eq] at this
 rw [this,← Array.getElem?_toList,h1]
 exact hj
end Go.Q
end
section
/- Maps. -/
namespace Go.Q
open Go.MapKept
/-! ### lists of keys and what they have -/
section
variable {K V:Type} [DecidableEq K]
def mget:List (K × V)->K->Option V
 | [],_=>none
 | p :: r,k=>if p.1=k then some p.2 else mget r k
def mput:List (K × V)->K->V->List (K × V)
 | [],k,v=>[(k,v)]
 | p :: r,k,v=>if p.1=k then (k,v) :: r else p :: mput r k v
theorem mget_none {k:K}:∀ {l:List (K × V)},(∀ p∈l,p.1≠k)->mget l k=none
 | [],_=>rfl
 | p :: r,h=>by
  unfold mget
  rw [if_neg (h p (by simp)),mget_none fun q hq=>h q (List.mem_cons_of_mem _ hq)]
theorem mput_none {k:K} {v:V}:∀ {l:List (K × V)},(∀ p∈l,p.1≠k)->mput l k v=l ++ [(k,v)]
 | [],_=>rfl
 | p :: r,h=>by
  unfold mput
  rw [if_neg (h p (by simp)),mput_none fun q hq=>h q (List.mem_cons_of_mem _ hq)]; rfl
theorem mget_at {k:K} {v:V}:∀ {l:List (K × V)} {j:Nat},l[j]? = some (k,v)->(l.map (·.1)).Nodup->mget l k=some v/\∀ u,mput l k u=l.set j (k,u)
 | [],j,h,_=>by simp at h
 | p :: r,0,h,_=>by
  simp at h; subst h
  simp [mget,mput]
 | p :: r,j + 1,h,hn=>by
  rw [List.map_cons,List.nodup_cons] at hn
  simp only [List.getElem?_cons_succ] at h
  have hne:p.1≠k:=fun e=>hn.1 (by rw [e]; exact List.mem_map.2 ⟨_,List.mem_of_getElem? h,rfl⟩)
  have:=mget_at h hn.2
  unfold mget mput
  rw [if_neg hne]
  exact ⟨this.1,fun u=>by rw [if_neg hne,this.2 u]; rfl⟩
end
/-! ### a map's object -/
def keyIs0:Value->Value->Bool
 | .int k a,.int k' b=>decide (k=k') && decide (a=b)
 | .string a,.string b=>decide (a=b)
 | .bool a,.bool b=>a == b
 | _,_=>false
def keyIsL:List Value->List Value->Bool
 | [],[]=>true
 | a :: r,b :: s=>keyIs0 a b && keyIsL r s
 | _,_=>false
def keyIs:Value->Value->Bool
 | .agg a,.agg b=>keyIsL a.toList b.toList
 | .int k a,.int k' b=>decide (k=k') && decide (a=b)
 | .string a,.string b=>decide (a=b)
 | .bool a,.bool b=>a == b
 | _,_=>false
theorem keyIs_iff {d:TypeDesc} {a b:Value} (ha:IsKey d a) (hb:IsKey d b):keyIs a b=true ↔ a=b:=by
 cases d <;> cases a <;> cases b <;> simp_all [IsKey,keyIs]
def MapH (d:TypeDesc) (h:Heap) (r:Nat) (l:List (Value × Value)):Prop :=
 ∃ (es:Array MapEntry) (ck:Nat),h[r]? = some (.map es ck)/\Stamped es ck/\(∀ x∈es.toList,IsKey d x.key)/\es.toList.map (fun e=>(e.key,e.val))=l
structure KOk {K:Type} (d:TypeDesc) (kf:K->Value):Prop where
 inj:∀ a b,kf a=kf b->a=b
 isK:∀ k,IsKey d (kf k)
theorem kInt (k:IntKind):KOk (.int k) (Value.int k):=⟨fun a b h=>by cases h; rfl,fun _=>rfl⟩
def MapAt {K V:Type} (d:TypeDesc) (kf:K->Value) (vf:V->Value) (h:Heap):Option Nat->List (K × V)->Prop
 | none,l=>l=[]
 | some r,l=>MapH d h r (l.map fun p=>(kf p.1,vf p.2))
def setM (h:Heap) (r:Nat) (key val:Value):Heap:=h.modify r fun
 | .map es ck=>(match es.toList.findIdx? (fun e=>keyIs key e.key) with
  | some i=>.map (es.modify i fun e=>{ e with key,val }) ck
  | none=>.map (es.push { key,val,born:=ck }) (ck + 1))
 | o=>o
def clrM (h:Heap) (r:Nat):Heap:=h.modify r fun
 | .map _ ck=>.map #[] ck
 | o=>o
theorem setM_size {h:Heap} {r:Nat} {k v:Value}:(setM h r k v).size=h.size:=by simp [setM]
theorem setM_other {h:Heap} {r g:Nat} {k v:Value} (hg:g≠r):(setM h r k v)[g]? = h[g]?:=by
 unfold setM; rw [Array.getElem?_modify,if_neg (fun e=>hg e.symm)]
theorem clrM_size {h:Heap} {r:Nat}:(clrM h r).size=h.size:=by simp [clrM]
theorem clrM_other {h:Heap} {r g:Nat} (hg:g≠r):(clrM h r)[g]? = h[g]?:=by
 unfold clrM; rw [Array.getElem?_modify,if_neg (fun e=>hg e.symm)]
theorem setM_at {h:Heap} {r:Nat} {k v:Value} {es:Array MapEntry} {ck:Nat} (hb:h[r]? = some (.map es ck)):(setM h r k v)[r]? = some (match es.toList.findIdx? (fun e=>keyIs k e.key) with
  | some i=>.map (es.modify i fun e=>{ e with key:=k,val:=v }) ck
  | none=>.map (es.push { key:=k,val:=v,born:=ck }) (ck + 1)):=by
 unfold setM; rw [Array.getElem?_modify,if_pos rfl,hb]; rfl
theorem MapH.mk0 (d:TypeDesc) (h:Heap):MapH d (h.push (.map #[] 0)) h.size []:=⟨#[],0,by simp,stamped_empty 0,by simp,rfl⟩
theorem MapH.old {d:TypeDesc} {h h':Heap} {r:Nat} {l:List (Value × Value)} (M:MapH d h r l) (e:h'[r]? = h[r]?):MapH d h' r l:=by
 obtain ⟨es,ck,h1,h2⟩:=M; exact ⟨es,ck,e.trans h1,h2⟩
theorem MapH.lt {d:TypeDesc} {h:Heap} {r:Nat} {l:List (Value × Value)} (M:MapH d h r l):r < h.size:=by
 obtain ⟨es,ck,h1,_⟩:=M; exact (Array.getElem?_eq_some_iff.1 h1).1
theorem MapH.clr {d:TypeDesc} {h:Heap} {r:Nat} {l:List (Value × Value)} (M:MapH d h r l):MapH d (clrM h r) r []:=by
 obtain ⟨es,ck,h1,_⟩:=M
 refine ⟨#[],ck,?_,stamped_empty ck,by simp,rfl⟩
 unfold clrM; rw [Array.getElem?_modify,if_pos rfl,h1]; rfl
theorem findNow_find {d:TypeDesc} {k:Value} (hk:IsKey d k):∀ (l:List MapEntry) (i:Nat),(∀ x∈l,IsKey d x.key) ->
  Instr.findNow d k l i=some ((l.findIdx? (fun e=>keyIs k e.key)).bind fun j=>(l[j]?).map fun e=>(i + j,e.val))
 | [],_,_=>rfl
 | e :: es,i,h=>by
  have he:=h e (by simp)
  obtain ⟨r,hr,hiff⟩:=sameNow_of_keys hk he
  have hki:=keyIs_iff hk he
  have ih:=findNow_find hk es (i + 1) fun x hx=>h x (List.mem_cons_of_mem _ hx)
  unfold Instr.findNow
  rw [hr,List.findIdx?_cons]
  cases r with
  | true =>
   have:keyIs k e.key=true:=hki.2 (hiff.1 rfl)
   simp [this]
  | false =>
   have:keyIs k e.key=false:=by
    cases hc:keyIs k e.key with
    | false=>rfl
    | true=>have:=hiff.2 (hki.1 hc); cases this
   simp only [this,ih]
   cases es.findIdx? (fun e=>keyIs k e.key) with
   | none=>simp
   | some j=>simp [Nat.add_assoc,Nat.add_comm 1 j]
/-- where a key stands -/
theorem MapH.find {K V:Type} [DecidableEq K] {d:TypeDesc} {kf:K->Value} {vf:V->Value} {h:Heap} {r:Nat} {l:List (K × V)} (KO:KOk d kf) (M:MapH d h r (l.map fun p=>(kf p.1,vf p.2))) (k:K) :
  ∃ es ck,h[r]? = some (.map es ck)/\Stamped es ck/\(∀ x∈es.toList,IsKey d x.key)/\es.toList.map (fun e=>(e.key,e.val))=l.map (fun p=>(kf p.1,vf p.2))/\es.size=l.length/\(l.map (·.1)).Nodup /\
   ((es.toList.findIdx? (fun e=>keyIs (kf k) e.key)=none/\(∀ p∈l,p.1≠k)/\Instr.findNow d (kf k) es.toList 0=some none) ∨
   ∃ j v e,es.toList.findIdx? (fun e=>keyIs (kf k) e.key)=some j/\l[j]? = some (k,v)/\es[j]? = some e/\e.key=kf k/\e.val=vf v/\Instr.findNow d (kf k) es.toList 0=some (some (j,vf v))):=by
 obtain ⟨es,ck,h1,h2,h3,h4⟩:=M
 have hl:es.size=l.length:=by have:=congrArg List.length h4; simpa using this
 have hn:(l.map (·.1)).Nodup:=by
  have e1:es.toList.map (·.key)=(l.map (·.1)).map kf:=by
   have:=congrArg (List.map Prod.fst) h4
   simpa [List.map_map,Function.comp_def] using this
  have:=h2.2.2
  rw [e1] at this
  exact List.Pairwise.of_map kf (fun a b hab e=>hab (by rw [e])) this
 refine ⟨es,ck,h1,h2,h3,h4,hl,hn,?_⟩
 have hf:=findNow_find (KO.isK k) es.toList 0 h3
 cases hc:es.toList.findIdx? (fun e=>keyIs (kf k) e.key) with
 | none =>
  left
  rw [hc] at hf
  refine ⟨rfl,fun p hp e=>?_,hf⟩
  have hm:(kf p.1,vf p.2)∈es.toList.map (fun e=>(e.key,e.val)):=by rw [h4]; exact List.mem_map.2 ⟨p,hp,rfl⟩
  obtain ⟨x,hx,hxe⟩:=List.mem_map.1 hm
  have:=(List.findIdx?_eq_none_iff.1 hc) x hx
  have hk2:keyIs (kf k) x.key=true:=(keyIs_iff (KO.isK k) (h3 x hx)).2 (by have:=(Prod.mk.inj hxe).1; rw [this,e])
  rw [hk2] at this; cases this
 | some j =>
  right
  obtain ⟨hj,hk2,_⟩:=List.findIdx?_eq_some_iff_getElem.1 hc
  have hj2:j < l.length:=by simp at hj; omega
  have e1:es.toList[j]? = some es.toList[j]:=List.getElem?_eq_getElem hj
  have e2:=congrArg (fun z=>z[j]?) h4
  simp only [List.getElem?_map,e1,List.getElem?_eq_getElem hj2,Option.map_some,Option.some.injEq,Prod.mk.injEq] at e2
  have hkey:=(keyIs_iff (KO.isK k) (h3 _ (List.getElem_mem hj))).1 hk2
  have hlk:l[j].1=k:=KO.inj _ _ (by rw [← e2.1,← hkey])
  refine ⟨j,l[j].2,es.toList[j],rfl,?_,by simp,hkey.symm,e2.2,?_⟩
  ·rw [List.getElem?_eq_getElem hj2,← hlk]
  ·rw [hf,hc]; simp only [Option.bind_some,e1,Option.map_some,Nat.zero_add,e2.2]
theorem MapH.put {K V:Type} [DecidableEq K] {d:TypeDesc} {kf:K->Value} {vf:V->Value} {h:Heap} {r:Nat} {l:List (K × V)} (KO:KOk d kf) (M:MapH d h r (l.map fun p=>(kf p.1,vf p.2))) (k:K) (v:V) :
  MapH d (setM h r (kf k) (vf v)) r ((mput l k v).map fun p=>(kf p.1,vf p.2)):=by
 obtain ⟨es,ck,h1,h2,h3,h4,hl,hn,C⟩:=M.find KO k
 have hs:=setM_at (k:=kf k) (v:=vf v) h1
 rcases C with ⟨c1,c2,_⟩ | ⟨j,u,e,c1,c2,c3,c4,c5,_⟩
 ·rw [c1] at hs
  refine ⟨_,_,hs,stamped_push h2 fun x hx hxe=>?_,fun x hx=>?_,?_⟩
  ·have hm:(x.key,x.val)∈l.map fun p=>(kf p.1,vf p.2):=by rw [← h4]; exact List.mem_map.2 ⟨x,hx,rfl⟩
   obtain ⟨p,hp,hpe⟩:=List.mem_map.1 hm
   exact c2 p hp (KO.inj _ _ (by rw [(Prod.mk.inj hpe).1,hxe]))
  ·simp only [Array.toList_push,List.mem_append,List.mem_singleton] at hx
   rcases hx with hx | rfl
   ·exact h3 x hx
   ·exact KO.isK k
  ·rw [mput_none c2]; simp [h4]
 ·rw [c1] at hs
  refine ⟨_,_,hs,stamped_modify h2 j _ (fun _ _=>rfl) (fun x _ hx=>by rw [c3] at hx; cases hx; exact c4.symm),isKey_modify h3 j _ (fun x hx=>by rw [c3] at hx; cases hx; exact c4.symm),?_⟩
  rw [(mget_at c2 hn).2 v]
  apply List.ext_getElem?
  intro i
  have e2:=congrArg (fun z=>z[i]?) h4
  simp only [List.getElem?_map,Array.getElem?_toList] at e2
  simp only [List.getElem?_map,Array.getElem?_toList,Array.getElem?_modify,List.getElem?_set]
  by_cases hij:j=i
  ·subst hij
   have hj2:j < l.length:=(List.getElem?_eq_some_iff.1 c2).1
   simp [c3,hj2]
  ·simp [hij,e2]
section
variable {K V:Type} {d:TypeDesc} {kf:K->Value} {vf:V->Value} {h h':Heap} {r:Nat} {l:List (K × V)}
theorem MapAt.put [DecidableEq K] (KO:KOk d kf) (M:MapAt d kf vf h (some r) l) (k:K) (v:V):MapAt d kf vf (setM h r (kf k) (vf v)) (some r) (mput l k v):=MapH.put KO M k v
theorem MapAt.clr (M:MapAt d kf vf h (some r) l):MapAt d kf vf (clrM h r) (some r) ([]:List (K × V)):=MapH.clr M
theorem MapAt.mk0:MapAt d kf vf (h.push (.map #[] 0)) (some h.size) ([]:List (K × V)):=MapH.mk0 d h
theorem MapAt.old (M:MapAt d kf vf h (some r) l) (e:h'[r]? = h[r]?):MapAt d kf vf h' (some r) l:=MapH.old M e
theorem MapAt.ext {B:Nat} (M:MapAt d kf vf h (some r) l) (X:Ext B h h') (hb:r < B):MapAt d kf vf h' (some r) l:=MapH.old M (X.2 r hb)
theorem MapAt.lt (M:MapAt d kf vf h (some r) l):r < h.size:=MapH.lt M
theorem Ext.setM {B:Nat} (h:Heap) {r:Nat} (k v:Value) (hr:B<=r):Ext B h (setM h r k v):=⟨by rw [setM_size]; exact Nat.le_refl _,fun g hg=>setM_other (by omega)⟩
end
/-! ### zero values -/
theorem zero_a {P:Program} {T:Tab} (hT:TOk P T) {t:Nat} {i:TI} {v:Value} (ht:tlk T t=some i) (ha:isA i.d=true) (hv:v = .agg i.z.toArray) (w:World):(zeroValue t).run P w = .ok v w:=by
 obtain ⟨u,h1,_,h3⟩:=run_zero hT ht w
 rw [hv,← h3 ha]; exact h1
section
variable {P:Program} {T:Tab} {e:Env} {h:Heap} {o:Oper} {K V:Type} {d:TypeDesc} {kf:K->Value} {vf:V->Value} {m:Option Nat} {l:List (K × V)}
theorem h_mkm {t b:Nat} {h':Heap} (ho:o.op = .makeMap t none) (hb:b=h.size) (he:h'=h.push (.map #[] 0)):Yh P e h o (.map (some b)) h':=by
 intro ρ w hA hw
 subst hb; subst he; subst hw
 exact ⟨{ w with heap:=w.heap.push (.map #[] 0) },⟨rfl,rfl,rfl,rfl,fun _=>by first | exact Nat.le_refl _ | exact Nat.le_succ _⟩,.inl (by simp [execOp,ho,Instr.makeMap,newObj,Sem.run])⟩
theorem y_lk [DecidableEq K] {t kt et:Nat} {x y:Operand} {k:K} {z:V} (ho:o.op = .lookup t x y false) (hx:evO e x=some (.map m)) (hy:evO e y=some (kf k)) (ht:P.underlying t=some (.map kt et)) (hk:P.underlying kt=some d) (KO:KOk d kf)
  (hz:∀ w,(zeroValue et).run P w = .ok (vf z) w) (hm:MapAt d kf vf h m l):Yl P e h o (vf ((mget l k).getD z)):=by
 intro ρ w hA hw
 subst hw
 cases m with
 | none =>
  have hl:l=[]:=hm
  subst hl
  have hfk:(Instr.findKey kt (kf k) []).run P w = .ok none w:=run_findKey hk rfl
  simp [execOp,ho,hA _ _ hx,hA _ _ hy,Instr.lookup,run_underlying ht,run_checkKey hk (KO.isK k),hfk,hz,mget,Result.andThen]
 | some r =>
  obtain ⟨es,ck,h1,h2,h3,h4,hl,hn,C⟩:=MapH.find KO hm k
  rcases C with ⟨_,c2,c3⟩ | ⟨j,u,e',_,c2,_,_,_,c3⟩
  ·have hfk:=run_findKey (w:=w) hk c3
   simp [execOp,ho,hA _ _ hx,hA _ _ hy,Instr.lookup,run_underlying ht,MapKept.run_getObj_map h1,run_checkKey hk (KO.isK k),hfk,hz,mget_none c2,Result.andThen]
  ·have hfk:=run_findKey (w:=w) hk c3
   simp [execOp,ho,hA _ _ hx,hA _ _ hy,Instr.lookup,run_underlying ht,MapKept.run_getObj_map h1,run_checkKey hk (KO.isK k),hfk,(mget_at c2 hn).1,Result.andThen]
theorem y_lk2 [DecidableEq K] {t kt et:Nat} {x y:Operand} {k:K} {z:V} (ho:o.op = .lookup t x y true) (hx:evO e x=some (.map m)) (hy:evO e y=some (kf k)) (ht:P.underlying t=some (.map kt et)) (hk:P.underlying kt=some d) (KO:KOk d kf)
  (hz:∀ w,(zeroValue et).run P w = .ok (vf z) w) (hm:MapAt d kf vf h m l):Yl P e h o (.tuple #[vf ((mget l k).getD z),.bool (mget l k).isSome]):=by
 intro ρ w hA hw
 subst hw
 cases m with
 | none =>
  have hl:l=[]:=hm
  subst hl
  have hfk:(Instr.findKey kt (kf k) []).run P w = .ok none w:=run_findKey hk rfl
  simp [execOp,ho,hA _ _ hx,hA _ _ hy,Instr.lookup,run_underlying ht,run_checkKey hk (KO.isK k),hfk,hz,mget,Result.andThen]
 | some r =>
  obtain ⟨es,ck,h1,h2,h3,h4,hl,hn,C⟩:=MapH.find KO hm k
  rcases C with ⟨_,c2,c3⟩ | ⟨j,u,e',_,c2,_,_,_,c3⟩
  ·have hfk:=run_findKey (w:=w) hk c3
   simp [execOp,ho,hA _ _ hx,hA _ _ hy,Instr.lookup,run_underlying ht,MapKept.run_getObj_map h1,run_checkKey hk (KO.isK k),hfk,hz,mget_none c2,Result.andThen]
  ·have hfk:=run_findKey (w:=w) hk c3
   simp [execOp,ho,hA _ _ hx,hA _ _ hy,Instr.lookup,run_underlying ht,MapKept.run_getObj_map h1,run_checkKey hk (KO.isK k),hfk,(mget_at c2 hn).1,Result.andThen]
theorem h_mu [DecidableEq K] {t kt et r:Nat} {x y z:Operand} {k:K} {v:V} {h':Heap} (ho:o.op = .mapUpdate t x y z) (hx:evO e x=some (.map m)) (hy:evO e y=some (kf k)) (hz:evO e z=some (vf v)) (ht:P.underlying t=some (.map kt et)) (hk:P.underlying kt=some d) (KO:KOk d kf)
  (hr:m=some r) (hm:MapAt d kf vf h (some r) l) (he:h'=setM h r (kf k) (vf v)):Yh P e h o undef h':=by
 intro ρ w hA hw
 subst he; subst hw; subst hr
 obtain ⟨es,ck,h1,h2,h3,h4,hl,hn,C⟩:=MapH.find KO hm k
 have hs:∀ o',(setM w.heap r (kf k) (vf v))[r]? = some o'->w.heap.setIfInBounds r o'=setM w.heap r (kf k) (vf v):=fun o' h=>by
  apply Array.ext_getElem?
  intro i
  have hlt:=(Array.getElem?_eq_some_iff.1 h1).1
  by_cases hi:i=r
  ·subst hi; rw [h]; simp [hlt]
  ·rw [setM_other hi]; simp [Ne.symm hi]
 have hat:=setM_at (k:=kf k) (v:=vf v) h1
 rcases C with ⟨c1,c2,c3⟩ | ⟨j,u,e',c1,c2,c4,c5,c6,c3⟩
 ·rw [c1] at hat
  have hfk:=run_findKey (w:=w) hk c3
  refine ⟨{ w with heap:=setM w.heap r (kf k) (vf v) },⟨rfl,rfl,rfl,rfl,fun _=>by first | exact Nat.le_refl _ | exact Nat.le_succ _⟩,.inr ⟨?_,rfl⟩⟩
  simp [execOp,ho,hA _ _ hx,hA _ _ hy,hA _ _ hz,Instr.mapUpdate,run_underlying ht,MapKept.run_getObj_map h1,run_checkKey hk (KO.isK k),hfk,MapKept.run_setObj_map _ h1,hs _ hat,Result.andThen]
 ·rw [c1] at hat
  have hfk:=run_findKey (w:=w) hk c3
  have hst:(Instr.keyThatStays (kf k) (kf k)).run P w = .ok (kf k) w:=run_keyThatStays (KO.isK k)
  refine ⟨{ w with heap:=setM w.heap r (kf k) (vf v) },⟨rfl,rfl,rfl,rfl,fun _=>by first | exact Nat.le_refl _ | exact Nat.le_succ _⟩,.inr ⟨?_,rfl⟩⟩
  simp [execOp,ho,hA _ _ hx,hA _ _ hy,hA _ _ hz,Instr.mapUpdate,run_underlying ht,MapKept.run_getObj_map h1,run_checkKey hk (KO.isK k),hfk,c4,c5,hst,MapKept.run_setObj_map _ h1,hs _ hat,Result.andThen]
theorem h_clr {t r:Nat} {x:Operand} {kt et:Nat} {h':Heap} (ho:o.op = .call { callee:=.builtin .clear,args:=#[x],argTypes:=#[t] }) (hx:evO e x=some (.map m)) (ht:P.underlying t=some (.map kt et)) (hr:m=some r) (hm:MapAt d kf vf h (some r) l) (he:h'=clrM h r):Yh P e h o (.tuple #[]) h':=by
 intro ρ w hA hw
 subst he; subst hw; subst hr
 obtain ⟨es,ck,h1,_,_,h4⟩:=hm
 have hs:w.heap.setIfInBounds r (.map #[] ck)=clrM w.heap r:=by
  apply Array.ext_getElem?
  intro i
  have hlt:=(Array.getElem?_eq_some_iff.1 h1).1
  by_cases hi:i=r
  ·subst hi; unfold clrM; rw [Array.getElem?_modify,if_pos rfl,h1]; simp [hlt]
  ·rw [clrM_other hi]; simp [Ne.symm hi]
 refine ⟨{ w with heap:=clrM w.heap r },⟨rfl,rfl,rfl,rfl,fun _=>by first | exact Nat.le_refl _ | exact Nat.le_succ _⟩,.inl ?_⟩
 simp [execOp,ho,resolve,invoke,builtin,hA _ _ hx,Builtin.clear_,run_underlying ht,MapKept.run_setObj_map _ h1,MapKept.run_getObj_map h1,Result.andThen,hs]
theorem zrow_len (z:List Value) (n:Nat):(zrow z n).length=n * z.length:=by
 induction n with
 | zero=>simp [zrow]
 | succ n ih=>unfold zrow at *; rw [List.replicate_succ,List.flatten_cons,List.length_append,ih,Nat.succ_mul]; omega
theorem zrow_mem {z:List Value} {n:Nat} {u:Value} (h:u∈zrow z n):u∈z:=by
 unfold zrow at h
 obtain ⟨l,hl,hu⟩:=List.mem_flatten.1 h
 rw [(List.mem_replicate.1 hl).2] at hu; exact hu
def clrS (h:Heap) (s:Slc) (z:List Value):Heap:=match s.a with | none=>h | some a=>setsH h a 0 (zrow z s.len)
theorem h_clrs (hT:TOk P T) {t el n1 b1:Nat} {z1:List Value} {i:TI} {x:Operand} {s:Slc} {h':Heap} (ho:o.op = .call { callee:=.builtin .clear,args:=#[x],argTypes:=#[t] }) (hx:evO e x=some s.v) (ht:tlk T t=some ⟨.slice el,n1,b1,z1⟩) (hi:tlk T el=some i)
  (h1:i.z.all Value.oneCell'=true) (hn:i.z.length=i.n) (hw:∀ a,s.a=some a->WrsAt h a (s.len * i.n)) (he:h'=clrS h s i.z):Yh P e h o (.tuple #[]) h':=by
 intro ρ w hA hw2
 subst he; subst hw2
 obtain ⟨td,k1,k3⟩:=tk_spec hT ht
 rw [ty_slice k3] at k1
 obtain ⟨a,len,cap⟩:=s
 cases a with
 | none =>
  refine ⟨w,⟨rfl,rfl,rfl,rfl,fun _=>by first | exact Nat.le_refl _ | exact Nat.le_succ _⟩,.inl ?_⟩
  simp only [Slc.v] at hx
  simp [execOp,ho,resolve,invoke,builtin,hA _ _ hx,Builtin.clear_,run_underlying k1,Result.andThen]
 | some a =>
  simp only [Slc.v] at hx
  cases len with
  | zero =>
   refine ⟨w,⟨rfl,rfl,rfl,rfl,fun _=>by first | exact Nat.le_refl _ | exact Nat.le_succ _⟩,.inl ?_⟩
   simp [execOp,ho,resolve,invoke,builtin,hA _ _ hx,Builtin.clear_,run_underlying k1,Result.andThen]
  | succ len =>
   obtain ⟨v,z1,z2,_⟩:=run_zero hT hi w
   have zc:v.cells=i.z.toArray:=Array.toList_inj.1 (by simpa using z2)
   have zl:(Builtin.zeroCells v.cells (len + 1)).toList=zrow i.z (len + 1):=by rw [zc,zeroCells_zrow]
   have hzl:(zrow i.z (len + 1)).length=(len + 1) * i.n:=by rw [zrow_len,hn]
   obtain ⟨w',k5,k6⟩:=run_storeCells P a (zrow i.z (len + 1)) 0 w (fun j hj=>by rw [Nat.zero_add]; exact hw a rfl j (by rw [hzl] at hj; exact hj)) (fun u hu=>List.all_eq_true.1 h1 u (zrow_mem hu))
   refine ⟨w',k5,.inl ?_⟩
   simp [execOp,ho,resolve,invoke,builtin,hA _ _ hx,Builtin.clear_,run_underlying k1,z1,zl,k6,Result.andThen]
end
end Go.Q
end
section
/- A range over a map. -/
namespace Go.Q
def nxH (h:Heap) (b r since:Nat) (seen:Array Nat) (x:MapEntry) (ck:Nat):Heap:=h.setIfInBounds b (.mapIter (some r) since (seen.push x.born) ck)
section
variable {P:Program} {e:Env} {h:Heap} {o:Oper}
theorem h_rng {t r b ck kt et:Nat} {es:Array MapEntry} {x:Operand} {m:Option Nat} {h':Heap} (ho:o.op = .range t x) (hx:evO e x=some (.map m)) (ht:P.underlying t=some (.map kt et)) (hr:m=some r) (hm:h[r]? = some (.map es ck)) (hb:b=h.size)
  (he:h'=h.push (.mapIter (some r) ck #[] ck)):Yh P e h o (.pointer (some ⟨b,0,none⟩)) h':=by
 intro ρ w hA hw
 subst hb; subst he; subst hw; subst hr
 exact ⟨{ w with heap:=w.heap.push (.mapIter (some r) ck #[] ck) },⟨rfl,rfl,rfl,rfl,fun _=>by first | exact Nat.le_refl _ | exact Nat.le_succ _⟩,.inl (by simp [execOp,ho,hA _ _ hx,run_range_map w t kt et r es ck ht hm])⟩
theorem a_nx {b r ck since last:Nat} {es:Array MapEntry} {seen:Array Nat} {x:Operand} {a:Addr} (ho:o.op = .next x false) (hx:evO e x=some (.pointer (some a))) (ha:a=⟨b,0,none⟩) (h1:h[b]? = some (.mapIter (some r) since seen last)) (h2:h[r]? = some (.map es ck))
  (h3:∀ x∈es.toList,x.born < since) (h4:since<=last):Ya P e h o fun v h'=>(v = .tuple #[.bool false]/\h'=h/\∀ x∈es.toList,seen.contains x.born=true) ∨
   ∃ x∈es.toList,seen.contains x.born=false/\v = .tuple #[.bool true,x.key,x.val]/\h'=nxH h b r since seen x ck:=by
 intro ρ w hA hw
 subst hw; subst ha
 rcases run_next_at (P:=P) w o.type b r since last seen es ck h1 h2 h3 h4 with ⟨k1,k2⟩ | ⟨y,hy,w1,hw1,k2⟩
 ·exact ⟨_,w,WW.self w,.inl ⟨rfl,rfl,all_seen es seen k1⟩,by simp [execOp,ho,hA _ _ hx,k2]⟩
 ·obtain ⟨m1,m2⟩:=mem_left hy
  refine ⟨_,_,?_,.inr ⟨y,m1,m2,rfl,?_⟩,by simp [execOp,ho,hA _ _ hx,k2]; rfl⟩
  ·rcases hw1 with rfl | rfl <;> exact ⟨rfl,rfl,rfl,rfl,fun _=>by first | exact Nat.le_refl _ | exact Nat.le_succ _⟩
  ·rcases hw1 with rfl | rfl <;> rfl
theorem y_en {b r ck since:Nat} {es:Array MapEntry} {seen:Array Nat} {x:Operand} {a:Addr} {y:MapEntry} {u v:Value} (ho:o.op = .entry x) (hx:evO e x=some (.pointer (some a))) (ha:a=⟨b,0,none⟩) (h1:h[b]? = some (.mapIter (some r) since (seen.push y.born) ck)) (h2:h[r]? = some (.map es ck))
  (hm:y∈es.toList) (hn:(es.toList.map (·.born)).Nodup) (hu:y.key=u) (hv:y.val=v):Yl P e h o (.tuple #[u,v]):=by
 intro ρ w hA hw
 subst hw; subst ha; subst hu; subst hv
 simp [execOp,ho,hA _ _ hx,run_entry_at w b r since seen es ck y h1 h2 hm hn]
end
end Go.Q
end
section
/- Maps whose keys are structs. -/
namespace Go.Q
open Go.MapKept
/-- values of a struct's type are keys -/
structure KeyS (P:Program) (kt:TypeId) {K:Type} [DecidableEq K] (kf:K->Value):Prop where
 und:(match P.underlying kt with | some (.array _ _) | some (.struct _)=>true | _=>false)=true
 is:∀ a b,keyIs (kf a) (kf b)=decide (a=b)
 chk:∀ b k w,(Instr.checkKey b 10000 kt (kf k)).run P w = .ok () w
 eq:∀ a b w,(Op.equal kt (kf a) (kf b)).run P w = .ok (decide (a=b)) w
 st:∀ k w,(Instr.keyThatStays (kf k) (kf k)).run P w = .ok (kf k) w
theorem KeyS.inj {P:Program} {kt:TypeId} {K:Type} [DecidableEq K] {kf:K->Value} (S:KeyS P kt kf) {a b:K} (h:kf a=kf b):a=b:=by
 have h1:=S.is a b
 rw [← h,S.is a a] at h1
 simpa using h1
def MapSt {K V:Type} (kf:K->Value) (vf:V->Value) (h:Heap) (r:Nat) (l:List (K × V)):Prop :=
 ∃ (es:Array MapEntry) (ck:Nat),h[r]? = some (.map es ck)/\Stamped es ck/\es.toList.map (fun e=>(e.key,e.val))=l.map (fun p=>(kf p.1,vf p.2))
section
variable {K V:Type} {kf:K->Value} {vf:V->Value} {h h':Heap} {r:Nat} {l:List (K × V)}
theorem MapSt.mk0 (h:Heap):MapSt kf vf (h.push (.map #[] 0)) h.size ([]:List (K × V)):=⟨#[],0,by simp,stamped_empty 0,rfl⟩
theorem MapSt.old (M:MapSt kf vf h r l) (e:h'[r]? = h[r]?):MapSt kf vf h' r l:=by
 obtain ⟨es,ck,h1,h2⟩:=M; exact ⟨es,ck,e.trans h1,h2⟩
theorem MapSt.lt (M:MapSt kf vf h r l):r < h.size:=by
 obtain ⟨es,ck,h1,_⟩:=M; exact (Array.getElem?_eq_some_iff.1 h1).1
theorem MapSt.ext {B:Nat} (M:MapSt kf vf h r l) (X:Ext B h h') (hb:r < B):MapSt kf vf h' r l:=M.old (X.2 r hb)
end
section
variable {P:Program} {kt:TypeId} {K V:Type} [DecidableEq K] {kf:K->Value} {vf:V->Value} {h h':Heap} {r:Nat} {l:List (K × V)}
theorem ask_find (S:KeyS P kt kf) (k:K) (w:World):∀ (es:List MapEntry) (l:List (K × V)) (i:Nat),es.map (fun e=>(e.key,e.val))=l.map (fun p=>(kf p.1,vf p.2)) ->
  (Instr.findAsking kt (kf k) es i).run P w = .ok ((l.findIdx? (fun p=>decide (k=p.1))).bind fun j=>(l[j]?).map fun p=>(i + j,vf p.2)) w
 | [],[],i,_=>by simp [Instr.findAsking]
 | [],p :: l,i,h=>by simp at h
 | e :: es,[],i,h=>by simp at h
 | e :: es,p :: l,i,h=>by
  simp only [List.map_cons,List.cons.injEq,Prod.mk.injEq] at h
  obtain ⟨⟨h1,h2⟩,h3⟩:=h
  have ih:=ask_find S k w es l (i + 1) h3
  unfold Instr.findAsking
  rw [h1]
  simp only [Sem.run_bind,S.eq,Result.andThen_ok,List.findIdx?_cons]
  by_cases hk:k=p.1
  ·simp [hk,h2]
  ·simp only [decide_eq_false hk,Bool.false_eq_true,if_false,ih]
   cases l.findIdx? (fun p=>decide (k=p.1)) with
   | none=>simp
   | some j=>simp [Nat.add_assoc,Nat.add_comm 1 j]
theorem idx_same (S:KeyS P kt kf) (k:K):∀ (es:List MapEntry) (l:List (K × V)),es.map (fun e=>(e.key,e.val))=l.map (fun p=>(kf p.1,vf p.2)) ->
  es.findIdx? (fun e=>keyIs (kf k) e.key)=l.findIdx? (fun p=>decide (k=p.1))
 | [],[],_=>rfl
 | [],p :: l,h=>by simp at h
 | e :: es,[],h=>by simp at h
 | e :: es,p :: l,h=>by
  simp only [List.map_cons,List.cons.injEq,Prod.mk.injEq] at h
  obtain ⟨⟨h1,h2⟩,h3⟩:=h
  rw [List.findIdx?_cons,List.findIdx?_cons,h1,S.is,idx_same S k es l h3]
/-- where a key stands -/
theorem MapSt.find (S:KeyS P kt kf) (M:MapSt kf vf h r l) (k:K) :
  ∃ es ck,h[r]? = some (.map es ck)/\Stamped es ck/\es.toList.map (fun e=>(e.key,e.val))=l.map (fun p=>(kf p.1,vf p.2))/\es.size=l.length/\(l.map (·.1)).Nodup /\
   ((es.toList.findIdx? (fun e=>keyIs (kf k) e.key)=none/\(∀ p∈l,p.1≠k)/\∀ w,(Instr.findKey kt (kf k) es.toList).run P w = .ok none w) ∨
   ∃ j v e,es.toList.findIdx? (fun e=>keyIs (kf k) e.key)=some j/\l[j]? = some (k,v)/\es[j]? = some e/\e.key=kf k/\e.val=vf v/\∀ w,(Instr.findKey kt (kf k) es.toList).run P w = .ok (some (j,vf v)) w):=by
 obtain ⟨es,ck,h1,h2,h4⟩:=M
 have hl:es.size=l.length:=by have:=congrArg List.length h4; simpa using this
 have hn:(l.map (·.1)).Nodup:=by
  have e1:es.toList.map (·.key)=(l.map (·.1)).map kf:=by
   have:=congrArg (List.map Prod.fst) h4
   simpa [List.map_map,Function.comp_def] using this
  have:=h2.2.2
  rw [e1] at this
  exact List.Pairwise.of_map kf (fun a b hab e=>hab (by rw [e])) this
 have hk:∀ w,(Instr.findKey kt (kf k) es.toList).run P w = .ok ((l.findIdx? (fun p=>decide (k=p.1))).bind fun j=>(l[j]?).map fun p=>(j,vf p.2)) w:=fun w=>by
  rw [run_findKey_eq w S.und]
  have:=ask_find S k w es.toList l 0 h4
  simpa using this
 refine ⟨es,ck,h1,h2,h4,hl,hn,?_⟩
 have hi:=idx_same S k es.toList l h4
 cases hc:l.findIdx? (fun p=>decide (k=p.1)) with
 | none =>
  left
  rw [hc] at hi hk
  refine ⟨hi,fun p hp e=>?_,hk⟩
  have:=(List.findIdx?_eq_none_iff.1 hc) p hp
  simp [e] at this
 | some j =>
  right
  rw [hc] at hi hk
  obtain ⟨hj,hk2,_⟩:=List.findIdx?_eq_some_iff_getElem.1 hc
  have hj1:j < es.toList.length:=by simp; omega
  have e2:=congrArg (fun z=>z[j]?) h4
  simp only [List.getElem?_map,List.getElem?_eq_getElem hj1,List.getElem?_eq_getElem hj,Option.map_some,Option.some.injEq,Prod.mk.injEq] at e2
  have hkk:k=l[j].1:=by simpa using hk2
  refine ⟨j,l[j].2,es.toList[j],hi,by rw [List.getElem?_eq_getElem hj,hkk],by simp,by rw [e2.1,← hkk],e2.2,fun w=>?_⟩
  rw [hk w]; simp [List.getElem?_eq_getElem hj]
theorem MapSt.put (S:KeyS P kt kf) (M:MapSt kf vf h r l) (k:K) (v:V):MapSt kf vf (setM h r (kf k) (vf v)) r (mput l k v):=by
 obtain ⟨es,ck,h1,h2,h4,hl,hn,C⟩:=M.find S k
 have hs:=setM_at (k:=kf k) (v:=vf v) h1
 rcases C with ⟨c1,c2,_⟩ | ⟨j,u,e,c1,c2,c3,c4,c5,_⟩
 ·rw [c1] at hs
  refine ⟨_,_,hs,stamped_push h2 fun x hx hxe=>?_,?_⟩
  ·have hm:(x.key,x.val)∈l.map fun p=>(kf p.1,vf p.2):=by rw [← h4]; exact List.mem_map.2 ⟨x,hx,rfl⟩
   obtain ⟨p,hp,hpe⟩:=List.mem_map.1 hm
   exact c2 p hp (S.inj (by rw [(Prod.mk.inj hpe).1,hxe]))
  ·rw [mput_none c2]; simp [h4]
 ·rw [c1] at hs
  refine ⟨_,_,hs,stamped_modify h2 j _ (fun _ _=>rfl) (fun x _ hx=>by rw [c3] at hx; cases hx; exact c4.symm),?_⟩
  rw [(mget_at c2 hn).2 v]
  apply List.ext_getElem?
  intro i
  have e2:=congrArg (fun z=>z[i]?) h4
  simp only [List.getElem?_map,Array.getElem?_toList] at e2
  simp only [List.getElem?_map,Array.getElem?_toList,Array.getElem?_modify,List.getElem?_set]
  by_cases hij:j=i
  ·subst hij
   have hj2:j < l.length:=(List.getElem?_eq_some_iff.1 c2).1
   simp [c3,hj2]
  ·simp [hij,e2]
variable {e:Env} {o:Oper} {m:Option Nat}
theorem y_lk2s {t et:Nat} {x y:Operand} {k:K} {z:V} (ho:o.op = .lookup t x y true) (hx:evO e x=some (.map m)) (hy:evO e y=some (kf k)) (ht:P.underlying t=some (.map kt et)) (S:KeyS P kt kf)
  (hz:∀ w,(zeroValue et).run P w = .ok (vf z) w) (hr:m=some r) (hm:MapSt kf vf h r l):Yl P e h o (.tuple #[vf ((mget l k).getD z),.bool (mget l k).isSome]):=by
 intro ρ w hA hw
 subst hw; subst hr
 obtain ⟨es,ck,h1,h2,h4,hl,hn,C⟩:=hm.find S k
 rcases C with ⟨_,c2,c3⟩ | ⟨j,u,e',_,c2,_,_,_,c3⟩
 ·simp [execOp,ho,hA _ _ hx,hA _ _ hy,Instr.lookup,run_underlying ht,MapKept.run_getObj_map h1,S.chk,c3,hz,mget_none c2,Result.andThen]
 ·simp [execOp,ho,hA _ _ hx,hA _ _ hy,Instr.lookup,run_underlying ht,MapKept.run_getObj_map h1,S.chk,c3,(mget_at c2 hn).1,Result.andThen]
theorem h_mus {t et:Nat} {x y z:Operand} {k:K} {v:V} (ho:o.op = .mapUpdate t x y z) (hx:evO e x=some (.map m)) (hy:evO e y=some (kf k)) (hz:evO e z=some (vf v)) (ht:P.underlying t=some (.map kt et)) (S:KeyS P kt kf)
  (hr:m=some r) (hm:MapSt kf vf h r l) (he:h'=setM h r (kf k) (vf v)):Yh P e h o undef h':=by
 intro ρ w hA hw
 subst he; subst hw; subst hr
 obtain ⟨es,ck,h1,h2,h4,hl,hn,C⟩:=hm.find S k
 have hs:∀ o',(setM w.heap r (kf k) (vf v))[r]? = some o'->w.heap.setIfInBounds r o'=setM w.heap r (kf k) (vf v):=fun o' h=>by
  apply Array.ext_getElem?
  intro i
  have hlt:=(Array.getElem?_eq_some_iff.1 h1).1
  by_cases hi:i=r
  ·subst hi; rw [h]; simp [hlt]
  ·rw [setM_other hi]; simp [Ne.symm hi]
 have hat:=setM_at (k:=kf k) (v:=vf v) h1
 rcases C with ⟨c1,c2,c3⟩ | ⟨j,u,e',c1,c2,c4,c5,c6,c3⟩
 ·rw [c1] at hat
  refine ⟨{ w with heap:=setM w.heap r (kf k) (vf v) },⟨rfl,rfl,rfl,rfl,fun _=>Nat.le_refl _⟩,.inr ⟨?_,rfl⟩⟩
  simp [execOp,ho,hA _ _ hx,hA _ _ hy,hA _ _ hz,Instr.mapUpdate,run_underlying ht,MapKept.run_getObj_map h1,S.chk,c3,MapKept.run_setObj_map _ h1,hs _ hat,Result.andThen]
 ·rw [c1] at hat
  refine ⟨{ w with heap:=setM w.heap r (kf k) (vf v) },⟨rfl,rfl,rfl,rfl,fun _=>Nat.le_refl _⟩,.inr ⟨?_,rfl⟩⟩
  simp [execOp,ho,hA _ _ hx,hA _ _ hy,hA _ _ hz,Instr.mapUpdate,run_underlying ht,MapKept.run_getObj_map h1,S.chk,c3,c4,c5,S.st,MapKept.run_setObj_map _ h1,hs _ hat,Result.andThen]
end
def MapAS {K V:Type} (kf:K->Value) (vf:V->Value) (h:Heap):Option Nat->List (K × V)->Prop
 | none,l=>l=[]
 | some r,l=>MapSt kf vf h r l
theorem y_lk2a {P:Program} {kt:TypeId} {K V:Type} [DecidableEq K] {kf:K->Value} {vf:V->Value} {h:Heap} {l:List (K × V)} {e:Env} {o:Oper} {m:Option Nat} {t et:Nat} {x y:Operand} {k:K} {z:V} (ho:o.op = .lookup t x y true) (hx:evO e x=some (.map m)) (hy:evO e y=some (kf k)) (ht:P.underlying t=some (.map kt et)) (S:KeyS P kt kf)
  (hz:∀ w,(zeroValue et).run P w = .ok (vf z) w) (hm:MapAS kf vf h m l):Yl P e h o (.tuple #[vf ((mget l k).getD z),.bool (mget l k).isSome]):=by
 cases m with
 | some r=>exact y_lk2s ho hx hy ht S hz rfl hm
 | none =>
  have hl:l=[]:=hm
  subst hl
  intro ρ w hA hw
  have hfk:(Instr.findKey kt (kf k) []).run P w = .ok none w:=by
   rw [run_findKey_eq w S.und]
   simp [Instr.findAsking]
  simp [execOp,ho,hA _ _ hx,hA _ _ hy,Instr.lookup,run_underlying ht,S.chk,hfk,hz,mget,Result.andThen]
end Go.Q
end

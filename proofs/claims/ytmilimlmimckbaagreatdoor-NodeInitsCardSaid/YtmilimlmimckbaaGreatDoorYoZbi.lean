/- A part of the proof of statements of this seat: lemmas, no statement of their own. -/
import Derived.Test.YtmilimlmimckbaaGreatDoorYoZbf
import Derived.Test.YtmilimlmimckbaaGreatDoorYoZaf
import Derived.Test.YtmilimlmimckbaaGreatDoorYoZae
import Derived.Test.YtmilimlmimckbaaGreatDoorYoZbh
import Derived.Test.YtmilimlmimckbaaGreatDoorYoZbg
import Derived.Test.YtmilimlmimckbaaGreatDoorYoZas
import Derived.Test.YtmilimlmimckbaaGreatDoorYoZap
import Derived.Test.YtmilimlmimckbaaGreatDoorYoZaj
set_option linter.unusedVariables false
set_option linter.unusedSimpArgs false
set_option maxRecDepth 100000
set_option maxHeartbeats 1000000
section
namespace Go.Proofs
open Go.RowKit Go.Shelf Go.Maps
open Go.ChangeMaps (setBlock)
attribute [local go_sem] Oper.semAt_some
namespace YwiYo
open YwYo (zdv ze4 zcc zjs zey)
abbrev PT:=Int × Int
def pcs (x:PT):List Value:=[.int .u64 x.1,.int .u16 x.2]
def pv (x:PT):Value:=.agg #[.int .u64 x.1,.int .u16 x.2]
set_option maxRecDepth 100000 in
set_option maxHeartbeats 2000000 in
theorem values1_in (F:Fence) (n:Nat) (h7:F.fn 392) (hro:F.round=none) (hn:1<=n) (l Bm om b ck:Nat) (es:Array MapEntry) (J Jx:List PT->World->Prop)
  (hcs:∀ x∈es.toList,∃ q:PT,x.key=pv q) (hold:∀ x∈es.toList,x.born<ck) (hnd:(es.toList.map (·.born)).Nodup)
  (hY:∀ pre x W,J pre W->pre.length<es.size->YieldAt F (n-1) Tryz.prog l #[pv x] W fun e W' =>
   (e = .returned (.bool true)/\J (pre++[x]) W'/\KeepsWalks W W')∨(e = .returned (.bool false)/\Jx (pre++[x]) W'))
  (W:World) (hJ:AbidesFrom W.heap.size J) (hm:W.cell? ⟨Bm,om,none⟩=some (.map (some b))) (hb:W.heap[b]? = some (.map es ck)) (h0:J [] W) :
  CallsIn F n Tryz.prog 392 #[.func (.yield l) #[] #[],.pointer (some ⟨Bm,om,none⟩)] W fun e W'=>(∃ v,e = .returned v) /\
   ((∃ ys,(ys.map pv).Perm (es.toList.map (·.key))/\J ys W')∨(∃ pre,True/\Jx pre W')):=by
 refine callsIn_of_wp Tryz.func392 rfl h7 ?_ hro;simp only [Tryz.ntmps392,List.size_toArray,List.length_cons,List.length_nil,Nat.reduceAdd,Nat.reduceSub,Array.replicate_succ,Array.replicate_zero,List.push_toArray,List.append_toArray,List.nil_append,List.cons_append]
 gi_wp2_with (first
  | (gi_at_range;refine zdv rfl _ 462 rfl 97 281 Tryz.underlying462 b ck es rfl hb ?_)
  | gi_in)
 go_frame
 gi_loopw [3] (fun _ wr=>∃(seen:Array Nat) (ys:List MapEntry) (c0:Nat),wr.heap[W.heap.size]? = some (.mapIter (some b) ck seen c0)/\ck<=c0/\wr.heap[b]? = some (.map es ck)/\seen.toList=ys.map (·.born)/\(∀ y∈ys,y∈es.toList)/\(ys.map (·.born)).Nodup/\∃ qs,qs.map pv=ys.map (·.key)/\J qs wr)
  (fun _ wr=>match wr.heap[W.heap.size]? with | some (.mapIter _ _ seen _)=>es.size-seen.size | _=>0)
 case atStart =>
  refine⟨#[],[],ck,World.alloc_heap_new _ _,Nat.le_refl _,?_,rfl,by simp,by simp,[],rfl,hJ [] W _ none h0 ⟨rfl,rfl,rfl,by simp,fun k hk _=>Below.heap_alloc _ _ k hk⟩ (fun r e=>by cases e)⟩;exact(Below.heap_alloc _ _ b (Array.getElem?_eq_some_iff.1 hb).1).trans hb
 case round =>
  obtain⟨seen,ys,c0,hr,hc0,hbr,hse,hys,hyn,qs,hqs,hJs⟩:=hrel
  gi_wp2_with (first
   | (gi_at_next;refine ze4 rfl _ rfl W.heap.size b ck c0 seen es ck rfl hr hbr hold hc0 ?_ ?_)
   | gi_in)
  ·intro hl
   gi_wp2
   go_end0
   exact⟨⟨_,rfl⟩,.inl ⟨qs,hqs ▸ (zey hnd hse hys hyn hl).map _,hJs⟩⟩
  ·intro x w2 hx hg2 hs2 hr2
   have hxm:x∈es.toList:=(YwYo.mem_left (by simpa using hx)).1;have hbw:b≠W.heap.size:=by have:=(Array.getElem?_eq_some_iff.1 hb).1;omega
   have hb2:w2.heap[b]? = some (.map es ck):=(hg2.block b (Array.getElem?_eq_some_iff.1 hbr).1 (fun e=>hbw (Option.some.inj e))).trans hbr;have hen:=run_entry_at (P:=Tryz.prog) w2 W.heap.size b ck seen es ck x hr2 hb2 hxm hnd;obtain⟨⟨m',d'⟩,hv⟩:=hcs x hxm;have hY':=hY qs (m',d');simp only [pv] at hY';rw [hv] at hen ⊢;simp only [pv] at hen ⊢;have hx2:x.born ∉ seen.toList:=(YwYo.mem_left (by simpa using hx)).2
   have hlen:ys.length<es.size:=by
    have:=zjs ((x :: ys).map (·.born)) (es.toList.map (·.born)) (by rw [List.map_cons,List.nodup_cons,← hse];exact⟨hx2,hse ▸ hyn⟩) (fun k hk=>by
     obtain⟨y,hy,rfl⟩:=List.mem_map.1 hk
     exact List.mem_map.2 ⟨y,(List.mem_cons.1 hy).elim (fun e=>e ▸ hxm) (hys y),rfl⟩)
    simp at this;omega
   have hJ2:J qs w2:=hJ qs wr w2 (some W.heap.size) hJs hg2 (fun r e=>by cases e;exact⟨Nat.le_refl _,_,hr,rfl⟩)
   have hJ3:J qs (w2.alloc (.cells #[.int .u64 m',.int .u16 d'] 97))
    := hJ qs w2 _ none hJ2 ⟨rfl,rfl,rfl,by simp,fun k hk _=>Below.heap_alloc _ _ k hk⟩ (fun r e=>by cases e)
   have hr3:(w2.alloc (.cells #[.int .u64 m',.int .u16 d'] 97)).heap[W.heap.size]? = some (.mapIter (some b) ck (seen.push x.born) ck):=(Below.heap_alloc _ _ _ (Array.getElem?_eq_some_iff.1 hr2).1).trans hr2;have hb3:(w2.alloc (.cells #[.int .u64 m',.int .u16 d'] 97)).heap[b]? = some (.map es ck):=(Below.heap_alloc _ _ _ (Array.getElem?_eq_some_iff.1 hb2).1).trans hb2;obtain⟨fn,tmps,assign,body,hy,hR⟩:=hY' _ hJ3 (by have:=congrArg List.length hqs;simp at this;omega);clear hs2
   gi_wp2
   refine hR.mono ?_;rintro e W3 (⟨rfl,hJ4,hk4⟩ | ⟨rfl,hJx4⟩)
   ·gi_wp2
    have hr4:=hk4.same _ _ hr3 rfl;have hb4:=hk4.same _ _ hb3 rfl
    go_roundw
    case rel =>
     refine⟨seen.push x.born,ys++[x],ck,hr4,Nat.le_refl _,hb4,by simp [hse],fun y hy=>(List.mem_append.1 hy).elim (hys y) (fun e=>by simp at e;exact e ▸ hxm),?_,qs++[(m',d')],by rw [List.map_append,List.map_append,hqs];simp [hv],hJ4⟩;rw [List.map_append,List.nodup_append];refine⟨hyn,by simp,fun a ha b hb e=>?_⟩;simp at hb;subst hb;rw [← hse] at ha;exact hx2 (e ▸ ha)
    case measure =>
     rw [hr4,hr];have:seen.size=ys.length:=by rw [← Array.length_toList,hse,List.length_map]
     simp;omega
   ·gi_wp2
    refine bodyPost_ret (results_none rfl _ _ _) rfl ?_;exact⟨⟨_,rfl⟩,.inr ⟨_,trivial,hJx4⟩⟩
theorem values_stops (F:Fence) (n:Nat) (h7:F.fn 392) (hro:F.round=none) (hn:1<=n) (Bm om b ck:Nat) (es:Array MapEntry) (w:World)
  (hcs:∀ x∈es.toList,∃ q:PT,x.key=pv q) (hold:∀ x∈es.toList,x.born<ck) (hnd:(es.toList.map (·.born)).Nodup)
  (hBm:Bm<w.heap.size) (hm:w.cell? ⟨Bm,om,none⟩=some (.map (some b))) (hb:w.heap[b]? = some (.map es ck)) :
  SeqStopsK F n Tryz.prog 392 #[.pointer (some ⟨Bm,om,none⟩)] (fun x:PT=>#[pv x]) KeepsWalks (fun ys=>(ys.map pv).Perm (es.toList.map (·.key))) (fun _=>True) es.size w:=fun l J Jx W hW hJ _ hY h0 =>
 values1_in F n h7 hro hn l Bm om b ck es J Jx hcs hold hnd hY W hJ ((hW.cell (p:=⟨Bm,om,none⟩) hBm).trans hm) ((hW.block b (Array.getElem?_eq_some_iff.1 hb).1).trans hb) h0
theorem infoP:(Tryz.prog.info? 97).map (fun i=>(i.zero,i.size,i.bytes))=some (some (.agg #[.int .u64 0,.int .u16 0]),2,16):=by kernel_rfl
theorem cells5_new (w:World) (x:PT) (t:TypeId):∀ j u,(pcs x)[j]? = some u->(w.alloc (.cells #[.int .u64 x.1,.int .u16 x.2] t)).cell? ((⟨w.heap.size,0,none⟩:Addr).add j)=some u:=by
 intro j u hj
 match j,hj with
 | 0,hj=>simp [pcs] at hj;subst hj;simp [Addr.add]
 | 1,hj=>simp [pcs] at hj;subst hj;simp [Addr.add]
 | k+2,hj=>simp [pcs] at hj
theorem cell_at {W:World} {B:Nat} {c:Array Value} {t:TypeId} (h:W.heap[B]? = some (.cells c t (0,0))) (j:Nat) (v:Value) (hj:c[j]? = some v):W.cell? ⟨B,j,none⟩=some v:=by simp [World.cell?,h,hj]
set_option maxRecDepth 100000 in
set_option maxHeartbeats 2000000 in
theorem appendSeq_in (F:Fence) (n:Nat) (h3:F.fn 461) (h7:F.fn 392) (hro:F.round=none) (hn:3<=n) (Bs om b ck:Nat) (es:Array MapEntry) (w:World)
  (hcs:∀ x∈es.toList,∃ q:PT,x.key=pv q) (hold:∀ x∈es.toList,x.born<ck) (hnd:(es.toList.map (·.born)).Nodup) (hlen:es.size<=1000000)
  (hBs:Bs<w.heap.size) (hm:w.cell? ⟨Bs,om,none⟩=some (.map (some b))) (hb:w.heap[b]? = some (.map es ck)) :
  CallsIn F n Tryz.prog 461 #[.slice none 0 0,.func (.func 392) #[] #[.pointer (some ⟨Bs,om,none⟩)]] w fun e W'=>∃(v:Value) (ys:List PT),e = .returned v/\(ys.map pv).Perm (es.toList.map (·.key))/\W'.ownsRow w.heap.size 97 2 v ys.length (ys.flatMap pcs)/\(ys=[]->v = .slice none 0 0)/\Below w.heap.size w W':=by
 have h1:1<=n:=by omega
 obtain⟨i0,hi,hz0,hz1,hz2⟩:=info_parts infoP;refine callsIn_of_wp_marks Tryz.func461 rfl h3 ?_ hro;simp only [Tryz.ntmps461,List.size_toArray,List.length_cons,List.length_nil,Nat.reduceAdd,Nat.reduceSub,Array.replicate_succ,Array.replicate_zero,List.push_toArray,List.append_toArray,List.nil_append,List.cons_append]
 gi_wp2
 have bO:=Boxed.new w 258 (.slice none 0 0);have hB0:Below w.heap.size w (w.alloc (.cells #[.slice none 0 0] 258)):=(Below.refl _ w).alloc (Nat.le_refl _) _
 refine wpIn_rangeFunc_ownH hro h1 (gf:=392) (lb:=#[.pointer (some ⟨Bs,om,none⟩)]) rfl h7 (enters_of Tryz.func392 (by kernel_rfl) rfl)
  (values_stops F (n-1) h7 hro (by omega) Bs om b ck es _ hcs hold hnd (by simp;omega) ((hB0.cell (p:=⟨Bs,om,none⟩) hBs).trans hm) ((hB0.block b (Array.getElem?_eq_some_iff.1 hb).1).trans hb)) walksK_t walksK_b (Below.refl _ _) (fun _=>rfl)
  (fun pre W=>(∃ v,Boxed W w.heap.size 258 v/\W.ownsRow w.heap.size 97 2 v pre.length (pre.flatMap pcs)/\(pre=[]->v = .slice none 0 0))/\Below w.heap.size w W)
  (fun _ _ _=>False)
  (OwnFrom.and (Own.from (holdsRow_own w.heap.size w.heap.size 258 97 2 (fun pre:List PT=>pre.length) (fun pre=>pre.flatMap pcs) (fun pre v=>pre=[]->v = .slice none 0 0)) _) (ownFrom_below (Nat.le_refl _) (by simp)))
  (fun _ _ _ _ _ hs _ _=>hs)
  ⟨⟨_,bO,World.ownsRow_nil _ _ _ _,fun _=>rfl⟩,hB0⟩
  (fun x a' W=>∃ B,w.heap.size+1<=B/\W.heap[B]? = some (.cells #[.int .u64 x.1,.int .u16 x.2] 97 (0,0)) /\
   a' = { tmps:=#[.slice none 0 0,.func (.func 392) #[] #[.pointer (some ⟨Bs,om,none⟩)],.pointer (some ⟨w.heap.size,0,none⟩),undef,.slice none 0 0,.pointer (some ⟨B,0,none⟩),.func (.func 392) #[] #[.pointer (some ⟨Bs,om,none⟩)],pv x,undef,undef,undef,undef,undef],defers:=[] })
  ?ax ?assign ?body ?done ?stop
 case ax =>
  rintro x a' _ X Y row ⟨B,h1,h2,h3⟩ hg hr;refine⟨B,h1,(hg.block B (Array.getElem?_eq_some_iff.1 h2).1 (fun e=>?_)).trans h2,h3⟩;obtain⟨_,o,ho,hc⟩:=hr B e.symm;rw [h2] at ho;cases ho;cases hc
 case assign =>
  intro l pre x W K hI hK;obtain⟨x0,x1⟩:=x;simp only [pv];have hsz:w.heap.size<=W.heap.size:=hI.2.size;obtain⟨⟨v,hv,hrow,hnil⟩,hB⟩:=hI;have hvl:w.heap.size<W.heap.size:=(Array.getElem?_eq_some_iff.1 hv).1
  gi_wp2
  refine hK _ _ ?_ ?_ ?_ ⟨W.heap.size,by omega,World.alloc_heap_new _ _,rfl⟩
  ·exact(KeepsOthers.alloc W _).from _
  ·exact KeepsWalks.alloc W _
  ·exact⟨⟨v,hv.alloc _,hrow.alloc _,hnil⟩,hB.trans ((Below.refl _ W).alloc (by omega) _)⟩
 case body =>
  rintro l pre x a' W hwl - ⟨⟨v,hv,hrow,_⟩,hB⟩ ⟨B,hB1,hB2,rfl⟩ hlt;obtain⟨x0,x1⟩:=x;have hc:=hv.cell;have k0:=cell_at hB2 0 _ rfl;have k1:=cell_at hB2 1 _ rfl
  gi_wp2_with (gi_at_builtin;refine wpListIn_append_own _ rfl _ _ 258 rfl w.heap.size 97 i0 _ 2 16 Tryz.underlying258 hi hz0 hz1 hz2 rfl (by decide) _ _ _ rfl (hrow.alloc _) ⟨W.heap.size,0,none⟩ 1 1 (pcs (x0,x1)) rfl rfl (cells5_new _ _ _) (by simp [pcs,Value.oneCell']) (by simp [maxLen];omega) (by omega) (by have:=hB.size;simp;omega) ?_;intro v' w1 hown' hgrow _;obtain⟨g',cap',rfl⟩:=ownsRow_succ hown';obtain⟨hv1,hv2,hr2,hk2,hb2⟩:=hv.appended (by decide) hrow hB.size (Nat.le_refl _) hown' hgrow;have hc1:=hv1.cell;have hf1:=hv1.frozen)
  exact⟨hk2.from _,⟨hk2.size,fun k o hk hw=>hk2.same k o hk (Obj.not_cells_of_walk hw)⟩,⟨_,hv2,by rw [show (pre++[(x0,x1)]).length=pre.length+1 from by simp,show (pre++[(x0,x1)]).flatMap pcs=pre.flatMap pcs++pcs (x0,x1) from by rw [List.flatMap_append,List.flatMap_cons,List.flatMap_nil,List.append_nil]];first | exact⟨hr2,fun h=>by simp at h⟩ | exact⟨hr2.1,fun h=>by simp at h⟩⟩,hB.trans hb2⟩
 case done =>
  rintro D ys W hD hS ⟨⟨v,hv,hrow,hnil⟩,hB⟩ hK;have hc:=hv.cell
  gi_wp2
  refine⟨by simp,.inl ⟨_,_,rfl,run_takeDeferred hK,?_⟩⟩;exact⟨_,results_tmp rfl _ _ _,v,ys,rfl,hS,ownsRow_putObj hrow _ hK rfl,hnil,hB.trans (belowK_b (w:=w) (Nat.le_refl _) W D _ _ (by simp at hD;omega) hK rfl rfl)⟩
 case stop =>
  rintro D c pre W _ _ h _;exact h.elim
set_option maxHeartbeats 1000000 in
theorem collect_in (F:Fence) (n:Nat) (h8:F.fn 390) (h3:F.fn 461) (h7:F.fn 392) (hro:F.round=none) (hn:4<=n) (Bs om b ck:Nat) (es:Array MapEntry) (w:World)
  (hcs:∀ x∈es.toList,∃ q:PT,x.key=pv q) (hold:∀ x∈es.toList,x.born<ck) (hnd:(es.toList.map (·.born)).Nodup) (hlen:es.size<=1000000)
  (hBs:Bs<w.heap.size) (hm:w.cell? ⟨Bs,om,none⟩=some (.map (some b))) (hb:w.heap[b]? = some (.map es ck)) :
  CallsIn F n Tryz.prog 390 #[.func (.func 392) #[] #[.pointer (some ⟨Bs,om,none⟩)]] w fun e W'=>∃(v:Value) (ys:List PT),e = .returned v/\(ys.map pv).Perm (es.toList.map (·.key))/\W'.ownsRow w.heap.size 97 2 v ys.length (ys.flatMap pcs)/\(ys=[]->v = .slice none 0 0)/\Below w.heap.size w W':=by
 have h1:1<=n:=by omega
 refine callsIn_of_wp Tryz.func390 rfl h8 ?_ hro;simp only [Tryz.ntmps390,List.size_toArray,List.length_cons,List.length_nil,Nat.reduceAdd,Nat.reduceSub,Array.replicate_succ,Array.replicate_zero,List.push_toArray,List.append_toArray,List.nil_append,List.cons_append]
 gi_wp2_with (gi_at_call 461;refine(appendSeq_in F (n-1) h3 h7 hro (by omega) Bs om b ck es _ hcs hold hnd hlen hBs hm hb).mono ?_;rintro e w' ⟨v,ys,rfl,hS,hrow,hnil,hb2⟩)
 go_ret
 exact⟨v,ys,rfl,hS,hrow,hnil,hb2⟩
end YwiYo
end Go.Proofs
end
section
namespace Go.Q.Yo
def zca (p0:Value) (k:Slc->zaa->Prop) (h:zaa):Prop:=CallsH Go.Proofs.Tryz.prog 454 #[p0] h (fun v h'=>∃ r:Slc,v=Slc.v r/\k r h')
theorem zfi:zad Go.Proofs.Tryz.prog 454:=⟨_,Go.Proofs.Tryz.func454,by kernel_rfl,by kernel_rfl⟩
theorem ze2 (p0:Value) (k:Slc->zaa->Prop) (h:zaa) (H:zca p0 k h):CallsH Go.Proofs.Tryz.prog 454 #[p0] h (fun v h'=>∃ r:Slc,v=Slc.v r/\k r h'):=H
def zct (p0:Value) (k:Slc->zaa->Prop) (h:zaa):Prop:=CallsH Go.Proofs.Tryz.prog 390 #[p0] h (fun v h'=>∃ r:Slc,v=Slc.v r/\k r h')
theorem zgy:zad Go.Proofs.Tryz.prog 390:=⟨_,Go.Proofs.Tryz.func390,by kernel_rfl,by kernel_rfl⟩
theorem zgd (p0:Value) (k:Slc->zaa->Prop) (h:zaa) (H:zct p0 k h):CallsH Go.Proofs.Tryz.prog 390 #[p0] h (fun v h'=>∃ r:Slc,v=Slc.v r/\k r h'):=H
def zax (p0:Slc) (p1:Value) (k:Unit->zaa->Prop) (h:zaa):Prop:=CallsH Go.Proofs.Tryz.prog 455 #[Slc.v p0,p1] h (fun v h'=>∃ r:Unit,v = .tuple #[]/\k r h')
theorem zc1:zad Go.Proofs.Tryz.prog 455:=⟨_,Go.Proofs.Tryz.func455,by kernel_rfl,by kernel_rfl⟩
theorem zcw (p0:Slc) (p1:Value) (k:Unit->zaa->Prop) (h:zaa) (H:zax p0 p1 k h):CallsH Go.Proofs.Tryz.prog 455 #[Slc.v p0,p1] h (fun v h'=>∃ r:Unit,v = .tuple #[]/\k r h'):=H
def za8 (p0:Slc) (p1:Value) (k:Unit->zaa->Prop) (h:zaa):Prop:=CallsH Go.Proofs.Tryz.prog 391 #[Slc.v p0,p1] h (fun v h'=>∃ r:Unit,v = .tuple #[]/\k r h')
theorem zdx:zad Go.Proofs.Tryz.prog 391:=⟨_,Go.Proofs.Tryz.func391,by kernel_rfl,by kernel_rfl⟩
theorem zdl (p0:Slc) (p1:Value) (k:Unit->zaa->Prop) (h:zaa) (H:za8 p0 p1 k h):CallsH Go.Proofs.Tryz.prog 391 #[Slc.v p0,p1] h (fun v h'=>∃ r:Unit,v = .tuple #[]/\k r h'):=H
end Go.Q.Yo
end
section
namespace Go.Q.Yo
def zbg (p0:Value) (p1:Value) (k:(Slc)->zaa->Prop) (h:zaa):Prop :=
 zca p0 (fun(r1:Slc) h2=>zax r1 p1 (fun(r3:Unit) h4=>k r1 h4) h2) h
def zb7 (p0:Value) (p1:Value) (k:(Slc)->zaa->Prop) (h:zaa):Prop :=
 zct p0 (fun(r1:Slc) h2=>za8 r1 p1 (fun(r3:Unit) h4=>k r1 h4) h2) h
theorem zeo:zad Go.Proofs.Tryz.prog 385:=⟨_,Go.Proofs.Tryz.func385,by kernel_rfl,by kernel_rfl⟩
theorem zd1 (p0:Value) (p1:Value) (k:(Slc)->zaa->Prop) (h:zaa) (H:zbg p0 p1 k h):CallsH Go.Proofs.Tryz.prog 385 #[p0,p1] h (fun v h'=>∃ r:Slc,v=Slc.v r/\k r h'):=by
 refine zg8 (N:=12) Go.Proofs.Tryz.func385 rfl rfl rfl (fun w0=>?_);unfold zbg at H;refine zdy [(0,p0),(1,p1)] ⟨rfl,rfl,trivial⟩ ?_;refine zcn ?_;refine zal ?_;refine w_p tok rfl rfl rfl ?_;refine zb9 ?_;refine zcr ?_;refine zcn ?_;refine zal ?_;refine w_p tok rfl rfl rfl ?_;refine zho zfi (ze2 _ _ _ H) rfl rfl rfl rfl ?_;rintro _ h2 ⟨r1,rfl,H⟩;refine w_p tok rfl rfl rfl ?_;refine zb9 ?_;refine zcr ?_;refine zcn ?_;refine zal ?_;refine w_p tok rfl rfl rfl ?_;refine w_p tok rfl rfl rfl ?_;refine zho zc1 (zcw _ _ _ _ H) rfl rfl rfl rfl ?_;rintro _ h4 ⟨r3,rfl,H⟩;refine zb9 ?_;refine zcr ?_;refine zdy [(5,Slc.v r1)] ⟨rfl,trivial⟩ ?_;refine zcn ?_;refine zal ?_;refine w_p tok rfl rfl rfl ?_;refine w_p tok rfl rfl rfl ?_;refine zb9 ?_;refine zcr ?_;refine zoj ?_;exact x_ret _ rfl _ rfl ⟨r1,rfl,H⟩
theorem zfc:zad Go.Proofs.Tryz.prog 293:=⟨_,Go.Proofs.Tryz.func293,by kernel_rfl,by kernel_rfl⟩
theorem zew (p0:Value) (p1:Value) (k:(Slc)->zaa->Prop) (h:zaa) (H:zb7 p0 p1 k h):CallsH Go.Proofs.Tryz.prog 293 #[p0,p1] h (fun v h'=>∃ r:Slc,v=Slc.v r/\k r h'):=by
 refine zg8 (N:=12) Go.Proofs.Tryz.func293 rfl rfl rfl (fun w0=>?_);unfold zb7 at H;refine zdy [(0,p0),(1,p1)] ⟨rfl,rfl,trivial⟩ ?_;refine zcn ?_;refine zal ?_;refine w_p tok rfl rfl rfl ?_;refine zb9 ?_;refine zcr ?_;refine zcn ?_;refine zal ?_;refine w_p tok rfl rfl rfl ?_;refine zho zgy (zgd _ _ _ H) rfl rfl rfl rfl ?_;rintro _ h2 ⟨r1,rfl,H⟩;refine w_p tok rfl rfl rfl ?_;refine zb9 ?_;refine zcr ?_;refine zcn ?_;refine zal ?_;refine w_p tok rfl rfl rfl ?_;refine w_p tok rfl rfl rfl ?_;refine zho zdx (zdl _ _ _ _ H) rfl rfl rfl rfl ?_;rintro _ h4 ⟨r3,rfl,H⟩;refine zb9 ?_;refine zcr ?_;refine zdy [(5,Slc.v r1)] ⟨rfl,trivial⟩ ?_;refine zcn ?_;refine zal ?_;refine w_p tok rfl rfl rfl ?_;refine w_p tok rfl rfl rfl ?_;refine zb9 ?_;refine zcr ?_;refine zoj ?_;exact x_ret _ rfl _ rfl ⟨r1,rfl,H⟩
end Go.Q.Yo
end
section
namespace Go.V
open Go.Q Go.Q.Yo Go.MapKept Go.Proofs Go.RowKit
noncomputable section
def zty:List Value:=[.string ByteArray.empty,.int .i64 0,.int .i64 0,.int .u64 0,.int .u16 0]
theorem qa5 {v:Value} (h:okV (.o zty) v):∃ q:YwYo.PT,v=YwYo.pv q:=by
 obtain⟨us,rfl,h⟩:=h
 match us,h with
 | [a,b,c,d,e],⟨h1,h2,h3,h4,h5,_⟩ =>
  cases a <;> simp only [Lv1] at h1
  cases b <;> simp only [Lv1] at h2
  cases c <;> simp only [Lv1] at h3
  cases d <;> simp only [Lv1] at h4
  cases e <;> simp only [Lv1] at h5
  obtain⟨rfl,_⟩:=h2;obtain⟨rfl,_⟩:=h3;obtain⟨rfl,_⟩:=h4;obtain⟨rfl,_⟩:=h5;exact⟨(_,_,_,_,_),rfl⟩
theorem zwm:qoa Tryz.prog 454 456 99 5 false (okV (.o zty)):=fun h bx om r ck es hb hm st hv hl w hw=>by
 obtain⟨s1,s2,s3⟩:=(stamped_iff es ck).1 st;have hbl:bx<w.heap.size:=by rw [hw];exact zdu hb
 have hcs:∀ x∈es.toList,∃ q:YwYo.PT,x.val=YwYo.pv q:=fun x hx=>qa5 (hv x hx);refine(callsIn_wide.1 (YwnYo.collect_in Fence.wide 5 trivial trivial trivial rfl (by omega) bx om r ck es w hcs s1 s2 (by omega) hbl (by subst hw;exact hb) (by subst hw;exact hm))).mono ?_;rintro e w' ⟨v,ys,rfl,hp,hrow,hnil,B⟩;obtain⟨s,rfl,R,hn,hz⟩:=zfg hrow;subst hw;have hpc:∀ ys:List YwYo.PT,ys.flatMap YwYo.pcs=(ys.map YwYo.pv).flatMap fun v=>v.cells.toList:=fun ys=>by induction ys with | nil=>rfl | cons a r ih=>rw [List.flatMap_cons,ih];rfl
 refine⟨_,rfl,⟨B.os,B.tape,B.output,rfl,fun k=>by cases k⟩,s,ys.map YwYo.pv,rfl,hp,by rw [← hpc];exact R,by rw [hn,List.length_map],fun hy=>?_,⟨B.size,B.block⟩,hz⟩;have:=hnil (by simpa using hy);obtain⟨a,b,c⟩:=s
 cases this;rfl
theorem zw7 (cg:Nat):qng Tryz.prog 385 454 455 (.func (.func cg) #[] #[]):=fun p0 k h H=>zd1 p0 _ k h (by
 unfold zbg zca zax;refine CallsH.mono H ?_;rintro v h' ⟨s,rfl,H2⟩;refine⟨s,rfl,H2.mono ?_⟩;rintro v' h4 ⟨rfl,hk⟩
 exact⟨(),rfl,hk⟩)
theorem qa2 {call0:zbk} (CO:za7 Tryz.prog call0):FnOk Tryz.prog 385 fun _=>zwd call0 false zty 456 455 99 5:=zs7 CO zeo zwm zw7
def zId:List Value:=[.int .u64 0,.int .u16 0]
theorem qod {v:Value} (h:okV (.o zId) v):∃ q:YwiYo.PT,v=YwiYo.pv q:=by
 obtain⟨us,rfl,h⟩:=h
 match us,h with
 | [d,e],⟨h4,h5,_⟩ =>
  cases d <;> simp only [Lv1] at h4
  cases e <;> simp only [Lv1] at h5
  obtain⟨rfl,_⟩:=h4;obtain⟨rfl,_⟩:=h5;exact⟨(_,_),rfl⟩
theorem qml:qoa Tryz.prog 390 392 97 2 true (okV (.o zId)):=fun h bx om r ck es hb hm st hv hl w hw=>by
 obtain⟨s1,s2,s3⟩:=(stamped_iff es ck).1 st;have hbl:bx<w.heap.size:=by rw [hw];exact zdu hb
 have hcs:∀ x∈es.toList,∃ q:YwiYo.PT,x.key=YwiYo.pv q:=fun x hx=>qod (hv x hx);refine(callsIn_wide.1 (YwiYo.collect_in Fence.wide 5 trivial trivial trivial rfl (by omega) bx om r ck es w hcs s1 s2 (by omega) hbl (by subst hw;exact hb) (by subst hw;exact hm))).mono ?_;rintro e w' ⟨v,ys,rfl,hp,hrow,hnil,B⟩;obtain⟨s,rfl,R,hn,hz⟩:=zfg hrow;subst hw;have hpc:∀ ys:List YwiYo.PT,ys.flatMap YwiYo.pcs=(ys.map YwiYo.pv).flatMap fun v=>v.cells.toList:=fun ys=>by induction ys with | nil=>rfl | cons a r ih=>rw [List.flatMap_cons,ih];rfl
 refine⟨_,rfl,⟨B.os,B.tape,B.output,rfl,fun k=>by cases k⟩,s,ys.map YwiYo.pv,rfl,hp,by rw [← hpc];exact R,by rw [hn,List.length_map],fun hy=>?_,⟨B.size,B.block⟩,hz⟩;have:=hnil (by simpa using hy);obtain⟨a,b,c⟩:=s
 cases this;rfl
theorem qjw (cg:Nat):qng Tryz.prog 293 390 391 (.func (.func cg) #[] #[]):=fun p0 k h H=>zew p0 _ k h (by
 unfold zb7 zct za8;refine CallsH.mono H ?_;rintro v h' ⟨s,rfl,H2⟩;refine⟨s,rfl,H2.mono ?_⟩;rintro v' h4 ⟨rfl,hk⟩
 exact⟨(),rfl,hk⟩)
theorem qcp {call0:zbk} (CO:za7 Tryz.prog call0):FnOk Tryz.prog 293 fun _=>zwd call0 true zId 392 391 97 2:=zs7 CO zfc qml qjw
end
end Go.V
end
section
namespace Go.Proofs
open Go.RowKit
namespace YcnYo
theorem qg7 {P:Program} (w:World) (d:Nat) (t k e:TypeId) (p:Option Nat) (h:P.underlying t=some (.map k e)):(Op.equalIn (d+1) t (.map p) (.map none)).run P w = .ok p.isNone w:=by
 cases p <;> simp [Op.equalIn,run_underlying h]
theorem eq_nil {P:Program} (w:World) (t k e:TypeId) (p:Option Nat) (h:P.underlying t=some (.map k e)):(binOp .eql t (.map p) (.map none)).run P w = .ok (.bool p.isNone) w:=by
 simp only [binOp];simp [show Op.equal t (.map p) (.map none)=Op.equalIn (9999+1) t (.map p) (.map none) from rfl,qg7 w 9999 t k e p h]
set_option maxRecDepth 100000 in
theorem qff {P:Program} (w:World) (t xT k e:TypeId) (v:Value) (h:P.underlying t=some (.map k e)):(Instr.typeAssert (.iface t v) xT t false).run P w = .ok v w:=by
 simp [Instr.typeAssert,run_underlying h,Result.andThen]
set_option maxRecDepth 100000 in
theorem qk5 {P:Program} (w:World) {r:Nat} {es:Array MapEntry} {clock:Nat} (t:TypeId) (hb:w.heap[r]? = some (.map es clock)) :
  (Extern.MapsClone.clone #[.iface t (.map (some r))]).run P w = .ok (.iface t (.map (some w.heap.size))) (w.alloc (.map es clock)):=by
 have e:Extern.MapsClone.clone #[.iface t (.map (some r))]=(getObj r >>= fun o=>match o with
   | .map entries clock=>(newObj (.map entries clock) >>= fun n=>pure (.iface t (.map (some n))))
   | _=>stuck "maps.clone: a map expected"):=rfl
 rw [e];simp [MapKept.run_getObj_map hb,Result.andThen,go_sem]
set_option maxRecDepth 100000 in
set_option maxHeartbeats 2000000 in
theorem clone_in (b:Nat) (es:Array MapEntry) (clock:Nat) (w:World) (hb:w.heap[b]? = some (.map es clock)) :
  Calls Tryz.prog 290 #[.map (some b)] w fun e w'=>e = .returned (.map (some w.heap.size))/\w'=w.alloc (.map es clock):=by
 have t23:=Tryz.underlying354;have hq:=fun w=>eq_nil (P:=Tryz.prog) w 354 _ _ (some b) t23
 go_enter Tryz.func290,Tryz.ntmps290
 go_wp2
 rw [run_callFunc_extern Tryz.func388 (by kernel_rfl) (by kernel_rfl) (by kernel_rfl) (e:=Extern.MapsClone.clone) (by kernel_rfl),qk5 w 354 hb];simp only [Result.andThen];rw [Oper.upon_value]
 go_wp2
 rw [qff _ 354 20 _ _ _ t23];simp only [Result.andThen];rw [Oper.upon_value]
 go_wp2
 go_ret
 exact⟨rfl,rfl⟩
end YcnYo
end Go.Proofs
namespace Go.V
open Go.Q Go.MapKept Go.Proofs
noncomputable section
def qpv (vs:List AV) (h:HS) (K:AV->HS->Rs):Rs:=a1 vs fun m=>dM.x m false fun b=>qcz h b fun _ l=>qdb h (.m .s l) fun b h=>K (.r 2 b) h
theorem qfc:FnOk Tryz.prog 290 fun _=>qpv:=fun call CO vs h K H=>by
 refine⟨⟨_,Tryz.func290,by kernel_rfl,by kernel_rfl⟩,?_⟩;obtain⟨m,hvs,H1⟩:=zq0 H;rcases zsi H1 with⟨_,hq⟩ | ⟨b,hm,H2⟩
 ·cases hq
 obtain⟨kk,l,hl,H3⟩:=zj2 H2;obtain⟨hn,H4⟩:=znz H3;clear H H1 H2 H3;subst hvs hm;refine⟨_,_,H4,fun base φ hc us R hv=>?_⟩;obtain⟨u,rfl,c1⟩:=qmy hv;simp only [cv,Option.map_eq_some_iff,if_true] at c1;obtain⟨x,hx,rfl⟩:=c1;obtain⟨_,es,ck,m1,m2,m3⟩:RelM φ kk l x hc:=(R.blk b _ x (R.idlt hx) hl hx).1;intro w hw;subst hw;refine(YcnYo.clone_in x.b es ck w m1).mono ?_;rintro e w' ⟨rfl,rfl⟩;refine⟨_,rfl,⟨rfl,rfl,rfl,rfl,fun k=>by cases k⟩,?_⟩;have hle:=Ph.up_le (x:=⟨w.heap.size,0,0⟩) R.fresh;obtain⟨R',X⟩:=R.new (k:=0) (bl:=.m .s l) (ob:=.map es ck) hn ⟨rfl,es,ck,by simp,m2,zp7 hle _ _ m3⟩;exact⟨_,X,R',by simp only [cv,Ph.up_eq,Option.map_some,if_true]⟩
end
end Go.V
end
section
namespace Go.V
open Go.Q Go.Q.Yo
noncomputable section
theorem qse (n:Nat):zg2 (n:Int)=((Nat.mod n 4294967296:Nat):Int):=by
 show IntKind.u32.wrap _=_
 rw [ztx];exact(Int.natCast_emod n 4294967296).symm
def adN (a b:Nat):Nat:=Nat.mod (Nat.add a b) 4294967296
theorem zuo (a b:Nat):adN a b<4294967296:=Nat.mod_lt _ (by decide)
theorem zqf (a b:Nat):zg2 ((a:Int)+(b:Int))=((adN a b:Nat):Int):=qse (a+b)
theorem qoi {k x:Nat} (h:k<4294967296) (e:x=k):wr .u32 (.ofNat x)=((k:Nat):Int):=by
 subst e;show ((Nat.mod x 4294967296:Nat):Int)=_;rw [show Nat.mod x 4294967296=x from Nat.mod_eq_of_lt h]
theorem zqk {a b:Nat} (ha:a<4294967296) (hb:b<4294967296):zaq .u32 (a:Int) (b:Int)=((Nat.xor a b:Nat):Int)/\Nat.xor a b<4294967296:=by
 have h:Nat.xor a b<4294967296:=Nat.xor_lt_two_pow (n:=32) ha hb;refine⟨?_,h⟩;unfold zaq;rw [← zwq];exact qoi h rfl
theorem zyj {a b:Nat} (ha:a<4294967296) (hb:b<4294967296):zbe .u32 (a:Int) (b:Int)=((Nat.land a b:Nat):Int)/\Nat.land a b<4294967296:=by
 have h:Nat.land a b<4294967296:=Nat.and_lt_two_pow (n:=32) a hb;refine⟨?_,h⟩;unfold zbe;rw [← zsw];exact qoi h rfl
theorem qm9 {a b:Nat} (ha:a<4294967296) (hb:b<4294967296):zlj .u32 (a:Int) (b:Int)=((Nat.lor a b:Nat):Int)/\Nat.lor a b<4294967296:=by
 have h:Nat.lor a b<4294967296:=Nat.or_lt_two_pow (n:=32) ha hb;refine⟨?_,h⟩;unfold zlj;rw [← zzi];exact qoi h rfl
theorem qat (x:Nat) {m:Nat} (hm:m<=32):shl .u32 (x:Int) m=((Nat.mod (Nat.shiftLeft x m) 4294967296:Nat):Int):=by
 rw [← zsv];show ((Nat.mod (Nat.shiftLeft x (Nat.min m 32)) 4294967296:Nat):Int)=_;rw [show Nat.min m 32=m from Nat.min_eq_left hm]
theorem qew (x:Nat) {m:Nat} (hm:m<=32):shr .u32 (x:Int) m=((Nat.shiftRight x m:Nat):Int):=by
 rw [← zp8];show ((Nat.shiftRight x (Nat.min m 32):Nat):Int)=_;rw [show Nat.min m 32=m from Nat.min_eq_left hm]
theorem qoy (x m:Nat):Nat.shiftRight x m<=x:=by
 show x >>> m<=x
 rw [Nat.shiftRight_eq_div_pow];exact Nat.div_le_self _ _
theorem qji {x m:Nat} (hx:x<4294967296):Nat.shiftRight x m<4294967296:=Nat.lt_of_le_of_lt (qoy x m) hx
def rtN (x m k:Nat):Nat:=Nat.lor (Nat.mod (Nat.shiftLeft x m) 4294967296) (Nat.shiftRight x k)
theorem zof {x:Nat} {n:Int} {m k:Nat} (hx:x<4294967296) (e1:(zbe .u64 (IntKind.u64.wrap n) 31).toNat=m) (e2:(IntKind.u64.wrap (32-zbe .u64 (IntKind.u64.wrap n) 31)).toNat=k) (hm:m<=32) (hk:k<=32):zth (x:Int) n=((rtN x m k:Nat):Int)/\rtN x m k<4294967296:=by
 unfold zth;rw [e1,e2,qat x hm,qew x hk];exact qm9 (Nat.mod_lt _ (by decide)) (qji hx)
def tN (x m1 k1 m2 k2 m3 k3:Nat):Nat:=Nat.xor (Nat.xor (rtN x m1 k1) (rtN x m2 k2)) (rtN x m3 k3)
def tC (x m1 k1 m2 k2 s:Nat):Nat:=Nat.xor (Nat.xor (rtN x m1 k1) (rtN x m2 k2)) (Nat.shiftRight x s)
abbrev Is (i:Int) (n:Nat):Prop:=i=(n:Int)/\n<4294967296
theorem qkk {x:Nat} {a b c:Int} {m1 k1 m2 k2 m3 k3:Nat} (r1:Is (zth (x:Int) (IntKind.i64.wrap (0-a))) (rtN x m1 k1)) (r2:Is (zth (x:Int) (IntKind.i64.wrap (0-b))) (rtN x m2 k2)) (r3:Is (zth (x:Int) (IntKind.i64.wrap (0-c))) (rtN x m3 k3)):Is (zfo (x:Int) a b c false) (tN x m1 k1 m2 k2 m3 k3):=by
 have h1:=zqk r1.2 r2.2;have h2:=zqk h1.2 r3.2;unfold zfo;rw [if_neg (by decide),r1.1,r2.1,r3.1,h1.1];exact h2
theorem ql6 {x:Nat} {a b c:Int} {m1 k1 m2 k2 s:Nat} (hx:x<4294967296) (r1:Is (zth (x:Int) (IntKind.i64.wrap (0-a))) (rtN x m1 k1)) (r2:Is (zth (x:Int) (IntKind.i64.wrap (0-b))) (rtN x m2 k2)) (hs:(IntKind.u64.wrap c).toNat=s) (hl:s<=32):Is (zfo (x:Int) a b c true) (tC x m1 k1 m2 k2 s):=by
 have h1:=zqk r1.2 r2.2;have h2:=zqk h1.2 (qji (m:=s) hx);unfold zfo;rw [if_pos rfl,r1.1,r2.1,h1.1,hs,qew x hl];exact h2
def sg0 (x:Nat):Nat:=tC x 25 7 14 18 3
def sg1 (x:Nat):Nat:=tC x 15 17 13 19 10
def bg1 (x:Nat):Nat:=tN x 26 6 21 11 7 25
def bg0 (x:Nat):Nat:=tN x 30 2 19 13 10 22
theorem qkp {x:Nat} (hx:x<4294967296):Is (zfo (x:Int) 7 18 3 true) (sg0 x):=ql6 hx (zof hx (by decide) (by decide) (by decide) (by decide)) (zof hx (by decide) (by decide) (by decide) (by decide)) (by decide) (by decide)
theorem qjq {x:Nat} (hx:x<4294967296):Is (zfo (x:Int) 17 19 10 true) (sg1 x):=ql6 hx (zof hx (by decide) (by decide) (by decide) (by decide)) (zof hx (by decide) (by decide) (by decide) (by decide)) (by decide) (by decide)
theorem qjt {x:Nat} (hx:x<4294967296):Is (zfo (x:Int) 6 11 25 false) (bg1 x):=qkk (zof hx (by decide) (by decide) (by decide) (by decide)) (zof hx (by decide) (by decide) (by decide) (by decide)) (zof hx (by decide) (by decide) (by decide) (by decide))
theorem qkt {x:Nat} (hx:x<4294967296):Is (zfo (x:Int) 2 13 22 false) (bg0 x):=qkk (zof hx (by decide) (by decide) (by decide) (by decide)) (zof hx (by decide) (by decide) (by decide) (by decide)) (zof hx (by decide) (by decide) (by decide) (by decide))
def chN (e f g:Nat):Nat:=Nat.xor (Nat.land e f) (Nat.land (Nat.xor 4294967295 e) g)
def mjN (a b c:Nat):Nat:=Nat.xor (Nat.xor (Nat.land a b) (Nat.land a c)) (Nat.land b c)
def t1N (e f g h k w:Nat):Nat:=adN (adN (adN (adN h (bg1 e)) (chN e f g)) k) w
def t2N (a b c:Nat):Nat:=adN (bg0 a) (mjN a b c)
abbrev cI (l:List Nat):List Int:=l.map Int.ofNat
abbrev A32 (l:List Nat):Prop:=∀ x∈l,x<4294967296
theorem qmo {V:List Int} {d e f g h k w:Nat} (h3:V.getD 4 0=(e:Int)) (h4:V.getD 5 0=(f:Int)) (h5:V.getD 6 0=(g:Int)) (h6:V.getD 7 0=(h:Int)) (he:e<4294967296) (hf:f<4294967296) (hg:g<4294967296):zz1 V (w:Int) (k:Int)=((t1N e f g h k w:Nat):Int):=by
 unfold zz1;have n:=zqk (a:=4294967295) (by decide) he;have x1:=zyj he hf;have x2:=zyj n.2 hg;have x3:=zqk x1.2 x2.2;have n1:zaq .u32 4294967295 (e:Int)=_:=n.1;rw [h3,h4,h5,h6,(qjt he).1,n1,x1.1,x2.1,x3.1,zqf,zqf,zqf,zqf];rfl
theorem qkf {V:List Int} {a b c:Nat} (h0:V.getD 0 0=(a:Int)) (h1:V.getD 1 0=(b:Int)) (h2:V.getD 2 0=(c:Int)) (ha:a<4294967296) (hb:b<4294967296) (hc:c<4294967296):qey V=((t2N a b c:Nat):Int):=by
 unfold qey;have x1:=zyj ha hb;have x2:=zyj ha hc;have x3:=zyj hb hc;have x4:=zqk x1.2 x2.2;have x5:=zqk x4.2 x3.2;rw [h0,h1,h2,(qkt ha).1,x1.1,x2.1,x3.1,x4.1,x5.1,zqf];rfl
theorem qj7 {a b c d e f g h k w:Nat} (hA:A32 [a,b,c,d,e,f,g,h]):rnd (cI [a,b,c,d,e,f,g,h]) (w:Int) (k:Int)=cI [adN (t1N e f g h k w) (t2N a b c),a,b,c,adN d (t1N e f g h k w),e,f,g]:=by
 have e1:zz1 (cI [a,b,c,d,e,f,g,h]) (w:Int) (k:Int)=((t1N e f g h k w:Nat):Int):=qmo (d:=d) rfl rfl rfl rfl (hA e (by simp)) (hA f (by simp)) (hA g (by simp));have e2:qey (cI [a,b,c,d,e,f,g,h])=((t2N a b c:Nat):Int):=qkf rfl rfl rfl (hA a (by simp)) (hA b (by simp)) (hA c (by simp));unfold rnd;rw [e1,e2];show [zg2 (((t1N e f g h k w:Nat):Int)+((t2N a b c:Nat):Int)),(a:Int),(b:Int),(c:Int),zg2 ((d:Int)+((t1N e f g h k w:Nat):Int)),(e:Int),(f:Int),(g:Int)]=_;rw [zqf,zqf];rfl
def qi2:List Int->List Int->List Int->List Int
 | V,k :: ks,w :: ws=>qi2 (rnd V w k) ks ws
 | V,_,_=>V
theorem zxm {V0 W:List Int} (hW:W.length=64):∀(m n:Nat),n+m=64->qi2 (zhw V0 W n) (rcL.drop n) (W.drop n)=zhw V0 W 64
 | 0,n,h=>by
  have:n=64:=by omega
  subst this;rw [List.drop_eq_nil_of_le (show W.length<=64 by omega),List.drop_eq_nil_of_le (show rcL.length<=64 by decide)]
  rfl
 | m+1,n,h=>by
  have hr:rcL.length=64:=rfl;rw [List.drop_eq_getElem_cons (show n<rcL.length by omega),List.drop_eq_getElem_cons (show n<W.length by omega)];show qi2 (rnd (zhw V0 W n) W[n] rcL[n]) _ _=_
  have e:zhw V0 W (n+1)=rnd (zhw V0 W n) (W[n]'(by omega)) (rcL[n]'(by omega)):=by
   show rnd (zhw V0 W n) (W.getD n 0) (rcL.getD n 0)=_
   congr 1 <;> simp [show n<W.length by omega,show n<rcL.length by omega]
  rw [← e];exact zxm hW m (n+1) (by omega)
def rds (ks:List Nat):List Nat->Nat->Nat->Nat->Nat->Nat->Nat->Nat->Nat->(Nat->Nat->Nat->Nat->Nat->Nat->Nat->Nat->Rs)->Rs :=
 List.rec (motive:=fun _=>List Nat->Nat->Nat->Nat->Nat->Nat->Nat->Nat->Nat->(Nat->Nat->Nat->Nat->Nat->Nat->Nat->Nat->Rs)->Rs) (fun _ a b c d e f g h K=>K a b c d e f g h)
  (fun k _ ih ws a b c d e f g h K=>List.rec (motive:=fun _=>Rs) false (fun w r _=>zb3 (t1N e f g h k w) fun t=>zb3 (adN t (t2N a b c)) fun a'=>zb3 (adN d t) fun e'=>ih r a' a b c e' e f g K) ws) ks
theorem qeh:∀(ks ws:List Nat) (a b c d e f g h:Nat) (K),A32 [a,b,c,d,e,f,g,h]->rds ks ws a b c d e f g h K=true->∃ a' b' c' d' e' f' g' h',K a' b' c' d' e' f' g' h'=true/\A32 [a',b',c',d',e',f',g',h']/\cI [a',b',c',d',e',f',g',h']=qi2 (cI [a,b,c,d,e,f,g,h]) (cI ks) (cI ws)
 | [],ws,a,b,c,d,e,f,g,h,K,hA,H=>⟨a,b,c,d,e,f,g,h,H,hA,by unfold qi2;rfl⟩
 | k :: ks,[],a,b,c,d,e,f,g,h,K,hA,H=>by cases H
 | k :: ks,w :: ws,a,b,c,d,e,f,g,h,K,hA,H=>by
  have H1:zb3 (t1N e f g h k w) (fun t=>zb3 (adN t (t2N a b c)) fun a'=>zb3 (adN d t) fun e'=>rds ks ws a' a b c e' e f g K)=true:=H;rw [natK_eq,natK_eq,natK_eq] at H1
  have hA':A32 [adN (t1N e f g h k w) (t2N a b c),a,b,c,adN d (t1N e f g h k w),e,f,g]:=by
   intro x hx;have m1:=zuo (t1N e f g h k w) (t2N a b c);have m2:=zuo d (t1N e f g h k w);generalize adN (t1N e f g h k w) (t2N a b c)=p at *;generalize adN d (t1N e f g h k w)=q at *;simp only [List.mem_cons,List.not_mem_nil,or_false] at hx;rcases hx with rfl | rfl | rfl | rfl | rfl | rfl | rfl | rfl
   ·exact m1
   ·exact hA _ (by simp)
   ·exact hA _ (by simp)
   ·exact hA _ (by simp)
   ·exact m2
   ·exact hA _ (by simp)
   ·exact hA _ (by simp)
   ·exact hA _ (by simp)
  obtain⟨a',b',c',d',e',f',g',h',K1,A1,E1⟩:=qeh ks ws _ _ _ _ _ _ _ _ K hA' H1;refine⟨a',b',c',d',e',f',g',h',K1,A1,?_⟩;rw [E1,← qj7 hA];rfl
def zrp (bl:List Int):Nat->List Int
 | 0=>[]
 | n+1=>zrp bl n++[zp2 bl (zrp bl n) n]
theorem zk5 (bl:List Int):∀ n,(zrp bl n).length=n
 | 0=>rfl
 | n+1=>by rw [zrp,List.length_append,zk5 bl n];rfl
theorem zmq {l m:List Int} {i:Nat} (h:i<l.length):(l++m).getD i 0=l.getD i 0:=by
 rw [List.getD_eq_getElem?_getD,List.getD_eq_getElem?_getD,List.getElem?_append_left h]
theorem zrz (bl:List Int):∀ n,n<=64->zb1 bl n=zrp bl n++List.replicate (64-n) 0
 | 0,_=>rfl
 | n+1,hn=>by
  have l:=zk5 bl n
  have ev:zp2 bl (zb1 bl n) n=zp2 bl (zrp bl n) n:=by
   rw [zrz bl n (by omega)];unfold zp2;split
   ·rfl
   ·rw [zmq (by omega),zmq (by omega),zmq (by omega),zmq (by omega)]
  rw [zb1,ev,zrz bl n (by omega),zrp,List.set_append_right _ _ (by omega),l,Nat.sub_self,show 64-n=(64-(n+1))+1 from by omega,List.replicate_succ,List.append_assoc];rfl
def sch (n:Nat):List Nat->(List Nat->Rs)->Rs:=Nat.rec (motive:=fun _=>List Nat->(List Nat->Rs)->Rs) (fun r K=>K r)
 (fun _ ih r K=>zlq (zgz 15 r) fun a=>zlq (zgz 14 r) fun b=>zlq (zgz 6 r) fun c=>zlq (zgz 1 r) fun d=>zb3 (adN (adN (adN a (sg0 b)) c) (sg1 d)) fun w=>ih (w :: r) K) n
theorem zub {r:List Nat} {W:List Int} (e:cI r=W.reverse) {j x:Nat} (h:(r.drop j)[0]? = some x):j<W.length/\W.getD (W.length-1-j) 0=(x:Int)/\r[j]? = some x:=by
 have h1:r[j]? = some x:=by rw [List.getElem?_drop] at h;exact h
 have h2:W.reverse[j]? = some (x:Int):=by rw [← e,List.getElem?_map,h1];rfl
 have hj:j<W.length:=by have:=(List.getElem?_eq_some_iff.1 h2).1;rwa [List.length_reverse] at this
 rw [List.getElem?_reverse hj] at h2;exact⟨hj,by rw [List.getD_eq_getElem?_getD,h2];rfl,h1⟩
theorem qd7 {bl:List Int}:∀(n i:Nat) (r:List Nat) (K:List Nat->Rs),16<=i->cI r=(zrp bl i).reverse->A32 r->sch n r K=true->∃ r',K r'=true/\cI r'=(zrp bl (i+n)).reverse/\A32 r'
 | 0,i,r,K,hi,e,hr,H=>⟨r,H,e,hr⟩
 | n+1,i,r,K,hi,e,hr,H=>by
  have H1:zlq (zgz 15 r) (fun a=>zlq (zgz 14 r) fun b=>zlq (zgz 6 r) fun c=>zlq (zgz 1 r) fun d=>zb3 (adN (adN (adN a (sg0 b)) c) (sg1 d)) fun w=>sch n (w :: r) K)=true:=H;obtain⟨a,ga,H2⟩:=zft H1;obtain⟨b,gb,H3⟩:=zft H2;obtain⟨c,gc,H4⟩:=zft H3;obtain⟨d,gd,H5⟩:=zft H4;rw [natK_eq] at H5;rw [dropL_eq] at ga gb gc gd;have l:=zk5 bl i;obtain⟨_,ea,ma⟩:=zub e ga;obtain⟨_,eb,mb⟩:=zub e gb;obtain⟨_,ec,mc⟩:=zub e gc;obtain⟨_,ed,md⟩:=zub e gd;rw [l] at ea eb ec ed;have hb:=hr b (List.mem_of_getElem? mb);have hd:=hr d (List.mem_of_getElem? md)
  have ew:zp2 bl (zrp bl i) i=((adN (adN (adN a (sg0 b)) c) (sg1 d):Nat):Int):=by
   unfold zp2;rw [if_neg (by omega),show i-16=i-1-15 from by omega,show i-15=i-1-14 from by omega,show i-7=i-1-6 from by omega,show i-2=i-1-1 from by omega,ea,eb,ec,ed,(qkp hb).1,(qjq hd).1];show zg2 (zg2 (zg2 ((a:Int)+((sg0 b:Nat):Int))+(c:Int))+((sg1 d:Nat):Int))=_;rw [zqf,zqf,zqf]
  obtain⟨r',K1,e1,a1⟩:=qd7 (bl:=bl) n (i+1) _ K (by omega) (by
   rw [zrp,List.reverse_append,← e,ew];rfl) (fun x hx=>by
   rcases List.mem_cons.1 hx with rfl | hx
   ·exact zuo _ _
   ·exact hr x hx) H5
  exact⟨r',K1,by rw [e1,show i+1+n=i+(n+1) from by omega],a1⟩
def wdN (a b c d:Nat):Nat:=Nat.lor (Nat.lor (Nat.lor (Nat.mod (Nat.shiftLeft a 24) 4294967296) (Nat.mod (Nat.shiftLeft b 16) 4294967296)) (Nat.mod (Nat.shiftLeft c 8) 4294967296)) d
theorem qjc {bl:List Int} {i a b c d:Nat} (ha:bl.getD (4*i) 0=(a:Int)) (hb:bl.getD (4*i+1) 0=(b:Int)) (hc:bl.getD (4*i+2) 0=(c:Int)) (hd:bl.getD (4*i+3) 0=(d:Int)) (la:a<256) (lb:b<256) (lc:c<256) (ld:d<256):Is (zkn bl i) (wdN a b c d):=by
 have w:∀ {n:Nat},n<256->IntKind.u32.wrap (n:Int)=(n:Int):=fun h=>by rw [ztx];omega
 have m:∀ x:Nat,Nat.mod x 4294967296<4294967296:=fun x=>Nat.mod_lt _ (by decide);have x1:=qm9 (m (Nat.shiftLeft a 24)) (m (Nat.shiftLeft b 16));have x2:=qm9 x1.2 (m (Nat.shiftLeft c 8));have x3:=qm9 x2.2 (b:=d) (by omega);unfold zkn;rw [ha,hb,hc,hd,w la,w lb,w lc,w ld,show (24:Int).toNat=24 from rfl,show (16:Int).toNat=16 from rfl,show (8:Int).toNat=8 from rfl,qat a (by decide),qat b (by decide),qat c (by decide),x1.1,x2.1];exact x3
def hdK {α:Type} (l:List α) (K:α->List α->Rs):Rs:=List.rec (motive:=fun _=>Rs) false (fun v r _=>K v r) l
theorem ztj {α:Type} {l:List α} {K:α->List α->Rs} (h:hdK l K=true):∃ v r,l=v :: r/\K v r=true:=by
 match l,h with
 | v :: r,h=>exact⟨v,r,rfl,h⟩
def wds (n:Nat):List Nat->List Nat->(List Nat->List Nat->Rs)->Rs:=Nat.rec (motive:=fun _=>List Nat->List Nat->(List Nat->List Nat->Rs)->Rs) (fun bs r K=>K bs r)
 (fun _ ih bs r K=>hdK bs fun a bs=>hdK bs fun b bs=>hdK bs fun c bs=>hdK bs fun d bs=>zb3 (wdN a b c d) fun w=>ih bs (w :: r) K) n
abbrev A8 (l:List Nat):Prop:=∀ x∈l,x<256
theorem qeb:∀(n:Nat) (bs r:List Nat) (K:List Nat->List Nat->Rs),A8 bs->wds n bs r K=true->∃ ws:List Nat,K (bs.drop (4*n)) (ws.reverse++r)=true/\ws.length=n/\4*n<=bs.length/\∀ i,i<n->∃ x,ws[i]? = some x/\Is (zkn (cI bs) i) x
 | 0,bs,r,K,hb,H=>⟨[],H,rfl,by omega,fun i hi=>by omega⟩
 | n+1,bs,r,K,hb,H=>by
  have H1:hdK bs (fun a bs=>hdK bs fun b bs=>hdK bs fun c bs=>hdK bs fun d bs=>zb3 (wdN a b c d) fun w=>wds n bs (w :: r) K)=true:=H;obtain⟨a,b1,rfl,H2⟩:=ztj H1;obtain⟨b,b2,rfl,H3⟩:=ztj H2;obtain⟨c,b3,rfl,H4⟩:=ztj H3;obtain⟨d,b4,rfl,H5⟩:=ztj H4;rw [natK_eq] at H5;obtain⟨ws,K1,l1,l2,g1⟩:=qeb n b4 _ K (fun x hx=>hb x (by simp [hx])) H5;refine⟨wdN a b c d :: ws,?_,by simp [l1],by simp only [List.length_cons];omega,fun i hi=>?_⟩
  ·rw [List.reverse_cons,List.append_assoc,show 4*(n+1)=4*n+1+1+1+1 from by omega]
   exact K1
  ·cases i with
   | zero=>exact⟨_,rfl,qjc (bl:=cI (a :: b :: c :: d :: b4)) (i:=0) rfl rfl rfl rfl (hb a (by simp)) (hb b (by simp)) (hb c (by simp)) (hb d (by simp))⟩
   | succ i =>
    obtain⟨x,hx,hw⟩:=g1 i (by omega);refine⟨x,by simpa using hx,?_⟩
    have:zkn (cI (a :: b :: c :: d :: b4)) (i+1)=zkn (cI b4) i:=by
     unfold zkn;rw [show 4*(i+1)+3=4*i+3+1+1+1+1 from by omega,show 4*(i+1)+2=4*i+2+1+1+1+1 from by omega,show 4*(i+1)+1=4*i+1+1+1+1+1 from by omega,show 4*(i+1)=4*i+1+1+1+1 from by omega];rfl
    rw [this];exact hw
end
end Go.V
end

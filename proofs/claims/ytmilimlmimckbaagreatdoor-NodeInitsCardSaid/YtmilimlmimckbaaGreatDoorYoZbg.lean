/- A part of the proof of statements of this seat: lemmas, no statement of their own. -/
import Derived.Test.YtmilimlmimckbaaGreatDoorYoZbf
import Derived.Test.YtmilimlmimckbaaGreatDoorYoZaf
import Derived.Test.YtmilimlmimckbaaGreatDoorYoZae
set_option linter.unusedVariables false
set_option linter.unusedSimpArgs false
set_option maxRecDepth 100000
set_option maxHeartbeats 1000000
section
namespace Go.Proofs
open Go.RowKit Go.Shelf Go.Maps
open Go.ChangeMaps (setBlock)
attribute [local go_sem] Oper.semAt_some
namespace YuYo
open YwYo (zdv ze4 zcc zjs mem_left zey)
def pcs (x:Int):List Value:=[.int .u64 x]
def pv (x:Int):Value:=.int .u64 x
set_option maxRecDepth 100000 in
set_option maxHeartbeats 2000000 in
theorem values1_in (F:Fence) (n:Nat) (h7:F.fn 307) (hro:F.round=none) (hn:1<=n) (l Bm om b ck:Nat) (es:Array MapEntry) (J Jx:List Int->World->Prop)
  (hcs:∀ x∈es.toList,∃ q:Int,x.key=pv q) (hold:∀ x∈es.toList,x.born<ck) (hnd:(es.toList.map (·.born)).Nodup)
  (hY:∀ pre x W,J pre W->pre.length<es.size->YieldAt F (n-1) Tryz.prog l #[pv x] W fun e W' =>
   (e = .returned (.bool true)/\J (pre++[x]) W'/\KeepsWalks W W')∨(e = .returned (.bool false)/\Jx (pre++[x]) W'))
  (W:World) (hJ:AbidesFrom W.heap.size J) (hm:W.cell? ⟨Bm,om,none⟩=some (.map (some b))) (hb:W.heap[b]? = some (.map es ck)) (h0:J [] W) :
  CallsIn F n Tryz.prog 307 #[.func (.yield l) #[] #[],.pointer (some ⟨Bm,om,none⟩)] W fun e W'=>(∃ v,e = .returned v) /\
   ((∃ ys,(ys.map pv).Perm (es.toList.map (·.key))/\J ys W')∨(∃ pre,True/\Jx pre W')):=by
 refine callsIn_of_wp Tryz.func307 rfl h7 ?_ hro;simp only [Tryz.ntmps307,List.size_toArray,List.length_cons,List.length_nil,Nat.reduceAdd,Nat.reduceSub,Array.replicate_succ,Array.replicate_zero,List.push_toArray,List.append_toArray,List.nil_append,List.cons_append]
 gi_wp2_with (first
  | (gi_at_range;refine zdv rfl _ 253 rfl 26 251 Tryz.underlying253 b ck es rfl hb ?_)
  | gi_in)
 go_frame
 gi_loopw [3] (fun _ wr=>∃(seen:Array Nat) (ys:List MapEntry) (c0:Nat),wr.heap[W.heap.size]? = some (.mapIter (some b) ck seen c0)/\ck<=c0/\wr.heap[b]? = some (.map es ck)/\seen.toList=ys.map (·.born)/\(∀ y∈ys,y∈es.toList)/\(ys.map (·.born)).Nodup/\∃ qs,qs.map pv=ys.map (·.key)/\J qs wr)
  (fun _ wr=>match wr.heap[W.heap.size]? with | some (.mapIter _ _ seen _)=>es.size-seen.size | _=>0)
 case atStart =>
  refine⟨#[],[],ck,World.alloc_heap_new _ _,Nat.le_refl _,?_,rfl,by simp,by simp,[],rfl,hJ [] W _ none h0 ⟨rfl,rfl,rfl,by simp,fun k hk _=>Below.heap_alloc _ _ k hk⟩ (fun r e=>by cases e)⟩;exact(Below.heap_alloc _ _ b (Array.getElem?_eq_some_iff.1 hb).1).trans hb
 case round =>
  obtain⟨seen,ys,c0,hr,hc0,hbr,hse,hys,hyn,qs,hqs,hJs⟩:=hrel
  gi_wp2_with (first
   | (gi_at_next;refine ze4 rfl _ rfl W.heap.size b ck c0 seen es ck rfl hr hbr hold hc0 ?_ ?_)
   | gi_in)
  ·intro hl
   gi_wp2
   go_end0
   exact⟨⟨_,rfl⟩,.inl ⟨qs,hqs ▸ (zey hnd hse hys hyn hl).map _,hJs⟩⟩
  ·intro x w2 hx hg2 hs2 hr2
   have hxm:x∈es.toList:=(YwYo.mem_left (by simpa using hx)).1;have hbw:b≠W.heap.size:=by have:=(Array.getElem?_eq_some_iff.1 hb).1;omega
   have hb2:w2.heap[b]? = some (.map es ck):=(hg2.block b (Array.getElem?_eq_some_iff.1 hbr).1 (fun e=>hbw (Option.some.inj e))).trans hbr;have hen:=run_entry_at (P:=Tryz.prog) w2 W.heap.size b ck seen es ck x hr2 hb2 hxm hnd;obtain⟨s',hv⟩:=hcs x hxm;have hY':=hY qs s';simp only [pv] at hY';rw [hv] at hen ⊢;simp only [pv] at hen ⊢;have hx2:x.born ∉ seen.toList:=(YwYo.mem_left (by simpa using hx)).2
   have hlen:ys.length<es.size:=by
    have:=zjs ((x :: ys).map (·.born)) (es.toList.map (·.born)) (by rw [List.map_cons,List.nodup_cons,← hse];exact⟨hx2,hse ▸ hyn⟩) (fun k hk=>by
     obtain⟨y,hy,rfl⟩:=List.mem_map.1 hk
     exact List.mem_map.2 ⟨y,(List.mem_cons.1 hy).elim (fun e=>e ▸ hxm) (hys y),rfl⟩)
    simp at this;omega
   have hJ2:J qs w2:=hJ qs wr w2 (some W.heap.size) hJs hg2 (fun r e=>by cases e;exact⟨Nat.le_refl _,_,hr,rfl⟩);obtain⟨fn,tmps,assign,body,hy,hR⟩:=hY' _ hJ2 (by have:=congrArg List.length hqs;simp at this;omega);clear hs2
   gi_wp2
   refine hR.mono ?_;rintro e W3 (⟨rfl,hJ4,hk4⟩ | ⟨rfl,hJx4⟩)
   ·gi_wp2
    have hr4:=hk4.same _ _ hr2 rfl;have hb4:=hk4.same _ _ hb2 rfl
    go_roundw
    case rel =>
     refine⟨seen.push x.born,ys++[x],ck,hr4,Nat.le_refl _,hb4,by simp [hse],fun y hy=>(List.mem_append.1 hy).elim (hys y) (fun e=>by simp at e;exact e ▸ hxm),?_,qs++[s'],by rw [List.map_append,List.map_append,hqs];simp [hv],hJ4⟩;rw [List.map_append,List.nodup_append];refine⟨hyn,by simp,fun a ha b hb e=>?_⟩;simp at hb;subst hb;rw [← hse] at ha;exact hx2 (e ▸ ha)
    case measure =>
     rw [hr4,hr];have:seen.size=ys.length:=by rw [← Array.length_toList,hse,List.length_map]
     simp;omega
   ·gi_wp2
    refine bodyPost_ret (results_none rfl _ _ _) rfl ?_;exact⟨⟨_,rfl⟩,.inr ⟨_,trivial,hJx4⟩⟩
theorem values_stops (F:Fence) (n:Nat) (h7:F.fn 307) (hro:F.round=none) (hn:1<=n) (Bm om b ck:Nat) (es:Array MapEntry) (w:World)
  (hcs:∀ x∈es.toList,∃ q:Int,x.key=pv q) (hold:∀ x∈es.toList,x.born<ck) (hnd:(es.toList.map (·.born)).Nodup)
  (hBm:Bm<w.heap.size) (hm:w.cell? ⟨Bm,om,none⟩=some (.map (some b))) (hb:w.heap[b]? = some (.map es ck)) :
  SeqStopsK F n Tryz.prog 307 #[.pointer (some ⟨Bm,om,none⟩)] (fun x:Int=>#[pv x]) KeepsWalks (fun ys=>(ys.map pv).Perm (es.toList.map (·.key))) (fun _=>True) es.size w:=fun l J Jx W hW hJ _ hY h0 =>
 values1_in F n h7 hro hn l Bm om b ck es J Jx hcs hold hnd hY W hJ ((hW.cell (p:=⟨Bm,om,none⟩) hBm).trans hm) ((hW.block b (Array.getElem?_eq_some_iff.1 hb).1).trans hb) h0
theorem infoP:(Tryz.prog.info? 26).map (fun i=>(i.zero,i.size,i.bytes))=some (some (.int .u64 0),1,8):=by kernel_rfl
set_option maxRecDepth 100000 in
set_option maxHeartbeats 2000000 in
theorem appendSeq_in (F:Fence) (n:Nat) (h3:F.fn 410) (h7:F.fn 307) (hro:F.round=none) (hn:3<=n) (Bs om b ck:Nat) (es:Array MapEntry) (w:World)
  (hcs:∀ x∈es.toList,∃ q:Int,x.key=pv q) (hold:∀ x∈es.toList,x.born<ck) (hnd:(es.toList.map (·.born)).Nodup) (hlen:es.size<=1000000)
  (hBs:Bs<w.heap.size) (hm:w.cell? ⟨Bs,om,none⟩=some (.map (some b))) (hb:w.heap[b]? = some (.map es ck)) :
  CallsIn F n Tryz.prog 410 #[.slice none 0 0,.func (.func 307) #[] #[.pointer (some ⟨Bs,om,none⟩)]] w fun e W'=>∃(v:Value) (ys:List Int),e = .returned v/\(ys.map pv).Perm (es.toList.map (·.key))/\W'.ownsRow w.heap.size 26 1 v ys.length (ys.flatMap pcs)/\(ys=[]->v = .slice none 0 0)/\Below w.heap.size w W':=by
 have h1:1<=n:=by omega
 obtain⟨i0,hi,hz0,hz1,hz2⟩:=info_parts infoP;refine callsIn_of_wp_marks Tryz.func410 rfl h3 ?_ hro;simp only [Tryz.ntmps410,List.size_toArray,List.length_cons,List.length_nil,Nat.reduceAdd,Nat.reduceSub,Array.replicate_succ,Array.replicate_zero,List.push_toArray,List.append_toArray,List.nil_append,List.cons_append]
 gi_wp2
 have bO:=Boxed.new w 112 (.slice none 0 0);have hB0:Below w.heap.size w (w.alloc (.cells #[.slice none 0 0] 112)):=(Below.refl _ w).alloc (Nat.le_refl _) _
 refine wpIn_rangeFunc_ownH hro h1 (gf:=307) (lb:=#[.pointer (some ⟨Bs,om,none⟩)]) rfl h7 (enters_of Tryz.func307 (by kernel_rfl) rfl)
  (values_stops F (n-1) h7 hro (by omega) Bs om b ck es _ hcs hold hnd (by simp;omega) ((hB0.cell (p:=⟨Bs,om,none⟩) hBs).trans hm) ((hB0.block b (Array.getElem?_eq_some_iff.1 hb).1).trans hb)) walksK_t walksK_b (Below.refl _ _) (fun _=>rfl)
  (fun pre W=>(∃ v,Boxed W w.heap.size 112 v/\W.ownsRow w.heap.size 26 1 v pre.length (pre.flatMap pcs)/\(pre=[]->v = .slice none 0 0))/\Below w.heap.size w W)
  (fun _ _ _=>False)
  (OwnFrom.and (Own.from (holdsRow_own w.heap.size w.heap.size 112 26 1 (fun pre:List Int=>pre.length) (fun pre=>pre.flatMap pcs) (fun pre v=>pre=[]->v = .slice none 0 0)) _) (ownFrom_below (Nat.le_refl _) (by simp)))
  (fun _ _ _ _ _ hs _ _=>hs)
  ⟨⟨_,bO,World.ownsRow_nil _ _ _ _,fun _=>rfl⟩,hB0⟩
  (fun x a' W=>a' = { tmps:=#[.slice none 0 0,.func (.func 307) #[] #[.pointer (some ⟨Bs,om,none⟩)],.pointer (some ⟨w.heap.size,0,none⟩),undef,.slice none 0 0,.int .u64 x,.func (.func 307) #[] #[.pointer (some ⟨Bs,om,none⟩)],pv x,undef,undef,undef,undef,undef],defers:=[] })
  ?ax ?assign ?body ?done ?stop
 case ax =>
  rintro x a' _ X Y row h hg hr;exact h
 case assign =>
  intro l pre x W K hI hK;simp only [pv]
  gi_wp2
  exact hK _ _ (KeepsFrom.refl _ _) (KeepsWalks.refl _) hI rfl
 case body =>
  rintro l pre x a' W hwl - ⟨⟨v,hv,hrow,_⟩,hB⟩ rfl hlt;have hc:=hv.cell
  gi_wp2_with (gi_at_builtin;refine wpListIn_append_own _ rfl _ _ 112 rfl w.heap.size 26 i0 (.int .u64 0) 1 8 Tryz.underlying112 hi hz0 hz1 hz2 rfl (by decide) _ _ _ rfl (hrow.alloc _) ⟨W.heap.size,0,none⟩ 1 1 [.int .u64 x] rfl rfl (cell_one_new _ _ _) (by simp [Value.oneCell']) (by simp [maxLen];omega) (by omega) (by have:=hB.size;simp;omega) ?_;intro v' w1 hown' hgrow _;obtain⟨g',cap',rfl⟩:=ownsRow_succ hown';obtain⟨hv1,hv2,hr2,hk2,hb2⟩:=hv.appended (by decide) hrow hB.size (Nat.le_refl _) hown' hgrow;have hc1:=hv1.cell;have hf1:=hv1.frozen)
  exact⟨hk2.from _,⟨hk2.size,fun k o hk hw=>hk2.same k o hk (Obj.not_cells_of_walk hw)⟩,⟨_,hv2,by rw [show (pre++[x]).length=pre.length+1 from by simp,show (pre++[x]).flatMap pcs=pre.flatMap pcs++pcs x from by rw [List.flatMap_append,List.flatMap_cons,List.flatMap_nil,List.append_nil]];exact⟨hr2,fun h=>by simp at h⟩⟩,hB.trans hb2⟩
 case done =>
  rintro D ys W hD hS ⟨⟨v,hv,hrow,hnil⟩,hB⟩ hK;have hc:=hv.cell
  gi_wp2
  refine⟨by simp,.inl ⟨_,_,rfl,run_takeDeferred hK,?_⟩⟩;exact⟨_,results_tmp rfl _ _ _,v,ys,rfl,hS,ownsRow_putObj hrow _ hK rfl,hnil,hB.trans (belowK_b (w:=w) (Nat.le_refl _) W D _ _ (by simp at hD;omega) hK rfl rfl)⟩
 case stop =>
  rintro D c pre W _ _ h _;exact h.elim
set_option maxHeartbeats 1000000 in
theorem collect_in (F:Fence) (n:Nat) (h8:F.fn 305) (h3:F.fn 410) (h7:F.fn 307) (hro:F.round=none) (hn:4<=n) (Bs om b ck:Nat) (es:Array MapEntry) (w:World)
  (hcs:∀ x∈es.toList,∃ q:Int,x.key=pv q) (hold:∀ x∈es.toList,x.born<ck) (hnd:(es.toList.map (·.born)).Nodup) (hlen:es.size<=1000000)
  (hBs:Bs<w.heap.size) (hm:w.cell? ⟨Bs,om,none⟩=some (.map (some b))) (hb:w.heap[b]? = some (.map es ck)) :
  CallsIn F n Tryz.prog 305 #[.func (.func 307) #[] #[.pointer (some ⟨Bs,om,none⟩)]] w fun e W'=>∃(v:Value) (ys:List Int),e = .returned v/\(ys.map pv).Perm (es.toList.map (·.key))/\W'.ownsRow w.heap.size 26 1 v ys.length (ys.flatMap pcs)/\(ys=[]->v = .slice none 0 0)/\Below w.heap.size w W':=by
 have h1:1<=n:=by omega
 refine callsIn_of_wp Tryz.func305 rfl h8 ?_ hro;simp only [Tryz.ntmps305,List.size_toArray,List.length_cons,List.length_nil,Nat.reduceAdd,Nat.reduceSub,Array.replicate_succ,Array.replicate_zero,List.push_toArray,List.append_toArray,List.nil_append,List.cons_append]
 gi_wp2_with (gi_at_call 410;refine(appendSeq_in F (n-1) h3 h7 hro (by omega) Bs om b ck es _ hcs hold hnd hlen hBs hm hb).mono ?_;rintro e w' ⟨v,ys,rfl,hS,hrow,hnil,hb2⟩)
 go_ret
 exact⟨v,ys,rfl,hS,hrow,hnil,hb2⟩
end YuYo
end Go.Proofs
end
section
namespace Go.Proofs
open Go.RowKit Go.Shelf Go.Maps
open Go.ChangeMaps (setBlock)
attribute [local go_sem] Oper.semAt_some
namespace YusYo
open YwYo (zdv ze4 zcc zjs mem_left zey)
def pcs (x:ByteArray):List Value:=[.string x]
def pv (x:ByteArray):Value:=.string x
set_option maxRecDepth 100000 in
set_option maxHeartbeats 2000000 in
theorem values1_in (F:Fence) (n:Nat) (h7:F.fn 285) (hro:F.round=none) (hn:1<=n) (l Bm om b ck:Nat) (es:Array MapEntry) (J Jx:List ByteArray->World->Prop)
  (hcs:∀ x∈es.toList,∃ q:ByteArray,x.key=pv q) (hold:∀ x∈es.toList,x.born<ck) (hnd:(es.toList.map (·.born)).Nodup)
  (hY:∀ pre x W,J pre W->pre.length<es.size->YieldAt F (n-1) Tryz.prog l #[pv x] W fun e W' =>
   (e = .returned (.bool true)/\J (pre++[x]) W'/\KeepsWalks W W')∨(e = .returned (.bool false)/\Jx (pre++[x]) W'))
  (W:World) (hJ:AbidesFrom W.heap.size J) (hm:W.cell? ⟨Bm,om,none⟩=some (.map (some b))) (hb:W.heap[b]? = some (.map es ck)) (h0:J [] W) :
  CallsIn F n Tryz.prog 285 #[.func (.yield l) #[] #[],.pointer (some ⟨Bm,om,none⟩)] W fun e W'=>(∃ v,e = .returned v) /\
   ((∃ ys,(ys.map pv).Perm (es.toList.map (·.key))/\J ys W')∨(∃ pre,True/\Jx pre W')):=by
 refine callsIn_of_wp Tryz.func285 rfl h7 ?_ hro;simp only [Tryz.ntmps285,List.size_toArray,List.length_cons,List.length_nil,Nat.reduceAdd,Nat.reduceSub,Array.replicate_succ,Array.replicate_zero,List.push_toArray,List.append_toArray,List.nil_append,List.cons_append]
 gi_wp2_with (first
  | (gi_at_range;refine zdv rfl _ 238 rfl 9 86 Tryz.underlying238 b ck es rfl hb ?_)
  | gi_in)
 go_frame
 gi_loopw [3] (fun _ wr=>∃(seen:Array Nat) (ys:List MapEntry) (c0:Nat),wr.heap[W.heap.size]? = some (.mapIter (some b) ck seen c0)/\ck<=c0/\wr.heap[b]? = some (.map es ck)/\seen.toList=ys.map (·.born)/\(∀ y∈ys,y∈es.toList)/\(ys.map (·.born)).Nodup/\∃ qs,qs.map pv=ys.map (·.key)/\J qs wr)
  (fun _ wr=>match wr.heap[W.heap.size]? with | some (.mapIter _ _ seen _)=>es.size-seen.size | _=>0)
 case atStart =>
  refine⟨#[],[],ck,World.alloc_heap_new _ _,Nat.le_refl _,?_,rfl,by simp,by simp,[],rfl,hJ [] W _ none h0 ⟨rfl,rfl,rfl,by simp,fun k hk _=>Below.heap_alloc _ _ k hk⟩ (fun r e=>by cases e)⟩;exact(Below.heap_alloc _ _ b (Array.getElem?_eq_some_iff.1 hb).1).trans hb
 case round =>
  obtain⟨seen,ys,c0,hr,hc0,hbr,hse,hys,hyn,qs,hqs,hJs⟩:=hrel
  gi_wp2_with (first
   | (gi_at_next;refine ze4 rfl _ rfl W.heap.size b ck c0 seen es ck rfl hr hbr hold hc0 ?_ ?_)
   | gi_in)
  ·intro hl
   gi_wp2
   go_end0
   exact⟨⟨_,rfl⟩,.inl ⟨qs,hqs ▸ (zey hnd hse hys hyn hl).map _,hJs⟩⟩
  ·intro x w2 hx hg2 hs2 hr2
   have hxm:x∈es.toList:=(YwYo.mem_left (by simpa using hx)).1;have hbw:b≠W.heap.size:=by have:=(Array.getElem?_eq_some_iff.1 hb).1;omega
   have hb2:w2.heap[b]? = some (.map es ck):=(hg2.block b (Array.getElem?_eq_some_iff.1 hbr).1 (fun e=>hbw (Option.some.inj e))).trans hbr;have hen:=run_entry_at (P:=Tryz.prog) w2 W.heap.size b ck seen es ck x hr2 hb2 hxm hnd;obtain⟨s',hv⟩:=hcs x hxm;have hY':=hY qs s';simp only [pv] at hY';rw [hv] at hen ⊢;simp only [pv] at hen ⊢;have hx2:x.born ∉ seen.toList:=(YwYo.mem_left (by simpa using hx)).2
   have hlen:ys.length<es.size:=by
    have:=zjs ((x :: ys).map (·.born)) (es.toList.map (·.born)) (by rw [List.map_cons,List.nodup_cons,← hse];exact⟨hx2,hse ▸ hyn⟩) (fun k hk=>by
     obtain⟨y,hy,rfl⟩:=List.mem_map.1 hk
     exact List.mem_map.2 ⟨y,(List.mem_cons.1 hy).elim (fun e=>e ▸ hxm) (hys y),rfl⟩)
    simp at this;omega
   have hJ2:J qs w2:=hJ qs wr w2 (some W.heap.size) hJs hg2 (fun r e=>by cases e;exact⟨Nat.le_refl _,_,hr,rfl⟩);obtain⟨fn,tmps,assign,body,hy,hR⟩:=hY' _ hJ2 (by have:=congrArg List.length hqs;simp at this;omega);clear hs2
   gi_wp2
   refine hR.mono ?_;rintro e W3 (⟨rfl,hJ4,hk4⟩ | ⟨rfl,hJx4⟩)
   ·gi_wp2
    have hr4:=hk4.same _ _ hr2 rfl;have hb4:=hk4.same _ _ hb2 rfl
    go_roundw
    case rel =>
     refine⟨seen.push x.born,ys++[x],ck,hr4,Nat.le_refl _,hb4,by simp [hse],fun y hy=>(List.mem_append.1 hy).elim (hys y) (fun e=>by simp at e;exact e ▸ hxm),?_,qs++[s'],by rw [List.map_append,List.map_append,hqs];simp [hv],hJ4⟩;rw [List.map_append,List.nodup_append];refine⟨hyn,by simp,fun a ha b hb e=>?_⟩;simp at hb;subst hb;rw [← hse] at ha;exact hx2 (e ▸ ha)
    case measure =>
     rw [hr4,hr];have:seen.size=ys.length:=by rw [← Array.length_toList,hse,List.length_map]
     simp;omega
   ·gi_wp2
    refine bodyPost_ret (results_none rfl _ _ _) rfl ?_;exact⟨⟨_,rfl⟩,.inr ⟨_,trivial,hJx4⟩⟩
theorem values_stops (F:Fence) (n:Nat) (h7:F.fn 285) (hro:F.round=none) (hn:1<=n) (Bm om b ck:Nat) (es:Array MapEntry) (w:World)
  (hcs:∀ x∈es.toList,∃ q:ByteArray,x.key=pv q) (hold:∀ x∈es.toList,x.born<ck) (hnd:(es.toList.map (·.born)).Nodup)
  (hBm:Bm<w.heap.size) (hm:w.cell? ⟨Bm,om,none⟩=some (.map (some b))) (hb:w.heap[b]? = some (.map es ck)) :
  SeqStopsK F n Tryz.prog 285 #[.pointer (some ⟨Bm,om,none⟩)] (fun x:ByteArray=>#[pv x]) KeepsWalks (fun ys=>(ys.map pv).Perm (es.toList.map (·.key))) (fun _=>True) es.size w:=fun l J Jx W hW hJ _ hY h0 =>
 values1_in F n h7 hro hn l Bm om b ck es J Jx hcs hold hnd hY W hJ ((hW.cell (p:=⟨Bm,om,none⟩) hBm).trans hm) ((hW.block b (Array.getElem?_eq_some_iff.1 hb).1).trans hb) h0
theorem infoP:(Tryz.prog.info? 9).map (fun i=>(i.zero,i.size,i.bytes))=some (some (.string ByteArray.empty),1,16):=by kernel_rfl
set_option maxRecDepth 100000 in
set_option maxHeartbeats 2000000 in
theorem appendSeq_in (F:Fence) (n:Nat) (h3:F.fn 379) (h7:F.fn 285) (hro:F.round=none) (hn:3<=n) (Bs om b ck:Nat) (es:Array MapEntry) (w:World)
  (hcs:∀ x∈es.toList,∃ q:ByteArray,x.key=pv q) (hold:∀ x∈es.toList,x.born<ck) (hnd:(es.toList.map (·.born)).Nodup) (hlen:es.size<=1000000)
  (hBs:Bs<w.heap.size) (hm:w.cell? ⟨Bs,om,none⟩=some (.map (some b))) (hb:w.heap[b]? = some (.map es ck)) :
  CallsIn F n Tryz.prog 379 #[.slice none 0 0,.func (.func 285) #[] #[.pointer (some ⟨Bs,om,none⟩)]] w fun e W'=>∃(v:Value) (ys:List ByteArray),e = .returned v/\(ys.map pv).Perm (es.toList.map (·.key))/\W'.ownsRow w.heap.size 9 1 v ys.length (ys.flatMap pcs)/\(ys=[]->v = .slice none 0 0)/\Below w.heap.size w W':=by
 have h1:1<=n:=by omega
 obtain⟨i0,hi,hz0,hz1,hz2⟩:=info_parts infoP;refine callsIn_of_wp_marks Tryz.func379 rfl h3 ?_ hro;simp only [Tryz.ntmps379,List.size_toArray,List.length_cons,List.length_nil,Nat.reduceAdd,Nat.reduceSub,Array.replicate_succ,Array.replicate_zero,List.push_toArray,List.append_toArray,List.nil_append,List.cons_append]
 gi_wp2
 have bO:=Boxed.new w 343 (.slice none 0 0);have hB0:Below w.heap.size w (w.alloc (.cells #[.slice none 0 0] 343)):=(Below.refl _ w).alloc (Nat.le_refl _) _
 refine wpIn_rangeFunc_ownH hro h1 (gf:=285) (lb:=#[.pointer (some ⟨Bs,om,none⟩)]) rfl h7 (enters_of Tryz.func285 (by kernel_rfl) rfl)
  (values_stops F (n-1) h7 hro (by omega) Bs om b ck es _ hcs hold hnd (by simp;omega) ((hB0.cell (p:=⟨Bs,om,none⟩) hBs).trans hm) ((hB0.block b (Array.getElem?_eq_some_iff.1 hb).1).trans hb)) walksK_t walksK_b (Below.refl _ _) (fun _=>rfl)
  (fun pre W=>(∃ v,Boxed W w.heap.size 343 v/\W.ownsRow w.heap.size 9 1 v pre.length (pre.flatMap pcs)/\(pre=[]->v = .slice none 0 0))/\Below w.heap.size w W)
  (fun _ _ _=>False)
  (OwnFrom.and (Own.from (holdsRow_own w.heap.size w.heap.size 343 9 1 (fun pre:List ByteArray=>pre.length) (fun pre=>pre.flatMap pcs) (fun pre v=>pre=[]->v = .slice none 0 0)) _) (ownFrom_below (Nat.le_refl _) (by simp)))
  (fun _ _ _ _ _ hs _ _=>hs)
  ⟨⟨_,bO,World.ownsRow_nil _ _ _ _,fun _=>rfl⟩,hB0⟩
  (fun x a' W=>a' = { tmps:=#[.slice none 0 0,.func (.func 285) #[] #[.pointer (some ⟨Bs,om,none⟩)],.pointer (some ⟨w.heap.size,0,none⟩),undef,.slice none 0 0,.string x,.func (.func 285) #[] #[.pointer (some ⟨Bs,om,none⟩)],pv x,undef,undef,undef,undef,undef],defers:=[] })
  ?ax ?assign ?body ?done ?stop
 case ax =>
  rintro x a' _ X Y row h hg hr;exact h
 case assign =>
  intro l pre x W K hI hK;simp only [pv]
  gi_wp2
  exact hK _ _ (KeepsFrom.refl _ _) (KeepsWalks.refl _) hI rfl
 case body =>
  rintro l pre x a' W hwl - ⟨⟨v,hv,hrow,_⟩,hB⟩ rfl hlt;have hc:=hv.cell
  gi_wp2_with (gi_at_builtin;refine wpListIn_append_own _ rfl _ _ 343 rfl w.heap.size 9 i0 (.string ByteArray.empty) 1 16 Tryz.underlying343 hi hz0 hz1 hz2 rfl (by decide) _ _ _ rfl (hrow.alloc _) ⟨W.heap.size,0,none⟩ 1 1 [.string x] rfl rfl (cell_one_new _ _ _) (by simp [Value.oneCell']) (by simp [maxLen];omega) (by omega) (by have:=hB.size;simp;omega) ?_;intro v' w1 hown' hgrow _;obtain⟨g',cap',rfl⟩:=ownsRow_succ hown';obtain⟨hv1,hv2,hr2,hk2,hb2⟩:=hv.appended (by decide) hrow hB.size (Nat.le_refl _) hown' hgrow;have hc1:=hv1.cell;have hf1:=hv1.frozen)
  exact⟨hk2.from _,⟨hk2.size,fun k o hk hw=>hk2.same k o hk (Obj.not_cells_of_walk hw)⟩,⟨_,hv2,by rw [show (pre++[x]).length=pre.length+1 from by simp,show (pre++[x]).flatMap pcs=pre.flatMap pcs++pcs x from by rw [List.flatMap_append,List.flatMap_cons,List.flatMap_nil,List.append_nil]];exact⟨hr2,fun h=>by simp at h⟩⟩,hB.trans hb2⟩
 case done =>
  rintro D ys W hD hS ⟨⟨v,hv,hrow,hnil⟩,hB⟩ hK;have hc:=hv.cell
  gi_wp2
  refine⟨by simp,.inl ⟨_,_,rfl,run_takeDeferred hK,?_⟩⟩;exact⟨_,results_tmp rfl _ _ _,v,ys,rfl,hS,ownsRow_putObj hrow _ hK rfl,hnil,hB.trans (belowK_b (w:=w) (Nat.le_refl _) W D _ _ (by simp at hD;omega) hK rfl rfl)⟩
 case stop =>
  rintro D c pre W _ _ h _;exact h.elim
set_option maxHeartbeats 1000000 in
theorem collect_in (F:Fence) (n:Nat) (h8:F.fn 283) (h3:F.fn 379) (h7:F.fn 285) (hro:F.round=none) (hn:4<=n) (Bs om b ck:Nat) (es:Array MapEntry) (w:World)
  (hcs:∀ x∈es.toList,∃ q:ByteArray,x.key=pv q) (hold:∀ x∈es.toList,x.born<ck) (hnd:(es.toList.map (·.born)).Nodup) (hlen:es.size<=1000000)
  (hBs:Bs<w.heap.size) (hm:w.cell? ⟨Bs,om,none⟩=some (.map (some b))) (hb:w.heap[b]? = some (.map es ck)) :
  CallsIn F n Tryz.prog 283 #[.func (.func 285) #[] #[.pointer (some ⟨Bs,om,none⟩)]] w fun e W'=>∃(v:Value) (ys:List ByteArray),e = .returned v/\(ys.map pv).Perm (es.toList.map (·.key))/\W'.ownsRow w.heap.size 9 1 v ys.length (ys.flatMap pcs)/\(ys=[]->v = .slice none 0 0)/\Below w.heap.size w W':=by
 have h1:1<=n:=by omega
 refine callsIn_of_wp Tryz.func283 rfl h8 ?_ hro;simp only [Tryz.ntmps283,List.size_toArray,List.length_cons,List.length_nil,Nat.reduceAdd,Nat.reduceSub,Array.replicate_succ,Array.replicate_zero,List.push_toArray,List.append_toArray,List.nil_append,List.cons_append]
 gi_wp2_with (gi_at_call 379;refine(appendSeq_in F (n-1) h3 h7 hro (by omega) Bs om b ck es _ hcs hold hnd hlen hBs hm hb).mono ?_;rintro e w' ⟨v,ys,rfl,hS,hrow,hnil,hb2⟩)
 go_ret
 exact⟨v,ys,rfl,hS,hrow,hnil,hb2⟩
end YusYo
end Go.Proofs
end
section
namespace Go.Q.Yo
def zcy (p0:Value) (k:Slc->zaa->Prop) (h:zaa):Prop:=CallsH Go.Proofs.Tryz.prog 305 #[p0] h (fun v h'=>∃ r:Slc,v=Slc.v r/\k r h')
theorem zgm:zad Go.Proofs.Tryz.prog 305:=⟨_,Go.Proofs.Tryz.func305,by kernel_rfl,by kernel_rfl⟩
theorem zgc (p0:Value) (k:Slc->zaa->Prop) (h:zaa) (H:zcy p0 k h):CallsH Go.Proofs.Tryz.prog 305 #[p0] h (fun v h'=>∃ r:Slc,v=Slc.v r/\k r h'):=H
def zcv (p0:Value) (k:Slc->zaa->Prop) (h:zaa):Prop:=CallsH Go.Proofs.Tryz.prog 283 #[p0] h (fun v h'=>∃ r:Slc,v=Slc.v r/\k r h')
theorem zgk:zad Go.Proofs.Tryz.prog 283:=⟨_,Go.Proofs.Tryz.func283,by kernel_rfl,by kernel_rfl⟩
theorem zgi (p0:Value) (k:Slc->zaa->Prop) (h:zaa) (H:zcv p0 k h):CallsH Go.Proofs.Tryz.prog 283 #[p0] h (fun v h'=>∃ r:Slc,v=Slc.v r/\k r h'):=H
def zb2 (p0:Slc) (k:Unit->zaa->Prop) (h:zaa):Prop:=CallsH Go.Proofs.Tryz.prog 306 #[Slc.v p0] h (fun v h'=>∃ r:Unit,v = .tuple #[]/\k r h')
theorem zez:zad Go.Proofs.Tryz.prog 306:=⟨_,Go.Proofs.Tryz.func306,by kernel_rfl,by kernel_rfl⟩
theorem zes (p0:Slc) (k:Unit->zaa->Prop) (h:zaa) (H:zb2 p0 k h):CallsH Go.Proofs.Tryz.prog 306 #[Slc.v p0] h (fun v h'=>∃ r:Unit,v = .tuple #[]/\k r h'):=H
def zby (p0:Slc) (k:Unit->zaa->Prop) (h:zaa):Prop:=CallsH Go.Proofs.Tryz.prog 284 #[Slc.v p0] h (fun v h'=>∃ r:Unit,v = .tuple #[]/\k r h')
theorem ze1:zad Go.Proofs.Tryz.prog 284:=⟨_,Go.Proofs.Tryz.func284,by kernel_rfl,by kernel_rfl⟩
theorem zep (p0:Slc) (k:Unit->zaa->Prop) (h:zaa) (H:zby p0 k h):CallsH Go.Proofs.Tryz.prog 284 #[Slc.v p0] h (fun v h'=>∃ r:Unit,v = .tuple #[]/\k r h'):=H
end Go.Q.Yo
end
section
namespace Go.Q.Yo
def zc4 (p0:Value) (k:(Slc)->zaa->Prop) (h:zaa):Prop :=
 zcy p0 (fun(r1:Slc) h2=>zb2 r1 (fun(r3:Unit) h4=>k r1 h4) h2) h
def zc5 (p0:Value) (k:(Slc)->zaa->Prop) (h:zaa):Prop :=
 zcv p0 (fun(r1:Slc) h2=>zby r1 (fun(r3:Unit) h4=>k r1 h4) h2) h
theorem zdr:zad Go.Proofs.Tryz.prog 216:=⟨_,Go.Proofs.Tryz.func216,by kernel_rfl,by kernel_rfl⟩
theorem zg0 (p0:Value) (k:(Slc)->zaa->Prop) (h:zaa) (H:zc4 p0 k h):CallsH Go.Proofs.Tryz.prog 216 #[p0] h (fun v h'=>∃ r:Slc,v=Slc.v r/\k r h'):=by
 refine zg8 (N:=9) Go.Proofs.Tryz.func216 rfl rfl rfl (fun w0=>?_);unfold zc4 at H;refine zdy [(0,p0)] ⟨rfl,trivial⟩ ?_;refine zcn ?_;refine zal ?_;refine w_p tok rfl rfl rfl ?_;refine zb9 ?_;refine zcr ?_;refine zcn ?_;refine zal ?_;refine w_p tok rfl rfl rfl ?_;refine zho zgm (zgc _ _ _ H) rfl rfl rfl rfl ?_;rintro _ h2 ⟨r1,rfl,H⟩;refine w_p tok rfl rfl rfl ?_;refine zb9 ?_;refine zcr ?_;refine zcn ?_;refine zal ?_;refine w_p tok rfl rfl rfl ?_;refine zho zez (zes _ _ _ H) rfl rfl rfl rfl ?_;rintro _ h4 ⟨r3,rfl,H⟩;refine zb9 ?_;refine zcr ?_;refine zcn ?_;refine zal ?_;refine w_p tok rfl rfl rfl ?_;refine w_p tok rfl rfl rfl ?_;refine zb9 ?_;refine zcr ?_;refine zdy [(2,Slc.v r1)] ⟨rfl,trivial⟩ ?_;refine zoj ?_;exact x_ret _ rfl _ rfl ⟨r1,rfl,H⟩
theorem zhc:zad Go.Proofs.Tryz.prog 187:=⟨_,Go.Proofs.Tryz.func187,by kernel_rfl,by kernel_rfl⟩
theorem zgt (p0:Value) (k:(Slc)->zaa->Prop) (h:zaa) (H:zc5 p0 k h):CallsH Go.Proofs.Tryz.prog 187 #[p0] h (fun v h'=>∃ r:Slc,v=Slc.v r/\k r h'):=by
 refine zg8 (N:=9) Go.Proofs.Tryz.func187 rfl rfl rfl (fun w0=>?_);unfold zc5 at H;refine zdy [(0,p0)] ⟨rfl,trivial⟩ ?_;refine zcn ?_;refine zal ?_;refine w_p tok rfl rfl rfl ?_;refine zb9 ?_;refine zcr ?_;refine zcn ?_;refine zal ?_;refine w_p tok rfl rfl rfl ?_;refine zho zgk (zgi _ _ _ H) rfl rfl rfl rfl ?_;rintro _ h2 ⟨r1,rfl,H⟩;refine w_p tok rfl rfl rfl ?_;refine zb9 ?_;refine zcr ?_;refine zcn ?_;refine zal ?_;refine w_p tok rfl rfl rfl ?_;refine zho ze1 (zep _ _ _ H) rfl rfl rfl rfl ?_;rintro _ h4 ⟨r3,rfl,H⟩;refine zb9 ?_;refine zcr ?_;refine zcn ?_;refine zal ?_;refine w_p tok rfl rfl rfl ?_;refine w_p tok rfl rfl rfl ?_;refine zb9 ?_;refine zcr ?_;refine zdy [(2,Slc.v r1)] ⟨rfl,trivial⟩ ?_;refine zoj ?_;exact x_ret _ rfl _ rfl ⟨r1,rfl,H⟩
end Go.Q.Yo
end
section
namespace Go.V
open Go.Q Go.Q.Yo Go.MapKept Go.Proofs Go.RowKit
noncomputable section
theorem zfg {W:World} {B E w n:Nat} {v:Value} {xs:List Value} (o:W.ownsRow B E w v n xs):∃ s:Slc,v=s.v/\Row B W.heap E w s xs/\s.len=n/\Z0 W.heap s E:=by
 obtain⟨hl,⟨rfl,rfl⟩ | ⟨g,cap,cur,rfl,hB,hg,hc,hm,hs,ht⟩⟩:=o
 ·exact⟨⟨none,0,0⟩,rfl,⟨by simpa using hl,by simp [maxLen],.inl ⟨rfl,rfl,rfl⟩⟩,rfl,fun g h=>by cases h⟩
 ·exact⟨⟨some ⟨g,0,none⟩,n,cap⟩,rfl,⟨hl,hm,.inr ⟨g,cur.toList,rfl,hB,⟨0,0,by simpa using hg,.inl (Nat.le_refl _)⟩,hc,by simp [hs],ht⟩⟩,rfl,fun g' h=>by cases h;exact⟨_,hg⟩⟩
theorem qh3:qfm Tryz.prog 305 307 26 (.i .u64):=fun h bx om r ck es hb hm st hv hl w hw=>by
 obtain⟨s1,s2,s3⟩:=(stamped_iff es ck).1 st;have hbl:bx<w.heap.size:=by rw [hw];exact zdu hb
 have hcs:∀ x∈es.toList,∃ q:Int,x.key=YuYo.pv q:=fun x hx=>by
  have:=hv x hx;generalize x.key=v at this
  cases v <;> simp [okV,IsKey] at this
  subst this;exact⟨_,rfl⟩
 refine(callsIn_wide.1 (YuYo.collect_in Fence.wide 5 trivial trivial trivial rfl (by omega) bx om r ck es w hcs s1 s2 (by omega) hbl (by subst hw;exact hb) (by subst hw;exact hm))).mono ?_;rintro e w' ⟨v,ys,rfl,hp,hrow,hnil,B⟩;obtain⟨s,rfl,R,hn,hz⟩:=zfg hrow;subst hw;have hpc:∀ ys:List Int,ys.flatMap YuYo.pcs=ys.map YuYo.pv:=fun ys=>by induction ys with | nil=>rfl | cons a r ih=>rw [List.flatMap_cons,ih];rfl
 refine⟨_,rfl,⟨B.os,B.tape,B.output,rfl,fun k=>by cases k⟩,s,ys.map YuYo.pv,rfl,hp,by rw [← hpc];exact R,by rw [hn,List.length_map],fun hy=>?_,⟨B.size,B.block⟩,hz⟩;have:=hnil (by simpa using hy);obtain⟨a,b,c⟩:=s
 cases this;rfl
theorem qe7:qfm Tryz.prog 283 285 9 .s:=fun h bx om r ck es hb hm st hv hl w hw=>by
 obtain⟨s1,s2,s3⟩:=(stamped_iff es ck).1 st;have hbl:bx<w.heap.size:=by rw [hw];exact zdu hb
 have hcs:∀ x∈es.toList,∃ q:ByteArray,x.key=YusYo.pv q:=fun x hx=>by
  have:=hv x hx;generalize x.key=v at this
  cases v <;> simp [okV,IsKey] at this
  exact⟨_,rfl⟩
 refine(callsIn_wide.1 (YusYo.collect_in Fence.wide 5 trivial trivial trivial rfl (by omega) bx om r ck es w hcs s1 s2 (by omega) hbl (by subst hw;exact hb) (by subst hw;exact hm))).mono ?_;rintro e w' ⟨v,ys,rfl,hp,hrow,hnil,B⟩;obtain⟨s,rfl,R,hn,hz⟩:=zfg hrow;subst hw;have hpc:∀ ys:List ByteArray,ys.flatMap YusYo.pcs=ys.map YusYo.pv:=fun ys=>by induction ys with | nil=>rfl | cons a r ih=>rw [List.flatMap_cons,ih];rfl
 refine⟨_,rfl,⟨B.os,B.tape,B.output,rfl,fun k=>by cases k⟩,s,ys.map YusYo.pv,rfl,hp,by rw [← hpc];exact R,by rw [hn,List.length_map],fun hy=>?_,⟨B.size,B.block⟩,hz⟩;have:=hnil (by simpa using hy);obtain⟨a,b,c⟩:=s
 cases this;rfl
theorem zww:qak Tryz.prog 216 305 306:=fun p0 k h H=>zg0 p0 k h (by
 unfold zc4 zcy zb2;refine CallsH.mono H ?_;rintro v h' ⟨s,rfl,H2⟩;refine⟨s,rfl,H2.mono ?_⟩;rintro v' h4 ⟨rfl,hk⟩
 exact⟨(),rfl,hk⟩)
theorem qhe:qak Tryz.prog 187 283 284:=fun p0 k h H=>zgt p0 k h (by
 unfold zc5 zcv zby;refine CallsH.mono H ?_;rintro v h' ⟨s,rfl,H2⟩;refine⟨s,rfl,H2.mono ?_⟩;rintro v' h4 ⟨rfl,hk⟩
 exact⟨(),rfl,hk⟩)
theorem qah {call0:zbk} (CO:za7 Tryz.prog call0):FnOk Tryz.prog 216 fun _=>qik call0 (.i .u64) 307 306 26:=zw6 CO zdr qh3 zww
theorem qcn {call0:zbk} (CO:za7 Tryz.prog call0):FnOk Tryz.prog 187 fun _=>qik call0 .s 285 284 9:=zw6 CO zhc qe7 qhe
end
end Go.V
end
section
namespace Go.V
open Go.Q Go.MapKept
noncomputable section
def qpq (P:Program) (fC cl el:Nat) (good:Value->Prop):Prop:=∀(h:zaa) (bx om b off cap:Nat) (xs:List Value),0<xs.length->zab h ⟨bx,om,none⟩=some (.slice (some ⟨b,off,none⟩) xs.length cap)->(∀ j v,xs[j]? = some v->zab h ⟨b,off+j,none⟩=some v)->(∀ v∈xs,good v)->xs.length<=1000000 ->
 CallsH P fC #[.func (.func cl) #[] #[.pointer (some ⟨bx,om,none⟩)]] h fun v h'=>∃ s:Slc,v=s.v/\Row h.size h' el 1 s xs/\s.len=xs.length/\Ext h.size h h'/\Z0 h' s el
theorem qhs {P:Program} {call0:zbk} {fT el:Nat} {ks:List AV} {h:HS} {K:AV->HS->Rs} (CO:za7 P call0) (hfk:ks.all zge=true) (h0:0<ks.length) (H:qpb call0 fT el ks h K=true):∃ v h1,K v h1=true /\
  ∀(base:zaa) (φ:Ph) (hc:zaa),Rel base φ h hc->∀(s:Slc) (q:List AV) (ys:List Value) (h':zaa),q∈pms ks->q.Perm ks->cvs φ q=some ys->(∀ u∈ys,u.oneCell'=true)->Row hc.size h' el 1 s ys->s.len=ys.length->Ext hc.size hc h'->Z0 h' s el ->
   CallsH P fT #[s.v] h' fun v' h4=>v' = .tuple #[]/\∃ φ',Ex φ h φ' h1/\Rel base φ' h1 h4/\cv φ' v=some s.v:=by
 cases ks with
 | nil=>exact absurd h0 (Nat.lt_irrefl _)
 | cons a r =>
  have H11:zb3 (zgs (a :: r)) (fun n=>Bool.rec (motive:=fun _=>Rs) false (zrk el 1 n true (zu2 (a :: r)) h fun b h=>K (.sl b 0 n BIG) h) (and (znl call0 fT [] el 1 n (a :: r) (zu2 (a :: r))) (and (Nat.beq (zgs (zu2 (a :: r))) n) ((zu2 (a :: r)).all zge))))=true:=H;rw [natK_eq,zav] at H11;obtain⟨hh,H12⟩:=zbz H11;obtain⟨hchk,hh⟩:=zag.1 hh;obtain⟨hLn,hLf⟩:=zag.1 hh;replace hLn:=Nat.eq_of_beq_eq_true hLn;rw [zav] at hLn;obtain⟨d,t,hn,hd,hg,H13⟩:=zfj hLn H12;generalize hnn:(a :: r).length=n at *;refine⟨_,_,H13,fun base φ hc R s q ys h' hq hqp hqv h1 hr hsl hx hz=>?_⟩
  have hqf:q.all zge=true:=by
   rw [List.all_eq_true] at hfk ⊢;exact fun v hv=>hfk v (hqp.subset hv)
  have hql:q.length=n:=by rw [hqp.length_eq,hnn]
  have hcq:zo9 q=q:=zm2 hqf;have hsn:s.len=n:=by rw [hsl,cvs_len _ _ hqv,hql]
  obtain⟨g1,e1,e2,e3,hcall⟩:=zln (base:=hc) (ms:=[]) CO hchk h0 hLf hq (by rw [hcq,hql,Nat.mul_one]) (by rw [hcq];exact hqf) (fun ψ=>by rw [hcq,zkl (ψ:=φ) hqf];exact hqv) h1 hx.size hx.block hr hz hsn (fun _=>rfl);refine CallsH.mono hcall ?_;rintro u h4 ⟨rfl,z1,z2,z3⟩
  obtain⟨R5,X5⟩:=R.newAt (x:=⟨g1,0,s.cap⟩) (bl:=.c ⟨n,true,true,el,1,d,t⟩) z1 z2 e2 hn (by
   have:=z3 (φ.up h.nx ⟨g1,0,s.cap⟩) d t (by omega) (fun j hj=>hg j (by omega));rw [Nat.mul_one] at this
   exact this)
  refine⟨rfl,_,X5,R5,zdj.2 ⟨_,Ph.up_eq,by rw [zbx];show n<=s.cap;omega,?_⟩⟩;rw [zbx];obtain⟨sa,sl,sc⟩:=s;simp only at e1 hsn;subst e1;subst hsn;rfl
theorem qa1 {α:Type} (l:List α):l∈pms l:=zsy (.refl _)
def qhp (call0:zbk) (kt:KT) (cl fT el:Nat) (vs:List AV) (h:HS) (K:AV->HS->Rs):Rs:=a1 vs fun f=>dF.x f fun g fs cs=>a1 cs fun p=>dP.x p fun b o=>zuz h b fun bn _ _ _ _ d c=>Bool.rec (motive:=fun _=>Rs) false
 ((ac d o).x Rs c fun x=>opt x false fun m=>dS.x m false fun b' o' l' c'=>slc 1 (.sl b' o' l' c') h fun mm ks=>Bool.rec (motive:=fun _=>Rs) false (qpb call0 fT el ks h K) (and (Nat.blt 0 mm) (and (ks.all (kab kt)) (and (Nat.ble (zgs ks) 1000) (ks.all zge)))))
 (and (Nat.blt o bn) (and (Nat.beq g cl) (zxo fs)))
theorem qbt {P:Program} {call0:zbk} {kt:KT} {fS fC fT cl el:Nat} (CO:za7 P call0) (ok:zad P fS) (col:qpq P fC cl el (okV kt)) (srt:qak P fS fC fT):FnOk P fS fun _=>qhp call0 kt cl fT el:=fun call _ vs h K H=>by
 refine⟨ok,?_⟩;obtain⟨f,hvs,H1⟩:=zq0 H;obtain⟨g,fs,cs,hf,H2⟩:=zxi H1;obtain⟨p,hcs,H3⟩:=zq0 H2;obtain⟨b,o,hp,H4⟩:=znv H3;obtain⟨bl,hb,H5⟩:=zd3 H4;obtain⟨hh,H6⟩:=zbz H5;obtain⟨ho,hh⟩:=zag.1 hh;obtain⟨hg,hn⟩:=zag.1 hh;rw [Nat.blt_eq] at ho;have hg':=Nat.eq_of_beq_eq_true hg;have hfs:fs=[]:=by cases fs with | nil=>rfl | cons a r=>cases hn
 rw [zmm] at H6;obtain⟨m,hm,H7⟩:=zjz H6;rcases zvc H7 with⟨_,hq⟩ | ⟨b',o',l',c',hmb,H8⟩
 ·cases hq
 obtain⟨mm,ks,H9,hkl,hs⟩:=zmd H8;obtain⟨hh,H10⟩:=zbz H9;obtain⟨hm0,hh⟩:=zag.1 hh;obtain⟨hk,hh⟩:=zag.1 hh;obtain⟨hlen,hflat⟩:=zag.1 hh;rw [Nat.blt_eq] at hm0;replace hlen:=Nat.le_of_ble_eq_true hlen;rw [zav] at hlen;clear H H1 H2 H3 H4 H5 H6 H7 H8 H9 hh hg hn;subst hvs hf hcs hp hfs hmb hg';rw [Nat.mul_one] at hkl;obtain⟨v,h1,H11,S⟩:=qhs CO hflat (by omega) H10;refine⟨v,h1,H11,fun base φ hc us R hv=>?_⟩;obtain⟨u,rfl,cc⟩:=qmy hv;simp only [cv,cvs] at cc
 cases hpb:φ b with
 | none=>rw [hpb] at cc;cases cc
 | some x =>
  rw [hpb] at cc
  cases cc
  obtain⟨v0,u0,q1,q2,_,q4⟩:=R.toR.read hpb hb ho;rw [hm] at q1;cases q1;obtain⟨s,e1,rm,us,k1,k2,k3,k4⟩:=hs φ hc u0 R.toR q2;obtain⟨y,hy,_,e2⟩:=zdj.1 q2;rw [e2] at e1
  have hul:us.length=l':=by
   obtain⟨sa,sl,sc⟩:=s
   cases e1
   rw [k2,Nat.mul_one];exact rm.symm
  have hsa:s.a=some (y.at o'):=by
   obtain⟨sa,sl,sc⟩:=s
   cases e1;rfl
  have hok:∀ w∈us,okV kt w:=fun w hw=>by
   obtain⟨j,hj⟩:=List.getElem?_of_mem hw
   have hjl:j<ks.length:=by
    have:=(List.getElem?_eq_some_iff.1 hj).1;rw [cvs_len _ _ k1] at this;exact this
   obtain⟨w',hw',hc1⟩:=zdn _ _ k1 j _ (List.getElem?_eq_getElem hjl);rw [hj] at hw';cases hw';rw [List.all_eq_true] at hk;exact(ziz (hk _ (List.getElem_mem hjl)) hc1).1
  refine(srt _ (fun s h4=>∃ φ',Ex φ h φ' h1/\Rel base φ' h1 h4/\cv φ' v=some s.v) hc ((col hc x.b (x.o+o) y.b (y.o+o') (za1 y.k c') us (by rw [k2];omega) (by rw [hul,← e2];exact q4) (fun j w hw=>?_) hok (by rw [cvs_len _ _ k1];omega)).mono ?_)).mono ?_
  ·have:=k4.2 _ hsa j w hw
   rw [Pl.at_add] at this;have e:y.at (o'+j)=⟨y.b,y.o+o'+j,none⟩:=by simp only [Pl.at,Nat.add_assoc]
   rw [e] at this;exact this
  ·rintro v' h' ⟨s',rfl,hr,hsl,hx,hz⟩
   exact⟨s',rfl,S base φ hc R s' ks us h' (qa1 ks) (.refl _) k1 k3 hr hsl hx hz⟩
  ·rintro v' h' ⟨s',rfl,hh⟩
   obtain⟨φ',X,R',hcv⟩:=hh;exact⟨φ',X,R',hcv⟩
theorem FnOk.or {P:Program} {f:FuncId} {g1 g2:List AV->HS->(AV->HS->Rs)->Rs} (h1:FnOk P f fun _=>g1) (h2:FnOk P f fun _=>g2) (sel:List AV->Bool):FnOk P f fun _ vs h K=>Bool.rec (motive:=fun _=>Rs) (g1 vs h K) (g2 vs h K) (sel vs):=fun call CO vs h K H=>by
 have H':Bool.rec (motive:=fun _=>Rs) (g1 vs h K) (g2 vs h K) (sel vs)=true:=H
 cases hb:sel vs with
 | false=>rw [hb] at H';exact h1 call CO vs h K H'
 | true=>rw [hb] at H';exact h2 call CO vs h K H'
end
end Go.V
end

/- A part of the proof of statements of this seat: lemmas, no statement of their own. -/
import Derived.RangeFuncBox
import Derived.RangeFuncNested
import Derived.RangeFuncLeaves
import Derived.Shelf.Abstract
import Derived.WalkKit
import Derived.OwnWalkIn
import Derived.TacticsInMore
import Derived.LoopNIn
import Derived.LoopIn
import Derived.Maps.AppendAt
import Derived.Maps.RangeRun
import Derived.RangeFuncStops
import Derived.Sort.MapsRangeIn
import Derived.Test.YtgbbpanapnkdbaaGreatProg
set_option linter.unusedVariables false
set_option linter.unusedSimpArgs false
section
/- maps.Values of a map of pieces, taken by slices.AppendSeq: they come, each once, in some order. -/
namespace Go.Proofs
open Go.RowKit Go.Shelf Go.Maps
open Go.ChangeMaps (setBlock)
attribute [local go_sem] Oper.semAt_some
namespace YwYq
/-- a piece: its text, its time, its value, its id's two numbers -/
abbrev PT:=ByteArray × Int × Int × Int × Int
def pcs (x:PT):List Value:=[.string x.1,.int .i64 x.2.1,.int .i64 x.2.2.1,.int .u64 x.2.2.2.1,.int .u16 x.2.2.2.2]
def pv (x:PT):Value:=.agg #[.string x.1,.int .i64 x.2.1,.int .i64 x.2.2.1,.int .u64 x.2.2.2.1,.int .u16 x.2.2.2.2]
section
variable {F:Fence} {n:Nat} {P:Program} {ops:Array Oper} {Q:Exit->Act->World->Prop} {a:Act} {w:World} {rest:List Oper} {o:Oper}
theorem range_raw (hg:o.guard=none) (m:Operand) (t:TypeId) (hop:o.op=Op.range t m) (k e:TypeId) (ht:P.underlying t=some (.map k e)) (b ck:Nat) (es:Array MapEntry)
  (hm:a.eval m = .map (some b)) (hb:w.heap[b]? = some (.map es ck))
  (hK:wpListIn F n P ops Q rest (a.put o.dst (.pointer (some ⟨w.heap.size,0,none⟩))) (w.alloc (.mapIter (some b) ck #[] ck))) :
  wpListIn F n P ops Q (o :: rest) a w:=by
 refine wpListIn_plain hg fun K' hK'=>?_
 unfold Oper.wpIn
 refine ⟨by simp [Oper.about,hop],?_⟩
 rw [Oper.semAt_plain F _ _ (by rw [hop]; intro c hc'; cases hc')]
 simp [execOp,hop,hm,run_range_map w t k e b es ck ht hb,Result.andThen]
 exact hK' _ _ hK
theorem next_raw (hg:o.guard=none) (it:Operand) (hop:o.op=Op.next it false) (r bm since c0:Nat) (seen:Array Nat) (es:Array MapEntry) (ck:Nat)
  (hit:a.eval it = .pointer (some ⟨r,0,none⟩)) (hr:w.heap[r]? = some (.mapIter (some bm) since seen c0)) (hb:w.heap[bm]? = some (.map es ck)) (hold:∀ x∈es.toList,x.born < since) (hsc:since<=c0)
  (hDone:(leftOf es seen).size=0->wpListIn F n P ops Q rest (a.put o.dst (.tuple #[.bool false])) w)
  (hMore:∀ (x:MapEntry) (w':World),x∈(leftOf es seen).toList->w.grownBy w' (some r)->w'.heap.size=w.heap.size->w'.heap[r]? = some (.mapIter (some bm) since (seen.push x.born) ck) ->
   wpListIn F n P ops Q rest (a.put o.dst (.tuple #[.bool true,x.key,x.val])) w') :
  wpListIn F n P ops Q (o :: rest) a w:=by
 refine wpListIn_plain hg fun K' hK'=>?_
 unfold Oper.wpIn
 refine ⟨by simp [Oper.about,hop],?_⟩
 rw [Oper.semAt_plain F _ _ (by rw [hop]; intro c hc'; cases hc')]
 rcases run_next_at (P:=P) w o.type r bm since c0 seen es ck hr hb hold hsc with ⟨h0,hrun⟩ | ⟨x,hx,w1,hw1,hrun⟩
 ·simp [execOp,hop,hit,hrun,Result.andThen]
  exact hK' _ _ (hDone h0)
 ·simp [execOp,hop,hit,hrun,Result.andThen]
  refine hK' _ _ (hMore x _ hx ?_ ?_ ?_)
  ·rcases hw1 with rfl | rfl <;> exact ⟨rfl,rfl,rfl,by simp [setBlock],fun i hi hne=>by
    show (Array.setIfInBounds _ _ _)[i]? = _
    rw [Array.getElem?_setIfInBounds_ne (fun e=>hne (by rw [e]))]; try rfl⟩
  ·rcases hw1 with rfl | rfl <;> simp [setBlock]
  ·have hl:r < w1.heap.size:=by rcases hw1 with rfl | rfl <;> exact (Array.getElem?_eq_some_iff.1 hr).1
   simp [setBlock,hl]
end
theorem nodup_of_map {α β:Type} (f:α->β):∀ {l:List α},(l.map f).Nodup->l.Nodup/\∀ x∈l,∀ y∈l,f x=f y->x=y
 | [],_=>⟨List.nodup_nil,fun x hx=>by simp at hx⟩
 | a :: r,h=>by
  rw [List.map_cons,List.nodup_cons] at h
  obtain ⟨h1,h2⟩:=nodup_of_map f h.2
  refine ⟨List.nodup_cons.2 ⟨fun ha=>h.1 (List.mem_map.2 ⟨a,ha,rfl⟩),h1⟩,fun x hx y hy e=>?_⟩
  rcases List.mem_cons.1 hx with ex | hx <;> rcases List.mem_cons.1 hy with ey | hy
  ·rw [ex,ey]
  ·exact absurd (List.mem_map.2 ⟨y,hy,by rw [← e,ex]⟩) h.1
  ·exact absurd (List.mem_map.2 ⟨x,hx,by rw [e,ey]⟩) h.1
  ·exact h2 x hx y hy e
theorem len_le:∀ (l m:List Nat),l.Nodup->(∀ a∈l,a∈m)->l.length<=m.length
 | [],m,_,_=>Nat.zero_le _
 | a :: r,m,h,hm=>by
  rw [List.nodup_cons] at h
  have h1:=len_le r (m.erase a) h.2 fun b hb=>(List.mem_erase_of_ne (fun e:b=a=>h.1 (by rw [← e]; exact hb))).2 (hm b (List.mem_cons_of_mem _ hb))
  rw [List.length_erase_of_mem (hm a (by simp))] at h1
  have:0 < m.length:=List.length_pos_of_mem (hm a (by simp))
  simp only [List.length_cons]
  omega
theorem mem_left {es:Array MapEntry} {seen:Array Nat} {x:MapEntry} (h:x∈(leftOf es seen).toList):x∈es.toList/\x.born ∉ seen.toList:=by
 unfold leftOf at h
 simp at h
 exact ⟨by simpa using h.1,by simpa using h.2⟩
/-- where nothing is left, all have come -/
theorem all_perm {es:Array MapEntry} {seen:Array Nat} {ys:List MapEntry} (hnd:(es.toList.map (·.born)).Nodup) (hse:seen.toList=ys.map (·.born)) (hys:∀ y∈ys,y∈es.toList) (hyn:(ys.map (·.born)).Nodup)
  (hl:leftOf es seen = #[]):ys.Perm es.toList:=by
 have inj:∀ x∈es.toList,∀ y∈es.toList,x.born=y.born->x=y:=(nodup_of_map _ hnd).2
 have n1:ys.Nodup:=(nodup_of_map _ hyn).1
 have n2:es.toList.Nodup:=(nodup_of_map _ hnd).1
 refine (List.perm_ext_iff_of_nodup n1 n2).2 fun x=>⟨hys x,fun hx=>?_⟩
 have h1:x.born∈seen.toList:=by
  apply Classical.byContradiction
  intro hn
  have:x∈(leftOf es seen).toList:=by unfold leftOf; simp; exact ⟨by simpa using hx,by simpa using hn⟩
  rw [hl] at this
  simp at this
 rw [hse] at h1
 obtain ⟨y,hy,e⟩:=List.mem_map.1 h1
 rw [← inj y (hys y hy) x hx e]; exact hy
set_option maxRecDepth 100000 in
set_option maxHeartbeats 2000000 in
/-- the closure of maps.Values: every value of the map comes, each once, in some order -/
theorem values1_in (F:Fence) (n:Nat) (h7:F.fn 71) (hro:F.round=none) (hn:1<=n) (l Bm b ck:Nat) (es:Array MapEntry) (J Jx:List PT->World->Prop)
  (hcs:∀ x∈es.toList,∃ q:PT,x.val=pv q) (hold:∀ x∈es.toList,x.born < ck) (hnd:(es.toList.map (·.born)).Nodup)
  (hY:∀ pre x W,J pre W->pre.length < es.size->YieldAt F (n - 1) Tryz.prog l #[pv x] W fun e W' =>
   (e = .returned (.bool true)/\J (pre ++ [x]) W'/\KeepsWalks W W')∨(e = .returned (.bool false)/\Jx (pre ++ [x]) W'))
  (W:World) (hJ:AbidesFrom W.heap.size J) (hm:W.cell? ⟨Bm,0,none⟩=some (.map (some b))) (hb:W.heap[b]? = some (.map es ck)) (h0:J [] W) :
  CallsIn F n Tryz.prog 71 #[.func (.yield l) #[] #[],.pointer (some ⟨Bm,0,none⟩)] W fun e W'=>(∃ v,e = .returned v) /\
   ((∃ ys,(ys.map pv).Perm (es.toList.map (·.val))/\J ys W')∨(∃ pre,True/\Jx pre W')):=by
 refine callsIn_of_wp Tryz.func71 rfl h7 ?_ hro
 simp only [Tryz.ntmps71,List.size_toArray,List.length_cons,List.length_nil,Nat.reduceAdd,Nat.reduceSub,Array.replicate_succ,Array.replicate_zero,List.push_toArray,List.append_toArray,List.nil_append,List.cons_append]
 gi_wp2_with (first
  | (gi_at_range; refine range_raw rfl _ 92 rfl 95 89 Tryz.underlying92 b ck es rfl hb ?_)
  | gi_in)
 go_frame
 gi_loopw [4] (fun _ wr=>∃ (seen:Array Nat) (ys:List MapEntry) (c0:Nat),wr.heap[W.heap.size]? = some (.mapIter (some b) ck seen c0)/\ck<=c0/\wr.heap[b]? = some (.map es ck)/\seen.toList=ys.map (·.born)/\(∀ y∈ys,y∈es.toList)/\(ys.map (·.born)).Nodup/\∃ qs,qs.map pv=ys.map (·.val)/\J qs wr)
  (fun _ wr=>match wr.heap[W.heap.size]? with | some (.mapIter _ _ seen _)=>es.size - seen.size | _=>0)
 case atStart =>
  refine ⟨#[],[],ck,World.alloc_heap_new _ _,Nat.le_refl _,?_,rfl,by simp,by simp,[],rfl,hJ [] W _ none h0 ⟨rfl,rfl,rfl,by simp,fun k hk _=>Below.heap_alloc _ _ k hk⟩ (fun r e=>by cases e)⟩
  exact (Below.heap_alloc _ _ b (Array.getElem?_eq_some_iff.1 hb).1).trans hb
 case round =>
  obtain ⟨seen,ys,c0,hr,hc0,hbr,hse,hys,hyn,qs,hqs,hJs⟩:=hrel
  gi_wp2_with (first
   | (gi_at_next; refine next_raw rfl _ rfl W.heap.size b ck c0 seen es ck rfl hr hbr hold hc0 ?_ ?_)
   | gi_in)
  ·intro hl
   gi_wp2
   go_end0
   exact ⟨⟨_,rfl⟩,.inl ⟨qs,hqs ▸ (all_perm hnd hse hys hyn hl).map _,hJs⟩⟩
  ·intro x w2 hx hg2 hs2 hr2
   have hxm:x∈es.toList:=(mem_left (by simpa using hx)).1
   have hbw:b≠W.heap.size:=by have:=(Array.getElem?_eq_some_iff.1 hb).1; omega
   have hb2:w2.heap[b]? = some (.map es ck):=(hg2.block b (Array.getElem?_eq_some_iff.1 hbr).1 (fun e=>hbw (Option.some.inj e))).trans hbr
   have hen:=run_entry_at (P:=Tryz.prog) w2 W.heap.size b ck seen es ck x hr2 hb2 hxm hnd
   obtain ⟨⟨s',t',v',m',d'⟩,hv⟩:=hcs x hxm
   have hY':=hY qs (s',t',v',m',d')
   simp only [pv] at hY'
   rw [hv] at hen ⊢
   simp only [pv] at hen ⊢
   have hx2:x.born ∉ seen.toList:=(mem_left (by simpa using hx)).2
   have hlen:ys.length < es.size:=by
    have:=len_le ((x :: ys).map (·.born)) (es.toList.map (·.born)) (by rw [List.map_cons,List.nodup_cons,← hse]; exact ⟨hx2,hse ▸ hyn⟩) (fun k hk=>by
     obtain ⟨y,hy,rfl⟩:=List.mem_map.1 hk
     exact List.mem_map.2 ⟨y,(List.mem_cons.1 hy).elim (fun e=>e ▸ hxm) (hys y),rfl⟩)
    simp at this
    omega
   have hJ2:J qs w2:=hJ qs wr w2 (some W.heap.size) hJs hg2 (fun r e=>by cases e; exact ⟨Nat.le_refl _,_,hr,rfl⟩)
   have hJ3:J qs (w2.alloc (.cells #[.string s',.int .i64 t',.int .i64 v',.int .u64 m',.int .u16 d'] 89)) 
    := hJ qs w2 _ none hJ2 ⟨rfl,rfl,rfl,by simp,fun k hk _=>Below.heap_alloc _ _ k hk⟩ (fun r e=>by cases e)
   have hr3:(w2.alloc (.cells #[.string s',.int .i64 t',.int .i64 v',.int .u64 m',.int .u16 d'] 89)).heap[W.heap.size]? = some (.mapIter (some b) ck (seen.push x.born) ck):=(Below.heap_alloc _ _ _ (Array.getElem?_eq_some_iff.1 hr2).1).trans hr2
   have hb3:(w2.alloc (.cells #[.string s',.int .i64 t',.int .i64 v',.int .u64 m',.int .u16 d'] 89)).heap[b]? = some (.map es ck):=(Below.heap_alloc _ _ _ (Array.getElem?_eq_some_iff.1 hb2).1).trans hb2
   obtain ⟨fn,tmps,assign,body,hy,hR⟩:=hY' _ hJ3 (by have:=congrArg List.length hqs; simp at this; omega)
   clear hs2
   gi_wp2
   refine hR.mono ?_
   rintro e W3 (⟨rfl,hJ4,hk4⟩ | ⟨rfl,hJx4⟩)
   ·gi_wp2
    have hr4:=hk4.same _ _ hr3 rfl
    have hb4:=hk4.same _ _ hb3 rfl
    go_roundw
    case rel =>
     refine ⟨seen.push x.born,ys ++ [x],ck,hr4,Nat.le_refl _,hb4,by simp [hse],fun y hy=>(List.mem_append.1 hy).elim (hys y) (fun e=>by simp at e; exact e ▸ hxm),?_,qs ++ [(s',t',v',m',d')],by rw [List.map_append,List.map_append,hqs]; simp [hv],hJ4⟩
     rw [List.map_append,List.nodup_append]
     refine ⟨hyn,by simp,fun a ha b hb e=>?_⟩
     simp at hb
     subst hb
     rw [← hse] at ha
     exact hx2 (e ▸ ha)
    case measure =>
     rw [hr4,hr]
     have:seen.size=ys.length:=by rw [← Array.length_toList,hse,List.length_map]
     simp
     omega
   ·gi_wp2
    refine bodyPost_ret (results_none rfl _ _ _) rfl ?_
    exact ⟨⟨_,rfl⟩,.inr ⟨_,trivial,hJx4⟩⟩
theorem values_stops (F:Fence) (n:Nat) (h7:F.fn 71) (hro:F.round=none) (hn:1<=n) (Bm b ck:Nat) (es:Array MapEntry) (w:World)
  (hcs:∀ x∈es.toList,∃ q:PT,x.val=pv q) (hold:∀ x∈es.toList,x.born < ck) (hnd:(es.toList.map (·.born)).Nodup)
  (hBm:Bm < w.heap.size) (hm:w.cell? ⟨Bm,0,none⟩=some (.map (some b))) (hb:w.heap[b]? = some (.map es ck)) :
  SeqStopsK F n Tryz.prog 71 #[.pointer (some ⟨Bm,0,none⟩)] (fun x:PT=>#[pv x]) KeepsWalks (fun ys=>(ys.map pv).Perm (es.toList.map (·.val))) (fun _=>True) es.size w:=fun l J Jx W hW hJ _ hY h0 =>
 values1_in F n h7 hro hn l Bm b ck es J Jx hcs hold hnd hY W hJ ((hW.cell (p:=⟨Bm,0,none⟩) hBm).trans hm) ((hW.block b (Array.getElem?_eq_some_iff.1 hb).1).trans hb) h0
theorem infoP:(Tryz.prog.info? 89).map (fun i=>(i.zero,i.size,i.bytes))=some (some (.agg #[.string ⟨#[]⟩,.int .i64 0,.int .i64 0,.int .u64 0,.int .u16 0]),5,48):=by kernel_rfl
theorem cells5_new (w:World) (x:PT) (t:TypeId):∀ j u,(pcs x)[j]? = some u->(w.alloc (.cells #[.string x.1,.int .i64 x.2.1,.int .i64 x.2.2.1,.int .u64 x.2.2.2.1,.int .u16 x.2.2.2.2] t)).cell? ((⟨w.heap.size,0,none⟩:Addr).add j)=some u:=by
 intro j u hj
 match j,hj with
 | 0,hj=>simp [pcs] at hj; subst hj; simp [Addr.add]
 | 1,hj=>simp [pcs] at hj; subst hj; simp [Addr.add]
 | 2,hj=>simp [pcs] at hj; subst hj; simp [Addr.add]
 | 3,hj=>simp [pcs] at hj; subst hj; simp [Addr.add]
 | 4,hj=>simp [pcs] at hj; subst hj; simp [Addr.add]
 | k + 5,hj=>simp [pcs] at hj
theorem cell_at {W:World} {B:Nat} {c:Array Value} {t:TypeId} (h:W.heap[B]? = some (.cells c t (0,0))) (j:Nat) (v:Value) (hj:c[j]? = some v):W.cell? ⟨B,j,none⟩=some v:=by simp [World.cell?,h,hj]
set_option maxRecDepth 100000 in
set_option maxHeartbeats 2000000 in
/-- slices.AppendSeq of nil and what maps.Values hands back -/
theorem appendSeq_in (F:Fence) (n:Nat) (h3:F.fn 94) (h7:F.fn 71) (hro:F.round=none) (hn:3<=n) (Bs b ck:Nat) (es:Array MapEntry) (w:World)
  (hcs:∀ x∈es.toList,∃ q:PT,x.val=pv q) (hold:∀ x∈es.toList,x.born < ck) (hnd:(es.toList.map (·.born)).Nodup) (hlen:es.size<=1000000)
  (hBs:Bs < w.heap.size) (hm:w.cell? ⟨Bs,0,none⟩=some (.map (some b))) (hb:w.heap[b]? = some (.map es ck)) :
  CallsIn F n Tryz.prog 94 #[.slice none 0 0,.func (.func 71) #[] #[.pointer (some ⟨Bs,0,none⟩)]] w fun e W'=>∃ (v:Value) (ys:List PT),e = .returned v/\(ys.map pv).Perm (es.toList.map (·.val))/\W'.ownsRow w.heap.size 89 5 v ys.length (ys.flatMap pcs)/\Below w.heap.size w W':=by
 have h1:1<=n:=by omega
 obtain ⟨i0,hi,hz0,hz1,hz2⟩:=info_parts infoP
 refine callsIn_of_wp_marks Tryz.func94 rfl h3 ?_ hro
 simp only [Tryz.ntmps94,List.size_toArray,List.length_cons,List.length_nil,Nat.reduceAdd,Nat.reduceSub,Array.replicate_succ,Array.replicate_zero,List.push_toArray,List.append_toArray,List.nil_append,List.cons_append]
 gi_wp2
 have bO:=Boxed.new w 26 (.slice none 0 0)
 have hB0:Below w.heap.size w (w.alloc (.cells #[.slice none 0 0] 26)):=(Below.refl _ w).alloc (Nat.le_refl _) _
 refine wpIn_rangeFunc_ownH hro h1 (gf:=71) (lb:=#[.pointer (some ⟨Bs,0,none⟩)]) rfl h7 (enters_of Tryz.func71 (by kernel_rfl) rfl)
  (values_stops F (n - 1) h7 hro (by omega) Bs b ck es _ hcs hold hnd (by simp; omega) ((hB0.cell (p:=⟨Bs,0,none⟩) hBs).trans hm) ((hB0.block b (Array.getElem?_eq_some_iff.1 hb).1).trans hb)) walksK_t walksK_b (Below.refl _ _) (fun _=>rfl)
  (fun pre W=>(∃ v,Boxed W w.heap.size 26 v/\W.ownsRow w.heap.size 89 5 v pre.length (pre.flatMap pcs)/\True)/\Below w.heap.size w W)
  (fun _ _ _=>False)
  (OwnFrom.and (Own.from (holdsRow_own w.heap.size w.heap.size 26 89 5 (fun pre:List PT=>pre.length) (fun pre=>pre.flatMap pcs) (fun pre v=>True)) _) (ownFrom_below (Nat.le_refl _) (by simp)))
  (fun _ _ _ _ _ hs _ _=>hs)
  ⟨⟨_,bO,World.ownsRow_nil _ _ _ _,trivial⟩,hB0⟩
  (fun x a' W=>∃ B,w.heap.size + 1<=B/\W.heap[B]? = some (.cells #[.string x.1,.int .i64 x.2.1,.int .i64 x.2.2.1,.int .u64 x.2.2.2.1,.int .u16 x.2.2.2.2] 89 (0,0)) /\
   a' = { tmps:=#[.slice none 0 0,.func (.func 71) #[] #[.pointer (some ⟨Bs,0,none⟩)],.pointer (some ⟨w.heap.size,0,none⟩),undef,.slice none 0 0,.pointer (some ⟨B,0,none⟩),.func (.func 71) #[] #[.pointer (some ⟨Bs,0,none⟩)],pv x,undef,undef,undef,undef,undef],defers:=[] })
  ?ax ?assign ?body ?done ?stop
 case ax =>
  rintro x a' _ X Y row ⟨B,h1,h2,h3⟩ hg hr
  refine ⟨B,h1,(hg.block B (Array.getElem?_eq_some_iff.1 h2).1 (fun e=>?_)).trans h2,h3⟩
  obtain ⟨_,o,ho,hc⟩:=hr B e.symm
  rw [h2] at ho; cases ho; cases hc
 case assign =>
  intro l pre x W K hI hK
  obtain ⟨x0,x1,x2,x3,x4⟩:=x
  simp only [pv]
  have hsz:w.heap.size<=W.heap.size:=hI.2.size
  obtain ⟨⟨v,hv,hrow,_⟩,hB⟩:=hI
  have hvl:w.heap.size < W.heap.size:=(Array.getElem?_eq_some_iff.1 hv).1
  gi_wp2
  refine hK _ _ ?_ ?_ ?_ ⟨W.heap.size,by omega,World.alloc_heap_new _ _,rfl⟩
  ·exact (KeepsOthers.alloc W _).from _
  ·exact KeepsWalks.alloc W _
  ·exact ⟨⟨v,hv.alloc _,hrow.alloc _,trivial⟩,hB.trans ((Below.refl _ W).alloc (by omega) _)⟩
 case body =>
  rintro l pre x a' W hwl - ⟨⟨v,hv,hrow,_⟩,hB⟩ ⟨B,hB1,hB2,rfl⟩ hlt
  obtain ⟨x0,x1,x2,x3,x4⟩:=x
  have hc:=hv.cell
  have k0:=cell_at hB2 0 _ rfl
  have k1:=cell_at hB2 1 _ rfl
  have k2:=cell_at hB2 2 _ rfl
  have k3:=cell_at hB2 3 _ rfl
  have k4:=cell_at hB2 4 _ rfl
  gi_wp2_with (gi_at_builtin; refine wpListIn_append_own _ rfl _ _ 26 rfl w.heap.size 89 i0 _ 5 48 Tryz.underlying26 hi hz0 hz1 hz2 rfl (by decide) _ _ _ rfl (hrow.alloc _) ⟨W.heap.size,0,none⟩ 1 1 (pcs (x0,x1,x2,x3,x4)) rfl rfl (cells5_new _ _ _) (by simp [pcs,Value.oneCell']) (by simp [maxLen]; omega) (by omega) (by have:=hB.size; simp; omega) ?_; intro v' w1 hown' hgrow _; obtain ⟨g',cap',rfl⟩:=ownsRow_succ hown'; obtain ⟨hv1,hv2,hr2,hk2,hb2⟩:=hv.appended (by decide) hrow hB.size (Nat.le_refl _) hown' hgrow; have hc1:=hv1.cell; have hf1:=hv1.frozen)
  exact ⟨hk2.from _,⟨hk2.size,fun k o hk hw=>hk2.same k o hk (Obj.not_cells_of_walk hw)⟩,⟨_,hv2,by rw [show (pre ++ [(x0,x1,x2,x3,x4)]).length=pre.length + 1 from by simp,show (pre ++ [(x0,x1,x2,x3,x4)]).flatMap pcs=pre.flatMap pcs ++ pcs (x0,x1,x2,x3,x4) from by rw [List.flatMap_append,List.flatMap_cons,List.flatMap_nil,List.append_nil]]; exact hr2⟩,hB.trans hb2⟩
 case done =>
  rintro D ys W hD hS ⟨⟨v,hv,hrow,_⟩,hB⟩ hK
  have hc:=hv.cell
  gi_wp2
  refine ⟨by simp,.inl ⟨_,_,rfl,run_takeDeferred hK,?_⟩⟩
  exact ⟨_,results_tmp rfl _ _ _,v,ys,rfl,hS,ownsRow_putObj hrow _ hK rfl,hB.trans (belowK_b (w:=w) (Nat.le_refl _) W D _ _ (by simp at hD; omega) hK rfl rfl)⟩
 case stop =>
  rintro D c pre W _ _ h _
  exact h.elim
set_option maxHeartbeats 1000000 in
/-- slices.Collect of it -/
theorem collect_in (F:Fence) (n:Nat) (h8:F.fn 69) (h3:F.fn 94) (h7:F.fn 71) (hro:F.round=none) (hn:4<=n) (Bs b ck:Nat) (es:Array MapEntry) (w:World)
  (hcs:∀ x∈es.toList,∃ q:PT,x.val=pv q) (hold:∀ x∈es.toList,x.born < ck) (hnd:(es.toList.map (·.born)).Nodup) (hlen:es.size<=1000000)
  (hBs:Bs < w.heap.size) (hm:w.cell? ⟨Bs,0,none⟩=some (.map (some b))) (hb:w.heap[b]? = some (.map es ck)) :
  CallsIn F n Tryz.prog 69 #[.func (.func 71) #[] #[.pointer (some ⟨Bs,0,none⟩)]] w fun e W'=>∃ (v:Value) (ys:List PT),e = .returned v/\(ys.map pv).Perm (es.toList.map (·.val))/\W'.ownsRow w.heap.size 89 5 v ys.length (ys.flatMap pcs)/\Below w.heap.size w W':=by
 have h1:1<=n:=by omega
 refine callsIn_of_wp Tryz.func69 rfl h8 ?_ hro
 simp only [Tryz.ntmps69,List.size_toArray,List.length_cons,List.length_nil,Nat.reduceAdd,Nat.reduceSub,Array.replicate_succ,Array.replicate_zero,List.push_toArray,List.append_toArray,List.nil_append,List.cons_append]
 gi_wp2_with (gi_at_call 94; refine (appendSeq_in F (n - 1) h3 h7 hro (by omega) Bs b ck es _ hcs hold hnd hlen hBs hm hb).mono ?_; rintro e w' ⟨v,ys,rfl,hS,hrow,hb2⟩)
 go_ret
 exact ⟨v,ys,rfl,hS,hrow,hb2⟩
end YwYq
end Go.Proofs
end

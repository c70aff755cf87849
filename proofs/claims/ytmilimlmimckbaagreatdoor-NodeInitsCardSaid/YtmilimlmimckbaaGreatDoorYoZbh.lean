/- A part of the proof of statements of this seat: lemmas, no statement of their own. -/
import Derived.RangeFuncBox
import Derived.RangeFuncLeaves
import Derived.Shelf.Abstract
import Derived.WalkKit
import Derived.OwnWalkIn
import Derived.TacticsInMore
import Derived.LoopNIn
import Derived.LoopIn
import Derived.Maps.AppendAt
import Derived.Test.YtmilimlmimckbaaGreatDoorProg
import Derived.Test.YtmilimlmimckbaaGreatDoorYoZbg
import Derived.Test.YtmilimlmimckbaaGreatDoorYoZbf
set_option linter.unusedVariables false
set_option linter.unusedSimpArgs false
section
namespace Go.Proofs
open Go.RowKit Go.Shelf
attribute [local go_sem] Oper.semAt_some
def YvYo.upto {α:Type} (f:Nat->α) (k:Nat):List α:=(List.range k).map f
theorem YvYo.upto_succ {α:Type} (f:Nat->α) (k:Nat):YvYo.upto f (k+1)=YvYo.upto f k++[f k]:=by simp [YvYo.upto,List.range_succ]
theorem YvYo.upto_length {α:Type} (f:Nat->α) (k:Nat):(YvYo.upto f k).length=k:=by simp [YvYo.upto]
theorem YvYo.upto_all (zs:List Int):YvYo.upto (fun j=>zs[j]?.getD 0) zs.length=zs:=by
 apply List.ext_getElem
 ·simp [YvYo.upto]
 ·intro i h1 h2
  simp [YvYo.upto,h2]
set_option maxRecDepth 100000 in
set_option maxHeartbeats 2000000 in
theorem YvYo.values1_in (F:Fence) (n:Nat) (h7:F.fn 556) (hro:F.round=none) (hn:1<=n) (l Bs om n₀ b off len cap:Nat) (zs:List Int) (hreach:len*8<=140737488351232) (hb:b<n₀) (J Jx:List Int->World->Prop)
  (hY:∀ pre x W,J pre W->pre.length<len->YieldAt F (n-1) Tryz.prog l #[.int .u64 x] W fun e W' =>
   (e = .returned (.bool true)/\J (pre++[x]) W'/\Below n₀ W W')∨(e = .returned (.bool false)/\Jx (pre++[x]) W'))
  (W:World) (hBs:W.cell? ⟨Bs,om,none⟩=some (.slice (some ⟨b,off,none⟩) len cap)) (hc:∀ j,j<len->W.cell? ⟨b,off+j,none⟩=some (.int .u64 (zs[j]?.getD 0))) (h0:J [] W) :
  CallsIn F n Tryz.prog 556 #[.func (.yield l) #[] #[],.pointer (some ⟨Bs,om,none⟩)] W fun e W'=>(∃ v,e = .returned v) /\
   ((∃ ys,ys=YvYo.upto (fun j=>zs[j]?.getD 0) len/\J ys W')∨(∃ pre,(∃ k,k<=len/\pre=YvYo.upto (fun j=>zs[j]?.getD 0) k)/\Jx pre W')):=by
 refine callsIn_of_wp Tryz.func556 rfl h7 ?_ hro;simp only [Tryz.ntmps556,List.size_toArray,List.length_cons,List.length_nil,Nat.reduceAdd,Nat.reduceSub,Array.replicate_succ,Array.replicate_zero,List.push_toArray,List.append_toArray,List.nil_append,List.cons_append]
 gi_wp2
 gi_loopw [7] (fun i wr=>∃ k:Nat,k<=len/\i = .int .i64 k/\J (YvYo.upto (fun j=>zs[j]?.getD 0) k) wr/\Below n₀ W wr)
  (fun i _=>len-(intOf i).toNat)
 case atStart=>exact⟨0,Nat.zero_le _,rfl,h0,Below.refl _ _⟩
 case round =>
  obtain⟨k,hk,rfl,hJs,hnx⟩:=hrel;have hcx:k<len->wr.cell? ⟨b,off+k,none⟩=some (.int .u64 (zs[k]?.getD 0)):=fun h=>(hnx.cell (p:=⟨b,off+k,none⟩) hb).trans (hc k h);by_cases hlt:k<len
  ·obtain⟨fn,tmps,assign,body,hy,hR⟩:=hY _ (zs[k]?.getD 0) wr hJs (by rw [YvYo.upto_length];exact hlt)
   have hcx':=hcx hlt
   gi_wp2
   refine hR.mono ?_;rintro e W3 (⟨rfl,hJ3,hk3⟩ | ⟨rfl,hJx3⟩)
   ·gi_wp2
    go_roundw
    case rel=>exact⟨k+1,by omega,by simp,by rw [YvYo.upto_succ];exact hJ3,hnx.trans hk3⟩
    case measure=>simp [intOf];omega
   ·gi_wp2
    refine bodyPost_ret (results_none rfl _ _ _) rfl ?_;exact⟨⟨_,rfl⟩,.inr ⟨_,⟨k+1,by omega,(YvYo.upto_succ _ _).symm⟩,hJx3⟩⟩
  ·obtain rfl:k=len:=by omega
   gi_wp2
   go_end0
   exact⟨⟨_,rfl⟩,.inl ⟨_,rfl,hJs⟩⟩
def YvYo.Nums (n₀:Nat) (W:World) (sv:Value) (zs:List Int):Prop :=
 (sv = .slice none 0 0/\zs=[])∨∃ b off cap,sv = .slice (some ⟨b,off,none⟩) zs.length cap/\b<n₀/\∀ j,j<zs.length->W.cell? ⟨b,off+j,none⟩=some (.int .u64 (zs[j]?.getD 0))
theorem YvYo.Nums.below {n₀:Nat} {A B:World} (h:Below n₀ A B) {sv:Value} {zs:List Int}:YvYo.Nums n₀ A sv zs->YvYo.Nums n₀ B sv zs
 | .inl e=>.inl e
 | .inr ⟨b,off,cap,e,hb,hc⟩=>.inr ⟨b,off,cap,e,hb,fun j hj=>(h.cell (p:=⟨b,off+j,none⟩) hb).trans (hc j hj)⟩
set_option maxRecDepth 100000 in
set_option maxHeartbeats 1000000 in
theorem YvYo.values1_nil_in (F:Fence) (n:Nat) (h7:F.fn 556) (hro:F.round=none) (l Bs om:Nat) (J:List Int->World->Prop) (W:World) (hBs:W.cell? ⟨Bs,om,none⟩=some (.slice none 0 0)) (h0:J [] W) :
  CallsIn F n Tryz.prog 556 #[.func (.yield l) #[] #[],.pointer (some ⟨Bs,om,none⟩)] W fun e W'=>(∃ v,e = .returned v)/\J [] W':=by
 refine callsIn_of_wp Tryz.func556 rfl h7 ?_ hro;simp only [Tryz.ntmps556,List.size_toArray,List.length_cons,List.length_nil,Nat.reduceAdd,Nat.reduceSub,Array.replicate_succ,Array.replicate_zero,List.push_toArray,List.append_toArray,List.nil_append,List.cons_append]
 gi_wp2
 gi_loopw [7] (fun i wr=>i = .int .i64 0/\J [] wr) (fun _ _=>0)
 case atStart=>exact⟨rfl,h0⟩
 case round =>
  obtain⟨rfl,hJs⟩:=hrel
  gi_wp2
  go_end0
  exact⟨⟨_,rfl⟩,hJs⟩
theorem YvYo.values_stops (F:Fence) (n:Nat) (h7:F.fn 556) (hro:F.round=none) (hn:1<=n) (Bs om n₀:Nat) (sv:Value) (zs:List Int) (hreach:zs.length*8<=140737488351232) (w:World) (hBs:Bs<w.heap.size) (hn₀:n₀<=w.heap.size)
  (hc:w.cell? ⟨Bs,om,none⟩=some sv) (hI:YvYo.Nums n₀ w sv zs) :
  SeqStopsK F n Tryz.prog 556 #[.pointer (some ⟨Bs,om,none⟩)] (fun x:Int=>#[Value.int .u64 x]) (Below n₀) (fun ys=>ys=zs) (fun _=>True) zs.length w:=fun l J Jx W hW _ _ hY h0=>by
 have hc':=(hW.cell (p:=⟨Bs,om,none⟩) hBs).trans hc;rcases hI.below (hW.mono hn₀) with⟨rfl,rfl⟩ | ⟨b,off,cap,rfl,hb,hcs⟩
 ·exact(YvYo.values1_nil_in F n h7 hro l Bs om J W hc' h0).mono fun e W' ⟨he,hj⟩=>⟨he,.inl ⟨_,rfl,hj⟩⟩
 ·refine(YvYo.values1_in F n h7 hro hn l Bs om n₀ b off zs.length cap zs hreach hb J Jx hY W hc' hcs h0).mono ?_
  rintro e W' ⟨he,⟨ys,rfl,hj⟩ | ⟨pre,⟨k,hk,rfl⟩,hj⟩⟩
  ·exact⟨he,.inl ⟨_,YvYo.upto_all zs,hj⟩⟩
  ·exact⟨he,.inr ⟨_,trivial,hj⟩⟩
theorem YvYo.info22:(Tryz.prog.info? 26).map (fun i=>(i.zero,i.size,i.bytes))=some (some (.int .u64 0),1,8):=by kernel_rfl
set_option maxRecDepth 100000 in
set_option maxHeartbeats 2000000 in
theorem YvYo.appendSeq_in (F:Fence) (n:Nat) (h3:F.fn 410) (h7:F.fn 556) (hro:F.round=none) (hn:3<=n) (Bs om:Nat) (sv:Value) (zs:List Int) (hlen:zs.length<=maxLen) (hreach:zs.length*8<=140737488351232) (w:World) (hBs:Bs<w.heap.size)
  (hc:w.cell? ⟨Bs,om,none⟩=some sv) (hI:YvYo.Nums w.heap.size w sv zs) :
  CallsIn F n Tryz.prog 410 #[.slice none 0 0,.func (.func 556) #[] #[.pointer (some ⟨Bs,om,none⟩)]] w fun e W'=>∃ v,e = .returned v/\W'.ownsRow w.heap.size 26 1 v zs.length (zs.map (Value.int .u64))/\(zs=[]->v = .slice none 0 0)/\Below w.heap.size w W':=by
 have h1:1<=n:=by omega
 obtain⟨i0,hi,hz0,hz1,hz2⟩:=info_parts YvYo.info22;refine callsIn_of_wp_marks Tryz.func410 rfl h3 ?_ hro;simp only [Tryz.ntmps410,List.size_toArray,List.length_cons,List.length_nil,Nat.reduceAdd,Nat.reduceSub,Array.replicate_succ,Array.replicate_zero,List.push_toArray,List.append_toArray,List.nil_append,List.cons_append]
 gi_wp2
 have bO:=Boxed.new w 112 (.slice none 0 0);have hB0:Below w.heap.size w (w.alloc (.cells #[.slice none 0 0] 112)):=(Below.refl _ w).alloc (Nat.le_refl _) _
 refine wpIn_rangeFunc_ownG hro h1 (gf:=556) (lb:=#[.pointer (some ⟨Bs,om,none⟩)]) rfl h7 (enters_of Tryz.func556 (by kernel_rfl) rfl)
  (YvYo.values_stops F (n-1) h7 hro (by omega) Bs om w.heap.size sv zs hreach _ (by simp;omega) (by simp) ((hB0.cell (p:=⟨Bs,om,none⟩) hBs).trans hc) (hI.below hB0)) belowK_t (belowK_b (by simp)) (Below.refl _ _) (fun _=>rfl)
  (fun pre W=>(∃ v,Boxed W w.heap.size 112 v/\W.ownsRow w.heap.size 26 1 v pre.length (pre.map (Value.int .u64))/\(pre=[]->v = .slice none 0 0))/\Below w.heap.size w W)
  (fun _ _ _=>False)
  (OwnFrom.and (Own.from (holdsRow_own w.heap.size w.heap.size 112 26 1 (fun pre:List Int=>pre.length) (fun pre=>pre.map (Value.int .u64)) (fun pre v=>pre=[]->v = .slice none 0 0)) _) (ownFrom_below (Nat.le_refl _) (by simp)))
  (fun _ _ _ _ _ hs _ _=>hs)
  ⟨⟨_,bO,World.ownsRow_nil _ _ _ _,fun _=>rfl⟩,hB0⟩
  (fun x=>{ tmps:=#[.slice none 0 0,.func (.func 556) #[] #[.pointer (some ⟨Bs,om,none⟩)],.pointer (some ⟨w.heap.size,0,none⟩),undef,.slice none 0 0,.int .u64 x,.func (.func 556) #[] #[.pointer (some ⟨Bs,om,none⟩)],.int .u64 x,undef,undef,undef,undef,undef],defers:=[] }) ?assign ?body ?done ?stop
 case assign =>
  intro l x W K hK
  gi_wp2
  exact hK
 case body =>
  rintro l pre x W ⟨⟨v,hv,hrow,_⟩,hB⟩ hlt;have hc:=hv.cell
  gi_wp2_with (gi_at_builtin;refine wpListIn_append_own _ rfl _ _ 112 rfl w.heap.size 26 i0 (.int .u64 0) 1 8 Tryz.underlying112 hi hz0 hz1 hz2 rfl (by decide) _ _ _ rfl (hrow.alloc _) ⟨W.heap.size,0,none⟩ 1 1 [.int .u64 x] rfl rfl (cell_one_new _ _ _) (by simp [Value.oneCell']) (by omega) (by omega) (by have:=hB.size;simp;omega) ?_;intro v' w1 hown' hgrow _;obtain⟨g',cap',rfl⟩:=ownsRow_succ hown';obtain⟨hv1,hv2,hr2,hk2,hb2⟩:=hv.appended (by decide) hrow hB.size (Nat.le_refl _) hown' hgrow;have hc1:=hv1.cell;have hf1:=hv1.frozen)
  exact⟨hk2.from _,hb2,⟨_,hv2,by simpa using hr2,fun h=>by simp at h⟩,hB.trans hb2⟩
 case done =>
  rintro D ys W hD rfl ⟨⟨v,hv,hrow,hnil⟩,hB⟩ hK;have hc:=hv.cell
  gi_wp2
  refine⟨by simp,.inl ⟨_,_,rfl,run_takeDeferred hK,?_⟩⟩;exact⟨_,results_tmp rfl _ _ _,v,rfl,ownsRow_putObj hrow _ hK rfl,hnil,hB.trans (belowK_b (w:=w) (Nat.le_refl _) W D _ _ (by simp at hD;omega) hK rfl rfl)⟩
 case stop =>
  rintro D c pre W _ _ h _;exact h.elim
set_option maxHeartbeats 1000000 in
theorem YvYo.collect_in (F:Fence) (n:Nat) (h8:F.fn 305) (h3:F.fn 410) (h7:F.fn 556) (hro:F.round=none) (hn:4<=n) (Bs om:Nat) (sv:Value) (zs:List Int) (hlen:zs.length<=maxLen) (hreach:zs.length*8<=140737488351232) (w:World) (hBs:Bs<w.heap.size)
  (hc:w.cell? ⟨Bs,om,none⟩=some sv) (hI:YvYo.Nums w.heap.size w sv zs) :
  CallsIn F n Tryz.prog 305 #[.func (.func 556) #[] #[.pointer (some ⟨Bs,om,none⟩)]] w fun e W'=>∃ v,e = .returned v/\W'.ownsRow w.heap.size 26 1 v zs.length (zs.map (Value.int .u64))/\(zs=[]->v = .slice none 0 0)/\Below w.heap.size w W':=by
 have h1:1<=n:=by omega
 refine callsIn_of_wp Tryz.func305 rfl h8 ?_ hro;simp only [Tryz.ntmps305,List.size_toArray,List.length_cons,List.length_nil,Nat.reduceAdd,Nat.reduceSub,Array.replicate_succ,Array.replicate_zero,List.push_toArray,List.append_toArray,List.nil_append,List.cons_append]
 gi_wp2_with (gi_at_call 410;refine(YvYo.appendSeq_in F (n-1) h3 h7 hro (by omega) Bs om sv zs hlen hreach _ hBs hc hI).mono ?_;rintro e w' ⟨v,rfl,hrow,hnil,hb⟩)
 go_ret
 exact⟨v,rfl,hrow,hnil,hb⟩
end Go.Proofs
end
section
namespace Go.V
open Go.Q Go.Q.Yo Go.MapKept Go.Proofs Go.RowKit
noncomputable section
theorem qcj:qpq Tryz.prog 305 556 26 (okV (.i .u64)):=fun h bx om b off cap xs h0 hb hc hv hl w hw=>by
 have hbl:bx<w.heap.size:=by rw [hw];exact zdu hb
 obtain⟨zs,rfl⟩:∃ zs:List Int,xs=zs.map (Value.int .u64):=by
  clear hb hc hl h0
  induction xs with
  | nil=>exact⟨[],rfl⟩
  | cons v r ih =>
   obtain⟨zs,rfl⟩:=ih fun u hu=>hv u (List.mem_cons_of_mem _ hu);have:=hv v List.mem_cons_self
   cases v <;> simp [okV,IsKey] at this
   subst this;exact⟨_ :: zs,rfl⟩
 rw [List.length_map] at hb hl h0
 have hcell:∀ j,j<zs.length->w.cell? ⟨b,off+j,none⟩=some (.int .u64 (zs[j]?.getD 0)):=fun j hj=>by
  have:=hc j (.int .u64 (zs[j]?.getD 0)) (by rw [List.getElem?_map,List.getElem?_eq_getElem hj];rfl);subst hw;exact this
 have hbb:b<w.heap.size:=by
  have:=hcell 0 h0;exact zdu (a:=⟨b,off+0,none⟩) this
 have hN:YvYo.Nums w.heap.size w (.slice (some ⟨b,off,none⟩) zs.length cap) zs:=.inr ⟨b,off,cap,rfl,hbb,hcell⟩;refine(callsIn_wide.1 (YvYo.collect_in Fence.wide 5 trivial trivial trivial rfl (by omega) bx om _ zs (by simp only [maxLen];omega) (by omega) w hbl (by subst hw;exact hb) hN)).mono ?_;rintro e w' ⟨v,rfl,hrow,hnil,B⟩;obtain⟨s,rfl,R,hn,hz⟩:=zfg hrow;subst hw;exact⟨_,rfl,⟨B.os,B.tape,B.output,rfl,fun k=>by cases k⟩,s,rfl,R,by rw [hn,List.length_map],⟨B.size,B.block⟩,hz⟩
def qon (cl:Nat) (vs:List AV):Bool:=a1 vs fun f=>dF.x f fun g _ _=>Nat.beq g cl
theorem qa8 {call0:zbk} (CO:za7 Tryz.prog call0):FnOk Tryz.prog 216 fun _ vs h K=>Bool.rec (motive:=fun _=>Rs) (qik call0 (.i .u64) 307 306 26 vs h K) (qhp call0 (.i .u64) 556 306 26 vs h K) (qon 556 vs) :=
 FnOk.or (qah CO) (qbt CO zdr qcj zww) (qon 556)
end
end Go.V
end
section
namespace Go.V
open Go.Q Go.MapKept
noncomputable section
def selE (kv:Bool) (e:MapEntry):Value:=if kv then e.key else e.val
def selA (kv:Bool) (p:AV × AV):AV:=Bool.rec p.2 p.1 kv
def qoa (P:Program) (fC cl el es:Nat) (kv:Bool) (good:Value->Prop):Prop:=∀(h:zaa) (bx om r ck:Nat) (en:Array MapEntry),zab h ⟨bx,om,none⟩=some (.map (some r))->h[r]? = some (.map en ck)->Stamped en ck->(∀ x∈en.toList,good (selE kv x))->en.size<=1000000 ->
 CallsH P fC #[.func (.func cl) #[] #[.pointer (some ⟨bx,om,none⟩)]] h fun v h'=>∃(s:Slc) (ys:List Value),v=s.v/\ys.Perm (en.toList.map (selE kv))/\Row h.size h' el es s (ys.flatMap fun v=>v.cells.toList)/\s.len=ys.length/\(ys=[]->s=⟨none,0,0⟩)/\Ext h.size h h'/\Z0 h' s el
def qng (P:Program) (fS fC fT:Nat) (cm:Value):Prop:=∀(p0:Value) (k:Slc->zaa->Prop) (h:zaa),(CallsH P fC #[p0] h fun v h'=>∃ s:Slc,v=s.v/\CallsH P fT #[s.v,cm] h' fun v' h4=>v' = .tuple #[]/\k s h4)->CallsH P fS #[p0,cm] h fun v h'=>∃ s:Slc,v=s.v/\k s h'
def qqi (call0:zbk) (g:Nat) (v:AV) (l:List AV):List AV:=match l with
 | []=>[v]
 | u :: r=>match call0 g [u,v] ⟨GN,mt Blk DH⟩ (fun x _=>dI.x x fun _ x=>ilt x 0) with | true=>u :: qqi call0 g v r | false=>v :: u :: r
def qns (call0:zbk) (g:Nat) (l:List AV):List AV:=match l with | []=>[] | v :: r=>qqi call0 g v (qns call0 g r)
def qoo (call0:zbk) (fT cg el es:Nat) (ks:List AV) (h:HS) (K:AV->HS->Rs):Rs:=match ks with
 | []=>Bool.rec (motive:=fun _=>Rs) false (K (.nl 1) h) (call0 fT [.nl 1,.f cg [] []] ⟨GN,mt Blk DH⟩ fun v _=>veq v (.tu []))
 | _=>zb3 (zgs ks) fun n=>(fun L:List AV=>Bool.rec (motive:=fun _=>Rs) false (zrk el es (Nat.mul n es) true L h fun b h=>K (.sl b 0 n BIG) h) (and (znl call0 fT [.f cg [] []] el es n ks L) (and (Nat.beq (zgs L) (Nat.mul n es)) (L.all zge)))) (zo9 (qns call0 cg ks))
def qci (es:Nat) (v:AV):Bool:=Nat.beq (zgs (cel v)) es
def zwd (call0:zbk) (kv:Bool) (zt:List Value) (cl fT el es:Nat) (vs:List AV) (h:HS) (K:AV->HS->Rs):Rs:=a2 vs fun f cm=>dF.x cm fun cg f1 c1=>dF.x f fun g fs cs=>a1 cs fun p=>dP.x p fun b o=>zuz h b fun bn _ _ _ _ d c=>Bool.rec (motive:=fun _=>Rs) false
 ((ac d o).x Rs c fun x=>opt x false fun m=>dM.x m false fun mb=>qcz h mb fun _ l=>Bool.rec (motive:=fun _=>Rs) false (qoo call0 fT cg el es (l.map (selA kv)) h K) (and (l.all fun p=>kab (.o zt) (selA kv p)) (and (Nat.ble (zgs l) 1000) (l.all fun p=>qci es (selA kv p)))))
 (and (and (zxo f1) (zxo c1)) (and (Nat.blt o bn) (and (Nat.beq g cl) (zxo fs))))
theorem zr0 {φ:Ph} (kv:Bool):∀ {l:List (AV × AV)} {us:List (Value × Value)},cvp φ l=some us->cvs φ (l.map (selA kv))=some (us.map fun p=>if kv then p.1 else p.2)
 | [],us,h=>by cases h;rfl
 | p :: r,us,h=>by
  obtain⟨k,v,w,rfl,h1,h2,h3⟩:=zmr h
  cases kv with
  | true=>exact zbh h1 (zr0 true h3)
  | false=>exact zbh h2 (zr0 false h3)
theorem qgn {z:List Value}:∀ {l:List AV},laL z l=true->l.all zge=true:=by
 induction z with
 | nil=>intro l h;cases l with | nil=>rfl | cons a r=>cases h
 | cons z r ih =>
  intro l h
  cases l with
  | nil=>rfl
  | cons v s =>
   obtain⟨h1,h2⟩:=zag.1 h;rw [List.all_cons,ih h2,Bool.and_true]
   cases z <;> cases v <;> first | rfl | cases h1
theorem qks {z:List Value} {v:AV} (h:kab (.o z) v=true):∃ l,v = .ag l/\laL z l=true:=by
 cases v <;> simp [kab] at h
 exact⟨_,rfl,h⟩
theorem zy5 {φ:Ph} {z:List Value} {es:Nat}:∀ {p:List AV} {ys:List Value},(∀ a∈p,kab (.o z) a=true/\qci es a=true)->cvs φ p=some ys->cvs φ (zo9 p)=some (ys.flatMap fun v=>v.cells.toList)/\(zo9 p).length=p.length*es/\(zo9 p).all zge=true/\∀ u∈(ys.flatMap fun v=>v.cells.toList),u.oneCell'=true
 | [],ys,_,h=>by cases h;exact⟨rfl,by simp [zo9],rfl,by simp⟩
 | a :: r,ys,hk,h=>by
  obtain⟨u,w,rfl,h1,h2⟩:=zcp h;obtain⟨l,rfl,hl⟩:=qks (hk _ List.mem_cons_self).1
  have hle:l.length=es:=by
   have:=Nat.eq_of_beq_eq_true (hk _ List.mem_cons_self).2;rw [zav] at this;exact this
  obtain⟨us,k1,k2,rfl⟩:=zfn.1 h1;obtain⟨i1,i2,i3,i4⟩:=zy5 (fun b hb=>hk b (List.mem_cons_of_mem _ hb)) h2;have ec:zo9 (.ag l :: r)=l++zo9 r:=rfl;rw [ec];refine⟨?_,by rw [List.length_append,i2,hle,List.length_cons,Nat.succ_mul];omega,by rw [List.all_append,qgn hl,i3];rfl,fun u hu=>?_⟩
  ·rw [List.flatMap_cons]
   exact zg5 _ _ _ _ k1 i1
  ·rw [List.flatMap_cons,List.mem_append] at hu
   rcases hu with hu | hu
   ·exact k2 u hu
   ·exact i4 u hu
theorem zs7 {P:Program} {call0:zbk} {kv:Bool} {zt:List Value} {fS fC fT cl el es:Nat} (CO:za7 P call0) (ok:zad P fS) (col:qoa P fC cl el es kv (okV (.o zt))) (srt:∀ cg,qng P fS fC fT (.func (.func cg) #[] #[])):FnOk P fS fun _=>zwd call0 kv zt cl fT el es:=fun call _ vs h K H=>by
 refine⟨ok,?_⟩;obtain⟨f,cm,hvs,H0⟩:=qbo H;obtain⟨cg,f1,c1,hcm,H1⟩:=zxi H0;obtain⟨g,fs,cs,hf,H2⟩:=zxi H1;obtain⟨p,hcs,H3⟩:=zq0 H2;obtain⟨b,o,hp,H4⟩:=znv H3;obtain⟨bl,hb,H5⟩:=zd3 H4;obtain⟨hh,H6⟩:=zbz H5;obtain⟨hq,hh⟩:=zag.1 hh;obtain⟨hq1,hq2⟩:=zag.1 hq;obtain⟨ho,hh⟩:=zag.1 hh;obtain⟨hg,hn⟩:=zag.1 hh;rw [Nat.blt_eq] at ho;have hg':=Nat.eq_of_beq_eq_true hg;have hfs:fs=[]:=by cases fs with | nil=>rfl | cons a r=>cases hn
 have hf1:f1=[]:=by cases f1 with | nil=>rfl | cons a r=>cases hq1
 have hc1:c1=[]:=by cases c1 with | nil=>rfl | cons a r=>cases hq2
 rw [zmm] at H6;obtain⟨m,hm,H7⟩:=zjz H6;rcases zsi H7 with⟨_,hq⟩ | ⟨mb,hmb,H8⟩
 ·cases hq
 obtain⟨kk,l,hl,H9⟩:=zj2 H8;obtain⟨hh,H10⟩:=zbz H9;obtain⟨hk,hh⟩:=zag.1 hh;obtain⟨hlen,hflat⟩:=zag.1 hh;replace hlen:=Nat.le_of_ble_eq_true hlen;rw [zav] at hlen;clear H H0 H1 H2 H3 H4 H5 H6 H7 H8 H9 hh hg hn hq1 hq2;subst hvs hcm hf hcs hp hfs hmb hg' hf1 hc1
 have run:∀(v:AV) (h1:HS),(∀(base:zaa) (φ:Ph) (hc:zaa),Rel base φ h hc->∀(s:Slc) (q:List AV) (ys:List Value) (h':zaa),q∈pms (l.map (selA kv))->q.Perm (l.map (selA kv))->cvs φ q=some ys->Row hc.size h' el es s (ys.flatMap fun v=>v.cells.toList)->s.len=ys.length->(ys=[]->s=⟨none,0,0⟩)->Ext hc.size hc h'->Z0 h' s el ->
   CallsH P fT #[s.v,.func (.func cg) #[] #[]] h' fun v' h4=>v' = .tuple #[]/\∃ φ',Ex φ h φ' h1/\Rel base φ' h1 h4/\cv φ' v=some s.v)->∀(base:zaa) (φ:Ph) (hc:zaa) (us:List Value),Rel base φ h hc->cvs φ [.f g [] [.p b o],.f cg [] []]=some us ->
   CallsHD false P fS us.toArray hc fun u hc'=>∃ φ',Ex φ h φ' h1/\Rel base φ' h1 hc'/\cv φ' v=some u:=fun v h1 S base φ hc us R hv=>by
  obtain⟨u,u',rfl,c1,c2⟩:=qmv hv
  cases c2
  simp only [cv,cvs] at c1
  cases hpb:φ b with
  | none=>rw [hpb] at c1;cases c1
  | some x =>
   rw [hpb] at c1
   cases c1
   obtain⟨v0,u0,q1,q2,_,q4⟩:=R.toR.read hpb hb ho;rw [hm] at q1;cases q1;simp only [cv,Option.map_eq_some_iff,if_true] at q2;obtain⟨y,hy,rfl⟩:=q2;obtain⟨_,en,ck,m1,m2,m3⟩:RelM φ kk l y hc:=(R.blk mb _ y (R.idlt hy) hl hy).1;have hks:=zr0 kv m3;rw [List.map_map] at hks
   have hpe:(en.toList.map ((fun p:Value × Value=>if kv then p.1 else p.2) ∘ fun e=>(e.key,e.val)))=en.toList.map (selE kv):=by
    apply List.map_congr_left;intro e _;rfl
   rw [hpe] at hks;have hes:en.size=l.length:=by have:=zpm m3;simpa using this
   have hok:∀ e∈en.toList,okV (.o zt) (selE kv e):=fun e he=>by
    obtain⟨j,hj⟩:=List.getElem?_of_mem he;have h1:(en.toList.map (selE kv))[j]? = some (selE kv e):=by rw [List.getElem?_map,hj];rfl
    have hjl:j<(l.map (selA kv)).length:=by
     have:=(List.getElem?_eq_some_iff.1 hj).1;rw [Array.length_toList] at this;rw [List.length_map];omega
    obtain⟨w,hw,hc1⟩:=zdn _ _ hks j _ (List.getElem?_eq_getElem hjl);rw [h1] at hw;cases hw;have hmem:=List.getElem_mem hjl;obtain⟨pr,hpr,e2⟩:=List.mem_map.1 hmem;rw [← e2] at hc1;rw [List.all_eq_true] at hk;exact(ziz (hk pr hpr) hc1).1
   refine(srt cg _ (fun s h4=>∃ φ',Ex φ h φ' h1/\Rel base φ' h1 h4/\cv φ' v=some s.v) hc ((col hc x.b (x.o+o) y.b ck en q4 m1 m2 hok (by omega)).mono ?_)).mono ?_
   ·rintro v' h' ⟨s,ys,rfl,hp,hr,hsl,hnil,hx,hz⟩
    obtain⟨q,hq1,hq2,hq3⟩:=ztz hks hp;exact⟨s,rfl,S base φ hc R s q ys h' hq1 hq3 hq2 hr hsl hnil hx hz⟩
   ·rintro v' h' ⟨s,rfl,hh⟩
    obtain⟨φ',X,R',hcv⟩:=hh;exact⟨φ',X,R',hcv⟩
 have hkk:∀ a∈l.map (selA kv),kab (.o zt) a=true/\qci es a=true:=fun a ha=>by
  obtain⟨pr,hpr,rfl⟩:=List.mem_map.1 ha;rw [List.all_eq_true] at hk hflat;exact⟨hk pr hpr,hflat pr hpr⟩
 generalize hks:(l.map (selA kv))=ks at H10 run hkk
 cases ks with
 | nil =>
  have H11:Bool.rec (motive:=fun _=>Rs) false (K (.nl 1) h) (call0 fT [.nl 1,.f cg [] []] ⟨GN,mt Blk DH⟩ fun v _=>veq v (.tu []))=true:=H10;obtain⟨hc0,H12⟩:=zbz H11;obtain⟨_,v0,h0,hv0,hc1⟩:=CO _ _ _ _ hc0;have:=zmg hv0;subst this;refine⟨.nl 1,h,H12,run (.nl 1) h fun base φ hc R s q ys h' hq hqp hqv hr hsl hnil hx hz=>?_⟩;have hqn:q=[]:=by have:=hqp.length_eq;cases q with | nil=>rfl | cons a r=>simp at this
  subst hqn
  cases hqv
  have hs:=hnil rfl;subst hs;have R0:=Rel.zero (base:=hc) (hc:=h') hx.size hx.block;refine(hc1 hc _ h' [.slice none 0 0,.func (.func cg) #[] #[]] R0 rfl).mono ?_;rintro u h4 ⟨φ',_,R4,hu⟩
  cases hu
  exact⟨rfl,φ,Ex.rfl,R.grow R4.sz R4.old,rfl⟩
 | cons a r =>
  obtain⟨L,hLd⟩:∃ L,L=zo9 (qns call0 cg (a :: r)):=⟨_,rfl⟩
  have H11:zb3 (zgs (a :: r)) (fun n=>Bool.rec (motive:=fun _=>Rs) false (zrk el es (Nat.mul n es) true L h fun b h=>K (.sl b 0 n BIG) h) (and (znl call0 fT [.f cg [] []] el es n (a :: r) L) (and (Nat.beq (zgs L) (Nat.mul n es)) (L.all zge))))=true:=by rw [hLd];exact H10
  rw [natK_eq,zav] at H11;obtain⟨hh,H12⟩:=zbz H11;obtain⟨hchk,hh⟩:=zag.1 hh;obtain⟨hLn,hLf⟩:=zag.1 hh;replace hLn:=Nat.eq_of_beq_eq_true hLn;rw [zav] at hLn;obtain⟨d,t,hn,hd,hg,H13⟩:=zfj hLn H12;generalize hnn:(a :: r).length=n at *;have hn0:0<n:=by rw [← hnn];simp
  replace hd:n*es<=4 ^ d:=hd;replace hg:∀ j,j<n*es->gt d j t=L[j]?:=hg;refine⟨_,_,H13,run _ _ fun base φ hc R s q ys h' hq hqp hqv hr hsl hnil hx hz=>?_⟩;have hqk:∀ a∈q,kab (.o zt) a=true/\qci es a=true:=fun a ha=>hkk a (hqp.subset ha);have hql:q.length=n:=by rw [hqp.length_eq,hnn]
  obtain⟨i1,i2,i3,i4⟩:=zy5 hqk hqv;have hsn:s.len=n:=by rw [hsl,cvs_len _ _ hqv,hql]
  obtain⟨g1,e1,e2,e3,hcall⟩:=zln (base:=hc) (ms:=[.func (.func cg) #[] #[]]) CO hchk hn0 hLf hq (by rw [i2,hql]) i3 (fun ψ=>by rw [zkl (ψ:=φ) i3];exact i1) i4 hx.size hx.block hr hz hsn (fun _=>rfl);refine CallsH.mono hcall ?_;rintro u h4 ⟨rfl,z1,z2,z3⟩;obtain⟨R5,X5⟩:=R.newAt (x:=⟨g1,0,s.cap⟩) (bl:=.c ⟨Nat.mul n es,true,true,el,es,d,t⟩) z1 z2 e2 hn (z3 (φ.up h.nx ⟨g1,0,s.cap⟩) d t hd hg);refine⟨rfl,_,X5,R5,zdj.2 ⟨_,Ph.up_eq,by rw [zbx];show n<=s.cap;omega,?_⟩⟩;rw [zbx];obtain⟨sa,sl,sc⟩:=s;simp only at e1 hsn;subst e1;subst hsn;rfl
end
end Go.V
end
section
namespace Go.Proofs
open Go.RowKit Go.Shelf Go.Maps
open Go.ChangeMaps (setBlock)
attribute [local go_sem] Oper.semAt_some
namespace YwnYo
open YwYo (PT pcs pv zdv ze4 zcc zjs mem_left zey)
set_option maxRecDepth 100000 in
set_option maxHeartbeats 2000000 in
theorem values1_in (F:Fence) (n:Nat) (h7:F.fn 456) (hro:F.round=none) (hn:1<=n) (l Bm om b ck:Nat) (es:Array MapEntry) (J Jx:List PT->World->Prop)
  (hcs:∀ x∈es.toList,∃ q:PT,x.val=pv q) (hold:∀ x∈es.toList,x.born<ck) (hnd:(es.toList.map (·.born)).Nodup)
  (hY:∀ pre x W,J pre W->pre.length<es.size->YieldAt F (n-1) Tryz.prog l #[pv x] W fun e W' =>
   (e = .returned (.bool true)/\J (pre++[x]) W'/\KeepsWalks W W')∨(e = .returned (.bool false)/\Jx (pre++[x]) W'))
  (W:World) (hJ:AbidesFrom W.heap.size J) (hm:W.cell? ⟨Bm,om,none⟩=some (.map (some b))) (hb:W.heap[b]? = some (.map es ck)) (h0:J [] W) :
  CallsIn F n Tryz.prog 456 #[.func (.yield l) #[] #[],.pointer (some ⟨Bm,om,none⟩)] W fun e W'=>(∃ v,e = .returned v) /\
   ((∃ ys,(ys.map pv).Perm (es.toList.map (·.val))/\J ys W')∨(∃ pre,True/\Jx pre W')):=by
 refine callsIn_of_wp Tryz.func456 rfl h7 ?_ hro;simp only [Tryz.ntmps456,List.size_toArray,List.length_cons,List.length_nil,Nat.reduceAdd,Nat.reduceSub,Array.replicate_succ,Array.replicate_zero,List.push_toArray,List.append_toArray,List.nil_append,List.cons_append]
 gi_wp2_with (first
  | (gi_at_range;refine zdv rfl _ 546 rfl 549 99 Tryz.underlying546 b ck es rfl hb ?_)
  | gi_in)
 go_frame
 gi_loopw [4] (fun _ wr=>∃(seen:Array Nat) (ys:List MapEntry) (c0:Nat),wr.heap[W.heap.size]? = some (.mapIter (some b) ck seen c0)/\ck<=c0/\wr.heap[b]? = some (.map es ck)/\seen.toList=ys.map (·.born)/\(∀ y∈ys,y∈es.toList)/\(ys.map (·.born)).Nodup/\∃ qs,qs.map pv=ys.map (·.val)/\J qs wr)
  (fun _ wr=>match wr.heap[W.heap.size]? with | some (.mapIter _ _ seen _)=>es.size-seen.size | _=>0)
 case atStart =>
  refine⟨#[],[],ck,World.alloc_heap_new _ _,Nat.le_refl _,?_,rfl,by simp,by simp,[],rfl,hJ [] W _ none h0 ⟨rfl,rfl,rfl,by simp,fun k hk _=>Below.heap_alloc _ _ k hk⟩ (fun r e=>by cases e)⟩;exact(Below.heap_alloc _ _ b (Array.getElem?_eq_some_iff.1 hb).1).trans hb
 case round =>
  obtain⟨seen,ys,c0,hr,hc0,hbr,hse,hys,hyn,qs,hqs,hJs⟩:=hrel
  gi_wp2_with (first
   | (gi_at_next;refine ze4 rfl _ rfl W.heap.size b ck c0 seen es ck rfl hr hbr hold hc0 ?_ ?_)
   | gi_in)
  ·intro hl
   gi_wp2
   go_end0
   exact⟨⟨_,rfl⟩,.inl ⟨qs,hqs ▸ (zey hnd hse hys hyn hl).map _,hJs⟩⟩
  ·intro x w2 hx hg2 hs2 hr2
   have hxm:x∈es.toList:=(YwYo.mem_left (by simpa using hx)).1;have hbw:b≠W.heap.size:=by have:=(Array.getElem?_eq_some_iff.1 hb).1;omega
   have hb2:w2.heap[b]? = some (.map es ck):=(hg2.block b (Array.getElem?_eq_some_iff.1 hbr).1 (fun e=>hbw (Option.some.inj e))).trans hbr;have hen:=run_entry_at (P:=Tryz.prog) w2 W.heap.size b ck seen es ck x hr2 hb2 hxm hnd;obtain⟨⟨s',t',v',m',d'⟩,hv⟩:=hcs x hxm;have hY':=hY qs (s',t',v',m',d');simp only [pv] at hY';rw [hv] at hen ⊢;simp only [pv] at hen ⊢;have hx2:x.born ∉ seen.toList:=(YwYo.mem_left (by simpa using hx)).2
   have hlen:ys.length<es.size:=by
    have:=zjs ((x :: ys).map (·.born)) (es.toList.map (·.born)) (by rw [List.map_cons,List.nodup_cons,← hse];exact⟨hx2,hse ▸ hyn⟩) (fun k hk=>by
     obtain⟨y,hy,rfl⟩:=List.mem_map.1 hk
     exact List.mem_map.2 ⟨y,(List.mem_cons.1 hy).elim (fun e=>e ▸ hxm) (hys y),rfl⟩)
    simp at this;omega
   have hJ2:J qs w2:=hJ qs wr w2 (some W.heap.size) hJs hg2 (fun r e=>by cases e;exact⟨Nat.le_refl _,_,hr,rfl⟩)
   have hJ3:J qs (w2.alloc (.cells #[.string s',.int .i64 t',.int .i64 v',.int .u64 m',.int .u16 d'] 99))
    := hJ qs w2 _ none hJ2 ⟨rfl,rfl,rfl,by simp,fun k hk _=>Below.heap_alloc _ _ k hk⟩ (fun r e=>by cases e)
   have hr3:(w2.alloc (.cells #[.string s',.int .i64 t',.int .i64 v',.int .u64 m',.int .u16 d'] 99)).heap[W.heap.size]? = some (.mapIter (some b) ck (seen.push x.born) ck):=(Below.heap_alloc _ _ _ (Array.getElem?_eq_some_iff.1 hr2).1).trans hr2;have hb3:(w2.alloc (.cells #[.string s',.int .i64 t',.int .i64 v',.int .u64 m',.int .u16 d'] 99)).heap[b]? = some (.map es ck):=(Below.heap_alloc _ _ _ (Array.getElem?_eq_some_iff.1 hb2).1).trans hb2;obtain⟨fn,tmps,assign,body,hy,hR⟩:=hY' _ hJ3 (by have:=congrArg List.length hqs;simp at this;omega);clear hs2
   gi_wp2
   refine hR.mono ?_;rintro e W3 (⟨rfl,hJ4,hk4⟩ | ⟨rfl,hJx4⟩)
   ·gi_wp2
    have hr4:=hk4.same _ _ hr3 rfl;have hb4:=hk4.same _ _ hb3 rfl
    go_roundw
    case rel =>
     refine⟨seen.push x.born,ys++[x],ck,hr4,Nat.le_refl _,hb4,by simp [hse],fun y hy=>(List.mem_append.1 hy).elim (hys y) (fun e=>by simp at e;exact e ▸ hxm),?_,qs++[(s',t',v',m',d')],by rw [List.map_append,List.map_append,hqs];simp [hv],hJ4⟩;rw [List.map_append,List.nodup_append];refine⟨hyn,by simp,fun a ha b hb e=>?_⟩;simp at hb;subst hb;rw [← hse] at ha;exact hx2 (e ▸ ha)
    case measure =>
     rw [hr4,hr];have:seen.size=ys.length:=by rw [← Array.length_toList,hse,List.length_map]
     simp;omega
   ·gi_wp2
    refine bodyPost_ret (results_none rfl _ _ _) rfl ?_;exact⟨⟨_,rfl⟩,.inr ⟨_,trivial,hJx4⟩⟩
theorem values_stops (F:Fence) (n:Nat) (h7:F.fn 456) (hro:F.round=none) (hn:1<=n) (Bm om b ck:Nat) (es:Array MapEntry) (w:World)
  (hcs:∀ x∈es.toList,∃ q:PT,x.val=pv q) (hold:∀ x∈es.toList,x.born<ck) (hnd:(es.toList.map (·.born)).Nodup)
  (hBm:Bm<w.heap.size) (hm:w.cell? ⟨Bm,om,none⟩=some (.map (some b))) (hb:w.heap[b]? = some (.map es ck)) :
  SeqStopsK F n Tryz.prog 456 #[.pointer (some ⟨Bm,om,none⟩)] (fun x:PT=>#[pv x]) KeepsWalks (fun ys=>(ys.map pv).Perm (es.toList.map (·.val))) (fun _=>True) es.size w:=fun l J Jx W hW hJ _ hY h0 =>
 values1_in F n h7 hro hn l Bm om b ck es J Jx hcs hold hnd hY W hJ ((hW.cell (p:=⟨Bm,om,none⟩) hBm).trans hm) ((hW.block b (Array.getElem?_eq_some_iff.1 hb).1).trans hb) h0
theorem infoP:(Tryz.prog.info? 99).map (fun i=>(i.zero,i.size,i.bytes))=some (some (.agg #[.string ⟨#[]⟩,.int .i64 0,.int .i64 0,.int .u64 0,.int .u16 0]),5,48):=by kernel_rfl
theorem cells5_new (w:World) (x:PT) (t:TypeId):∀ j u,(pcs x)[j]? = some u->(w.alloc (.cells #[.string x.1,.int .i64 x.2.1,.int .i64 x.2.2.1,.int .u64 x.2.2.2.1,.int .u16 x.2.2.2.2] t)).cell? ((⟨w.heap.size,0,none⟩:Addr).add j)=some u:=by
 intro j u hj
 match j,hj with
 | 0,hj=>simp [pcs] at hj;subst hj;simp [Addr.add]
 | 1,hj=>simp [pcs] at hj;subst hj;simp [Addr.add]
 | 2,hj=>simp [pcs] at hj;subst hj;simp [Addr.add]
 | 3,hj=>simp [pcs] at hj;subst hj;simp [Addr.add]
 | 4,hj=>simp [pcs] at hj;subst hj;simp [Addr.add]
 | k+5,hj=>simp [pcs] at hj
theorem cell_at {W:World} {B:Nat} {c:Array Value} {t:TypeId} (h:W.heap[B]? = some (.cells c t (0,0))) (j:Nat) (v:Value) (hj:c[j]? = some v):W.cell? ⟨B,j,none⟩=some v:=by simp [World.cell?,h,hj]
set_option maxRecDepth 100000 in
set_option maxHeartbeats 2000000 in
theorem appendSeq_in (F:Fence) (n:Nat) (h3:F.fn 514) (h7:F.fn 456) (hro:F.round=none) (hn:3<=n) (Bs om b ck:Nat) (es:Array MapEntry) (w:World)
  (hcs:∀ x∈es.toList,∃ q:PT,x.val=pv q) (hold:∀ x∈es.toList,x.born<ck) (hnd:(es.toList.map (·.born)).Nodup) (hlen:es.size<=1000000)
  (hBs:Bs<w.heap.size) (hm:w.cell? ⟨Bs,om,none⟩=some (.map (some b))) (hb:w.heap[b]? = some (.map es ck)) :
  CallsIn F n Tryz.prog 514 #[.slice none 0 0,.func (.func 456) #[] #[.pointer (some ⟨Bs,om,none⟩)]] w fun e W'=>∃(v:Value) (ys:List PT),e = .returned v/\(ys.map pv).Perm (es.toList.map (·.val))/\W'.ownsRow w.heap.size 99 5 v ys.length (ys.flatMap pcs)/\(ys=[]->v = .slice none 0 0)/\Below w.heap.size w W':=by
 have h1:1<=n:=by omega
 obtain⟨i0,hi,hz0,hz1,hz2⟩:=info_parts infoP;refine callsIn_of_wp_marks Tryz.func514 rfl h3 ?_ hro;simp only [Tryz.ntmps514,List.size_toArray,List.length_cons,List.length_nil,Nat.reduceAdd,Nat.reduceSub,Array.replicate_succ,Array.replicate_zero,List.push_toArray,List.append_toArray,List.nil_append,List.cons_append]
 gi_wp2
 have bO:=Boxed.new w 48 (.slice none 0 0);have hB0:Below w.heap.size w (w.alloc (.cells #[.slice none 0 0] 48)):=(Below.refl _ w).alloc (Nat.le_refl _) _
 refine wpIn_rangeFunc_ownH hro h1 (gf:=456) (lb:=#[.pointer (some ⟨Bs,om,none⟩)]) rfl h7 (enters_of Tryz.func456 (by kernel_rfl) rfl)
  (values_stops F (n-1) h7 hro (by omega) Bs om b ck es _ hcs hold hnd (by simp;omega) ((hB0.cell (p:=⟨Bs,om,none⟩) hBs).trans hm) ((hB0.block b (Array.getElem?_eq_some_iff.1 hb).1).trans hb)) walksK_t walksK_b (Below.refl _ _) (fun _=>rfl)
  (fun pre W=>(∃ v,Boxed W w.heap.size 48 v/\W.ownsRow w.heap.size 99 5 v pre.length (pre.flatMap pcs)/\(pre=[]->v = .slice none 0 0))/\Below w.heap.size w W)
  (fun _ _ _=>False)
  (OwnFrom.and (Own.from (holdsRow_own w.heap.size w.heap.size 48 99 5 (fun pre:List PT=>pre.length) (fun pre=>pre.flatMap pcs) (fun pre v=>pre=[]->v = .slice none 0 0)) _) (ownFrom_below (Nat.le_refl _) (by simp)))
  (fun _ _ _ _ _ hs _ _=>hs)
  ⟨⟨_,bO,World.ownsRow_nil _ _ _ _,fun _=>rfl⟩,hB0⟩
  (fun x a' W=>∃ B,w.heap.size+1<=B/\W.heap[B]? = some (.cells #[.string x.1,.int .i64 x.2.1,.int .i64 x.2.2.1,.int .u64 x.2.2.2.1,.int .u16 x.2.2.2.2] 99 (0,0)) /\
   a' = { tmps:=#[.slice none 0 0,.func (.func 456) #[] #[.pointer (some ⟨Bs,om,none⟩)],.pointer (some ⟨w.heap.size,0,none⟩),undef,.slice none 0 0,.pointer (some ⟨B,0,none⟩),.func (.func 456) #[] #[.pointer (some ⟨Bs,om,none⟩)],pv x,undef,undef,undef,undef,undef],defers:=[] })
  ?ax ?assign ?body ?done ?stop
 case ax =>
  rintro x a' _ X Y row ⟨B,h1,h2,h3⟩ hg hr;refine⟨B,h1,(hg.block B (Array.getElem?_eq_some_iff.1 h2).1 (fun e=>?_)).trans h2,h3⟩;obtain⟨_,o,ho,hc⟩:=hr B e.symm;rw [h2] at ho;cases ho;cases hc
 case assign =>
  intro l pre x W K hI hK;obtain⟨x0,x1,x2,x3,x4⟩:=x;simp only [pv];have hsz:w.heap.size<=W.heap.size:=hI.2.size;obtain⟨⟨v,hv,hrow,hnil⟩,hB⟩:=hI;have hvl:w.heap.size<W.heap.size:=(Array.getElem?_eq_some_iff.1 hv).1
  gi_wp2
  refine hK _ _ ?_ ?_ ?_ ⟨W.heap.size,by omega,World.alloc_heap_new _ _,rfl⟩
  ·exact(KeepsOthers.alloc W _).from _
  ·exact KeepsWalks.alloc W _
  ·exact⟨⟨v,hv.alloc _,hrow.alloc _,hnil⟩,hB.trans ((Below.refl _ W).alloc (by omega) _)⟩
 case body =>
  rintro l pre x a' W hwl - ⟨⟨v,hv,hrow,_⟩,hB⟩ ⟨B,hB1,hB2,rfl⟩ hlt;obtain⟨x0,x1,x2,x3,x4⟩:=x;have hc:=hv.cell;have k0:=cell_at hB2 0 _ rfl;have k1:=cell_at hB2 1 _ rfl;have k2:=cell_at hB2 2 _ rfl;have k3:=cell_at hB2 3 _ rfl;have k4:=cell_at hB2 4 _ rfl
  gi_wp2_with (gi_at_builtin;refine wpListIn_append_own _ rfl _ _ 48 rfl w.heap.size 99 i0 _ 5 48 Tryz.underlying48 hi hz0 hz1 hz2 rfl (by decide) _ _ _ rfl (hrow.alloc _) ⟨W.heap.size,0,none⟩ 1 1 (pcs (x0,x1,x2,x3,x4)) rfl rfl (cells5_new _ _ _) (by simp [pcs,Value.oneCell']) (by simp [maxLen];omega) (by omega) (by have:=hB.size;simp;omega) ?_;intro v' w1 hown' hgrow _;obtain⟨g',cap',rfl⟩:=ownsRow_succ hown';obtain⟨hv1,hv2,hr2,hk2,hb2⟩:=hv.appended (by decide) hrow hB.size (Nat.le_refl _) hown' hgrow;have hc1:=hv1.cell;have hf1:=hv1.frozen)
  exact⟨hk2.from _,⟨hk2.size,fun k o hk hw=>hk2.same k o hk (Obj.not_cells_of_walk hw)⟩,⟨_,hv2,by rw [show (pre++[(x0,x1,x2,x3,x4)]).length=pre.length+1 from by simp,show (pre++[(x0,x1,x2,x3,x4)]).flatMap pcs=pre.flatMap pcs++pcs (x0,x1,x2,x3,x4) from by rw [List.flatMap_append,List.flatMap_cons,List.flatMap_nil,List.append_nil]];first | exact⟨hr2,fun h=>by simp at h⟩ | exact⟨hr2.1,fun h=>by simp at h⟩⟩,hB.trans hb2⟩
 case done =>
  rintro D ys W hD hS ⟨⟨v,hv,hrow,hnil⟩,hB⟩ hK;have hc:=hv.cell
  gi_wp2
  refine⟨by simp,.inl ⟨_,_,rfl,run_takeDeferred hK,?_⟩⟩;exact⟨_,results_tmp rfl _ _ _,v,ys,rfl,hS,ownsRow_putObj hrow _ hK rfl,hnil,hB.trans (belowK_b (w:=w) (Nat.le_refl _) W D _ _ (by simp at hD;omega) hK rfl rfl)⟩
 case stop =>
  rintro D c pre W _ _ h _;exact h.elim
set_option maxHeartbeats 1000000 in
theorem collect_in (F:Fence) (n:Nat) (h8:F.fn 454) (h3:F.fn 514) (h7:F.fn 456) (hro:F.round=none) (hn:4<=n) (Bs om b ck:Nat) (es:Array MapEntry) (w:World)
  (hcs:∀ x∈es.toList,∃ q:PT,x.val=pv q) (hold:∀ x∈es.toList,x.born<ck) (hnd:(es.toList.map (·.born)).Nodup) (hlen:es.size<=1000000)
  (hBs:Bs<w.heap.size) (hm:w.cell? ⟨Bs,om,none⟩=some (.map (some b))) (hb:w.heap[b]? = some (.map es ck)) :
  CallsIn F n Tryz.prog 454 #[.func (.func 456) #[] #[.pointer (some ⟨Bs,om,none⟩)]] w fun e W'=>∃(v:Value) (ys:List PT),e = .returned v/\(ys.map pv).Perm (es.toList.map (·.val))/\W'.ownsRow w.heap.size 99 5 v ys.length (ys.flatMap pcs)/\(ys=[]->v = .slice none 0 0)/\Below w.heap.size w W':=by
 have h1:1<=n:=by omega
 refine callsIn_of_wp Tryz.func454 rfl h8 ?_ hro;simp only [Tryz.ntmps454,List.size_toArray,List.length_cons,List.length_nil,Nat.reduceAdd,Nat.reduceSub,Array.replicate_succ,Array.replicate_zero,List.push_toArray,List.append_toArray,List.nil_append,List.cons_append]
 gi_wp2_with (gi_at_call 514;refine(appendSeq_in F (n-1) h3 h7 hro (by omega) Bs om b ck es _ hcs hold hnd hlen hBs hm hb).mono ?_;rintro e w' ⟨v,ys,rfl,hS,hrow,hnil,hb2⟩)
 go_ret
 exact⟨v,ys,rfl,hS,hrow,hnil,hb2⟩
end YwnYo
end Go.Proofs
end

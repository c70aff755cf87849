/- A part of the proof of statements of this seat: lemmas, no statement of their own. -/
import Derived.Test.YtmmpamfadeonmaaGreatDoorYkZak
import Derived.Test.YtmmpamfadeonmaaGreatDoorYkZai
import Derived.Test.YtmmpamfadeonmaaGreatDoorYkZab
import Derived.Test.YtmmpamfadeonmaaGreatDoorYkZad
import Derived.Test.YtmmpamfadeonmaaGreatDoorYkZae
set_option linter.unusedVariables false
set_option linter.unusedSimpArgs false
section
/- Strong, plainly: boxes, what is kept, changes. -/
namespace Go.Q.Sg
def nameB (l:List Int):Bool:=l.all (fun c=>(decide (97<=c) && decide (c<=122)) || (decide (48<=c) && decide (c<=57)) || c == 45) && (decide (0 < l.length) && decide (l.length<=24))
/-- a box: whose, its epoch, its nonce, its body -/
abbrev BoxV:=List Int × Int × List Int × List Int
def boxOk (b:BoxV):Bool:=nameB b.1 && (decide (16<=b.2.2.2.length) && decide (b.2.2.2.length<=4112))
def rawC:PC BoxV:=txC.bind fun _=>(fixC 4).bind fun _=>(bytesC 12).bind fun _=>txC
def boxC:PC BoxV:=guardC rawC boxOk
theorem eat_box:Eat boxC:=eat_guard (eat_bind eat_tx)
abbrev Ent:=Int × List Int
def entC:PC Ent:=shortC.bind fun _=>txC
theorem eat_ent:Eat entC:=eat_bind eat_short
def chC:PC (Int × List Int):=shortC.bind fun _=>bytesC 32
structure MemV where
 node:Int
 n:Int
 t:Int
 boot:Int
 lease:Int
 x:List Int
 y:List Int
 p:List Int
 term:Int
 vote:Int
 base:Int
 bterm:Int
 snap:List Int
 ents:List Ent
 chains:List (Int × List Int)
 boxes:List BoxV
 clean:Int
abbrev MemT:=Int × Int × Int × Int × Int × List Int × List Int × List Int × Int × Int × Int × Int × List Int × List Ent × List (Int × List Int) × List BoxV × Int
def MemV.tup (m:MemV):MemT:=(m.node,m.n,m.t,m.boot,m.lease,m.x,m.y,m.p,m.term,m.vote,m.base,m.bterm,m.snap,m.ents,m.chains,m.boxes,m.clean)
/-- what is kept -/
def memC:PC MemT:=cntC.bind fun _=>cntC.bind fun n=>cntC.bind fun _=>shortC.bind fun _=>shortC.bind fun _=>(bytesC 1).bind fun _=>(bytesC 32).bind fun _=>(bytesC 32).bind fun _=>shortC.bind fun _=>cntC.bind fun _=>shortC.bind fun _=>shortC.bind fun _=>txC.bind fun _=>(manyC entC).bind fun _=>(listC n.toNat chC).bind fun _=>(manyC boxC).bind fun _=>shortC
structure ChgV where
 kind:List Int
 n:Int
 node:Int
 chain:Int × List Int
 kk:Int
 kt:Int
 kv:Int
 ki:Int
 ents:List Ent
 snap:List Int
 gone:List (List Int)
 boxes:List BoxV
 ten:List Int
abbrev ChgT:=List Int × Int × Int × (Int × List Int) × Int × Int × Int × Int × List Ent × List Int × List (List Int) × List BoxV × List Int
def ChgV.tup (c:ChgV):ChgT:=(c.kind,c.n,c.node,c.chain,c.kk,c.kt,c.kv,c.ki,c.ents,c.snap,c.gone,c.boxes,c.ten)
/-- a change -/
def chgC:PC ChgT:=(bytesC 1).bind fun _=>shortC.bind fun _=>cntC.bind fun _=>chC.bind fun _=>cntC.bind fun _=>shortC.bind fun _=>cntC.bind fun _=>shortC.bind fun _=>(manyC entC).bind fun _=>txC.bind fun _=>(manyC (bytesC 12)).bind fun _=>(manyC boxC).bind fun _=>txC
def cntsM (m:MemV):Prop:=1<=m.n/\m.n<=32/\0<=m.node/\m.node < m.n/\1<=m.t/\m.t<=m.n/\0<=m.vote/\m.vote<=m.n/\(m.chains.length:Int)=m.n
instance (m:MemV):Decidable (cntsM m):=by unfold cntsM; infer_instance
/-- whether boxes may be: as the walk finds it: 1, 7, or 0 -/
def bxsE:List (List Int)->List BoxV->Int
 | _,[]=>0
 | met,b :: l=>if boxOk b then (if b.2.2.1∈met then 7 else bxsE (met ++ [b.2.2.1]) l) else 1
def chkE (m:MemV):Int:=if cntsM m then (if 64 < m.ents.length∨64 < m.boxes.length then 3 else if bxsE [] m.boxes≠0 then bxsE [] m.boxes else if 26624 < (memC.put m.tup).length then 3 else 0) else 1
def chkM (m:MemV):Int:=if chkE m=7 then 1 else chkE m
def u64 (v:Int):Prop:=0<=v/\v < 18446744073709551616
/-- a box's numbers are in their bounds -/
structure WfB (b:BoxV):Prop where
 t:isB b.1
 tl:b.1.length<=1000000
 e:0<=b.2.1/\b.2.1 < 4294967296
 n:isB b.2.2.1
 nl:b.2.2.1.length=12
 bo:isB b.2.2.2
 bl:b.2.2.2.length<=1000000
structure WfM (m:MemV):Prop where
 node:-9223372036854775808<=m.node/\m.node < 9223372036854775808
 n:-9223372036854775808<=m.n/\m.n < 9223372036854775808
 t:-9223372036854775808<=m.t/\m.t < 9223372036854775808
 vote:-9223372036854775808<=m.vote/\m.vote < 9223372036854775808
 boot:u64 m.boot
 lease:u64 m.lease
 x:isB m.x
 xl:m.x.length=1
 y:isB m.y
 yl:m.y.length=32
 p:isB m.p
 pl:m.p.length=32
 term:u64 m.term
 base:u64 m.base
 bterm:u64 m.bterm
 snap:isB m.snap
 snapl:m.snap.length<=1000000
 ents:∀ e∈m.ents,u64 e.1/\isB e.2/\e.2.length<=1000000
 entsl:m.ents.length<=1000000
 chains:∀ c∈m.chains,u64 c.1/\isB c.2/\c.2.length=32
 chainsl:m.chains.length<=1000000
 boxes:∀ b∈m.boxes,WfB b
 boxesl:m.boxes.length<=1000000
 clean:u64 m.clean
structure WfC (c:ChgV):Prop where
 kind:isB c.kind
 kindl:c.kind.length=1
 n:u64 c.n
 node:-9223372036854775808<=c.node/\c.node < 9223372036854775808
 chain:u64 c.chain.1
 chainb:isB c.chain.2
 chainl:c.chain.2.length=32
 kk:-9223372036854775808<=c.kk/\c.kk < 9223372036854775808
 kt:u64 c.kt
 kv:-9223372036854775808<=c.kv/\c.kv < 9223372036854775808
 ki:u64 c.ki
 ents:∀ e∈c.ents,u64 e.1/\isB e.2/\e.2.length<=1000000
 entsl:c.ents.length<=1000000
 snap:isB c.snap
 snapl:c.snap.length<=1000000
 gone:∀ g∈c.gone,isB g/\g.length=12
 gonel:c.gone.length<=1000000
 boxes:∀ b∈c.boxes,WfB b
 boxesl:c.boxes.length<=1000000
 ten:isB c.ten
 tenl:c.ten.length<=1000000
theorem bxsE_ok:∀ (l:List BoxV) (met:List (List Int)),bxsE met l=0->∀ b∈l,boxOk b=true
 | [],_,_,b,hb=>by cases hb
 | c :: l,met,h,b,hb=>by
  rw [bxsE] at h
  split at h
  ·rename_i ok
   split at h
   ·cases h
   ·rcases List.mem_cons.1 hb with q | q
    ·subst q; exact ok
    ·exact bxsE_ok l _ h b q
  ·cases h
theorem rawC_ok {b:BoxV} (w:WfB b):rawC.ok b:=⟨by show (b.1.length:Int) < _; have:=w.tl; omega,⟨w.e.1,by have:=w.e.2; show b.2.1 < 256 ^ 4; omega⟩,w.nl,by show (b.2.2.2.length:Int) < _; have:=w.bl; omega⟩
theorem mem_rt {m:MemV} (w:WfM m) (c:chkM m=0):memC.get (memC.put m.tup)=some (m.tup,[]):=by
 have cE:chkE m=0:=by unfold chkM at c; split at c <;> simp_all
 unfold chkE at cE
 split at cE
 rotate_left
 ·cases cE
 rename_i cn
 obtain ⟨c1,c2,c3,c4,c5,c6,c7,c8,c9⟩:=cn
 split at cE
 ·cases cE
 rename_i lens
 split at cE
 ·rename_i hb; exact absurd cE hb
 rename_i hb
 have hb:bxsE [] m.boxes=0:=Decidable.not_not.1 hb
 have tl:=w.snapl
 have el:=w.entsl
 have bl:=w.boxesl
 have:=memC.rt m.tup [] ⟨⟨c3,by show m.node<=_; omega⟩,⟨by show 0<=m.n; omega,by show m.n<=_; omega⟩,⟨by show 0<=m.t; omega,by show m.t<=_; omega⟩,w.boot,w.lease,w.xl,w.yl,w.pl,w.term,⟨c7,by show m.vote<=_; omega⟩,w.base,w.bterm,
  by show (m.snap.length:Int) < _; omega,⟨by show (m.ents.length:Int) < _; omega,fun e he=>⟨(w.ents e he).1,by have:=(w.ents e he).2.2; show (e.2.length:Int) < _; omega⟩⟩,⟨by show m.chains.length=m.n.toNat; omega,fun c hc=>⟨(w.chains c hc).1,(w.chains c hc).2.2⟩⟩,
  ⟨by show (m.boxes.length:Int) < _; omega,fun b hb'=>⟨rawC_ok (w.boxes b hb'),bxsE_ok _ _ hb b hb'⟩⟩,w.clean⟩
 rwa [List.append_nil] at this
theorem rawL (b:BoxV):rawC.put b=(shortL b.1.length ++ b.1) ++ (formL b.2.1 4 ++ (b.2.2.1 ++ (shortL b.2.2.2.length ++ b.2.2.2))):=rfl
theorem RdStep.tx {o o1 o2:Option (List Int)} {n:Int} {x:List Int} (n0:0<=n) (h1:RdStep shortC o n o1) (h2:RdStep (bytesC n.toNat) o1 x o2):RdStep txC o x o2:=by
 cases o with
 | none=>have:=h1.bad; subst this; have:=h2.bad; subst this; exact .nil
 | some l =>
  rcases h1 with ⟨l1,e1,rfl⟩ | ⟨e1,rfl⟩
  ·have e1:getS l=some (n,l1):=e1
   have e3:txC.get l=if n<=(l1.length:Int) then some (l1.take n.toNat,l1.drop n.toNat) else none:=by
    show Option.bind (getS l) _=_
    rw [e1]; rfl
   rcases h2 with ⟨l2,e2,rfl⟩ | ⟨e2,rfl⟩
   ·have e2:(if n.toNat<=l1.length then some (l1.take n.toNat,l1.drop n.toNat) else none)=some (x,l2):=e2
    split at e2
    ·exact .good (by rw [e3,if_pos (by omega)]; exact e2)
    ·cases e2
   ·have e2:(if n.toNat<=l1.length then some (l1.take n.toNat,l1.drop n.toNat) else none)=none:=e2
    split at e2
    ·cases e2
    ·exact .fail (by rw [e3,if_neg (by omega)])
  ·have:=h2.bad; subst this
   have e1:getS l=Option.none:=e1
   refine .fail ?_
   show Option.bind (getS l) _=_
   rw [e1]; rfl
theorem RdStep.fix {o o1:Option (List Int)} {x:List Int} {w:Nat} (h:RdStep (bytesC w) o x o1):RdStep (fixC w) o (numL x) o1:=by
 cases o with
 | none=>have:=h.bad; subst this; exact .nil
 | some l =>
  rcases h with ⟨l1,e1,rfl⟩ | ⟨e1,rfl⟩
  ·have e1:(if w<=l.length then some (l.take w,l.drop w) else none)=some (x,l1):=e1
   split at e1
   ·cases e1
    exact .good (by show (if w<=l.length then _ else _)=_; rw [if_pos (by assumption)])
   ·cases e1
  ·have e1:(if w<=l.length then some (l.take w,l.drop w) else none)=none:=e1
   split at e1
   ·cases e1
   ·exact .fail (by show (if w<=l.length then _ else _)=_; rw [if_neg (by assumption)])
theorem RdStep.len {o:Option (List Int)} {x l':List Int} {n:Nat} (h:RdStep (bytesC n) o x (some l')):x.length=n:=by
 obtain ⟨l,_,e⟩:=h.to
 have e:(if n<=l.length then some (l.take n,l.drop n) else none)=some (x,l'):=e
 split at e
 ·cases e; rw [List.length_take]; omega
 ·cases e
/-- of what reads as a box the numbers are in their bounds -/
theorem box_wf {l l':List Int} {b:BoxV} (hB:isB l) (hz:l.length<=1000000) (e:rawC.get l=some (b,l')):WfB b:=by
 obtain ⟨p,q⟩:=rawC.sd _ _ _ hB e
 rw [rawL] at p
 have hl:=congrArg List.length p
 simp only [List.length_append] at hl
 have mem:∀ x,x∈(shortL b.1.length ++ b.1) ++ (formL b.2.1 4 ++ (b.2.2.1 ++ (shortL b.2.2.2.length ++ b.2.2.2)))->0<=x/\x < 256:=fun x hx=>hB x (by rw [p]; exact List.mem_append_left _ hx)
 obtain ⟨q1,q2,q3,q4⟩:=q
 refine ⟨fun x hx=>mem x (by simp [hx]),by omega,⟨q2.1,by have:=q2.2; rw [show (256:Int) ^ 4=4294967296 from by decide] at this; exact this⟩,fun x hx=>mem x (by simp [hx]),q3,fun x hx=>mem x (by simp [hx]),by omega⟩
theorem fm_le {α:Type} {f:α->List Int} {c:Nat}:∀ {xs:List α},(∀ x∈xs,(f x).length<=c)->(xs.flatMap f).length<=xs.length * c
 | [],_=>by simp
 | x :: xs,h=>by
  have h1:=h x (by simp)
  have h2:=fm_le (xs:=xs) fun y hy=>h y (List.mem_cons_of_mem _ hy)
  rw [List.flatMap_cons,List.length_append,List.length_cons,Nat.add_mul]
  omega
theorem fm_take {α:Type} (f:α->List Int) {xs:List α} {i:Nat} {x:α} (h:xs[i]? = some x):(xs.take (i + 1)).flatMap f=(xs.take i).flatMap f ++ f x:=by
 rw [List.take_add_one,h,List.flatMap_append]; simp
theorem fm_le_take {α:Type} {f:α->List Int} {c:Nat} {xs:List α} (h:∀ x∈xs,(f x).length<=c) (i:Nat):((xs.take i).flatMap f).length<=xs.length * c :=
 Nat.le_trans (fm_le fun x hx=>h x (List.mem_of_mem_take hx)) (Nat.mul_le_mul_right _ (by rw [List.length_take]; omega))
theorem ent_len {e:Ent} (h:e.2.length<=1000000):(entC.put e).length<=1000020:=by
 have:=shortL_len e.1
 have:=shortL_len e.2.length
 show (shortL e.1 ++ (shortL e.2.length ++ e.2)).length<=_
 simp only [List.length_append]
 omega
theorem ch_len {c:Int × List Int} (h:c.2.length=32):(chC.put c).length<=42:=by
 have:=shortL_len c.1
 show (shortL c.1 ++ c.2).length<=_
 rw [List.length_append]; omega
theorem box_len {b:BoxV} (w:WfB b):(boxC.put b).length<=2000036:=by
 show (if boxOk b then rawC.put b else []).length<=_
 split
 ·rw [rawL]
  have:=shortL_len b.1.length
  have:=shortL_len b.2.2.2.length
  have:=w.tl
  have:=w.bl
  have:=w.nl
  simp only [List.length_append,formL_length]
  omega
 ·simp
/-- things in memory, one by one -/
structure Many {V α:Type} (R:V->α->Prop) (vs:List V) (xs:List α):Prop where
 l:vs.length=xs.length
 r:∀ (i:Nat) v x,vs[i]? = some v->xs[i]? = some x->R v x
theorem Many.imp {V α:Type} {R S:V->α->Prop} {vs:List V} {xs:List α} (M:Many R vs xs) (h:∀ v x,R v x->S v x):Many S vs xs:=⟨M.l,fun i v x a b=>h v x (M.r i v x a b)⟩
theorem Many.nil {V α:Type} {R:V->α->Prop}:Many R [] ([]:List α):=⟨rfl,fun i v x h=>by simp at h⟩
theorem Many.snoc {V α:Type} {R:V->α->Prop} {vs:List V} {xs:List α} {v:V} {x:α} (M:Many R vs xs) (h:R v x):Many R (vs ++ [v]) (xs ++ [x]):=by
 have l:=M.l
 refine ⟨by simp [l],fun i w y hw hy=>?_⟩
 rcases Nat.lt_trichotomy i vs.length with c | c | c
 ·rw [List.getElem?_append_left c] at hw
  rw [List.getElem?_append_left (by omega)] at hy
  exact M.r i w y hw hy
 ·rw [c,List.getElem?_append_right (Nat.le_refl _),Nat.sub_self] at hw
  rw [c,l,List.getElem?_append_right (Nat.le_refl _),Nat.sub_self] at hy
  cases hw; cases hy; exact h
 ·rw [List.getElem?_eq_none (by simp; omega)] at hw; cases hw
end Go.Q.Sg
end
section
set_option maxRecDepth 100000
/- Strong: boxes are looked at, and laid. -/
namespace Go.Q.Yk
open Go.Q.Sg
theorem strAt_sB {s:ByteArray} {i c:Int} (h:(sB s)[i.toNat]? = some c):StrAt s i c:=by
 rw [sB,List.getElem?_map] at h
 obtain ⟨u,hu,rfl⟩:=Option.map_eq_some_iff.1 h
 obtain ⟨hl,he⟩:=List.getElem?_eq_some_iff.1 hu
 refine ⟨by simpa using hl,?_⟩
 rw [← he]
 rfl
def chrB (c:Int):Bool:=(decide (97<=c) && decide (c<=122)) || (decide (48<=c) && decide (c<=57)) || c == 45
theorem Name_ok {s:ByteArray} {k:Bool->Heap->Prop} {h:Heap} (hz:s.size<=1000000) (H:k (nameB (sB s)) h):box_Name s k h:=by
 unfold box_Name
 have hl:=sB_len s
 refine ⟨fun i h'=>0<=i/\i<=s.size/\((sB s).take i.toNat).all chrB=true/\h'=h,fun i _=>(s.size - i).toNat,⟨by omega,by omega,by simp,rfl⟩,?_⟩
 rintro i h' ⟨i0,i1,ia,rfl⟩
 unfold box_Name_l1b
 by_cases hi:i < s.size
 ·rw [if_pos (by rw [decide_eq_true_eq]; exact hi)]
  have hc:(sB s)[i.toNat]? = some ((sB s)[i.toNat]'(by omega)):=List.getElem?_eq_getElem (by omega)
  generalize (sB s)[i.toNat]'(by omega)=c at hc
  refine ⟨c,i0,strAt_sB hc,?_⟩
  have tk:(sB s).take (i + 1).toNat=(sB s).take i.toNat ++ [c]:=by
   rw [show (i + 1).toNat=i.toNat + 1 from by omega,List.take_add_one,hc]; rfl
  have j:∀ b,b=chrB c->box_Name_j2 s s.size i b k (fun s_1 h'_1=>(0<=s_1/\s_1<=s.size/\((sB s).take s_1.toNat).all chrB=true/\h'_1=h')/\((s.size:Int) - s_1).toNat < ((s.size:Int) - i).toNat) h':=fun b hb=>by
   unfold box_Name_j2
   cases b with
   | true =>
    rw [if_pos rfl,wrapI64 (x:=i + 1) (by omega) (by omega)]
    exact ⟨⟨by omega,by omega,by rw [tk,List.all_append,ia]; simp [← hb],rfl⟩,by omega⟩
   | false =>
    rw [if_neg (by simp)]
    have:nameB (sB s)=false:=by
     unfold nameB
     rw [Bool.and_eq_false_iff]
     left
     rw [Bool.eq_false_iff]
     intro hall
     have:=List.all_eq_true.1 hall c (List.mem_of_getElem? hc)
     have hb:false=((decide (97<=c) && decide (c<=122)) || (decide (48<=c) && decide (c<=57)) || c == 45):=hb
     rw [← hb] at this
     cases this
    rw [this] at H
    exact H
  by_cases a1:(decide (c>=97) && decide (c<=122))=true
  ·rw [if_pos a1]
   exact j _ (by rw [a1]; unfold chrB; rw [show (decide (97<=c) && decide (c<=122))=true from a1]; rfl)
  ·rw [if_neg a1]
   have a1':(decide (97<=c) && decide (c<=122))=false:=by simpa using a1
   by_cases a2:(decide (c>=48) && decide (c<=57))=true
   ·rw [if_pos a2]
    exact j _ (by rw [a2]; unfold chrB; rw [a1',show (decide (48<=c) && decide (c<=57))=true from a2]; rfl)
   ·rw [if_neg a2]
    have a2':(decide (48<=c) && decide (c<=57))=false:=by simpa using a2
    exact j _ (by unfold chrB; rw [a1',a2']; rfl)
 ·rw [if_neg (by rw [decide_eq_true_eq]; exact hi)]
  have ei:i=s.size:=by omega
  have:nameB (sB s)=((decide ((s.size:Int) > 0)) && (decide ((s.size:Int)<=24))):=by
   unfold nameB
   rw [ei,Int.toNat_natCast,List.take_of_length_le (by omega)] at ia
   rw [show ((sB s).all fun c=>(decide (97<=c) && decide (c<=122)) || (decide (48<=c) && decide (c<=57)) || c == 45)=true from ia,hl,Bool.true_and]
   rw [Bool.eq_iff_iff]
   simp only [Bool.and_eq_true,decide_eq_true_eq]
   omega
  rw [← this]
  exact H
/-- a box in memory -/
structure BoxAt (h:Heap) (v:S_api_Box) (b:BoxV):Prop where
 t:sB v.f_Tenant=b.1
 e:v.f_Epoch=b.2.1
 n:v.f_Nonce=b.2.2.1
 s:SlcAt h v.f_Body (b8 b.2.2.2)
 l:v.f_Body.len=b.2.2.2.length
theorem BoxAt.ext {h h':Heap} {v:S_api_Box} {b:BoxV} (B:BoxAt h v b) (X:Ext h.size h h'):BoxAt h' v b:=⟨B.t,B.e,B.n,B.s.ext X,B.l⟩
theorem Check_ok {v:S_api_Box} {b:BoxV} {k:Int->Heap->Prop} {h:Heap} (B:BoxAt h v b) (w:WfB b) (H:∀ h',Ext h.size h h'->k (if boxOk b then 0 else 1) h'):box_Check v k h:=by
 unfold box_Check
 refine bx0 fun h2 P X=>?_
 have sz:v.f_Tenant.size<=1000000:=by have:=w.tl; rw [← B.t,sB_len] at this; exact this
 refine ⟨v.f_Tenant,P.cl0 rfl,Name_ok sz ?_⟩
 rw [B.t]
 have H:=H h2 X
 unfold boxOk at H
 have l:=B.l
 have g2:∀ c:Bool,(nameB b.1 && (decide (16<=b.2.2.2.length) && decide (b.2.2.2.length<=4112))) = !c->box_Check_g2 c k h2:=fun c hc=>by
  unfold box_Check_g2
  rw [hc] at H
  cases c <;> simpa using H
 cases hn:nameB b.1 with
 | false =>
  rw [if_pos (by simp)]
  unfold box_Check_g1
  rw [if_pos rfl]
  exact g2 true (by rw [hn]; rfl)
 | true =>
  rw [if_neg (by simp)]
  refine ⟨v.f_Body,P.cl rfl,?_⟩
  unfold box_Check_g1
  by_cases h16:b.2.2.2.length < 16
  ·rw [show decide ((v.f_Body.len:Int) < 16)=true from by rw [decide_eq_true_eq]; omega,if_pos rfl]
   exact g2 true (by rw [hn,show decide (16<=b.2.2.2.length)=false from by rw [decide_eq_false_iff_not]; omega]; rfl)
  ·rw [show decide ((v.f_Body.len:Int) < 16)=false from by rw [decide_eq_false_iff_not]; omega,if_neg (by simp)]
   refine ⟨v.f_Body,P.cl rfl,g2 _ ?_⟩
   rw [hn,show decide (16<=b.2.2.2.length)=true from by rw [decide_eq_true_eq]; omega,Bool.true_and,Bool.true_and]
   rw [Bool.eq_iff_iff]
   simp only [Bool.not_eq_true',decide_eq_true_eq,decide_eq_false_iff_not]
   omega
theorem Put_ok' {p0:Slc} {l:List Int} {v:S_api_Box} {b:BoxV} {k:Slc->Heap->Prop} {h:Heap} (hl:p0.len=l.length) (hs:SlcAt h p0 (b8 l)) (hsz:l.length<=17592186044416) (B:BoxAt h v b) (w:WfB b)
  (H:Lays' h (l ++ boxC.put b) k):box_Put p0 v k h:=by
 unfold box_Put
 refine bx0 fun h2 P X=>?_
 refine ⟨v,CellsAt.of_blk P,Check_ok (B.ext X) w fun h3 X3=>?_⟩
 have X03:=X.trans (X3.mono X.size)
 have P3:=P.ext X3 P.lt
 have e:boxC.put b=if boxOk b then rawC.put b else []:=rfl
 rw [e] at H
 have s3:=X03.size
 have s2:=X.size
 have s23:=X3.size
 by_cases ok:boxOk b=true
 rotate_left
 ·rw [if_neg ok,List.append_nil] at H
  rw [if_neg ok,if_pos (by simp)]
  exact Clone_ok hl (hs.ext X03) (by omega) fun s' h' R X'=>H s' h' (R.mono (by omega)) (X03.trans (X'.mono s3))
 rw [if_pos ok] at H
 rw [if_pos ok,if_neg (by simp)]
 have tl:=w.tl
 have bl:=w.bl
 have nl:=w.nl
 have ts:v.f_Tenant.size=b.1.length:=by rw [← B.t,sB_len]
 refine ⟨v.f_Tenant,P3.cl0 rfl,v.f_Tenant,P3.cl0 rfl,?_⟩
 rw [wrapU64 (x:=(v.f_Tenant.size:Int)) (by omega) (by omega)]
 have q0:=shortL_len v.f_Tenant.size
 refine PutShort_ok hl (hs.ext X03) (by omega) (by omega) (by omega) fun s4 h4 R4 X4=>?_
 have s34:=X4.size
 have P4:=P3.ext X4 P3.lt
 refine ⟨P4.cl0 rfl,?_⟩
 refine AppB R4 s34 (by rw [sB_len]) (by rw [List.length_append,sB_len]; omega) fun s5 h5 R5 X5=>?_
 have s45:=X5.size
 have P5:=P4.ext X5 P3.lt
 have bl3:b.2.2.1.length=12:=nl
 refine ⟨v.f_Epoch,P5.cl rfl,_,by omega,by omega,by omega,rfl,?_⟩
 have e0:=w.e
 rw [B.e,wrapU64 (x:=b.2.1) (by omega) (by omega)]
 refine Put_ok (Row.pb R5) R5.slc (by rw [List.length_append,List.length_append,sB_len]; omega) (by omega) (by omega) e0.1 fun s6 h6 R6 X6=>?_
 have s56:=X6.size
 have P6:=P5.ext X6 P5.lt
 have ea:arr 12 .u8 v.f_Nonce=b8 b.2.2.1:=by rw [B.n]; exact arr_full nl
 have S16:SlcAt h6 (subS ⟨some ((⟨h.size,0,none⟩:Addr).add 2),12,12⟩ 1 (0:Int).toNat (12:Int).toNat 12) (b8 b.2.2.1):=by
  have hc:=P6.cls (i:=2) (ys:=arr 12 .u8 v.f_Nonce) rfl
  rw [ea] at hc
  rw [show subS ⟨some ((⟨h.size,0,none⟩:Addr).add 2),12,12⟩ 1 (0:Int).toNat (12:Int).toNat 12=⟨some ((⟨h.size,0,none⟩:Addr).add 2),12,12⟩ from by simp [subS,Addr.add]]
  exact ⟨(fun q=>by cases q),fun a ha j x hj=>by cases ha; exact hc j x hj⟩
 refine ⟨_,S16,?_⟩
 have l6:(l ++ shortL v.f_Tenant.size ++ sB v.f_Tenant ++ formL b.2.1 (4:Int).toNat).length<=l.length + 1000014:=by simp only [List.length_append,sB_len,formL_length]; show _ + 4<=_; omega
 refine AppB R6 s56 (by rw [bl3]; rfl) (by omega) fun s7 h7 R7 X7=>?_
 have s67:=X7.size
 have P7:=P6.ext X7 (Nat.lt_of_lt_of_le P5.lt (Nat.le_refl _))
 refine ⟨v.f_Body,P7.cl rfl,v.f_Body,P7.cl rfl,?_⟩
 rw [B.l,wrapU64 (x:=(b.2.2.2.length:Int)) (by omega) (by omega)]
 refine PutShort_ok (Row.pb R7) R7.slc (by rw [List.length_append]; omega) (by omega) (by omega) fun s8 h8 R8 X8=>?_
 have s78:=X8.size
 have P8:=P7.ext X8 P7.lt
 have q8:=shortL_len b.2.2.2.length
 refine ⟨P8.cl rfl,b8 b.2.2.2,?_,?_⟩
 ·exact B.s.ext ⟨by omega,fun g hg=>by rw [X8.block g (by omega),X7.block g (by omega),X6.block g (by omega),X5.block g (by omega),X4.block g (by omega),X3.block g (by omega),X.block g (by omega)]⟩
 refine AppB R8 s78 rfl (by rw [List.length_append,List.length_append]; omega) fun s9 h9 R9 X9=>?_
 refine H s9 h9 ?_ ⟨by have:=X9.size; omega,fun g hg=>by rw [X9.block g (by omega),X8.block g (by omega),X7.block g (by omega),X6.block g (by omega),X5.block g (by omega),X4.block g (by omega),X3.block g (by omega),X.block g (by omega)]⟩
 rw [rawL,← ts,← B.t]
 simp only [List.append_assoc] at R9 ⊢
 exact R9.mono (by omega)
end Go.Q.Yk
end
section
set_option maxRecDepth 100000
/- Strong: boxes are read. -/
namespace Go.Q.Yk
open Go.Q.Sg
/-- a box's reader: what it reads, where it stands: none is one that failed -/
def BRd (B:Nat) (h:Heap) (r:Nat) (l:List Int) (o:Option (List Int)):Prop :=
 ∃ (s:Slc) (at':Nat) (e:Int),Blk h r [Slc.v s,.int .i64 at',.int .i64 e] 171/\(B<=r/\∀ h',Ext B h h'->SlcAt h' s (b8 l))/\s.len=l.length/\s.len<=s.cap/\isB l/\l.length<=1000000/\at'<=l.length/\((e=0/\o=some (l.drop at'))∨(e≠0/\o=none))
theorem BRd.lt {B:Nat} {h:Heap} {r:Nat} {l:List Int} {o:Option (List Int)} (R:BRd B h r l o):r < h.size:=by obtain ⟨s,a,e,K,_⟩:=R; exact K.lt
theorem BRd.keep {B:Nat} {h h':Heap} {r:Nat} {l:List Int} {o:Option (List Int)} (R:BRd B h r l o) (X:Ext B h h') (e:h'[r]? = h[r]?):BRd B h' r l o:=by
 obtain ⟨s,a,e',K,⟨Br,S⟩,q⟩:=R
 exact ⟨s,a,e',K.old e,⟨Br,fun h2 Y=>S h2 (X.trans Y)⟩,q⟩
theorem sub1 {s:Slc} {a b c:Nat}:(subS s 1 a b c).len=b - a:=by simp [subS]
section
variable {B:Nat} {h:Heap} {r:Nat} {l:List Int} {o:Option (List Int)}
theorem bxr_bytes_ok {n:Int} {k:Slc->Heap->Prop} (R:BRd B h r l o) (n0:0<=n) (n1:n < 18446744073709551616)
  (H:∀ s' x o' h',BRd B h' r l o'->Upd r h h'->Row h.size h' 5 1 s' (b8 x)->isB x->RdStep (bytesC n.toNat) o x o'->(o'=none->x=[])->k s' h'):box_reader_bytes (some ⟨r,0,none⟩) n k h:=by
 obtain ⟨s,a,e,K,⟨Br,S⟩,sl,sc,hB,hz,al,oc⟩:=R
 have Bh:B<=h.size:=by have:=K.lt; omega
 unfold box_reader_bytes
 refine ⟨_,rfl,e,K.cl rfl,?_⟩
 -- the end that failed
 have bad:∀ (h1:Heap) (e':Int),e'≠0->Blk h1 r [Slc.v s,.int .i64 a,.int .i64 e'] 171->Upd r h h1->RdStep (bytesC n.toNat) o [] none->box_reader_bytes_j1 (some ⟨r,0,none⟩) n k h1:=fun h1 e' he K1 U st=>by
  unfold box_reader_bytes_j1
  refine ⟨_,rfl,e',K1.cl rfl,?_⟩
  rw [if_pos (by simpa using he)]
  exact H _ [] none h1 ⟨s,a,e',K1,⟨Br,fun h2 Y=>S h2 ((U.ext Br Bh).trans Y)⟩,sl,sc,hB,hz,al,.inr ⟨he,rfl⟩⟩ U (Row.nil _ _ _ _) (by intro b hb; cases hb) st fun _=>rfl
 by_cases he:e=0
 rotate_left
 ·rw [if_neg (by simpa using he)]
  unfold box_reader_bytes_g2
  rw [if_neg (by simp)]
  rcases oc with ⟨q,_⟩ | ⟨_,q⟩
  ·exact absurd q he
  ·subst q
   exact bad h e he K (Upd.refl _ _) .nil
 ·subst he
  rw [if_pos (by simp)]
  have oe:o=some (l.drop a):=by rcases oc with ⟨_,q⟩ | ⟨q,_⟩; exact q; exact absurd rfl q
  subst oe
  refine ⟨s,K.cl0 rfl,a,K.cl rfl,?_⟩
  rw [wrapI64 (x:=(s.len:Int) - a) (by omega) (by omega),wrapU64 (x:=(s.len:Int) - a) (by omega) (by omega)]
  by_cases hn:n > (s.len:Int) - a
  ·rw [show decide (n > (s.len:Int) - a)=true from by simpa using hn]
   unfold box_reader_bytes_g2
   rw [if_pos rfl]
   refine ⟨_,rfl,bset1 K (by show 2 < 3; omega) fun h1 K1 U=>?_⟩
   refine bad h1 2 (by omega) K1 U (.fail ?_)
   show (if n.toNat<=(l.drop a).length then _ else _)=none
   rw [if_neg (by rw [List.length_drop]; omega)]
  ·rw [show decide (n > (s.len:Int) - a)=false from by simpa using hn]
   unfold box_reader_bytes_g2
   rw [if_neg (by simp)]
   unfold box_reader_bytes_j1
   refine ⟨_,rfl,0,K.cl rfl,?_⟩
   rw [if_neg (by simp)]
   rw [wrapI64 (x:=n) (by omega) (by omega)]
   refine ⟨s,K.cl0 rfl,a,K.cl rfl,a,K.cl rfl,?_⟩
   rw [wrapI64 (x:=(a:Int) + n) (by omega) (by omega)]
   refine ⟨_,by omega,by omega,by omega,by omega,rfl,a,K.cl rfl,bset1 K (by show 1 < 3; omega) fun h1 K1 U=>?_⟩
   have e1:([Slc.v s,.int .i64 (a:Int),.int .i64 0]:List Value).set 1 (.int .i64 ((a:Int) + n))=[Slc.v s,.int .i64 ((a + n.toNat:Nat):Int),.int .i64 0]:=by
    rw [show ((a + n.toNat:Nat):Int)=(a:Int) + n from by omega]; rfl
   rw [wrapI64 (x:=(a:Int) + n) (by omega) (by omega),e1] at K1
   have Ur:=U.ext Br Bh
   have T:=(S h1 Ur).sub (w:=1) (l:=(a:Int).toNat) (u:=((a:Int) + n).toNat) (m:=(s.cap:Int).toNat) (by omega) (by omega)
   rw [Nat.mul_one,Nat.mul_one,Int.toNat_natCast,← List.map_drop,← List.map_take,show ((a:Int) + n).toNat - a=n.toNat from by omega] at T
   have ll:((l.drop a).take n.toNat).length=n.toNat:=by rw [List.length_take,List.length_drop]; omega
   refine Clone_ok (l:=(l.drop a).take n.toNat) (by rw [sub1,ll]; omega) T (by omega) fun s1 h2 R1 X1=>?_
   have U2:=U.trans (Upd.of_ext (b:=r) X1)
   have k1:=K1.lt
   refine H s1 _ (some ((l.drop a).drop n.toNat)) h2 ⟨s,a + n.toNat,0,K1.ext X1 K1.lt,⟨Br,fun h3 Y=>S h3 ((U2.ext Br Bh).trans Y)⟩,sl,sc,hB,hz,by omega,.inl ⟨rfl,by rw [List.drop_drop]⟩⟩ U2 (R1.mono U.size) (isB_take (isB_drop hB _) _) (.good ?_) fun q=>by cases q
   show (if n.toNat<=(l.drop a).length then _ else _)=_
   rw [if_pos (by rw [List.length_drop]; omega)]
theorem bxr_short_ok {k:Int->Heap->Prop} (R:BRd B h r l o)
  (H:∀ v o' h',BRd B h' r l o'->Upd r h h'->0<=v->v < 18446744073709551616->RdStep shortC o v o'->k v h'):box_reader_short (some ⟨r,0,none⟩) k h:=by
 obtain ⟨s,a,e,K,⟨Br,S⟩,sl,sc,hB,hz,al,oc⟩:=R
 have Bh:B<=h.size:=by have:=K.lt; omega
 unfold box_reader_short
 refine ⟨_,rfl,e,K.cl rfl,?_⟩
 by_cases he:e=0
 rotate_left
 ·rw [if_pos (by simpa using he)]
  rcases oc with ⟨q,_⟩ | ⟨_,q⟩
  ·exact absurd q he
  ·subst q
   exact H 0 none h ⟨s,a,e,K,⟨Br,S⟩,sl,sc,hB,hz,al,.inr ⟨he,rfl⟩⟩ (Upd.refl _ _) (by omega) (by omega) .nil
 ·subst he
  rw [if_neg (by simp)]
  have oe:o=some (l.drop a):=by rcases oc with ⟨_,q⟩ | ⟨q,_⟩; exact q; exact absurd rfl q
  subst oe
  refine ⟨s,K.cl0 rfl,a,K.cl rfl,_,by omega,by omega,by omega,by omega,rfl,?_⟩
  have T:=(S h (Ext.refl _ _)).sub (w:=1) (l:=(a:Int).toNat) (u:=(s.len:Int).toNat) (m:=(s.cap:Int).toNat) (by omega) (by omega)
  rw [Nat.mul_one,Nat.mul_one,Int.toNat_natCast,← List.map_drop,← List.map_take,List.take_of_length_le (by rw [List.length_drop]; omega)] at T
  have fin:∀ (v e':Int) (u:Nat) (o':Option (List Int)),a + u<=l.length->((e'=0/\o'=some (l.drop (a + u)))∨(e'≠0/\o'=none))->0<=v->v < 18446744073709551616->RdStep shortC (some (l.drop a)) v o' ->
    ∃ v8:Int,cellH h ((⟨r,0,none⟩:Addr).add 1)=some (.int .i64 v8)/\(∃ h9:Heap,WrH h ((⟨r,0,none⟩:Addr).add 1)/\h9=setH h ((⟨r,0,none⟩:Addr).add 1) (.int .i64 (IntKind.i64.wrap (v8 + (u:Int))))/\(∃ h10:Heap,WrH h9 ((⟨r,0,none⟩:Addr).add 2)/\h10=setH h9 ((⟨r,0,none⟩:Addr).add 2) (.int .i64 e')/\(k v h10))):=fun v e' u o' hu ho v0 v1 st=>by
   refine ⟨a,K.cl rfl,?_⟩
   rw [wrapI64 (x:=(a:Int) + u) (by omega) (by omega)]
   refine bset1 K (by show 1 < 3; omega) fun h1 K1 U1=>bset1 K1 (by show 2 < 3; omega) fun h2 K2 U2=>?_
   have e1:(([Slc.v s,.int .i64 (a:Int),.int .i64 0]:List Value).set 1 (.int .i64 ((a:Int) + u))).set 2 (.int .i64 e')=[Slc.v s,.int .i64 ((a + u:Nat):Int),.int .i64 e']:=by
    rw [show ((a + u:Nat):Int)=(a:Int) + u from by omega]; rfl
   rw [e1] at K2
   exact H v o' h2 ⟨s,a + u,e',K2,⟨Br,fun h3 Y=>S h3 (((U1.trans U2).ext Br Bh).trans Y)⟩,sl,sc,hB,hz,hu,ho⟩ (U1.trans U2) v0 v1 st
  refine GetShort_ok T (by rw [sub1,List.length_drop]; omega) (isB_drop hB _) (by rw [List.length_drop]; omega) (fun v l' u g e1 ul v0 v1=>?_) fun g e' he'=>?_
  ·rw [List.length_drop] at ul
   exact fin v 0 u (some l') (by omega) (.inl ⟨rfl,by rw [e1,List.drop_drop]⟩) v0 v1 (.good g)
  ·exact fin 0 e' 0 none (by omega) (.inr ⟨he',rfl⟩) (by omega) (by omega) (.fail g)
end
/-- num.Get of too few bytes -/
theorem nGet_short {s:Slc} {w:Int} {k:Int × Int->Heap->Prop} {h:Heap} (w0:1<=w) (w1:w<=8) (hw:(s.len:Int) < w) (H:k (0,2) h):num_Get s w k h:=by
 unfold num_Get
 rw [if_neg (by simp only [Bool.or_eq_true,decide_eq_true_eq]; omega),if_pos (by rw [decide_eq_true_eq]; omega)]
 exact H
/-- the first cell of a block is written -/
theorem bset0 {v:Value} {z:List Value} {E b:Nat} {h:Heap} {K:Heap->Prop} (P:Blk h b z E) (hi:0 < z.length) (H:∀ h',Blk h' b (z.set 0 v) E->Upd b h h'->K h') :
  ∃ h3:Heap,WrH h (⟨b,0,none⟩:Addr)/\h3=setH h (⟨b,0,none⟩:Addr) v/\K h3 :=
 ⟨_,P.wr hi,rfl,H _ P.set ⟨by rw [setH_size]; exact Nat.le_refl _,fun i _ hi=>setH_other hi⟩⟩
/-- bytes are copied into an array of a block's -/
theorem cpyB {z:List Value} {E b n off:Nat} {h:Heap} {s:Slc} {x:List Int} {k:Heap->Prop} (P:Blk h b z E) (S:SlcAt h s (b8 x)) (sl:s.len=x.length) (hx:x.length<=n) (hz:off + n<=z.length)
  (H:∀ h',Blk h' b (z.take off ++ b8 x ++ z.drop (off + x.length)) E->Upd b h h'->k h'):∃ news,Cpy 1 h ⟨some ((⟨b,0,none⟩:Addr).add off),n,n⟩ s news k:=by
 refine ⟨b8 x,⟨b8 x,S,by rw [List.length_map,sl,Nat.mul_one],?_⟩,b8_one x,(fun q=>by cases q),fun a ha=>?_,?_⟩
 ·show b8 x=(b8 x).take (min s.len n * 1)
  rw [List.take_of_length_le (by rw [List.length_map]; omega)]
 ·cases ha
  rw [add_mk,Nat.zero_add]
  exact fun j hj=>by rw [add_mk]; rw [List.length_map] at hj; exact P.wr (by omega)
 ·show k (setsH h ((⟨b,0,none⟩:Addr).add off) 0 (b8 x))
  rw [add_mk,Nat.zero_add]
  have Q:=P.sets (b8 x) off 0 (by rw [List.length_map]; omega)
  rw [List.length_map] at Q
  exact H _ Q ⟨by rw [setsH_size]; exact Nat.le_refl _,fun i _ hi=>setsH_other _ _ hi⟩
theorem subF {a:Addr} {n:Nat}:subS ⟨some a,n,n⟩ 1 (0:Int).toNat n n=⟨some a,n,n⟩:=by
 have e:a.add (0 * 1)=a:=by simp [Addr.add]
 show (⟨if n=0 then some a else some (a.add (0 * 1)),n - 0,n - 0⟩:Slc)=_
 rw [e]
 split <;> rfl
end Go.Q.Yk
end
section
set_option maxRecDepth 100000
/- Strong: a box is read. -/
namespace Go.Q.Yk
open Go.Q.Sg
theorem BGet_ok {s:Slc} {l:List Int} {k:S_api_Box × Int × Int->Heap->Prop} {h:Heap} (hs:∀ h',Ext h.size h h'->SlcAt h' s (b8 l)) (sl:s.len=l.length) (sc:s.len<=s.cap) (hB:isB l) (hz:l.length<=1000000)
  (H1:∀ v b l' h',boxC.get l=some (b,l')->WfB b->BoxAt h' v b->Row h.size h' 5 1 v.f_Body (b8 b.2.2.2)->Ext h.size h h'->k (v,((l.length - l'.length:Nat):Int),0) h')
  (H2:∀ e h',boxC.get l=none->e≠0->Ext h.size h h'->k (⟨ByteArray.empty,0,[],⟨none,0,0⟩⟩,0,e) h'):box_Get s k h:=by
 unfold box_Get
 refine bx0 fun h2 P2 X2=>bx0 fun h4 Q4 X4=>?_
 have z2:=X2.size
 have z4:=X4.size
 have p2:=P2.lt
 obtain ⟨b,eb⟩:∃ b,b=h.size:=⟨_,rfl⟩
 obtain ⟨r,er⟩:∃ r,r=h2.size:=⟨_,rfl⟩
 rw [← eb] at P2 p2 ⊢
 rw [← er] at Q4 ⊢
 have X04:Ext h.size h h4:=X2.trans (X4.mono z2)
 have R4:BRd h.size h4 r l (some l):=⟨s,0,0,Q4,⟨by omega,fun h' Y=>hs h' (X04.trans Y)⟩,sl,sc,hB,hz,Nat.zero_le _,.inl ⟨rfl,rfl⟩⟩
 have P4:=P2.ext X4 p2
 -- what was done last
 have fin:∀ {h9:Heap} {o:Option (List Int)} {v:S_api_Box} {e:Int} {bv:BoxV},Blk h9 b (S_api_Box.cs v) 76->BRd h.size h9 r l o->Ext h.size h h9 ->
   (∀ l',o=some l'->rawC.get l=some (bv,l')/\BoxAt h9 v bv/\Row h.size h9 5 1 v.f_Body (b8 bv.2.2.2))->(o=none->rawC.get l=none) ->
   ∃ v34:Int,cellH h9 ((⟨r,0,none⟩:Addr).add 2)=some (.int .i64 v34)/\(if (v34 == 0) then (∃ v36:S_api_Box,CellsAt h9 (⟨b,0,none⟩:Addr) (S_api_Box.cs v36)/\(box_Check v36 (fun (r37:Int) h38=>box_Get_g2 (⟨b,0,none⟩:Addr) (⟨r,0,none⟩:Addr) (r37 != 0) k h38) h9)) else (box_Get_g2 (⟨b,0,none⟩:Addr) (⟨r,0,none⟩:Addr) false k h9)):=fun {h9 o v e bv} P R X A N=>by
  have Rl:=R.lt
  obtain ⟨s',a,e',K,⟨Br,S⟩,sl',sc',hB',hz',al,oc⟩:=R
  have err:∀ (h10:Heap) (e10:Int) (v10:S_api_Box),e10≠0->boxC.get l=none->Blk h10 b (S_api_Box.cs v10) 76->Blk h10 r [Slc.v s',.int .i64 a,.int .i64 e10] 171->Ext h.size h h10->box_Get_j1 (⟨b,0,none⟩:Addr) (⟨r,0,none⟩:Addr) k h10:=fun h10 e10 v10 he hn P10 K10 X10=>by
   unfold box_Get_j1
   refine ⟨e10,K10.cl rfl,?_⟩
   rw [if_pos (by simpa using he)]
   refine ⟨e10,K10.cl rfl,bset P10 rfl (by show 15<=15; omega) fun h11 P11 U11=>⟨_,CellsAt.of_blk P11,?_⟩⟩
   exact H2 e10 h11 hn he (X10.trans (U11.ext (by omega) X10.size))
  refine ⟨e',K.cl rfl,?_⟩
  rcases oc with ⟨e0,eo⟩ | ⟨e0,eo⟩
  ·subst e0
   rw [if_pos (by simp)]
   obtain ⟨g1,g2,g3⟩:=A _ eo
   have wf:=box_wf hB hz g1
   refine ⟨v,CellsAt.of_blk P,Check_ok g2 wf fun h10 X10=>?_⟩
   have P10:=P.ext X10 P.lt
   have K10:=K.ext X10 Rl
   have X010:=X.trans (X10.mono X.size)
   unfold box_Get_g2
   have ge:boxC.get l=if boxOk bv then some (bv,l.drop a) else none:=by
    show Option.bind (rawC.get l) _=_
    rw [g1]; rfl
   by_cases ok:boxOk bv=true
   ·rw [if_pos ok] at ge
    rw [if_pos ok,if_neg (by simp)]
    unfold box_Get_j1
    refine ⟨0,K10.cl rfl,?_⟩
    rw [if_neg (by simp)]
    refine ⟨v,CellsAt.of_blk P10,a,K10.cl rfl,bset P10 rfl (by show 15<=15; omega) fun h11 P11 U11=>⟨v,CellsAt.of_blk P11,?_⟩⟩
    have X1011:=U11.ext (B:=b) (by omega) (by have:=X010.size; omega)
    have bd:∀ g,v.f_Body.blk=some g->g < h10.size/\g≠b:=fun g hg=>by
     have:=g3.bd hg
     have e5:=Row.ne_blk g3 P (by decide)
     exact ⟨by have:=X10.size; omega,fun q=>by subst q; exact e5 hg⟩
    have g3':Row h.size h11 5 1 v.f_Body (b8 bv.2.2.2):=g3.keep fun g hg=>by
     have:=g3.bd hg
     rw [U11.block g (bd g hg).1 (bd g hg).2,X10.block g (by omega)]
    have:=H1 v bv (l.drop a) h11 ge wf ⟨g2.t,g2.e,g2.n,g3'.slc,g2.l⟩ g3' (X010.trans (X1011.mono (by omega)))
    rw [List.length_drop,show l.length - (l.length - a)=a from by omega] at this
    exact this
   ·rw [if_neg ok] at ge
    rw [if_neg ok,if_pos (by simp)]
    refine bset1 K10 (by show 2 < 3; omega) fun h11 K11 U11=>?_
    exact err h11 4 v (by omega) ge (U11.blk P10 (by intro q; subst q; have:=P.inj K; exact absurd this.2 (by decide))) K11 (X010.trans (U11.ext (by omega) X010.size))
  ·rw [if_neg (by simpa using e0)]
   unfold box_Get_g2
   rw [if_neg (by simp)]
   refine err h9 e' v e0 ?_ P K X
   show Option.bind (rawC.get l) _=_
   rw [N eo]; rfl
 have br:b≠r:=by omega
 refine bxr_short_ok R4 fun n o1 h6 R6 U6 n0 n1 st1=>bxr_bytes_ok R6 n0 n1 fun s7 x o2 h8 R8 U8 Rw8 xB st2 _=>?_
 have tx1:=st1.tx n0 st2
 have P8:=U8.blk (U6.blk P4 br) br
 have X6:=X04.trans (U6.ext (by omega) X04.size)
 have X8:=X6.trans (U8.ext (by omega) X6.size)
 refine ⟨x,(Row.pb Rw8).symm,Rw8.slc,bset0 P8 (by show 0 < 15; omega) fun h10 P10 U10=>?_⟩
 have P10:Blk h10 b (S_api_Box.cs ⟨bsOf x,0,[],⟨none,0,0⟩⟩) 76:=P10
 have X810:=U10.ext (B:=h.size) (by omega) X8.size
 have X10:=X8.trans X810
 have R10:=R8.keep X810 (U10.block r R8.lt br.symm)
 refine bxr_bytes_ok R10 (by omega) (by omega) fun s11 x2 o3 h12 R12 U12 Rw12 x2B st3 xn3=>?_
 have P12:=U12.blk P10 br
 have X12:=X10.trans (U12.ext (by omega) X10.size)
 -- behind the epoch
 have rest:∀ (ep:Int),(0<=ep/\ep < 4294967296)->RdStep (fixC 4) o2 ep o3->∃ h15:Heap,WrH h12 ((⟨b,0,none⟩:Addr).add 1)/\h15=setH h12 ((⟨b,0,none⟩:Addr).add 1) (.int .u32 ep)/\(∃ s16:Slc,(0:Int)<=0/\0<=(12:Int)/\12<=(12:Int)/\s16=subS ⟨some ((⟨b,0,none⟩:Addr).add 2),12,12⟩ 1 (0:Int).toNat (12:Int).toNat 12/\(box_reader_bytes (some (⟨r,0,none⟩:Addr)) 12 (fun (r17:Slc) h18=>∃ l19:List Value,Cpy 1 h18 s16 r17 l19 (fun h20=>box_reader_short (some (⟨r,0,none⟩:Addr)) (fun (r21:Int) h22=>box_reader_bytes (some (⟨r,0,none⟩:Addr)) r21 (fun (r23:Slc) h24=>∃ h25:Heap,WrH h24 ((⟨b,0,none⟩:Addr).add 14)/\h25=setH h24 ((⟨b,0,none⟩:Addr).add 14) (Slc.v r23)/\(∃ v34:Int,cellH h25 ((⟨r,0,none⟩:Addr).add 2)=some (.int .i64 v34)/\(if (v34 == 0) then (∃ v36:S_api_Box,CellsAt h25 (⟨b,0,none⟩:Addr) (S_api_Box.cs v36)/\(box_Check v36 (fun (r37:Int) h38=>box_Get_g2 (⟨b,0,none⟩:Addr) (⟨r,0,none⟩:Addr) (r37 != 0) k h38) h25)) else (box_Get_g2 (⟨b,0,none⟩:Addr) (⟨r,0,none⟩:Addr) false k h25)))) h22) h20)) h15)):=fun ep eb' st=>by
  refine bset1 P12 (by show 1 < 15; omega) fun h15 P15 U15=>?_
  have P15:Blk h15 b (S_api_Box.cs ⟨bsOf x,ep,[],⟨none,0,0⟩⟩) 76:=P15
  have X1215:=U15.ext (B:=h.size) (by omega) X12.size
  have X15:=X12.trans X1215
  have R15:=R12.keep X1215 (U15.block r R12.lt br.symm)
  refine ⟨_,by omega,by omega,by omega,rfl,bxr_bytes_ok R15 (by omega) (by omega) fun s17 x3 o4 h18 R18 U18 Rw18 x3B st4 xn4=>?_⟩
  have P18:=U18.blk P15 br
  have X18:=X15.trans (U18.ext (by omega) X15.size)
  rw [show subS ⟨some ((⟨b,0,none⟩:Addr).add 2),12,12⟩ 1 (0:Int).toNat (12:Int).toNat 12=⟨some ((⟨b,0,none⟩:Addr).add 2),12,12⟩ from subF]
  have x3l:x3.length=12∨(x3=[]/\o4=none):=by
   cases ho:o4 with
   | none=>exact .inr ⟨xn4 ho,rfl⟩
   | some l4=>rw [ho] at st4; exact .inl st4.len
  refine cpyB P18 Rw18.slc (Row.pb Rw18) (by rcases x3l with q | ⟨q,_⟩ <;> simp [q]) (by show 2 + 12<=15; omega) fun h20 P20 U20=>?_
  have P20:Blk h20 b (S_api_Box.cs ⟨bsOf x,ep,x3,⟨none,0,0⟩⟩) 76:=by
   rcases x3l with q | ⟨q,_⟩
   ·have:S_api_Box.cs ⟨bsOf x,ep,x3,⟨none,0,0⟩⟩=(S_api_Box.cs ⟨bsOf x,ep,[],⟨none,0,0⟩⟩).take 2 ++ b8 x3 ++ (S_api_Box.cs ⟨bsOf x,ep,[],⟨none,0,0⟩⟩).drop (2 + x3.length):=by
     rw [q]
     show [_,_] ++ arr 12 .u8 x3 ++ [_]=[_,_] ++ b8 x3 ++ [_]
     rw [arr_full q]
    rw [this]; exact P20
   ·subst q; exact P20
  have X1820:=U20.ext (B:=h.size) (by omega) X18.size
  have X20:=X18.trans X1820
  have R20:=R18.keep X1820 (U20.block r R18.lt br.symm)
  refine bxr_short_ok R20 fun n2 o5 h22 R22 U22 m0 m1 st5=>bxr_bytes_ok R22 m0 m1 fun s23 x4 o6 h24 R24 U24 Rw24 x4B st6 _=>?_
  have tx2:=st5.tx m0 st6
  have P24:=U24.blk (U22.blk P20 br) br
  have X22:=X20.trans (U22.ext (by omega) X20.size)
  have X24:=X22.trans (U24.ext (by omega) X22.size)
  refine bset1 P24 (by show 14 < 15; omega) fun h25 P25 U25=>?_
  have P25:Blk h25 b (S_api_Box.cs ⟨bsOf x,ep,x3,s23⟩) 76:=P25
  have X2425:=U25.ext (B:=h.size) (by omega) X24.size
  have X25:=X24.trans X2425
  have R25:=R24.keep X2425 (U25.block r R24.lt br.symm)
  have z22:=X22.size
  have Rw25:Row h.size h25 5 1 s23 (b8 x4):=(Rw24.keep fun g hg=>U25.block g (Rw24.bd hg).2 (fun q=>by subst q; have:=(Rw24.bd hg).1; have:=P20.lt; have:=U22.size; omega)).mono (by omega)
  have all:RdStep rawC (some l) (x,ep,x3,x4) o6:=tx1.bind (st.bind (st4.bind tx2))
  refine fin (bv:=(x,ep,x3,x4)) P25 R25 X25 (e:=0) (fun l' ho=>?_) fun ho=>?_
  ·rw [ho] at all
   obtain ⟨l0,e0,g0⟩:=all.to
   cases e0
   exact ⟨g0,⟨sB_bsOf xB,rfl,rfl,Rw25.slc,Row.pb Rw25⟩,Rw25⟩
  ·rw [ho] at all
   rcases all with ⟨l1,_,q⟩ | ⟨q,_⟩
   ·cases q
   ·exact q
 by_cases hx:x2.length=4
 ·have nb:=numL_bd x2B
  rw [hx,show (256:Int) ^ 4=4294967296 from by decide] at nb
  refine nGet_ok (l:=x2) (l':=x2) Rw12.slc (Row.pb Rw12) (by rw [List.take_of_length_le (by rw [hx]; decide)]) x2B (by omega) (by omega) (by rw [hx]; rfl) ?_
  rw [wrapU32 (x:=numL x2) nb.1 nb.2]
  exact rest (numL x2) nb st3.fix
 ·have o3n:o3=none:=by
   cases ho:o3 with
   | none=>rfl
   | some l3=>rw [ho] at st3; exact absurd st3.len hx
  have x20:=xn3 o3n
  refine nGet_short (by omega) (by omega) (by rw [Row.pb Rw12,x20]; decide) ?_
  rw [wrapU32 (x:=0) (by omega) (by omega)]
  have:RdStep (fixC 4) o2 0 o3:=by
   have:=st3.fix
   rw [x20] at this
   exact this
  exact rest 0 (by omega) this
end Go.Q.Yk
end
section
/- Maps whose keys are rows of so many integers. -/
namespace Go.Q
abbrev ArrK (n:Nat):={l:List Int // l.length=n}
def arK (n:Nat) (l:List Int):ArrK n:=⟨nrm n l,by unfold nrm; simp⟩
theorem arK_of {n:Nat} {l:List Int} (h:l.length=n):arK n l=⟨l,h⟩:=by
 refine Subtype.ext (List.ext_getElem (by unfold arK nrm; simp [h]) fun i h1 h2=>?_)
 unfold arK nrm
 simp [List.getElem?_eq_getElem h2]
theorem keyIsL_ints (k:IntKind):∀ {a b:List Int},a.length=b.length->keyIsL (a.map (Value.int k)) (b.map (Value.int k))=decide (a=b)
 | [],[],_=>rfl
 | [],_ :: _,h=>by simp at h
 | _ :: _,[],h=>by simp at h
 | x :: a,y :: b,h=>by
  rw [List.map_cons,List.map_cons,keyIsL,keyIsL_ints k (by simpa using h)]
  show (decide (k=k) && decide (x=y) && decide (a=b))=_
  rw [Bool.eq_iff_iff]
  simp
theorem bits_ints (k:IntKind) (n:Nat):∀ a:List Int,((a.map (Value.int k)).zip (a.map (Value.int k))).all (fun p=>Instr.sameBits (n + 1) p.1 p.2)=true
 | []=>rfl
 | x :: a=>by
  rw [List.map_cons,List.zip_cons_cons,List.all_cons,bits_ints k n a]
  simp [Instr.sameBits]
theorem keyA {P:Program} {T:Tab} (hT:TOk P T) {t el n:Nat} {k:IntKind} {n1 b1 n2 b2:Nat} {z1 z2:List Value} (ht:tlk T t=some ⟨.array n el,n1,b1,z1⟩) (hi:tlk T el=some ⟨.int k,n2,b2,z2⟩) (hn2:Nat.beq n2 1=true) :
  KeyS P t (fun v:ArrK n=>Value.agg (v.1.map (Value.int k)).toArray):=by
 obtain ⟨td,k1,k3⟩:=tk_spec hT ht
 rw [ty_array k3] at k1
 obtain ⟨td2,k4,k5⟩:=tk_spec hT hi
 rw [ty_int k5] at k4
 obtain ⟨d',ti,_,i2,_,i4,_⟩:=tiOk_spec (hT _ _ hi)
 have hc1:P.cellsOf el=1:=by
  simp only [Program.cellsOf,i2,Option.map_some,Option.getD_some,i4]
  exact Nat.eq_of_beq_eq_true hn2
 refine ⟨by rw [k1],fun a b=>?_,fun b a w=>?_,fun a b w=>?_,fun a w=>?_⟩
 ·show keyIsL (a.1.map (Value.int k)) (b.1.map (Value.int k))=_
  rw [keyIsL_ints k (a.2.trans b.2.symm)]
  exact decide_eq_decide.2 ⟨fun h=>Subtype.ext h,fun h=>by rw [h]⟩
 ·have c2:∀ x w,(Instr.checkKey b (9998 + 1) el (.int k x)).run P w = .ok () w:=fun x w=>by
   rw [Instr.checkKey]
   simp only [Sem.run_bind,run_underlying k4,Result.andThen_ok,Sem.run_pure]
  rw [show (10000:Nat)=(9998 + 1) + 1 from rfl,Instr.checkKey]
  generalize 9998 + 1=N at c2 ⊢
  simp only [Sem.run_bind,run_underlying k1,Result.andThen_ok]
  simp only [Std.Legacy.Range.forIn_eq_forIn_range',Std.Legacy.Range.size,Nat.sub_zero,Nat.add_one_sub_one,Nat.div_one]
  have each:∀ j∈List.range' 0 n,j < a.1.length:=fun j hj=>by have:=List.mem_range'_1.1 hj; have:=a.2; omega
  generalize List.range' 0 n=is at each
  induction is with
  | nil=>simp
  | cons j is ih =>
   have p1:=run_part_int (P:=P) (k:=k) hT hi rfl a.1 (each j (by simp)) w
   simp only [List.forIn_cons,Sem.run_bind,run_sizeOf w i2,hc1,Nat.mul_one,Result.andThen_ok,p1,c2,Sem.run_pure]
   exact ih fun y hy=>each y (by simp [hy])
 ·unfold Op.equal Op.maxDepth
  rw [run_equalIn_array w 9999 _ _ k1 i2,hc1,run_eqItems hT hi 9998 a.1 b.1 w _ (fun j hj=>by have:=a.2; have:=b.2; simp at hj; omega),all_getD n a.1 b.1 a.2 b.2]
  congr 1
  rw [Bool.eq_iff_iff,beq_iff_eq,decide_eq_true_eq]
  exact ⟨fun h=>Subtype.ext h,fun h=>by rw [h]⟩
 ·unfold Instr.keyThatStays
  have e:Instr.sameBits 10000 (Value.agg (a.1.map (Value.int k)).toArray) (Value.agg (a.1.map (Value.int k)).toArray)=true:=by
   show (_ == _ && _)=true
   rw [Bool.and_eq_true]
   exact ⟨by simp,bits_ints k 9998 a.1⟩
  rw [if_pos e]
  rfl
end Go.Q
end
section
set_option maxRecDepth 100000
/- Nonces are keys. -/
namespace Go.Q.Yk
theorem keyA_74:KeyS Go.Proofs.Tryz.prog 74 (fun v:ArrK 12=>Value.agg (v.1.map (Value.int .u8)).toArray):=keyA tok (T:=tab) rfl rfl rfl
end Go.Q.Yk
end

/- A part of the proof of statements of this seat: lemmas, no statement of their own. -/
import Derived.Test.YtmmpamfadeonmaaGreatDoorYkZay
set_option linter.unusedVariables false
set_option linter.unusedSimpArgs false
section
set_option maxRecDepth 100000
/- Slot: is a slot whole. -/
namespace Go.Q.Yk
variable {B c:Nat} {h h':Heap} {d rn rs pr:Nat} {X:DK}
abbrev pcs (d:Nat) (fr kk:Int):List Value:=S_slot_Pair.cs ⟨some ⟨d,0,none⟩,fr,kk⟩
def PairAt (h:Heap) (pr d:Nat) (fr kk:Int):Prop:=Blk h pr (pcs d fr kk) 174
/-- the bytes of all sectors are bytes -/
def GoodX (X:DK):Prop:=(∀ a,isB (secB ((mget X.now a).getD zSec)))/\∀ a,isB (secB ((mget X.safe a).getD zSec))
theorem read_B (g:GoodX X) (a:Int):isB (readD X a).1:=by
 unfold readD
 split
 ·intro b hb; cases hb
 ·split
  ·intro b hb; cases hb
  ·exact g.1 a
theorem read_len {a:Int} (e:(readD X a).2=0):(readD X a).1.length=128:=by
 unfold readD at e ⊢
 split at e
 ·cases e
 ·split at e
  ·cases e
  ·rename_i h1 h2; rw [if_neg h1,if_neg h2]; exact nrm_len _ _
def prtD (n:Int):Int:=if (n + 103) / 104 > 1 then (n + 103) / 104 else 1
theorem Parts_ok {n:Int} {k:Int->Heap->Prop} (n0:0<=n) (n1:n < 4611686018427387904) (H:k (prtD n) h):slot_parts n k h:=by
 unfold slot_parts
 refine ⟨_,rfl,?_⟩
 rw [wrapI64 (x:=n + 104) (by omega) (by omega),wrapI64 (x:=n + 104 - 1) (by omega) (by omega),Int.tdiv_eq_ediv_of_nonneg (by omega),wrapI64 (x:=(n + 104 - 1) / 104) (by omega) (by omega)]
 rw [show n + 104 - 1=n + 103 from by omega]
 exact H
theorem Short_ok {l:List Int} {k:Int->Heap->Prop} (hl:l.length=32) (hB:isB l) (H:∀ h',Ext h.size h h'->k (numL (l.take 8)) h'):sha_Short l k h:=by
 unfold sha_Short
 refine ⟨_,_,rfl,rfl,?_⟩
 have ea:arr 32 .u8 l=b8 l:=arr_full hl
 have P:=Blk.push h (arr 32 .u8 l) 27
 have W:=Ext.push h (.cells (arr 32 .u8 l).toArray 27) (Nat.le_refl _)
 generalize h.push (.cells (arr 32 .u8 l).toArray 27)=h2 at *
 rw [ea] at P
 have e:subS ⟨some (⟨h.size,0,none⟩:Addr),32,32⟩ 1 (0:Int).toNat (32:Int).toNat 32=⟨some ⟨h.size,0,none⟩,32,32⟩:=by
  unfold subS
  simp
 refine ⟨_,by omega,by omega,by omega,rfl,?_⟩
 rw [e]
 refine nGet_ok (w:=8) (l':=l) (l:=l.take 8) (P.slc (o:=0) (n:=32) ?_) (by rw [hl]) rfl (isB_take hB _) (by omega) (by omega) (by rw [List.length_take,hl]; rfl) (H h2 W)
 rw [List.drop_zero,List.take_of_length_le (by rw [List.length_map,hl]; omega)]
/-- the head of a slot's first sector -/
def fst1 (X:DK) (p:Int):S_slot_head:=hdD (readD X p).1
def GoodF (f:S_slot_head) (kk:Int):Prop:=1<=f.f_parts/\f.f_parts<=kk/\f.f_parts=prtD f.f_size
def OkI (X:DK) (p:Int) (i:Nat):Prop:=(readD X (p + i)).2=0/\hdD (readD X (p + i)).1 = { fst1 X p with f_part:=(i:Int) }
def catW (X:DK) (p:Int) (n:Nat):List Int:=((List.range n).map fun i:Nat=>(readD X (p + i)).1.drop 24).flatten
theorem catW_succ (X:DK) (p:Int) (n:Nat):catW X p (n + 1)=catW X p n ++ (readD X (p + n)).1.drop 24:=by
 unfold catW
 rw [List.range_succ,List.map_append,List.flatten_append]
 simp
theorem catW_len {p:Int}:∀ n:Nat,(∀ i:Nat,i < n->(readD X (p + i)).2=0)->(catW X p n).length=104 * n
 | 0,_=>rfl
 | n + 1,hh=>by
  rw [catW_succ,List.length_append,catW_len n fun i hi=>hh i (by omega),List.length_drop,read_len (hh n (by omega))]; omega
def outW (X:DK) (p:Int):List Int:=(catW X p (fst1 X p).f_parts.toNat).take (fst1 X p).f_size.toNat
def WholeC (X:DK) (p kk:Int):Prop:=GoodF (fst1 X p) kk/\(∀ i:Nat,i < (fst1 X p).f_parts.toNat->OkI X p i)/\numL ((shaD (outW X p)).take 8)=(fst1 X p).f_sum
theorem hd_bd (g:GoodX X) (p:Int):0<=(fst1 X p).f_size/\(fst1 X p).f_size < 4294967296/\0<=(fst1 X p).f_parts/\(fst1 X p).f_parts < 65536:=by
 have a:=fld_bd (read_B g p) 12 4
 have b:=fld_bd (read_B g p) 10 2
 rw [show (256:Int) ^ 4=4294967296 from by decide] at a
 rw [show (256:Int) ^ 2=65536 from by decide] at b
 exact ⟨a.1,a.2,b.1,b.2⟩
theorem part_eq {a b:S_slot_head}:((a.f_n == b.f_n) && (a.f_part == b.f_part) && (a.f_parts == b.f_parts) && (a.f_size == b.f_size) && (a.f_sum == b.f_sum))=true ↔ a=b:=by
 cases a; cases b; simp [and_assoc]
end Go.Q.Yk
end
section
set_option maxRecDepth 100000
/- Slot: is a slot whole: walked. -/
namespace Go.Q.Yk
variable {B c:Nat} {h h':Heap} {d rn rs pr:Nat} {X:DK}
abbrev zHd:S_slot_head:=⟨0,0,0,0,0⟩
theorem Place_ok {fr kk slot i:Int} {k:Int->Heap->Prop} (P:PairAt h pr d fr kk) (f0:0<=fr/\fr<=2000) (k0:0<=kk/\kk<=2000) (s0:0<=slot/\slot<=1) (i0:0<=i/\i<=100000) (H:k (fr + slot * kk + i) h):slot_Pair_place (some ⟨pr,0,none⟩) slot i k h:=by
 unfold slot_Pair_place
 refine ⟨_,rfl,fr,by rw [add_mk,P.cell]; rfl,kk,by rw [add_mk,P.cell]; rfl,?_⟩
 have hs:slot * kk=0∨slot * kk=kk:=by
  have:slot=0∨slot=1:=by omega
  rcases this with rfl | rfl
  ·left; simp
  ·right; simp
 rw [wrapI64 (x:=slot * kk) (by omega) (by omega),wrapI64 (x:=fr + slot * kk) (by omega) (by omega),wrapI64 (by omega) (by omega)]
 exact H
/-- where the walk of a slot stands -/
structure WI (b1:Nat) (h0 h:Heap) (X:DK) (p kk:Int) (s:Slc) (i:Int) (f0:S_slot_head):Prop where
 i0:0<=i
 i1:i<=600
 E:Ext b1 h0 h
 z:b1 + 1<=h.size
 P:Blk h b1 (S_slot_head.cs f0) 201
 R:Row (b1 + 1) h 5 1 s (b8 (catW X p i.toNat))
 f:(i=0/\f0=zHd)∨(0 < i/\f0=fst1 X p/\GoodF f0 kk/\i<=f0.f_parts)
 ok:∀ j:Nat,j < i.toNat->OkI X p j
theorem WI.ext {b1:Nat} {h0 h h':Heap} {p kk i:Int} {s:Slc} {f0:S_slot_head} (w:WI b1 h0 h X p kk s i f0) (E:Ext h.size h h'):WI b1 h0 h' X p kk s i f0 :=
 { w with E:=w.E.trans (E.mono (by have:=w.z; omega)),z:=Nat.le_trans w.z E.size,P:=w.P.ext E w.P.lt,R:=w.R.ext E fun g hg=>(w.R.bd hg).2 }
theorem Whole_ok {fr kk slot:Int} {k:Slc × Int × Bool->Heap->Prop} (D:DAt B c h d rn rs X) (P:PairAt h pr d fr kk) (r:R0 h) (g:GoodX X) (f0:0<=fr/\fr<=2000) (k0:1<=kk/\kk<=512) (s0:0<=slot/\slot<=1)
  (H0:¬ ((readD X (fr + slot * kk)).2=0/\WholeC X (fr + slot * kk) kk)->∀ h',Ext h.size h h'->k (⟨none,0,0⟩,0,false) h')
  (H1:WholeC X (fr + slot * kk) kk->(readD X (fr + slot * kk)).2=0->∀ s h',SlcAt h' s (b8 (outW X (fr + slot * kk)))->s.len=(outW X (fr + slot * kk)).length->s.len<=s.cap->(∀ a,s.a=some a->h.size<=a.block)->Ext h.size h h'->k (s,(fst1 X (fr + slot * kk)).f_n,true) h') :
  slot_Pair_whole (some ⟨pr,0,none⟩) slot k h:=by
 have r0:=r.pos
 generalize ep:fr + slot * kk=p at *
 unfold slot_Pair_whole
 refine ⟨_,_,rfl,rfl,?_⟩
 have P1:=Blk.push h (S_slot_head.cs zHd) 201
 have W1:=Ext.push h (.cells (S_slot_head.cs zHd).toArray 201) (Nat.le_refl _)
 have pl:=P1.lt
 generalize h.push (.cells (S_slot_head.cs zHd).toArray 201)=h2 at *
 obtain ⟨b1,eb1⟩:∃ y,y=h.size:=⟨_,rfl⟩
 rw [← eb1] at P1 W1 pl H0 H1 r0 ⊢
 have hdp:=hd_bd g p
 unfold slot_Pair_whole_l1
 refine ⟨fun q h'=>∃ f0,WI b1 h h' X p kk q.1 q.2 f0,fun q _=>(1000 - q.2).toNat,⟨zHd,by dsimp only; omega,by dsimp only; omega,W1,by omega,P1,Row.nil _ _ _ _,.inl ⟨rfl,rfl⟩,fun j hj=>by simp at hj⟩,?_⟩
 rintro s i h3 ⟨fh,w⟩
 dsimp only at w
 have bad:∀ {h'},(¬ ((readD X p).2=0/\WholeC X p kk))->Ext b1 h h'->k (⟨none,0,0⟩,0,false) h':=fun {h'} no E=>H0 no h' E
 have D3:DAt B c h3 d rn rs X:=D.ext (by rw [← eb1]; exact w.E)
 have Q3:PairAt h3 pr d fr kk:=Blk.ext P (by rw [← eb1]; exact w.E) P.lt
 have i0:=w.i0
 have i1:=w.i1
 -- one sector more
 have more:(i=0∨(0 < i/\i < (fst1 X p).f_parts))->slot_Pair_whole_g2 (some ⟨pr,0,none⟩) slot s ⟨b1,0,none⟩ i true k (fun s' h'=>(∃ f0,WI b1 h h' X p kk s'.1 s'.2 f0)/\(1000 - s'.2).toNat < (1000 - i).toNat) h3:=fun hi=>by
  have hin:∀ C:Prop,((readD X p).2=0/\WholeC X p kk->OkI X p i.toNat):=fun _ wc=>wc.2.2.1 i.toNat (by
   have g1:=wc.2.1.1
   rcases hi with e | e <;> omega)
  unfold slot_Pair_whole_g2
  rw [if_pos rfl]
  refine ⟨_,rfl,some ⟨d,0,none⟩,by rw [Q3.cell]; rfl,Place_ok Q3 f0 ⟨by omega,by omega⟩ s0 ⟨i0,by omega⟩ ⟨by rw [Q3.cell]; rfl,?_⟩⟩
  rw [ep]
  refine DRead_ok D3 fun t h9 St lt ct ft X9=>?_
  by_cases er:(readD X (p + i)).2=0
  ·rw [if_neg (by rw [er]; simp)]
   have lb:=read_len er
   refine headOf_ok St lt lb (by dsimp only; omega) (read_B g _) fun h11 X11=>?_
   have X911:=X9.trans (X11.mono X9.size)
   have w11:=w.ext X911
   refine ⟨_,_,rfl,rfl,?_⟩
   have V:=Blk.push h11 (S_slot_head.cs zHd) 201
   have W13:=Ext.push h11 (.cells (S_slot_head.cs zHd).toArray 201) (Nat.le_refl _)
   generalize h11.push (.cells (S_slot_head.cs zHd).toArray 201)=h13 at *
   refine ⟨_,WrsAt.of_blk V (by show 5<=5; omega),rfl,?_⟩
   have V14:=V.sets_all (vs:=S_slot_head.cs (hdD (readD X (p + i)).1)) rfl
   have X14:Ext h11.size h11 (setsH h13 ⟨h11.size,0,none⟩ 0 (S_slot_head.cs (hdD (readD X (p + i)).1))):=W13.trans (Ext.sets _ _ _ (Nat.le_refl _))
   generalize setsH h13 ⟨h11.size,0,none⟩ 0 (S_slot_head.cs (hdD (readD X (p + i)).1))=h14 at *
   have w14:=w11.ext X14
   have X914:=X911.trans (X14.mono X911.size)
   have St14:SlcAt h14 t (b8 (readD X (p + i)).1):=(St.ext X11).ext X14
   have bl:b1 < h11.size:=by have:=w11.z; omega
   -- the rest, the head of the first sector being laid
   have rest:∀ h15,Blk h15 b1 (S_slot_head.cs (fst1 X p)) 201->Blk h15 h11.size (S_slot_head.cs (hdD (readD X (p + i)).1)) 201->(∀ j,j≠b1->h15[j]? = h14[j]?)->h15.size=h14.size->slot_Pair_whole_j3 (some ⟨pr,0,none⟩) slot s ⟨b1,0,none⟩ i t ⟨h11.size,0,none⟩ k (fun s' h'=>(∃ f0,WI b1 h h' X p kk s'.1 s'.2 f0)/\(1000 - s'.2).toNat < (1000 - i).toNat) h15:=fun h15 Pb Vb o15 s15=>by
    have X015:Ext b1 h h15:=by
     refine w14.E.trans ⟨by omega,fun j hj=>o15 j (by omega)⟩
    have R15:Row (b1 + 1) h15 5 1 s (b8 (catW X p i.toNat)):=w14.R.keep fun q hq=>o15 q (by have:=(w14.R.bd hq).1; omega)
    have S15:SlcAt h15 t (b8 (readD X (p + i)).1):=⟨St14.1,fun a ha j v hj=>by
     have:=St14.2 a ha j v hj
     have hb:=ft a ha
     have z3:=w.z
     rw [cellH_of (o15 _ (by show (a.add j).block≠b1; have:(a.add j).block=a.block:=(by unfold Addr.add; split <;> rfl); omega))]
     exact this⟩
    have D15:PairAt h15 pr d fr kk:=Blk.ext P (by rw [← eb1]; exact X015) P.lt
    have z15:b1 + 1<=h15.size:=by have:=w14.z; omega
    unfold slot_Pair_whole_j3
    refine ⟨fst1 X p,CellsAt.of_blk Pb,_,_,rfl,rfl,?_⟩
    have U:=Blk.push h15 (S_slot_head.cs zHd) 201
    have W17:=Ext.push h15 (.cells (S_slot_head.cs zHd).toArray 201) (Nat.le_refl _)
    generalize h15.push (.cells (S_slot_head.cs zHd).toArray 201)=h17 at *
    refine ⟨_,WrsAt.of_blk U (by show 5<=5; omega),rfl,?_⟩
    have U18:=U.sets_all (vs:=S_slot_head.cs (fst1 X p)) rfl
    have X18:Ext h15.size h15 (setsH h17 ⟨h15.size,0,none⟩ 0 (S_slot_head.cs (fst1 X p))):=W17.trans (Ext.sets _ _ _ (Nat.le_refl _))
    generalize setsH h17 ⟨h15.size,0,none⟩ 0 (S_slot_head.cs (fst1 X p))=h18 at *
    refine ⟨_,by rw [add_mk]; exact U18.wr (by show _ < 5; omega),rfl,?_⟩
    rw [add_mk]
    have U19:Blk (setH h18 ⟨h15.size,0 + 1,none⟩ (.int .i64 i)) h15.size (S_slot_head.cs { fst1 X p with f_part:=i }) 201:=U18.set
    have X19:Ext h15.size h15 (setH h18 ⟨h15.size,0 + 1,none⟩ (.int .i64 i)):=X18.trans (Ext.set _ _ (Nat.le_refl _))
    generalize setH h18 ⟨h15.size,0 + 1,none⟩ (.int .i64 i)=h19 at *
    have z19:=X19.size
    have vl:=Vb.lt
    have V19:=Vb.ext X19 vl
    have X019:Ext b1 h h19:=X015.trans (X19.mono (by omega))
    have R19:=R15.ext X19 fun q hq=>(R15.bd hq).2
    have P19:=Pb.ext X19 Pb.lt
    have S19:=S15.ext X19
    have D19:PairAt h19 pr d fr kk:=Blk.ext D15 X19 D15.lt
    have j4t:slot_Pair_whole_j4 (some ⟨pr,0,none⟩) slot s ⟨b1,0,none⟩ i t true k (fun s' h'=>(∃ f0,WI b1 h h' X p kk s'.1 s'.2 f0)/\(1000 - s'.2).toNat < (1000 - i).toNat)=fun h'=>k (⟨none,0,0⟩,0,false) h':=by
     funext h'; unfold slot_Pair_whole_j4; rw [if_pos rfl]
    refine ⟨_,CellsAt.of_blk V19,_,CellsAt.of_blk U19,?_⟩
    by_cases e:hdD (readD X (p + i)).1 = { fst1 X p with f_part:=i }
    ·have e2:=part_eq.2 e
     rw [if_neg (by rw [if_neg (by decide),e2]; decide)]
     have okn:OkI X p i.toNat:=by
      unfold OkI
      rw [show ((i.toNat:Nat):Int)=i from by omega]
      exact ⟨er,e⟩
     have ep2:(hdD (readD X (p + i)).1).f_parts=(fst1 X p).f_parts:=by rw [e]
     have es2:(hdD (readD X (p + i)).1).f_size=(fst1 X p).f_size:=by rw [e]
     refine ⟨_,by rw [add_mk,V19.cell]; rfl,?_⟩
     rw [ep2]
     by_cases q1:(fst1 X p).f_parts < 1
     ·rw [if_pos (by rw [decide_eq_true_eq]; exact q1),if_pos rfl,j4t]
      exact bad (fun wc=>by have:=wc.2.1.1; omega) X019
     rw [if_neg (by rw [decide_eq_true_eq]; exact q1)]
     refine ⟨_,by rw [add_mk,V19.cell]; rfl,_,rfl,kk,by rw [add_mk,D19.cell]; rfl,?_⟩
     rw [ep2]
     by_cases q2:(fst1 X p).f_parts > kk
     ·rw [if_pos (by rw [decide_eq_true_eq]; exact q2),j4t]
      exact bad (fun wc=>by have:=wc.2.1.2.1; omega) X019
     rw [if_neg (by rw [decide_eq_true_eq]; exact q2)]
     refine ⟨_,by rw [add_mk,V19.cell]; rfl,_,by rw [add_mk,V19.cell]; rfl,?_⟩
     rw [ep2,es2]
     refine Parts_ok hdp.1 (by omega) ⟨by rw [add_mk,V19.cell,← ep2]; rfl,?_⟩
     by_cases q3:(fst1 X p).f_parts=prtD (fst1 X p).f_size
     ·rw [show ((fst1 X p).f_parts != prtD (fst1 X p).f_size)=false from by simpa using q3]
      unfold slot_Pair_whole_j4
      rw [if_neg (by simp)]
      have tl:t.len=128:=by rw [← lb]; exact lt
      rw [tl,wrapI64 (x:=((128:Nat):Int) - 104) (by omega) (by omega)]
      refine ⟨_,by omega,by omega,by omega,by omega,rfl,b8 ((readD X (p + i)).1.drop 24),?_,?_⟩
      ·have:=SlcAt.sub (w:=1) (l:=(((128:Nat):Int) - 104).toNat) (u:=(((128:Nat):Int)).toNat) (m:=((t.cap:Nat):Int).toNat) S19 (by omega) (by omega)
       rw [Nat.mul_one,Nat.mul_one,← List.map_drop,← List.map_take,List.take_of_length_le (by rw [List.length_drop,lb]; omega)] at this
       exact this
      ·have ls:s.len=104 * i.toNat:=by
        have:=R19.len
        rw [this,List.length_map,catW_len]
        intro j hj; exact (w.ok j hj).1
       refine App.row2 R19 (by omega) rfl (by rw [List.length_map,List.length_drop,lb]; rfl) (b8_one _) (by show (s.len + (128 - 24)) * 1<=_; omega) (by show s.len + (128 - 24)<=_; simp only [maxLen]; omega) fun s' h22 R22 _ z22 kp _ _=>?_
       have ne:∀ j,j<=b1->s.blk≠some j:=fun j hj e=>by have:=(R19.bd e).1; omega
       refine ⟨_,rfl,?_⟩
       rw [wrapI64 (by omega) (by omega)]
       have ip:i + 1<=(fst1 X p).f_parts:=by rcases hi with e | e <;> omega
       refine ⟨⟨fst1 X p,⟨by dsimp only; omega,by dsimp only; omega,X019.trans ⟨z22,fun j hj=>kp j (by omega) (ne j (by omega))⟩,by omega,P19.old (kp b1 P19.lt (ne b1 (Nat.le_refl _))),?_,.inr ⟨by dsimp only; omega,rfl,⟨by omega,by omega,q3⟩,ip⟩,fun j hj=>?_⟩⟩,by dsimp only; omega⟩
       ·dsimp only
        rw [show (i + 1).toNat=i.toNat + 1 from by omega,catW_succ,show ((i.toNat:Nat):Int)=i from by omega,b8,List.map_append]
        exact R22
       ·dsimp only at hj
        by_cases ej:j < i.toNat
        ·exact w.ok j ej
        ·rw [show j=i.toNat from by omega]; exact okn
     ·rw [show ((fst1 X p).f_parts != prtD (fst1 X p).f_size)=true from by simpa using q3,j4t]
      exact bad (fun wc=>q3 wc.2.1.2.2) X019
    ·have e2:((hdD (readD X (p + i)).1).f_n == ({ fst1 X p with f_part:=i }:S_slot_head).f_n && (hdD (readD X (p + i)).1).f_part == ({ fst1 X p with f_part:=i }:S_slot_head).f_part && (hdD (readD X (p + i)).1).f_parts == ({ fst1 X p with f_part:=i }:S_slot_head).f_parts && (hdD (readD X (p + i)).1).f_size == ({ fst1 X p with f_part:=i }:S_slot_head).f_size && (hdD (readD X (p + i)).1).f_sum == ({ fst1 X p with f_part:=i }:S_slot_head).f_sum)=false:=by
      cases hh:((hdD (readD X (p + i)).1).f_n == ({ fst1 X p with f_part:=i }:S_slot_head).f_n && (hdD (readD X (p + i)).1).f_part == ({ fst1 X p with f_part:=i }:S_slot_head).f_part && (hdD (readD X (p + i)).1).f_parts == ({ fst1 X p with f_part:=i }:S_slot_head).f_parts && (hdD (readD X (p + i)).1).f_size == ({ fst1 X p with f_part:=i }:S_slot_head).f_size && (hdD (readD X (p + i)).1).f_sum == ({ fst1 X p with f_part:=i }:S_slot_head).f_sum) with
      | false=>rfl
      | true=>exact absurd (part_eq.1 hh) e
     rw [if_pos (by rw [if_neg (by decide),e2]; rfl),if_pos rfl,if_pos rfl,j4t]
     refine bad (fun wc=>e ?_) X019
     have:=(hin True wc).2
     rw [show ((i.toNat:Nat):Int)=i from by omega] at this
     exact this
   by_cases iz:i=0
   ·rw [if_pos (by simpa using iz)]
    refine ⟨_,CellsAt.of_blk V14,_,WrsAt.of_blk w14.P (by show 5<=5; omega),rfl,?_⟩
    have ef:hdD (readD X (p + i)).1=fst1 X p:=by unfold fst1; rw [iz,Int.add_zero]
    rw [ef] at V14 ⊢
    have o15:∀ j,j≠b1->(setsH h14 ⟨b1,0,none⟩ 0 (S_slot_head.cs (fst1 X p)))[j]? = h14[j]?:=fun j hj=>setsH_other _ _ hj
    exact rest _ (w14.P.sets_all rfl) (by rw [ef]; exact V14.old (o15 _ (by omega))) o15 (setsH_size _ _)
   ·rw [if_neg (by simpa using iz)]
    rcases w14.f with ⟨z,_⟩ | ⟨_,ef,_⟩
    ·exact absurd z iz
    ·have P14:=w14.P
     rw [ef] at P14
     exact rest h14 P14 V14 (fun _ _=>rfl) rfl
  ·rw [if_pos (by simpa using er)]
   refine bad (fun wc=>er ?_) (w.E.trans (X9.mono (by have:=w.z; omega)))
   have:=(hin True wc).1
   rw [show ((i.toNat:Nat):Int)=i from by omega] at this
   exact this
 unfold slot_Pair_whole_l1b
 by_cases iz:i=0
 ·rw [if_pos (by simpa using iz)]
  exact more (.inl iz)
 rw [if_neg (by simpa using iz)]
 rcases w.f with ⟨z,_⟩ | ⟨ip,ef,gf,il⟩
 ·exact absurd z iz
 subst ef
 refine ⟨_,by rw [add_mk,w.P.cell]; rfl,?_⟩
 by_cases lt:i < (fst1 X p).f_parts
 ·rw [decide_eq_true lt]
  exact more (.inr ⟨ip,lt⟩)
 rw [decide_eq_false lt]
 have ie:i=(fst1 X p).f_parts:=by omega
 have R:=w.R
 rw [ie] at R
 have er:(readD X p).2=0:=by
  have:=(w.ok 0 (by omega)).1
  rw [show p + ((0:Nat):Int)=p from by omega] at this
  exact this
 have lsz:=catW_len (X:=X) (p:=p) i.toNat fun j hj=>(w.ok j hj).1
 rw [ie] at lsz
 have ls:s.len=104 * (fst1 X p).f_parts.toNat:=by have:=R.len; rw [this,List.length_map,lsz]
 have lc:=R.cap
 have q3:=gf.2.2
 have szb:(fst1 X p).f_size<=104 * (fst1 X p).f_parts:=by rw [q3]; unfold prtD; split <;> omega
 have q2:=gf.2.1
 unfold slot_Pair_whole_g2
 rw [if_neg (by simp)]
 have zz:=w.z
 refine ⟨_,by rw [add_mk,w.P.cell]; rfl,_,by omega,by omega,by omega,by omega,rfl,_,by rw [add_mk,w.P.cell]; rfl,_,_,rfl,rfl,?_⟩
 have So:SlcAt h3 (subS s 1 (0:Int).toNat (fst1 X p).f_size.toNat ((s.cap:Nat):Int).toNat) (b8 (outW X p)):=by
  have:=SlcAt.sub (w:=1) (l:=(0:Int).toNat) (u:=(fst1 X p).f_size.toNat) (m:=((s.cap:Nat):Int).toNat) R.slc (by simp) (by omega)
  rw [Nat.mul_one,Nat.mul_one,← List.map_drop,← List.map_take] at this
  exact this
 have lo:(outW X p).length=(fst1 X p).f_size.toNat:=by unfold outW; rw [List.length_take,lsz]; omega
 have fa:∀ a,(subS s 1 (0:Int).toNat (fst1 X p).f_size.toNat ((s.cap:Nat):Int).toNat).a=some a->b1<=a.block:=fun a ha=>by
  have:∃ a',s.a=some a'/\a'.block=a.block:=by
   unfold subS at ha
   simp only at ha
   split at ha
   ·exact ⟨a,ha,rfl⟩
   ·cases hs:s.a with
    | none=>rw [hs] at ha; cases ha
    | some a' =>
     rw [hs] at ha
     refine ⟨a',rfl,?_⟩
     have:=Option.some.inj ha
     rw [← this]
     unfold Addr.add; split <;> rfl
  obtain ⟨a',h1,h2⟩:=this
  have:=(R.bd (g:=a'.block) (by simp [Slc.blk,h1])).1
  omega
 generalize es:subS s 1 (0:Int).toNat (fst1 X p).f_size.toNat ((s.cap:Nat):Int).toNat=s5 at *
 have l5:s5.len=(outW X p).length:=by rw [← es,lo]; show (fst1 X p).f_size.toNat - (0:Int).toNat=_; simp
 have c5:s5.len<=s5.cap:=by rw [← es]; show (fst1 X p).f_size.toNat - (0:Int).toNat<=((s.cap:Nat):Int).toNat - (0:Int).toNat; simp only [Int.toNat_zero,Int.toNat_natCast]; omega
 have V:=Blk.push h3 [Slc.v s5] 28
 have W4:=Ext.push h3 (.cells ([Slc.v s5]:List Value).toArray 28) (Nat.le_refl _)
 generalize h3.push (.cells ([Slc.v s5]:List Value).toArray 28)=h4 at *
 have w4:=w.ext W4
 have z4:=W4.size
 refine ⟨by rw [add_mk,w4.P.cell]; rfl,Of_ok ((r.ext w4.E r0)) (V.slc (o:=0) (n:=1) rfl) rfl (So.ext W4) l5 (by rw [lo]; omega) fun h5 X5=>?_⟩
 have w5:=w4.ext X5
 refine ⟨by rw [add_mk,w5.P.cell]; rfl,Short_ok (shaD_len _) (shaD_B _) fun h6 X6=>?_⟩
 have w6:=w5.ext X6
 refine ⟨by rw [add_mk,w6.P.cell]; rfl,?_⟩
 have ok':∀ j:Nat,j < (fst1 X p).f_parts.toNat->OkI X p j:=fun j hj=>w.ok j (by omega)
 rcases Classical.em (numL ((shaD (outW X p)).take 8)=(fst1 X p).f_sum) with sm | sm
 ·rw [if_neg (by rw [bne_iff_ne]; exact fun e=>e sm)]
  refine ⟨_,by rw [w6.P.cell]; rfl,?_⟩
  exact H1 ⟨gf,ok',sm⟩ er s5 h6 (((So.ext W4).ext X5).ext X6) l5 c5 fa w6.E
 ·rw [if_pos (by rw [bne_iff_ne]; exact sm)]
  exact bad (fun wc=>sm wc.2.2.2) w6.E
end Go.Q.Yk
end
section
/- Slot: the greatest number, the better slot, what is loaded. -/
namespace Go.Q.Yk
variable {B c:Nat} {h h':Heap} {d rn rs pr:Nat} {X:DK}
def grD (X:DK) (fr:Int):Nat->Int
 | 0=>0
 | i + 1=>if (readD X (fr + i)).2=0 then (if (fst1 X (fr + i)).f_n > grD X fr i then (fst1 X (fr + i)).f_n else grD X fr i) else grD X fr i
theorem Greatest_ok {fr kk:Int} {k:Int->Heap->Prop} (D:DAt B c h d rn rs X) (P:PairAt h pr d fr kk) (g:GoodX X) (f0:0<=fr/\fr<=2000) (k0:1<=kk/\kk<=512) (H:∀ h',Ext h.size h h'->k (grD X fr (2 * kk).toNat) h') :
  slot_Pair_greatest (some ⟨pr,0,none⟩) k h:=by
 unfold slot_Pair_greatest
 refine ⟨_,rfl,kk,by rw [add_mk,P.cell]; rfl,?_⟩
 rw [wrapI64 (x:=2 * kk) (by omega) (by omega)]
 unfold slot_Pair_greatest_l1
 refine ⟨fun q h'=>0<=q.2/\q.2<=2 * kk/\q.1=grD X fr q.2.toNat/\Ext h.size h h',fun q _=>(2 * kk - q.2).toNat,⟨by omega,by dsimp only; omega,rfl,Ext.refl _ _⟩,?_⟩
 rintro n i h1 ⟨i0,i1,en,X1⟩
 dsimp only at i0 i1 en
 unfold slot_Pair_greatest_l1b
 by_cases ci:i < 2 * kk
 ·rw [if_pos (by rw [decide_eq_true_eq]; exact ci)]
  have D1:=D.ext X1
  have P1:PairAt h1 pr d fr kk:=Blk.ext P X1 P.lt
  refine ⟨_,rfl,some ⟨d,0,none⟩,by rw [P1.cell]; rfl,fr,by rw [add_mk,P1.cell]; rfl,?_⟩
  rw [wrapI64 (x:=fr + i) (by omega) (by omega)]
  refine DRead_ok D1 fun t h2 St lt ct ft X2=>?_
  have X02:=X1.trans (X2.mono X1.size)
  have nx:∀ m h3,m=grD X fr (i.toNat + 1)->Ext h.size h h3->slot_Pair_greatest_j2 (some ⟨pr,0,none⟩) (2 * kk) i m k (fun s' h'=>(0<=s'.2/\s'.2<=2 * kk/\s'.1=grD X fr s'.2.toNat/\Ext h.size h h')/\(2 * kk - s'.2).toNat < (2 * kk - i).toNat) h3:=fun m h3 hm X3=>by
   unfold slot_Pair_greatest_j2
   rw [wrapI64 (by omega) (by omega)]
   exact ⟨⟨by dsimp only; omega,by dsimp only; omega,by dsimp only; rw [hm,show (i + 1).toNat=i.toNat + 1 from by omega],X3⟩,by dsimp only; omega⟩
  have eg:grD X fr (i.toNat + 1)=if (readD X (fr + i)).2=0 then (if (fst1 X (fr + i)).f_n > n then (fst1 X (fr + i)).f_n else n) else n:=by
   rw [grD,← en,show ((i.toNat:Nat):Int)=i from by omega]
  by_cases er:(readD X (fr + i)).2=0
  ·rw [if_pos (by simpa using er)]
   refine headOf_ok St lt (read_len er) (by dsimp only; omega) (read_B g _) fun h3 X3=>⟨_,rfl,?_⟩
   rw [if_pos er] at eg
   exact nx _ h3 eg.symm (X02.trans (X3.mono X02.size))
  ·rw [if_neg (by simpa using er)]
   rw [if_neg er] at eg
   exact nx _ h2 eg.symm X02
 ·rw [if_neg (by rw [decide_eq_true_eq]; exact ci)]
  rw [en,show i.toNat=(2 * kk).toNat from by omega]
  exact H h1 X1
/-- a slot is whole -/
def IsW (X:DK) (fr kk slot:Int):Prop:=(readD X (fr + slot * kk)).2=0/\WholeC X (fr + slot * kk) kk
def numW (X:DK) (fr kk slot:Int):Int:=(fst1 X (fr + slot * kk)).f_n
/-- what is told of a whole slot -/
structure ToldW (h0 h:Heap) (X:DK) (fr kk slot:Int) (s:Slc) (n:Int):Prop where
 w:IsW X fr kk slot
 n:n=numW X fr kk slot
 S:SlcAt h s (b8 (outW X (fr + slot * kk)))
 l:s.len=(outW X (fr + slot * kk)).length
 c:s.len<=s.cap
 f:∀ a,s.a=some a->h0.size<=a.block
theorem ToldW.ext {h0:Heap} {fr kk slot n:Int} {s:Slc} (t:ToldW h0 h X fr kk slot s n) (E:Ext h.size h h'):ToldW h0 h' X fr kk slot s n:={ t with S:=t.S.ext E }
/-- the better slot -/
def BestS (h0 h:Heap) (X:DK) (fr kk slot:Int) (s:Slc) (n:Int):Prop :=
 (slot = -1/\s=⟨none,0,0⟩/\n=0/\¬ IsW X fr kk 0/\¬ IsW X fr kk 1)∨(slot=0/\ToldW h0 h X fr kk 0 s n/\(IsW X fr kk 1->numW X fr kk 1<=numW X fr kk 0))∨(slot=1/\ToldW h0 h X fr kk 1 s n/\(IsW X fr kk 0->numW X fr kk 1 > numW X fr kk 0))
theorem Whole2_ok {fr kk slot:Int} {k:Slc × Int × Bool->Heap->Prop} (D:DAt B c h d rn rs X) (P:PairAt h pr d fr kk) (r:R0 h) (g:GoodX X) (f0:0<=fr/\fr<=2000) (k0:1<=kk/\kk<=512) (s0:0<=slot/\slot<=1)
  (H0:¬ IsW X fr kk slot->∀ h',Ext h.size h h'->k (⟨none,0,0⟩,0,false) h') (H1:∀ s n h',ToldW h h' X fr kk slot s n->Ext h.size h h'->k (s,n,true) h'):slot_Pair_whole (some ⟨pr,0,none⟩) slot k h :=
 Whole_ok D P r g f0 k0 s0 H0 fun wc er s h' S l c f E=>H1 s _ h' ⟨⟨er,wc⟩,rfl,S,l,c,f⟩ E
theorem ToldW.mono {h0 h1:Heap} {fr kk slot n:Int} {s:Slc} (t:ToldW h1 h X fr kk slot s n) (E:h0.size<=h1.size):ToldW h0 h X fr kk slot s n:={ t with f:=fun a ha=>Nat.le_trans E (t.f a ha) }
theorem Best_ok {fr kk:Int} {k:Int × Slc × Int->Heap->Prop} (D:DAt B c h d rn rs X) (P:PairAt h pr d fr kk) (r:R0 h) (g:GoodX X) (f0:0<=fr/\fr<=2000) (k0:1<=kk/\kk<=512)
  (H:∀ slot s n h',BestS h h' X fr kk slot s n->Ext h.size h h'->k (slot,s,n) h'):slot_Pair_best (some ⟨pr,0,none⟩) k h:=by
 have r0:=r.pos
 unfold slot_Pair_best
 refine ⟨_,rfl,?_⟩
 unfold slot_Pair_best_l1
 refine ⟨fun q h'=>Ext h.size h h'/\((q=(-1,⟨none,0,0⟩,0,0))∨(q.2.2.2=1/\((q=(-1,⟨none,0,0⟩,0,1)/\¬ IsW X fr kk 0)∨(q.1=0/\ToldW h h' X fr kk 0 q.2.1 q.2.2.1)))∨(q.2.2.2=2/\BestS h h' X fr kk q.1 q.2.1 q.2.2.1)),fun q _=>(2 - q.2.2.2).toNat,⟨Ext.refl _ _,.inl rfl⟩,?_⟩
 rintro sl s n i h1 ⟨X1,St⟩
 have D1:=D.ext X1
 have P1:PairAt h1 pr d fr kk:=Blk.ext P X1 P.lt
 have r1:=r.ext X1 r0
 have tr:∀ {h'},Ext h1.size h1 h'->Ext h.size h h':=fun E=>X1.trans (E.mono X1.size)
 unfold slot_Pair_best_l1b
 rcases St with e | ⟨e1,St⟩ | ⟨e2,St⟩
 ·cases e
  rw [if_pos (by decide)]
  refine Whole2_ok D1 P1 r1 g f0 k0 (by omega) (fun no h2 E=>?_) (fun s' n' h2 T E=>?_)
  ·rw [if_neg (by simp)]
   unfold slot_Pair_best_j2
   exact ⟨⟨tr E,.inr (.inl ⟨rfl,.inl ⟨rfl,no⟩⟩)⟩,by dsimp only; decide⟩
  ·rw [if_pos (by simp)]
   unfold slot_Pair_best_j2
   exact ⟨⟨tr E,.inr (.inl ⟨rfl,.inr ⟨rfl,T.mono X1.size⟩⟩)⟩,by dsimp only; decide⟩
 ·dsimp only at e1
  subst e1
  rw [if_pos (by decide)]
  rcases St with ⟨e,no0⟩ | ⟨e,T0⟩
  ·cases e
   refine Whole2_ok D1 P1 r1 g f0 k0 (by omega) (fun no h2 E=>?_) (fun s' n' h2 T E=>?_)
   ·rw [if_neg (by simp)]
    unfold slot_Pair_best_j2
    exact ⟨⟨tr E,.inr (.inr ⟨rfl,.inl ⟨rfl,rfl,rfl,no0,no⟩⟩)⟩,by dsimp only; decide⟩
   ·rw [if_pos (by simp)]
    unfold slot_Pair_best_j2
    exact ⟨⟨tr E,.inr (.inr ⟨rfl,.inr (.inr ⟨rfl,T.mono X1.size,fun w0=>absurd w0 no0⟩)⟩)⟩,by dsimp only; decide⟩
  ·dsimp only at e T0
   subst e
   refine Whole2_ok D1 P1 r1 g f0 k0 (by omega) (fun no h2 E=>?_) (fun s' n' h2 T E=>?_)
   ·rw [if_neg (by simp)]
    unfold slot_Pair_best_j2
    exact ⟨⟨tr E,.inr (.inr ⟨rfl,.inr (.inl ⟨rfl,T0.ext E,fun w1=>absurd w1 no⟩)⟩)⟩,by dsimp only; decide⟩
   ·have en:=T0.n
    have en':=T.n
    by_cases gt:n' > n
    ·rw [if_pos (by simp [gt])]
     unfold slot_Pair_best_j2
     exact ⟨⟨tr E,.inr (.inr ⟨rfl,.inr (.inr ⟨rfl,T.mono X1.size,fun _=>by rw [← en,← en']; exact gt⟩)⟩)⟩,by dsimp only; decide⟩
    ·rw [if_neg (by simp [gt])]
     unfold slot_Pair_best_j2
     exact ⟨⟨tr E,.inr (.inr ⟨rfl,.inr (.inl ⟨rfl,T0.ext E,fun _=>by rw [← en,← en']; omega⟩)⟩)⟩,by dsimp only; decide⟩
 ·dsimp only at e2 St
  subst e2
  rw [if_neg (by decide)]
  exact H sl s n h1 St X1
theorem Load_ok {fr kk:Int} {k:Slc × Int × Int->Heap->Prop} (D:DAt B c h d rn rs X) (P:PairAt h pr d fr kk) (r:R0 h) (g:GoodX X) (f0:0<=fr/\fr<=2000) (k0:1<=kk/\kk<=512)
  (H:∀ slot s n h',BestS h h' X fr kk slot s n->Ext h.size h h'->k (if slot < 0 then (⟨none,0,0⟩,0,6) else (s,n,0)) h'):slot_Pair_Load (some ⟨pr,0,none⟩) k h:=by
 unfold slot_Pair_Load
 rw [if_neg (by simp)]
 refine Best_ok D P r g f0 k0 fun slot s n h' b E=>?_
 have:=H slot s n h' b E
 by_cases c:slot < 0
 ·rw [if_pos c] at this; rw [if_pos (by rw [decide_eq_true_eq]; exact c)]; exact this
 ·rw [if_neg c] at this; rw [if_neg (by rw [decide_eq_true_eq]; exact c)]; exact this
end Go.Q.Yk
end
section
set_option maxRecDepth 100000
/- Slot: sectors are laid. -/
namespace Go.Q.Yk
variable {B c:Nat} {h h':Heap} {d rn rs pr:Nat} {X:DK}
def hbD (f:S_slot_head):List Int:=formL f.f_n 8 ++ formL f.f_part 2 ++ formL f.f_parts 2 ++ formL f.f_size 4 ++ formL f.f_sum 8
theorem hbD_len (f:S_slot_head):(hbD f).length=24:=by
 unfold hbD
 simp only [List.length_append,formL_length]
structure HdOk (f:S_slot_head):Prop where
 n:0<=f.f_n
 p:0<=f.f_part/\f.f_part < 65536
 q:0<=f.f_parts/\f.f_parts < 65536
 s:0<=f.f_size/\f.f_size < 4294967296
 t:0<=f.f_sum
theorem HeadB_ok {f:S_slot_head} {k:Slc->Heap->Prop} (o:HdOk f) (H:∀ s' h',Row h.size h' 5 1 s' (b8 (hbD f))->Ext h.size h h'->k s' h'):slot_head_bytes f k h:=by
 unfold slot_head_bytes
 refine ⟨_,_,rfl,rfl,?_⟩
 have P:=Blk.push h (S_slot_head.cs f) 201
 have W:=Ext.push h (.cells (S_slot_head.cs f).toArray 201) (Nat.le_refl _)
 have pl:=P.lt
 generalize h.push (.cells (S_slot_head.cs f).toArray 201)=h2 at *
 have z2:=W.size
 obtain ⟨b1,eb1⟩:∃ y,y=h.size:=⟨_,rfl⟩
 rw [← eb1] at P W pl z2 H ⊢
 have o1:=o.n; have o2:=o.p; have o3:=o.q; have o4:=o.s; have o5:=o.t
 refine ⟨_,by rw [P.cell]; rfl,Put_ok (l:=[]) rfl ⟨fun _=>rfl,fun a ha=>by cases ha⟩ (by simp) (by omega) (by omega) o1 fun s5 h5 R5 X5=>?_⟩
 have z5:=X5.size
 have P5:=P.ext X5 (by omega)
 have l5:=(Row.pb R5)
 refine ⟨_,by rw [add_mk,P5.cell]; rfl,?_⟩
 rw [wrapU64 (x:=f.f_part) (by omega) (by omega)]
 refine Put_ok l5 R5.slc (by simp only [List.length_append,formL_length,List.length_nil]; omega) (by omega) (by omega) o2.1 fun s8 h8 R8 X8=>?_
 have z8:=X8.size
 have P8:=P5.ext X8 (by omega)
 refine ⟨_,by rw [add_mk,P8.cell]; rfl,?_⟩
 rw [wrapU64 (x:=f.f_parts) (by omega) (by omega)]
 refine Put_ok (Row.pb R8) R8.slc (by simp only [List.length_append,formL_length,List.length_nil]; omega) (by omega) (by omega) o3.1 fun s11 h11 R11 X11=>?_
 have z11:=X11.size
 have P11:=P8.ext X11 (by omega)
 refine ⟨_,by rw [add_mk,P11.cell]; rfl,?_⟩
 rw [wrapU64 (x:=f.f_size) (by omega) (by omega)]
 refine Put_ok (Row.pb R11) R11.slc (by simp only [List.length_append,formL_length,List.length_nil]; omega) (by omega) (by omega) o4.1 fun s14 h14 R14 X14=>?_
 have z14:=X14.size
 have P14:=P11.ext X14 (by omega)
 refine ⟨_,by rw [add_mk,P14.cell]; rfl,?_⟩
 refine Put_ok (Row.pb R14) R14.slc (by simp only [List.length_append,formL_length,List.length_nil]; omega) (by omega) (by omega) o5 fun s17 h17 R17 X17=>?_
 refine H s17 h17 ?_ ((((W.trans (X5.mono (by omega))).trans (X8.mono (by omega))).trans (X11.mono (by omega))).trans ((X14.mono (by omega)).trans (X17.mono (by omega))))
 unfold hbD
 exact R17.mono (by omega)
def laySec (f:S_slot_head) (bs:List Int) (i:Nat):List Int:=hbD { f with f_part:=(i:Int) } ++ (bs.drop (i * 104)).take 104
def layUp (p:Int) (f:S_slot_head) (bs:List Int) (X:DK):Nat->Int × DK
 | 0=>(0,X)
 | n + 1=>if (layUp p f bs X n).1≠0 then layUp p f bs X n else writeD (layUp p f bs X n).2 (p + n) (if (n:Int) < f.f_parts then laySec f bs n else [])
/-- the sectors laid, and made safe -/
def layD (p:Int) (f:S_slot_head) (bs:List Int) (X:DK) (N:Nat):(Int × Int) × DK :=
 if (layUp p f bs X N).1≠0 then ((0,(layUp p f bs X N).1),(layUp p f bs X N).2)
 else if (syncD (layUp p f bs X N).2).1≠0 then ((0,(syncD (layUp p f bs X N).2).1),(syncD (layUp p f bs X N).2).2) else ((f.f_n,0),(syncD (layUp p f bs X N).2).2)
theorem PairAt.df {fr kk:Int} (P:PairAt h pr d fr kk) (D:DAt B c h d rn rs X) (F:DF d rn rs h h'):PairAt h' pr d fr kk :=
 Blk.old P (F.block pr P.lt (fun e=>by subst e; have:=(Blk.inj P D.P).2; omega) (blk_map P D.N) (blk_map P D.S))
theorem LayJ2_ok {fr kk:Int} {b17:Nat} {f:S_slot_head} {bs:List Int} {p:Int} {N:Nat} {X0:DK} {k:Int × Int->Heap->Prop} (D:DAt B c h d rn rs (layUp p f bs X0 N).2) (P:PairAt h pr d fr kk) (Q:Blk h b17 (S_slot_head.cs f) 201) (e0:(layUp p f bs X0 N).1=0)
  (H:∀ h',DAt B c h' d rn rs (layD p f bs X0 N).2->DF d rn rs h h'->k (layD p f bs X0 N).1 h'):slot_Pair_lay_j2 (some ⟨pr,0,none⟩) ⟨b17,0,none⟩ k h:=by
 unfold slot_Pair_lay_j2
 refine ⟨_,rfl,some ⟨d,0,none⟩,by rw [P.cell]; rfl,DSync_ok D fun h2 D2 F2=>?_⟩
 unfold layD at H
 rw [if_neg (by simpa using e0)] at H
 have q:b17≠d:=fun e=>by subst e; have:=(Blk.inj Q D.P).2; omega
 have Q2:=Q.old (F2.block b17 Q.lt q (blk_map Q D.N) (blk_map Q D.S))
 by_cases es:(syncD (layUp p f bs X0 N).2).1=0
 ·rw [if_neg (by simpa using es)] at H
  rw [if_neg (by simpa using es)]
  exact ⟨_,by rw [Q2.cell]; rfl,H h2 D2 F2⟩
 ·rw [if_pos es] at H
  rw [if_pos (by simpa using es)]
  exact H h2 D2 F2
end Go.Q.Yk
end
section
set_option maxRecDepth 100000
/- Slot: sectors are laid, one by one. -/
namespace Go.Q.Yk
variable {B c:Nat} {h h':Heap} {d rn rs pr:Nat} {X:DK}
theorem layUp_stick {p:Int} {f:S_slot_head} {bs:List Int} {X:DK} {n:Nat} (e:(layUp p f bs X n).1≠0):∀ m,n<=m->layUp p f bs X m=layUp p f bs X n
 | 0,hm=>by rw [show n=0 by omega]
 | m + 1,hm=>by
  by_cases q:n=m + 1
  ·rw [q]
  ·have ih:=layUp_stick e m (by omega)
   rw [layUp,if_pos (by rw [ih]; exact e),ih]
theorem prt_le {n i:Int} (n0:0<=n) (i0:0<=i) (hi:i < prtD n):i * 104<=n/\(0 < n->i * 104 < n):=by
 unfold prtD at hi; split at hi <;> omega
theorem LayL3_ok {hb:Heap} {fr kk slot:Int} {s:Slc} {bs:List Int} {f:S_slot_head} {wiped:Bool} {k:Int × Int->Heap->Prop} {N:Nat}
  (hs:∀ h',DF d rn rs hb h'->SlcAt h' s (b8 bs)) (sl:s.len=bs.length) (sc:s.len<=s.cap) (bl:bs.length<=60000) (fo:HdOk f) (fp:f.f_parts=prtD bs.length) (fk:f.f_parts<=kk)
  (f0:0<=fr/\fr<=2000) (k0:1<=kk/\kk<=512) (s0:0<=slot/\slot<=1) (eN:N=if wiped=true then kk.toNat else f.f_parts.toNat)
  (F:DF d rn rs hb h) (Q:Blk h hb.size (S_slot_head.cs f) 201) (D:DAt B c h d rn rs X) (P:PairAt h pr d fr kk)
  (H:∀ c' h',c'<=c + 600->DAt B c' h' d rn rs (layD (fr + slot * kk) f bs X N).2->DF d rn rs hb h'->k (layD (fr + slot * kk) f bs X N).1 h') :
  slot_Pair_lay_l3 (some ⟨pr,0,none⟩) s wiped f.f_parts slot ⟨hb.size,0,none⟩ kk 0 k h:=by
 generalize ep:fr + slot * kk=p at *
 have NK:(N:Int)<=kk:=by rw [eN]; split <;> omega
 unfold slot_Pair_lay_l3
 refine ⟨fun i h'=>0<=i/\i<=N/\DF d rn rs hb h'/\(∃ pt,Blk h' hb.size (S_slot_head.cs { f with f_part:=pt }) 201)/\DAt B (c + i.toNat) h' d rn rs (layUp p f bs X i.toNat).2/\PairAt h' pr d fr kk/\(layUp p f bs X i.toNat).1=0,fun i _=>(kk - i).toNat,⟨by omega,by omega,F,⟨f.f_part,Q⟩,D,P,rfl⟩,?_⟩
 rintro i h1 ⟨i0,i1,F1,⟨pt,Q1⟩,D1,P1,e1⟩
 -- a sector's bytes are there: they are written
 have j4:∀ (h2:Heap) (t:Slc) (sec:List Int),i < N->Ext h1.size h1 h2∨DF d rn rs hb h2->DF d rn rs hb h2->(∃ pt,Blk h2 hb.size (S_slot_head.cs { f with f_part:=pt }) 201)->DAt B (c + i.toNat) h2 d rn rs (layUp p f bs X i.toNat).2->PairAt h2 pr d fr kk->SlcAt h2 t (b8 sec)->t.len=sec.length->sec=(if i < f.f_parts then laySec f bs i.toNat else []) ->
   slot_Pair_lay_j4 (some ⟨pr,0,none⟩) s wiped f.f_parts slot ⟨hb.size,0,none⟩ i kk i t k (fun s' h'=>(0<=s'/\s'<=N/\DF d rn rs hb h'/\(∃ pt,Blk h' hb.size (S_slot_head.cs { f with f_part:=pt }) 201)/\DAt B (c + s'.toNat) h' d rn rs (layUp p f bs X s'.toNat).2/\PairAt h' pr d fr kk/\(layUp p f bs X s'.toNat).1=0)/\(kk - s').toNat < (kk - i).toNat) h2:=fun h2 t sec iN _ F2 ⟨pt2,Q2⟩ D2 P2 St tl es=>by
  unfold slot_Pair_lay_j4
  refine ⟨_,rfl,some ⟨d,0,none⟩,by rw [P2.cell]; rfl,Place_ok P2 f0 ⟨by omega,by omega⟩ s0 ⟨i0,by omega⟩ ⟨by rw [P2.cell]; rfl,?_⟩⟩
  rw [ep]
  refine DWrite_ok D2 St tl fun h3 D3 F3=>?_
  have q:hb.size≠d:=fun e=>by
   have Q':=Q2
   rw [e] at Q'
   have:=(Blk.inj Q' D2.P).2; omega
  have Q3:=Q2.old (F3.block _ Q2.lt q (blk_map Q2 D2.N) (blk_map Q2 D2.S))
  have P3:=P2.df D2 F3
  have F03:=F2.trans F3
  have eu:layUp p f bs X (i.toNat + 1)=writeD (layUp p f bs X i.toNat).2 (p + i) sec:=by
   rw [layUp,if_neg (by rw [e1]; simp),es,show ((i.toNat:Nat):Int)=i from by omega]
  rw [← eu] at D3 ⊢
  by_cases er:(layUp p f bs X (i.toNat + 1)).1=0
  ·rw [if_neg (by simpa using er),wrapI64 (by omega) (by omega)]
   refine ⟨⟨by omega,by omega,F03,⟨pt2,Q3⟩,?_,P3,?_⟩,by omega⟩
   ·rw [show (i + 1).toNat=i.toNat + 1 from by omega]; exact D3
   ·rw [show (i + 1).toNat=i.toNat + 1 from by omega]; exact er
  ·rw [if_pos (by simpa using er)]
   have st:=layUp_stick er N (by omega)
   have:=H (c + i.toNat + 1) h3 (by omega) ?_ F03
   ·unfold layD at this
    rw [if_pos (by rw [st]; exact er),st] at this
    exact this
   ·unfold layD
    rw [if_pos (by rw [st]; exact er),st]
    exact D3
 have j2:i=N->slot_Pair_lay_j2 (some ⟨pr,0,none⟩) ⟨hb.size,0,none⟩ k h1:=fun iN=>by
  have eI:i.toNat=N:=by omega
  rw [eI] at D1 e1
  have eL:layD p f bs X N=layD p { f with f_part:=pt } bs X N/\∀ n,layUp p { f with f_part:=pt } bs X n=layUp p f bs X n:=by
   have u:∀ n,layUp p { f with f_part:=pt } bs X n=layUp p f bs X n:=fun n=>by
    induction n with
    | zero=>rfl
    | succ n ih=>rw [layUp,layUp,ih]; rfl
   exact ⟨by unfold layD; rw [u],u⟩
  refine LayJ2_ok (f:={ f with f_part:=pt }) (bs:=bs) (p:=p) (N:=N) (X0:=X) (by rw [eL.2]; exact D1) P1 Q1 (by rw [eL.2]; exact e1) fun h2 D2 F2=>?_
  rw [← eL.1] at D2 ⊢
  exact H _ h2 (by omega) D2 (F1.trans F2)
 have fo1:=fo.q
 unfold slot_Pair_lay_l3b
 by_cases ck:i < kk
 ·rw [if_pos (by rw [decide_eq_true_eq]; exact ck)]
  by_cases cc:i < f.f_parts
  ·rw [if_pos (by rw [decide_eq_true_eq]; exact cc)]
   have iN:i < N:=by rw [eN]; split <;> omega
   obtain ⟨p1,p2⟩:=prt_le (n:=(bs.length:Int)) (by omega) i0 (by rw [← fp]; exact cc)
   refine ⟨_,by rw [add_mk]; exact Q1.wr (by show _ < 5; omega),rfl,?_⟩
   rw [add_mk]
   have Q2:Blk (setH h1 ⟨hb.size,0 + 1,none⟩ (.int .i64 i)) hb.size (S_slot_head.cs { f with f_part:=i }) 201:=Q1.set
   have o2:∀ j,j≠hb.size->(setH h1 ⟨hb.size,0 + 1,none⟩ (.int .i64 i))[j]? = h1[j]?:=fun j hj=>setH_other hj
   have z2:(setH h1 ⟨hb.size,0 + 1,none⟩ (.int .i64 i)).size=h1.size:=setH_size
   generalize setH h1 ⟨hb.size,0 + 1,none⟩ (.int .i64 i)=h2 at *
   have F2:DF d rn rs hb h2:=⟨by have:=F1.size; omega,fun g hg a b' c'=>(o2 g (by omega)).trans (F1.block g hg a b' c')⟩
   have nd:hb.size≠d:=fun e=>by
    have Q':=Q1
    rw [e] at Q'
    have:=(Blk.inj Q' D1.P).2; omega
   have D2:DAt B (c + i.toNat) h2 d rn rs (layUp p f bs X i.toNat).2:=D1.keep (o2 _ (fun e=>nd e.symm)) (o2 _ (fun e=>blk_map Q1 D1.N e.symm)) (o2 _ (fun e=>blk_map Q1 D1.S e.symm))
   have np:pr≠hb.size:=fun e=>by
    have P':=P1
    rw [e] at P'
    have:=(Blk.inj P' Q1).2; omega
   have P2:PairAt h2 pr d fr kk:=Blk.old P1 (o2 _ np)
   refine ⟨_,CellsAt.of_blk Q2,?_⟩
   rw [sl,wrapI64 (x:=i * 104) (by omega) (by omega),wrapI64 (x:=i * 104 + 104) (by omega) (by omega)]
   obtain ⟨hi,ehi⟩:∃ hi:Nat,(if i * 104 + 104 < ((bs.length:Nat):Int) then i * 104 + 104 else ((bs.length:Nat):Int))=(hi:Int):=⟨(if i * 104 + 104 < ((bs.length:Nat):Int) then i * 104 + 104 else ((bs.length:Nat):Int)).toNat,by split <;> omega⟩
   rw [ehi]
   have hb1:i * 104<=hi/\hi<=bs.length/\(bs.drop (i * 104).toNat).take (hi - (i * 104).toNat)=(bs.drop (i.toNat * 104)).take 104:=by
    rw [show (i * 104).toNat=i.toNat * 104 from by omega]
    by_cases q:i * 104 + 104 < ((bs.length:Nat):Int)
    ·rw [if_pos q] at ehi
     refine ⟨by omega,by omega,?_⟩
     rw [show hi - i.toNat * 104=104 from by omega]
    ·rw [if_neg q] at ehi
     refine ⟨by omega,by omega,?_⟩
     rw [List.take_of_length_le (by rw [List.length_drop]; omega),List.take_of_length_le (by rw [List.length_drop]; omega)]
   refine ⟨_,by omega,hb1.1,by omega,by omega,rfl,?_⟩
   have S2:=hs h2 F2
   have Sc:=SlcAt.sub (w:=1) (l:=(i * 104).toNat) (u:=(hi:Int).toNat) (m:=((s.cap:Nat):Int).toNat) S2 (by omega) (by omega)
   rw [Nat.mul_one,Nat.mul_one,← List.map_drop,← List.map_take,Int.toNat_natCast hi,hb1.2.2] at Sc
   have lch:(subS s 1 (i * 104).toNat ((hi:Nat):Int).toNat ((s.cap:Nat):Int).toNat).len=((bs.drop (i.toNat * 104)).take 104).length:=by
    rw [← hb1.2.2,List.length_take,List.length_drop]
    show ((hi:Nat):Int).toNat - (i * 104).toNat=_
    rw [Int.toNat_natCast]; omega
   rw [Int.toNat_natCast hi] at lch ⊢
   generalize subS s 1 (i * 104).toNat hi ((s.cap:Nat):Int).toNat=s36 at *
   have lc104:((bs.drop (i.toNat * 104)).take 104).length<=104:=List.length_take_le _ _
   refine HeadB_ok ⟨fo.n,⟨i0,by show i < 65536; omega⟩,fo.q,fo.s,fo.t⟩ fun s37 h38 R37 X38=>?_
   have z38:=X38.size
   refine BClone_ok lch (Sc.ext X38) (by omega) fun s39 h40 R39 X40=>?_
   have z40:=X40.size
   refine ⟨_,_,rfl,rfl,?_⟩
   have V:=Blk.push h40 [Slc.v s37,Slc.v s39] 28
   have W:=Ext.push h40 (.cells ([Slc.v s37,Slc.v s39]:List Value).toArray 28) (Nat.le_refl _)
   generalize h40.push (.cells ([Slc.v s37,Slc.v s39]:List Value).toArray 28)=h42 at *
   have z42:=W.size
   have lhb:=hbD_len { f with f_part:=i }
   refine Concat_ok (L:=[(s37,hbD { f with f_part:=i }),(s39,(bs.drop (i.toNat * 104)).take 104)]) (V.slc (o:=0) (n:=2) rfl) rfl (fun q hq=>?_) (by simp) (by
    have:flatS [(s37,hbD { f with f_part:=i }),(s39,(bs.drop (i.toNat * 104)).take 104)]=hbD { f with f_part:=i } ++ (bs.drop (i.toNat * 104)).take 104:=by simp [flatS]
    rw [this,List.length_append,lhb]; omega) fun s43 h44 R44 X44=>?_
   ·rcases List.mem_cons.1 hq with rfl | hq
    ·exact ⟨((R37.slc).ext X40).ext W,Row.pb R37⟩
    ·rw [List.mem_singleton] at hq; subst hq
     exact ⟨(R39.slc).ext W,Row.pb R39⟩
   ·have ef:flatS [(s37,hbD { f with f_part:=i }),(s39,(bs.drop (i.toNat * 104)).take 104)]=laySec f bs i.toNat:=by
     unfold laySec
     rw [show ((i.toNat:Nat):Int)=i from by omega]
     simp [flatS]
    rw [ef] at R44
    have E:=((X38.trans (X40.mono z38)).trans (W.mono (by omega))).trans (X44.mono (by omega))
    refine j4 h44 s43 (laySec f bs i.toNat) iN (.inr (F2.trans (DF.of_ext E))) (F2.trans (DF.of_ext E)) ⟨i,Q2.ext E Q2.lt⟩ (D2.ext E) (Blk.ext P2 E P2.lt) R44.slc (Row.pb R44) (by rw [if_pos cc])
  ·rw [if_neg (by rw [decide_eq_true_eq]; exact cc)]
   cases wiped with
   | false =>
    rw [if_pos (by simp)]
    refine j2 ?_
    rw [if_neg (by simp)] at eN; omega
   | true =>
    rw [if_neg (by simp)]
    rw [if_pos rfl] at eN
    refine j4 h1 ⟨none,0,0⟩ [] (by omega) (.inr F1) F1 ⟨pt,Q1⟩ D1 P1 ⟨fun _=>rfl,fun a ha=>by cases ha⟩ rfl (by rw [if_neg cc])
 ·rw [if_neg (by rw [decide_eq_true_eq]; exact ck)]
  exact j2 (by omega)
end Go.Q.Yk
end

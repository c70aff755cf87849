/- A part of the proof of statements of this seat: lemmas, no statement of their own. -/
import Derived.Test.YtmmpamfadeonmaaGreatDoorYkZbc
import Derived.Test.YtmmpamfadeonmaaGreatDoorYkZai
import Derived.Test.YtmmpamfadeonmaaGreatDoorYkZal
import Derived.Test.YtmmpamfadeonmaaGreatDoorYkZay
set_option linter.unusedVariables false
set_option linter.unusedSimpArgs false
section
set_option maxRecDepth 100000
/- Journal: all sectors' bytes; a scrub. -/
namespace Go.Q.Yk
/-! ### all sectors' bytes -/
def seg (l:List Int) (a:Nat):List Int:=(l.drop (a * 128)).take 128
def segPut (l:List Int) (a:Nat) (v:List Int):List Int:=l.take (a * 128) ++ v ++ l.drop (a * 128 + 128)
theorem seg_get (l:List Int) (a i:Nat):(seg l a)[i]? = if i < 128 then l[a * 128 + i]? else none:=by
 unfold seg
 rw [List.getElem?_take]
 split
 ·rw [List.getElem?_drop]
 ·rfl
theorem segPut_get {l v:List Int} {a:Nat} (hv:v.length=128) (hl:a * 128 + 128<=l.length) (j:Nat):(segPut l a v)[j]? = if j < a * 128 then l[j]? else if j < a * 128 + 128 then v[j - a * 128]? else l[j]?:=by
 have ht:(l.take (a * 128)).length=a * 128:=by rw [List.length_take]; omega
 unfold segPut
 by_cases h1:j < a * 128
 ·rw [if_pos h1,List.append_assoc,List.getElem?_append_left (by omega),List.getElem?_take,if_pos h1]
 ·rw [if_neg h1]
  by_cases h2:j < a * 128 + 128
  ·rw [if_pos h2,List.append_assoc,List.getElem?_append_right (by omega),ht,List.getElem?_append_left (by omega)]
  ·rw [if_neg h2,List.getElem?_append_right (by rw [List.length_append]; omega),List.length_append,ht,hv,List.getElem?_drop]
   rw [show a * 128 + 128 + (j - (a * 128 + 128))=j from by omega]
theorem segPut_len {l v:List Int} {a:Nat} (hv:v.length=128) (hl:a * 128 + 128<=l.length):(segPut l a v).length=l.length:=by
 unfold segPut
 rw [List.length_append,List.length_append,List.length_take,List.length_drop]; omega
theorem seg_put {l v:List Int} {a b:Nat} (hv:v.length=128) (hl:a * 128 + 128<=l.length):seg (segPut l a v) b=if b=a then v else seg l b:=by
 apply List.ext_getElem?
 intro i
 rw [seg_get]
 by_cases hb:b=a
 ·rw [if_pos hb,hb]
  by_cases hi:i < 128
  ·rw [if_pos hi,segPut_get hv hl,if_neg (by omega),if_pos (by omega),show a * 128 + i - a * 128=i from by omega]
  ·rw [if_neg hi,List.getElem?_eq_none (by omega)]
 ·rw [if_neg hb,seg_get]
  by_cases hi:i < 128
  ·rw [if_pos hi,if_pos hi,segPut_get hv hl]
   rcases Nat.lt_or_gt_of_ne hb with h | h
   ·rw [if_pos (by omega)]
   ·rw [if_neg (by omega),if_neg (by omega)]
  ·rw [if_neg hi,if_neg hi]
theorem zrow_one (v:Value):∀ n,zrow [v] n=List.replicate n v
 | 0=>rfl
 | n + 1=>by
  have:=zrow_one v n
  unfold zrow at this ⊢
  rw [List.replicate_succ,List.flatten_cons,this,List.replicate_succ]; rfl
theorem mget_of {K V:Type} [DecidableEq K] {l:List (K × V)} (nd:(l.map (·.1)).Nodup) {k:K} {v:V} (h:(k,v)∈l):mget l k=some v:=by
 obtain ⟨j,hj⟩:=List.getElem?_of_mem h
 exact (mget_at hj nd).1
theorem of_mget {K V:Type} [DecidableEq K] {k:K} {v:V}:∀ {l:List (K × V)},mget l k=some v->(k,v)∈l
 | [],h=>by cases h
 | p :: r,h=>by
  unfold mget at h
  split at h
  ·rename_i hp
   cases h
   rw [← hp]; simp
  ·exact List.mem_cons_of_mem _ (of_mget h)
def KN (X:DK):Prop:=∀ p∈X.now,0<=p.1/\p.1 < 1024
section
variable {B c:Nat} {h:Heap} {d rn rs:Nat} {X:DK}
theorem DAt.ndN (D:DAt B c h d rn rs X):(X.now.map (·.1)).Nodup:=by
 obtain ⟨es,ck,_,hs,_,hl⟩:=D.N
 have h1:=hs.2.2
 have e:es.toList.map (·.key)=(X.now.map (·.1)).map (Value.int .i64):=by
  have:=congrArg (List.map (·.1)) hl
  rw [List.map_map,List.map_map] at this
  rw [List.map_map]; exact this
 rw [e] at h1
 have h2:=List.nodup_iff_pairwise_ne.1 h1
 rw [List.pairwise_map] at h2
 exact List.nodup_iff_pairwise_ne.2 (h2.imp fun h e=>h (congrArg _ e))
def muR (b:Nat) (es:Array MapEntry) (h:Heap):Nat:=match h[b]? with
 | some (.mapIter _ _ seen _)=>(leftOf es seen).size
 | _=>0
theorem nxH_at {b r since ck last:Nat} {seen:Array Nat} {x:MapEntry} {o:Obj} (hb:h[b]? = some o):(nxH h b r since seen x ck)[b]? = some (.mapIter (some r) since (seen.push x.born) ck):=by
 unfold nxH
 rw [Array.getElem?_setIfInBounds_self_of_lt (Array.getElem?_eq_some_iff.1 hb).1]
theorem nxH_other {b r since ck g:Nat} {seen:Array Nat} {x:MapEntry} (hg:g≠b):(nxH h b r since seen x ck)[g]? = h[g]?:=by
 unfold nxH
 rw [Array.getElem?_setIfInBounds_ne (fun e=>hg e.symm)]
theorem nxH_size {b r since ck:Nat} {seen:Array Nat} {x:MapEntry}:(nxH h b r since seen x ck).size=h.size:=by unfold nxH; simp
theorem DRaw_ok {k:Slc->Heap->Prop} (D:DAt B c h d rn rs X) (kn:KN X) (H:∀ s h' l,s.len=131072->s.cap=131072->SlcAt h' s (b8 l)->l.length=131072->(∀ a x,mget X.now a=some x->seg l a.toNat=secB x)->(∀ b:Nat,b < 1024->mget X.now (b:Int)=none->seg l b=List.replicate 128 0)->Ext h.size h h'->k s h'):disk_Disk_Raw (some ⟨d,0,none⟩) k h:=by
 unfold disk_Disk_Raw
 rw [if_neg (by simp)]
 refine ⟨_,_,by omega,by omega,by omega,by omega,rfl,rfl,?_⟩
 rw [show ((131072:Int)).toNat=131072 from rfl]
 generalize hN:(131072:Nat)=N
 rw [zrow_one]
 have ez:List.replicate N (Value.int .u8 0)=b8 (List.replicate N 0):=by rw [b8,List.map_replicate]
 rw [ez]
 have P1:=Blk.push h (b8 (List.replicate N 0)) 5
 have W1:=Ext.push h (.cells (b8 (List.replicate N 0)).toArray 5) (Nat.le_refl _)
 have z1:(h.push (.cells (b8 (List.replicate N 0)).toArray 5)).size=h.size + 1:=by simp
 generalize h.push (.cells (b8 (List.replicate N 0)).toArray 5)=h1 at *
 have D1:=D.ext W1
 have nd:=D.ndN
 obtain ⟨es,ck,m1,ms,mk,ml⟩:=D1.N
 refine ⟨_,rfl,some rn,D1.cell0,rn,es,ck,_,_,rfl,m1,rfl,rfl,?_⟩
 obtain ⟨st1,st2,st3⟩:=(Go.MapKept.stamped_iff es ck).1 ms
 have W2:=Ext.push h1 (.mapIter (some rn) ck #[] ck) (Nat.le_refl _)
 have I2:(h1.push (.mapIter (some rn) ck #[] ck))[h1.size]? = some (.mapIter (some rn) ck #[] ck):=by simp
 generalize h1.push (.mapIter (some rn) ck #[] ck)=h2 at *
 have z2:=W2.size
 have P2:=P1.ext W2 (by omega)
 have rl:=D.N.lt
 have m2:h2[rn]? = some (.map es ck):=(W2.block rn (by omega)).trans m1
 -- what an entry is
 have ent:∀ x∈es.toList,∃ a v,x.key = .int .i64 a/\x.val = .agg (S_disk_sector.cs v).toArray/\mget X.now a=some v/\0<=a/\a < 1024:=fun x hx=>by
  have:(x.key,x.val)∈X.now.map fun p=>((Value.int .i64 p.1:Value),(Value.agg (S_disk_sector.cs p.2).toArray:Value)):=by rw [← ml]; exact List.mem_map.2 ⟨x,hx,rfl⟩
  obtain ⟨p,hp,e⟩:=List.mem_map.1 this
  rw [Prod.mk.injEq] at e
  exact ⟨p.1,p.2,e.1.symm,e.2.symm,mget_of nd hp,kn p hp⟩
 have ent2:∀ a v,mget X.now a=some v->∃ x∈es.toList,x.key = .int .i64 a:=fun a v hm=>by
  have:((Value.int .i64 a:Value),(Value.agg (S_disk_sector.cs v).toArray:Value))∈es.toList.map fun e=>(e.key,e.val):=by rw [ml]; exact List.mem_map.2 ⟨(a,v),of_mget hm,rfl⟩
  obtain ⟨x,hx,e⟩:=List.mem_map.1 this
  rw [Prod.mk.injEq] at e
  exact ⟨x,hx,e.1⟩
 have X2:Ext h.size h h2:=W1.trans (W2.mono (by omega))
 refine ⟨fun _ h'=>∃ seen last l,h'[h1.size]? = some (.mapIter (some rn) ck seen last)/\ck<=last/\h'[rn]? = some (.map es ck)/\Blk h' h.size (b8 l) 5/\(l.length=N/\∀ b:Nat,b < 1024->mget X.now (b:Int)=none->seg l b=List.replicate 128 0) /\
   (∀ x∈es.toList,seen.contains x.born=true->∃ a v,x.key = .int .i64 a/\mget X.now a=some v/\seg l a.toNat=secB v)/\Ext h.size h h'/\h2.size<=h'.size,fun _ h'=>muR h1.size es h',
  ⟨#[],ck,List.replicate N 0,I2,Nat.le_refl _,m2,P2,⟨by simp,fun b hb _=>by unfold seg; rw [List.drop_replicate,List.take_replicate]; congr 1; omega⟩,fun x hx hc=>by simp at hc,X2,Nat.le_refl _⟩,?_⟩
 rintro h3 ⟨seen,last,l,i3,hl3,m3,P3,⟨ln,zn⟩,hs3,X3,z3⟩
 unfold disk_Disk_Raw_l1b
 have hmu:muR h1.size es h3=(leftOf es seen).size:=by unfold muR; rw [i3]
 refine ⟨h1.size,rn,ck,ck,last,es,seen,rfl,i3,m3,st1,hl3,fun hall=>?_,fun x hx hn h4 e4=>?_⟩
 ·rw [if_neg (by simp)]
  refine H _ h3 l (by simp only; omega) (by simp only; omega) (P3.slc (n:=N) (o:=0) (by rw [List.drop_zero,List.take_of_length_le (by rw [List.length_map]; omega)])) (by omega) (fun a v hm=>?_) zn X3
  obtain ⟨x,hx,hk⟩:=ent2 a v hm
  obtain ⟨a',v',k1,k2,k3⟩:=hs3 x hx (hall x hx)
  rw [hk] at k1
  cases k1
  rw [hm] at k2; cases k2
  exact k3
 ·rw [if_pos rfl]
  have i4:h4[h1.size]? = some (.mapIter (some rn) ck (seen.push x.born) ck):=by rw [e4]; exact nxH_at (last:=last) i3
  have o4:∀ g,g≠h1.size->h4[g]? = h3[g]?:=fun g hg=>by rw [e4]; exact nxH_other hg
  have s4:h4.size=h3.size:=by rw [e4]; exact nxH_size
  have lt1:=(Array.getElem?_eq_some_iff.1 I2).1
  obtain ⟨a,v,k1,k2,k3,a0,a1⟩:=ent x hx
  have m4:h4[rn]? = some (.map es ck):=(o4 rn (by omega)).trans m3
  have P4:Blk h4 h.size (b8 l) 5:=P3.old (o4 _ (by omega))
  refine ⟨h1.size,rn,ck,ck,es,seen,x,a,v,rfl,i4,m4,hx,st2,k1,k2,_,_,rfl,rfl,?_⟩
  have T:=Blk.push h4 (S_disk_sector.cs zSec) 115
  have T2:=T.sets_all (vs:=S_disk_sector.cs v) (by rw [sec_len,sec_len])
  have W5:=(Ext.push h4 (.cells (S_disk_sector.cs zSec).toArray 115) (Nat.le_refl _)).trans (Ext.sets _ (a:=⟨h4.size,0,none⟩) 0 (S_disk_sector.cs v) (Nat.le_refl _))
  refine ⟨_,WrsAt.of_blk T (by rw [sec_len]; omega),rfl,?_⟩
  generalize setsH (h4.push (.cells (S_disk_sector.cs zSec).toArray 115)) ⟨h4.size,0,none⟩ 0 (S_disk_sector.cs v)=h5 at *
  have z5:=W5.size
  have P5:=P4.ext W5 P4.lt
  rw [wrapI64 (by omega) (by omega)]
  refine ⟨_,by omega,by simp only; omega,by simp only; omega,by simp only; omega,rfl,_,by omega,by omega,by omega,rfl,b8 (secB v),?_⟩
  have hoff:(a * 128).toNat=a.toNat * 128:=by omega
  have ed:subS ⟨some (⟨h.size,0,none⟩:Addr),N,N⟩ 1 (a * 128).toNat ((N:Nat):Int).toNat ((N:Nat):Int).toNat=⟨some ⟨h.size,a.toNat * 128,none⟩,N - a.toNat * 128,N - a.toNat * 128⟩:=by
   unfold subS
   rw [hoff,show ((N:Nat):Int).toNat=N from rfl,if_neg (by omega)]
   simp only [Option.map_some,Nat.mul_one,add_mk,Nat.zero_add]
  have es':subS ⟨some (⟨h4.size,0,none⟩:Addr),128,128⟩ 1 (0:Int).toNat (128:Int).toNat 128=⟨some ⟨h4.size,0,none⟩,128,128⟩:=by
   unfold subS; simp [Addr.add]
  rw [ed,es']
  have vl:(secB v).length=128:=nrm_len _ _
  have hseg:a.toNat * 128 + 128<=l.length:=by omega
  refine ⟨⟨b8 (secB v),T2.slc (n:=128) (o:=0) (by rw [List.drop_zero,sec_cs,List.take_append_of_le_length (by rw [List.length_map,vl]; exact Nat.le_refl _),List.take_of_length_le (by rw [List.length_map,vl]; exact Nat.le_refl _)]),by rw [List.length_map,vl]; rfl,(List.take_of_length_le (by rw [List.length_map,vl,Nat.mul_one]; show 128<=min 128 (N - a.toNat * 128); omega)).symm⟩,b8_one _,fun hn=>(by cases hn),fun b hb=>by
   cases hb
   intro j hj
   rw [List.length_map,vl] at hj
   rw [add_mk]; exact P5.wr (by rw [List.length_map]; omega),?_⟩
  dsimp only
  have P6:Blk (setsH h5 ⟨h.size,a.toNat * 128,none⟩ 0 (b8 (secB v))) h.size (b8 (segPut l a.toNat (secB v))) 5:=by
   have:=P5.sets (b8 (secB v)) (a.toNat * 128) 0 (by rw [List.length_map,List.length_map,vl]; omega)
   have e:b8 (segPut l a.toNat (secB v))=(b8 l).take (a.toNat * 128) ++ b8 (secB v) ++ (b8 l).drop (a.toNat * 128 + 128):=by
    unfold segPut; simp only [List.map_append,List.map_take,List.map_drop]
   rw [List.length_map,vl,Nat.add_zero] at this
   rw [e]
   exact this
  have o6:∀ g,g≠h.size->(setsH h5 ⟨h.size,a.toNat * 128,none⟩ 0 (b8 (secB v)))[g]? = h5[g]?:=fun g hg=>setsH_other _ _ hg
  have s6:(setsH h5 ⟨h.size,a.toNat * 128,none⟩ 0 (b8 (secB v))).size=h5.size:=setsH_size _ _
  generalize setsH h5 ⟨h.size,a.toNat * 128,none⟩ 0 (b8 (secB v))=h6 at *
  have i6:h6[h1.size]? = some (.mapIter (some rn) ck (seen.push x.born) ck):=(o6 _ (by omega)).trans ((W5.block _ (by omega)).trans i4)
  refine ⟨⟨seen.push x.born,ck,segPut l a.toNat (secB v),i6,Nat.le_refl _,(o6 _ (by omega)).trans ((W5.block _ (by omega)).trans m4),P6,⟨by rw [segPut_len vl hseg]; exact ln,fun b hb hm=>by
   rw [seg_put vl hseg,if_neg]
   ·exact zn b hb hm
   ·intro e
    rw [e,show ((a.toNat:Nat):Int)=a from by omega,k3] at hm
    cases hm⟩,fun y hy hc=>?_,⟨by have:=X3.size; omega,fun g hg=>by rw [o6 g (by omega),W5.block g (by have:=X3.size; omega),o4 g (by omega),X3.block g hg]⟩,by omega⟩,?_⟩
  ·by_cases hyx:y.born=x.born
   ·have e:y=x:=born_inj st2 hy hx hyx
    subst e
    exact ⟨a,v,k1,k3,by rw [seg_put vl hseg,if_pos rfl]⟩
   ·have hc2:seen.contains y.born=true:=by
     rw [contains_push] at hc
     simpa [hyx] using hc
    obtain ⟨a',v',q1,q2,q3⟩:=hs3 y hy hc2
    refine ⟨a',v',q1,q2,?_⟩
    rw [seg_put vl hseg,if_neg]
    ·exact q3
    ·intro e
     obtain ⟨a2,v2,p1,_,p3,p4,p5⟩:=ent y hy
     rw [q1] at p1
     cases p1
     have:a'=a:=by omega
     subst this
     exact hyx (congrArg MapEntry.born (entry_eq_of_key st3 hy hx (q1.trans k1.symm)))
  ·rw [hmu]
   have:muR h1.size es h6=(leftOf es (seen.push x.born)).size:=by unfold muR; rw [i6]
   rw [this]
   refine left_shrinks es seen x ?_
   unfold leftOf
   rw [Array.mem_toList_iff,Array.mem_filter]
   exact ⟨Array.mem_toList_iff.1 hx,by rw [hn]; rfl⟩
end
/-! ### writes that nothing cuts -/
theorem KN.burn {X:DK} (K:KN X):KN (burnD X).2:=by unfold burnD; split <;> exact K
theorem KN.write {X:DK} (K:KN X) (a:Int) (bs:List Int):KN (writeD X a bs).2:=by
 unfold writeD
 split
 ·exact K
 ·split
  ·exact K
  ·split
   ·exact K
   ·refine KN.burn fun p hp=>?_
    rcases mput_in hp with rfl | hp
    ·omega
    ·exact K p hp
theorem KN.sync {X:DK} (K:KN X):KN (syncD X).2:=by
 unfold syncD
 split
 ·exact K
 ·split
  ·exact K.burn
  ·exact K.burn
theorem KN.layUp {X:DK} (K:KN X) (p:Int) (f:S_slot_head) (bs:List Int):∀ n,KN (layUp p f bs X n).2
 | 0=>K
 | n + 1=>by
  have ih:=KN.layUp K p f bs n
  rw [Go.Q.Yk.layUp]
  split
  ·exact ih
  ·exact ih.write _ _
theorem KN.layD {X:DK} (K:KN X) (p:Int) (f:S_slot_head) (bs:List Int) (n:Nat):KN (layD p f bs X n).2:=by
 unfold Go.Q.Yk.layD
 split
 ·exact K.layUp p f bs n
 ·split
  ·exact (K.layUp p f bs n).sync
  ·exact (K.layUp p f bs n).sync
theorem KN.wrUp {X:DK} (K:KN X) (p:Int) (g:Nat->List Int):∀ n,KN (wrUp p g X n).2
 | 0=>K
 | n + 1=>by
  have ih:=KN.wrUp K p g n
  rw [Go.Q.Yk.wrUp]
  split
  ·exact ih
  ·exact ih.write _ _
theorem KN.wrD {X:DK} (K:KN X) (p:Int) (g:Nat->List Int) (n:Nat):KN (wrD p g X n).2:=by
 unfold Go.Q.Yk.wrD
 split
 ·exact K.wrUp p g n
 ·exact (K.wrUp p g n).sync
theorem write_free {X:DK} {a:Int} {bs:List Int} (hd:X.dead=false) (hf:X.fuse=0) (ha:0<=a/\a < 1024) (l:bs.length<=128) :
  (writeD X a bs).1=0/\(writeD X a bs).2.dead=false/\(writeD X a bs).2.fuse=0/\∀ b,vD (writeD X a bs).2 b=if b=a then ⟨padB bs,false⟩ else vD X b:=by
 obtain ⟨b1,b2,b3⟩:=burn_free (X:=laidD X a bs) hf
 have e:writeD X a bs=(0,(burnD (laidD X a bs)).2):=by
  unfold writeD
  rw [if_neg (by rw [hd]; simp),if_neg (by omega),if_neg (by omega),b1]; rfl
 rw [e]
 refine ⟨rfl,b2.trans hd,b3,fun b=>?_⟩
 unfold vD
 dsimp only
 rw [burn_now]
 show (mget (mput X.now a ⟨padB bs,false⟩) b).getD zSec=_
 rw [mget_put]
 split <;> rfl
theorem sync_free {X:DK} (hd:X.dead=false) (hf:X.fuse=0):(syncD X).1=0/\(syncD X).2.dead=false/\(syncD X).2.fuse=0/\(syncD X).2.safe=[]/\∀ b,vD (syncD X).2 b=vD X b:=by
 obtain ⟨b1,b2,b3⟩:=burn_free (X:=X) hf
 have es:syncD X=(0,{ (burnD X).2 with safe:=[] }):=by
  unfold syncD
  rw [if_neg (by rw [hd]; simp),if_neg (by rw [b1]; simp)]
 rw [es]
 refine ⟨rfl,b2.trans hd,b3,rfl,fun b=>?_⟩
 unfold vD
 dsimp only
 rw [burn_now]
/-! ### are bytes all 00 -/
theorem empty_ok {s:Slc} {l:List Int} {k:Bool->Heap->Prop} {h:Heap} (S:SlcAt h s (b8 l)) (sl:s.len=l.length) (lm:l.length<=100000) (H:∀ b:Bool,(b=true->∀ x∈l,x=0)->k b h):journal_empty s k h:=by
 unfold journal_empty slices_ContainsFunc_byte_byte__journal_empty_1 slices_IndexFunc_byte_byte__journal_empty_1 slices_IndexFunc_byte_byte__journal_empty_1_l1
 refine ⟨fun i h'=>h'=h/\0<=i/\i<=l.length/\∀ j:Nat,(j:Int) < i->∀ x,l[j]? = some x->x=0,fun i _=>(l.length - i).toNat,⟨rfl,by omega,by omega,fun j hj=>by omega⟩,?_⟩
 rintro i h' ⟨rfl,i0,i1,hz⟩
 unfold slices_IndexFunc_byte_byte__journal_empty_1_l1b
 by_cases ci:i < l.length
 ·rw [if_pos (by rw [decide_eq_true_eq]; omega)]
  have e:=List.getElem?_eq_getElem (l:=l) (i:=i.toNat) (by omega)
  obtain ⟨a,ha,hc⟩:=slc_get S (i:=i.toNat) (v:=.int .u8 (l[i.toNat]'(by omega))) (by rw [List.getElem?_map,e]; rfl)
  refine ⟨a,ha,i0,by omega,_,by rw [Nat.mul_one]; exact hc,?_⟩
  unfold journal_empty_1
  dsimp only
  by_cases q:l[i.toNat]'(by omega)=0
  ·rw [if_neg (by simp [q]),wrapI64 (by omega) (by omega)]
   refine ⟨⟨rfl,by omega,by omega,fun j hj x hx=>?_⟩,by omega⟩
   by_cases c:(j:Int) < i
   ·exact hz j c x hx
   ·rw [show j=i.toNat from by omega,e] at hx
    cases hx
    exact q
  ·rw [if_pos (by simp [q])]
   refine H _ fun e=>?_
   simp at e
   omega
 ·rw [if_neg (by rw [decide_eq_true_eq]; omega)]
  refine ⟨_,rfl,H _ fun _ x hx=>?_⟩
  obtain ⟨j,hj⟩:=List.getElem?_of_mem hx
  exact hz j (by have:=(List.getElem?_eq_some_iff.1 hj).1; omega) x hj
/-! ### a scrub -/
def zSk:List Int:=List.replicate 128 0
theorem pad_z:padB []=zSk:=by decide
theorem all_z {l:List Int} (h:∀ x∈l,x=0) (ll:l.length=128):l=zSk:=by
 rw [List.eq_replicate_of_mem h,ll]; rfl
/-- what a scrub leaves -/
structure ScX (Y:DK) (gr:Int) (t1 t2:Int) (bs:List Int):Prop where
 g:GoodX Y
 sf:Y.safe=[]
 fu:Y.fuse=0
 dd:Y.dead=false
 kn:KN Y
 t:(t1=0/\t2=1)∨(t1=1/\t2=0)
 one:∀ j:Nat,j < 256->readD Y (t1 * 256 + j)=(padB (newS (headD gr bs) bs j),0)
 two:∀ j:Nat,j < 256->readD Y (t2 * 256 + j)=(padB (newS (headD (gr + 1) bs) bs j),0)
 hi:∀ a,512<=a->a < 1024->readD Y a=(zSk,0)
variable {B c:Nat} {h h':Heap} {d rn rs pr sr:Nat} {X:DK}
theorem Scrub_ok {fresh:Bool} {e n p:Int} {s:Slc} {bs:List Int} {slot:Int} {k:Int->Heap->Prop} (D:DAt B c h d rn rs X) (P:PairAt h pr d 0 256) (S:StAt h sr d pr fresh e n p) (r:R0 h) (g:GoodX X)
  (hd:X.dead=false) (hf:X.fuse=0) (sf:X.safe=[]) (kn:KN X) (b:BP X 0 256 slot) (gl:grD X 0 512<=1000) (bB:isB bs)
  (hs:∀ h',JF d rn rs sr h h'->SlcAt h' s (b8 bs)) (sl:s.len=bs.length) (sc:s.len<=s.cap) (bl:bs.length<=26624) (sb:0 < h.size/\B<=sr/\B<=h.size/\0 < B)
  (H:∀ Y c' h' t1 t2,ScX Y (grD X 0 512) t1 t2 bs->DAt B c' h' d rn rs Y->PairAt h' pr d 0 256->JF d rn rs sr h h'->StAt h' sr d pr true (grD X 0 512 + 2) 0 512->k 0 h'):journal_Store_Scrub (some ⟨sr,0,none⟩) s k h:=by
 have gn:=gr_nn g 0 512
 have p6:prtD bs.length<=256:=by unfold prtD; split <;> omega
 unfold journal_Store_Scrub
 rw [if_neg (by simp)]
 refine ⟨_,rfl,_,by rw [add_mk]; exact S.wr (by show _ < 6; omega),rfl,?_⟩
 rw [add_mk]
 have S1:StAt (setH h ⟨sr,0 + 2,none⟩ (.bool false)) sr d pr false e n p:=S.set rfl
 have D1:=D.st (i:=0 + 2) (v:=.bool false) S
 have P1:=P.st (i:=0 + 2) (v:=.bool false) S
 have F1:JF d rn rs sr h (setH h ⟨sr,0 + 2,none⟩ (.bool false)):=JF.set
 generalize setH h ⟨sr,0 + 2,none⟩ (.bool false)=h1 at *
 have R0B:∀ {h'},JF d rn rs sr h h'->R0 h':=fun {h'} F=>fun j v hj=>by
  have X:=F.ext D sb.2.1 sb.2.2.1
  have:=r j v hj
  rw [X.cell (a:=(⟨0,0,none⟩:Addr).add j) (by rw [add_mk]; exact sb.2.2.2)]
  exact this
 refine ⟨some ⟨pr,0,none⟩,by rw [add_mk,S1.cell]; rfl,?_⟩
 unfold slot_Pair_Wipe
 rw [if_neg (by simp)]
 refine Lay_ok (bs:=bs) D1 P1 (R0B F1) g (by omega) (by omega) (fun h' F'=>hs h' (F1.trans (JF.of_df F'))) sl sc (by omega) fun rr Y c1 h2 L c1l D2 F2=>?_
 have F02:JF d rn rs sr h h2:=F1.trans (JF.of_df F2)
 have P2:=P1.df D1 F2
 have S2:=S1.df D1 F2
 rcases L with ⟨q,_⟩ | ⟨_,q,_⟩ | ⟨_,_,s',t,bp,et,el⟩
 ·exfalso; omega
 ·exfalso; rw [show ((2:Int) * 256).toNat=512 from rfl] at q; omega
 rw [show ((2:Int) * 256).toNat=512 from rfl,show toN 256 bs true=256 from by unfold toN; rw [if_pos rfl]; rfl] at el
 have kY:KN Y:=by have:=kn.layD (0 + t * 256) (headD (grD X 0 512) bs) bs 256; rw [← el] at this; exact this
 have w:=wsJ_ok g sf hd hf bB bl (by omega) bp et (by omega) (Nat.le_refl _) el
 have tt:t=0∨t=1:=by rw [et]; split <;> omega
 rw [w.r]
 rw [if_neg (by simp)]
 refine Lay_ok (bs:=bs) D2 P2 (R0B F02) w.good (by omega) (by omega) (fun h' F'=>hs h' (F02.trans (JF.of_df F'))) sl sc (by omega) fun rr2 Z c2 h3 L2 c2l D3 F3=>?_
 have F03:JF d rn rs sr h h3:=F02.trans (JF.of_df F3)
 have P3:=P2.df D2 F3
 have S3:=S2.df D2 F3
 have gr1:=w.gr
 rcases L2 with ⟨q,_⟩ | ⟨_,q,_⟩ | ⟨_,_,s2,t2,bp2,et2,el2⟩
 ·exfalso; omega
 ·exfalso; rw [show ((2:Int) * 256).toNat=512 from rfl] at q; omega
 rw [show ((2:Int) * 256).toNat=512 from rfl,show toN 256 bs true=256 from by unfold toN; rw [if_pos rfl]; rfl] at el2
 have kZ:KN Z:=by have:=kY.layD (0 + t2 * 256) (headD (grD Y 0 512) bs) bs 256; rw [← el2] at this; exact this
 have w2:=wsJ_ok w.good w.safe w.dead w.fuse bB bl (by omega) bp2 et2 (by omega) (Nat.le_refl _) el2
 have e2:s2=t:=bp_uniq bp2 w.bp
 have tt2:t2=0∨t2=1:=by rw [et2]; split <;> omega
 have ne:t≠t2:=by rw [et2,e2]; split <;> omega
 rw [w2.r,gr1]
 dsimp only
 rw [if_neg (by simp)]
 have rdN:∀ j:Nat,j < 256->readD Z (t2 * 256 + j)=(padB (newS (headD (grD X 0 512 + 1) bs) bs j),0):=fun j hj=>by
  rw [w2.new j hj,gr1]
 have rdO:∀ j:Nat,j < 256->readD Z (t * 256 + j)=(padB (newS (headD (grD X 0 512) bs) bs j),0):=fun j hj=>by
  rw [w2.old t tt ne j hj,w.new j hj]
 generalize grD X 0 512=gg at *
 unfold journal_Store_Scrub_l1
 refine ⟨fun a h'=>512<=a/\a<=1024/\∃ (Q:DK) (c3:Nat),DAt B c3 h' d rn rs Q/\PairAt h' pr d 0 256/\StAt h' sr d pr false e n p/\JF d rn rs sr h h'/\Q.dead=false/\Q.fuse=0/\KN Q/\(∀ x,x < 512->vD Q x=vD Z x)/\(∀ x,512<=x->x < a->readD Q x=(zSk,0))/\∀ x,isB (secB (vD Q x)),fun a _=>(1024 - a).toNat,⟨by omega,by omega,Z,c2,D3,P3,S3,F03,w2.dead,w2.fuse,kZ,fun _ _=>rfl,fun x h1 h2=>by omega,fun x=>w2.good.1 x⟩,?_⟩
 rintro a h4 ⟨a0,a1,Q,c3,D4,P4,S4,F4,qd,qf,kQ,low,hi,qb⟩
 unfold journal_Store_Scrub_l1b
 by_cases ca:a < 1024
 rotate_left
 ·rw [if_neg (by rw [decide_eq_true_eq]; exact ca)]
  refine ⟨_,rfl,some ⟨d,0,none⟩,by rw [S4.cell]; rfl,?_⟩
  refine DSync_ok D4 fun h5 D5 F5=>?_
  obtain ⟨y1,y2,y3,y4,y5⟩:=sync_free (X:=Q) qd qf
  rw [y1]
  rw [if_neg (by simp)]
  refine Begin_ok (e2:=gg + 1 + 1) D5 (P4.df D4 F5) (S4.df D4 F5) fun h6 D6 P6 S6 F6=>?_
  refine H (syncD Q).2 c3 h6 t t2 ⟨good_of y4 fun x=>by rw [y5]; exact qb x,y4,y3,y2,kQ.sync,by omega,fun j hj=>?_,fun j hj=>?_,fun x x0 x1=>?_⟩ D6 P6 ((F4.trans (JF.of_df F5)).trans F6) (by rw [show gg + 2=gg + 1 + 1 from by omega]; exact S6)
  ·rw [← rdO j hj]
   exact rd_cong ((y5 _).trans (low _ (by omega)))
  ·rw [← rdN j hj]
   exact rd_cong ((y5 _).trans (low _ (by omega)))
  ·rw [rd_cong (y5 x)]
   exact hi x x0 (by omega)
 rw [if_pos (by rw [decide_eq_true_eq]; exact ca)]
 refine ⟨_,rfl,some ⟨d,0,none⟩,by rw [S4.cell]; rfl,?_⟩
 refine DRead_ok D4 fun t9 h5 St lt ct _ X5=>?_
 have D5:=D4.ext X5
 have P5:PairAt h5 pr d 0 256:=Blk.ext P4 X5 P4.lt
 have S5:StAt h5 sr d pr false e n p:=Blk.ext S4 X5 S4.lt
 have F5:=F4.trans (JF.of_ext X5)
 have nx:∀ (Q':DK) (c4:Nat) h6,DAt B c4 h6 d rn rs Q'->PairAt h6 pr d 0 256->StAt h6 sr d pr false e n p->JF d rn rs sr h h6->Q'.dead=false->Q'.fuse=0->KN Q'->(∀ x,x≠a->vD Q' x=vD Q x)->readD Q' a=(zSk,0)->isB (secB (vD Q' a)) ->
   journal_Store_Scrub_j2 (some ⟨sr,0,none⟩) (gg + 1 + 1) a k (fun a' h'=>(512<=a'/\a'<=1024/\∃ (Q:DK) (c3:Nat),DAt B c3 h' d rn rs Q/\PairAt h' pr d 0 256/\StAt h' sr d pr false e n p/\JF d rn rs sr h h'/\Q.dead=false/\Q.fuse=0/\KN Q/\(∀ x,x < 512->vD Q x=vD Z x)/\(∀ x,512<=x->x < a'->readD Q x=(zSk,0))/\∀ x,isB (secB (vD Q x)))/\(1024 - a').toNat < (1024 - a).toNat) h6:=fun Q' c4 h6 D6 P6 S6 F6 dd ff kk o za zb=>by
  unfold journal_Store_Scrub_j2
  rw [wrapI64 (by omega) (by omega)]
  refine ⟨_,rfl,⟨by omega,by omega,Q',c4,D6,P6,S6,F6,dd,ff,kk,fun x hx=>(o x (by omega)).trans (low x hx),fun x x0 x1=>?_,fun x=>?_⟩,by omega⟩
  ·by_cases q:x=a
   ·rw [q]; exact za
   ·rw [rd_cong (o x q)]; exact hi x x0 (by omega)
  ·by_cases q:x=a
   ·rw [q]; exact zb
   ·rw [o x q]; exact qb x
 -- it is written
 have wr:∀ h6,Ext h5.size h5 h6->journal_Store_Scrub_g3 (some ⟨sr,0,none⟩) (gg + 1 + 1) a false k (fun a' h'=>(512<=a'/\a'<=1024/\∃ (Q:DK) (c3:Nat),DAt B c3 h' d rn rs Q/\PairAt h' pr d 0 256/\StAt h' sr d pr false e n p/\JF d rn rs sr h h'/\Q.dead=false/\Q.fuse=0/\KN Q/\(∀ x,x < 512->vD Q x=vD Z x)/\(∀ x,512<=x->x < a'->readD Q x=(zSk,0))/\∀ x,isB (secB (vD Q x)))/\(1024 - a').toNat < (1024 - a).toNat) h6:=fun h6 X6=>by
  have D6:=D5.ext X6
  have P6:PairAt h6 pr d 0 256:=Blk.ext P5 X6 P5.lt
  have S6:StAt h6 sr d pr false e n p:=Blk.ext S5 X6 S5.lt
  have F6:=F5.trans (JF.of_ext X6)
  unfold journal_Store_Scrub_g3
  rw [if_neg (by simp)]
  refine ⟨_,rfl,some ⟨d,0,none⟩,by rw [S6.cell]; rfl,?_⟩
  refine DWrite_ok (bs:=[]) D6 ⟨fun _=>rfl,fun a ha=>by cases ha⟩ rfl fun h7 D7 F7=>?_
  obtain ⟨y1,y2,y3,y4⟩:=write_free (X:=Q) (a:=a) (bs:=[]) qd qf ⟨by omega,ca⟩ (by simp)
  rw [y1]
  rw [if_neg (by simp)]
  have va:vD (writeD Q a []).2 a=⟨padB [],false⟩:=by rw [y4,if_pos rfl]
  refine nx _ _ h7 D7 (P6.df D6 F7) (S6.df D6 F7) (F6.trans (JF.of_df F7)) y2 y3 (kQ.write _ _) (fun x hx=>by rw [y4,if_neg hx]) ?_ ?_
  ·have:=rdG_new (Z:=(writeD Q a []).2) (a:=a) (g:=fun _=>[]) (j:=0) (by simp) (by omega) va
   rw [this,pad_z]
  ·rw [va,secB_pad (by simp),pad_zero]
   exact zero_B
 by_cases er:(readD Q a).2=0
 rotate_left
 ·rw [if_neg (by simpa using er)]
  exact wr h5 (Ext.refl _ _)
 rw [if_pos (by simpa using er)]
 have l128:=read_len er
 refine empty_ok St lt (by omega) fun eb he=>?_
 cases eb with
 | false=>exact wr h5 (Ext.refl _ _)
 | true =>
  unfold journal_Store_Scrub_g3
  rw [if_pos rfl]
  have ez:=all_z (he rfl) l128
  exact nx Q c3 h5 D5 P5 S5 F5 qd qf kQ (fun _ _=>rfl) (Prod.ext ez er) (qb a)
end Go.Q.Yk
end
section
set_option maxRecDepth 100000
/- Journal: JournalScrubs walked. -/
namespace Go.Q.Yk
/-- the sectors of two scrubs are the same but for the numbers -/
theorem sec_same {ga gb:Int} {bs:List Int} {i:Nat}:(padB (newS (headD ga bs) bs i)).drop 8=(padB (newS (headD gb bs) bs i)).drop 8:=by
 have l8:∀ g,(formL (g + 1) 8).length=8:=fun g=>formL_length _ _
 have key:∀ g:Int,(padB (newS (headD g bs) bs i)).drop 8=if (i:Int) < prtD bs.length then (formL (i:Int) 2 ++ formL (prtD bs.length) 2 ++ formL (bs.length:Int) 4 ++ formL (sumD bs) 8 ++ (bs.drop (i * 104)).take 104) ++ List.replicate (128 - (24 + ((bs.drop (i * 104)).take 104).length)) 0 else List.replicate 120 0:=fun g=>by
  unfold newS
  by_cases c:(i:Int) < prtD bs.length
  ·rw [if_pos (show (i:Int) < (headD g bs).f_parts from c),if_pos c]
   have e:padB (laySec (headD g bs) bs i)=formL (g + 1) 8 ++ ((formL (i:Int) 2 ++ formL (prtD bs.length) 2 ++ formL (bs.length:Int) 4 ++ formL (sumD bs) 8 ++ (bs.drop (i * 104)).take 104) ++ List.replicate (128 - (24 + ((bs.drop (i * 104)).take 104).length)) 0):=by
    unfold padB
    have ll:(laySec (headD g bs) bs i).length=24 + ((bs.drop (i * 104)).take 104).length:=by
     unfold laySec; rw [List.length_append,hbD_len]
    rw [ll]
    unfold laySec hbD headD
    dsimp only
    simp only [List.append_assoc]
   rw [e,List.drop_append_of_le_length (by rw [l8]; exact Nat.le_refl _),List.drop_of_length_le (by rw [l8]; exact Nat.le_refl _),List.nil_append]
  ·rw [if_neg (show ¬ (i:Int) < (headD g bs).f_parts from c),if_neg c]
   decide
 rw [key,key]
theorem ScX.rd {Y:DK} {gr t1 t2:Int} {bs:List Int} (K:ScX Y gr t1 t2 bs) {a:Int} (a0:0<=a) (a1:a < 1024):(readD Y a).2=0/\(readD Y a).1.drop 8=if a < 512 then (padB (newS (headD 0 bs) bs (a % 256).toNat)).drop 8 else zSk.drop 8:=by
 have h1:∀ (t:Int) (g:Int),(∀ j:Nat,j < 256->readD Y (t * 256 + j)=(padB (newS (headD g bs) bs j),0))->(t=0/\a < 256∨t=1/\256<=a/\a < 512)->(readD Y a).2=0/\(readD Y a).1.drop 8=(padB (newS (headD 0 bs) bs (a % 256).toNat)).drop 8:=fun t g hh ht=>by
  have:=hh (a % 256).toNat (by omega)
  rw [show t * 256 + (((a % 256).toNat:Nat):Int)=a from by omega] at this
  rw [this]
  exact ⟨rfl,sec_same⟩
 by_cases q:a < 512
 ·rw [if_pos q]
  rcases K.t with ⟨e1,e2⟩ | ⟨e1,e2⟩
  ·by_cases q2:a < 256
   ·exact h1 t1 _ K.one (.inl ⟨e1,q2⟩)
   ·exact h1 t2 _ K.two (.inr ⟨e2,by omega,q⟩)
  ·by_cases q2:a < 256
   ·exact h1 t2 _ K.two (.inl ⟨e2,q2⟩)
   ·exact h1 t1 _ K.one (.inr ⟨e1,by omega,q⟩)
 ·rw [if_neg q,K.hi a (by omega) a1]
  exact ⟨rfl,rfl⟩
/-- what is told of all sectors -/
def RawL (X:DK) (l:List Int):Prop:=l.length=131072/\∀ a:Nat,a < 1024->seg l a=secB (vD X a)
theorem Raw_ok {B c:Nat} {h:Heap} {d rn rs:Nat} {X:DK} {k:Slc->Heap->Prop} (D:DAt B c h d rn rs X) (kn:KN X) (H:∀ s h' l,s.len=131072->SlcAt h' s (b8 l)->RawL X l->Ext h.size h h'->k s h'):disk_Disk_Raw (some ⟨d,0,none⟩) k h:=by
 refine DRaw_ok D kn fun s h' l sl sc S ll some' none' E=>H s h' l sl S ⟨ll,fun a ha=>?_⟩ E
 unfold vD
 cases hm:mget X.now (a:Int) with
 | none =>
  rw [none' a ha hm]
  show _=secB zSec
  unfold secB
  rw [nrm_nil]
 | some x =>
  have:=some' a x hm
  rw [Int.toNat_natCast] at this
  rw [this]; rfl
theorem raw_same {Y Y':DK} {gr gr' t1 t2 t1' t2':Int} {bs l l':List Int} (K:ScX Y gr t1 t2 bs) (K':ScX Y' gr' t1' t2' bs) (R:RawL Y l) (R':RawL Y' l') {i:Nat} (hi:i < 131072) (h8:8<=i % 128):l[i]? = l'[i]?:=by
 have ha:i / 128 < 1024:=by omega
 have e:∀ {Z:DK} {m:List Int} {g u1 u2:Int},ScX Z g u1 u2 bs->RawL Z m->m[i]? = (if ((i / 128:Nat):Int) < 512 then (padB (newS (headD 0 bs) bs (((i / 128:Nat):Int) % 256).toNat)).drop 8 else zSk.drop 8)[i % 128 - 8]?:=fun {Z m g u1 u2} Q P=>by
  obtain ⟨q1,q2⟩:=Q.rd (a:=((i / 128:Nat):Int)) (by omega) (by omega)
  have s1:=seg_get m (i / 128) (i % 128)
  rw [if_pos (Nat.mod_lt _ (by omega)),P.2 _ ha] at s1
  rw [show i / 128 * 128 + i % 128=i from by omega] at s1
  rw [← s1,← q2,List.getElem?_drop,show 8 + (i % 128 - 8)=i % 128 from by omega]
  have:(readD Z ((i / 128:Nat):Int)).1=secB (vD Z ((i / 128:Nat):Int)):=by
   unfold readD at q1 ⊢
   rw [if_neg (by omega)] at q1 ⊢
   split at q1
   ·cases q1
   ·rename_i h1
    rw [if_neg h1]; rfl
  rw [this]
 rw [e K R,e K' R']
end Go.Q.Yk
end
section
/- Strong, plainly: what is laid are bytes. -/
namespace Go.Q.Sg
theorem nil_B:isB []:=fun b hb=>by cases hb
theorem tx_B {l:List Int} (h:isB l):isB (tx l):=isB_app (shortL_B (by omega)) h
theorem cnt_B (v:Int):isB (cntC.put v):=shortL_B (Int.emod_nonneg _ (by omega))
theorem fm_B {α:Type} {f:α->List Int} {xs:List α} (h:∀ x∈xs,isB (f x)):isB (xs.flatMap f):=fun b hb=>by
 obtain ⟨x,hx,hb⟩:=List.mem_flatMap.1 hb
 exact h x hx b hb
theorem many_B {α:Type} {A:PC α} {xs:List α} (h:∀ x∈xs,isB (A.put x)):isB ((manyC A).put xs):=isB_app (shortL_B (by omega)) (fm_B h)
theorem ent_B {e:Ent} (h:u64 e.1/\isB e.2):isB (entC.put e):=isB_app (shortL_B h.1.1) (tx_B h.2)
theorem ch_B {c:Int × List Int} (h:u64 c.1/\isB c.2):isB (chC.put c):=isB_app (shortL_B h.1.1) h.2
theorem box_B {b:BoxV} (w:WfB b):isB (boxC.put b):=by
 show isB (if boxOk b then rawC.put b else [])
 split
 ·exact isB_app (tx_B w.t) (isB_app (formL_B 4 _) (isB_app w.n (tx_B w.bo)))
 ·exact nil_B
theorem mem_B {m:MemV} (w:WfM m):isB (memC.put m.tup) :=
 isB_app (cnt_B _) (isB_app (cnt_B _) (isB_app (cnt_B _) (isB_app (shortL_B w.boot.1) (isB_app (shortL_B w.lease.1) (isB_app w.x (isB_app w.y (isB_app w.p (isB_app (shortL_B w.term.1) (isB_app (cnt_B _) (isB_app (shortL_B w.base.1) (isB_app (shortL_B w.bterm.1) (isB_app (tx_B w.snap) (isB_app (many_B fun e he=>ent_B ⟨(w.ents e he).1,(w.ents e he).2.1⟩) (isB_app (fm_B fun c hc=>ch_B ⟨(w.chains c hc).1,(w.chains c hc).2.1⟩) (isB_app (many_B fun b hb=>box_B (w.boxes b hb)) (shortL_B w.clean.1))))))))))))))))
theorem chg_B {c:ChgV} (w:WfC c):isB (chgC.put c.tup) :=
 isB_app w.kind (isB_app (shortL_B w.n.1) (isB_app (cnt_B _) (isB_app (ch_B ⟨w.chain,w.chainb⟩) (isB_app (cnt_B _) (isB_app (shortL_B w.kt.1) (isB_app (cnt_B _) (isB_app (shortL_B w.ki.1) (isB_app (many_B fun e he=>ent_B ⟨(w.ents e he).1,(w.ents e he).2.1⟩) (isB_app (tx_B w.snap) (isB_app (many_B fun g hg=>(w.gone g hg).1) (isB_app (many_B fun b hb=>box_B (w.boxes b hb)) (tx_B w.ten))))))))))))
theorem chg_pos {c:ChgV} (w:WfC c):1<=(chgC.put c.tup).length:=by
 have:(chgC.put c.tup).length=c.kind.length + ((chgC.put c.tup).length - c.kind.length):=by
  have:c.kind.length<=(chgC.put c.tup).length:=by
   show _<=(c.kind ++ _).length
   rw [List.length_append]; omega
  omega
 have:=w.kindl
 omega
theorem chkM_bd {m:MemV} (c:chkM m=0):m.ents.length<=64/\m.boxes.length<=64/\(memC.put m.tup).length<=26624:=by
 have cE:chkE m=0:=by unfold chkM at c; split at c <;> simp_all
 unfold chkE at cE
 split at cE
 rotate_left
 ·cases cE
 split at cE
 ·cases cE
 split at cE
 ·rename_i hb; exact absurd cE hb
 split at cE
 ·cases cE
 omega
end Go.Q.Sg
end
section
set_option maxRecDepth 100000
/- Strong: its journal, whose power stays. -/
namespace Go.Q.Yk
open Go.Q.Sg
structure JO (B:Nat) (h:Heap) (d rn rs pr sr:Nat) (X:DK) (c:Nat) (slot i:Int):Prop where
 D:DAt B c h d rn rs X
 P:PairAt h pr d 0 256
 S:∃ fresh e n p,StAt h sr d pr fresh e n p/\(fresh=true->0<=e/\0<=n/\n<=i/\512<=p/\p<=1024)
 g:GoodX X
 sf:X.safe=[]
 fu:X.fuse=0
 dd:X.dead=false
 kn:KN X
 gr:grD X 0 512<=i
 b:BP X 0 256 slot
 sb:B<=sr
section
variable {B c d rn rs pr sr:Nat} {h h':Heap} {X:DK} {slot i:Int}
theorem JO.ext (J:JO B h d rn rs pr sr X c slot i) (E:Ext h.size h h'):JO B h' d rn rs pr sr X c slot i:=by
 obtain ⟨f,e,n,p,S,q⟩:=J.S
 exact { J with D:=J.D.ext E,P:=Blk.ext J.P E J.P.lt,S:=⟨f,e,n,p,Blk.ext S E S.lt,q⟩ }
theorem JO.jext (J:JO B h d rn rs pr sr X c slot i) (hB:B<=h.size) (F:JF d rn rs sr h h'):Ext B h h':=F.ext J.D J.sb hB
theorem SaveF_ok {s:Slc} {bs:List Int} {k:Int->Heap->Prop} (J:JO B h d rn rs pr sr X c slot i) (i1:i<=900) (r:R0 h) (hs:∀ h',JF d rn rs sr h h'->SlcAt h' s (b8 bs)) (sl:s.len=bs.length) (sc:s.len<=s.cap) (bl:bs.length<=26624) (bB:isB bs)
  (H:∀ Y c' h' t,JO B h' d rn rs pr sr Y c' t (i + 1)->JF d rn rs sr h h'->StAt h' sr d pr true (grD X 0 512 + 1) 0 512->outW Y (0 + t * 256)=bs->0<=t->(∀ a,512<=a->vD Y a=vD X a)->numW Y 0 256 t=grD X 0 512 + 1->grD Y 0 512=grD X 0 512 + 1->k 0 h'):journal_Store_Save (some ⟨sr,0,none⟩) s k h:=by
 obtain ⟨fresh,e,n,p,S,_⟩:=J.S
 have gn:=gr_nn J.g 0 512
 have gl:=J.gr
 have pk:prtD bs.length<=256:=by unfold prtD; split <;> omega
 refine JSave_ok (bs:=bs) J.D J.P S r J.g hs sl sc (by omega) fun rr Y c' h5 L c1l D5 P5 F5 S5 _=>?_
 rcases L with ⟨q,_⟩ | ⟨_,q,_⟩ | ⟨_,_,s',t,bp,et,el⟩
 ·exfalso; omega
 ·exfalso; rw [show ((2:Int) * 256).toNat=512 from rfl] at q; omega
 rw [show ((2:Int) * 256).toNat=512 from rfl,show toN 256 bs false=(prtD bs.length).toNat from by unfold toN; rw [if_neg (by simp)]] at el
 have kY:KN Y:=by have:=J.kn.layD (0 + t * 256) (headD (grD X 0 512) bs) bs (prtD bs.length).toNat; rw [← el] at this; exact this
 have w:=wsJ_ok J.g J.sf J.dd J.fu bB bl (by omega) bp et (Nat.le_refl _) (by omega) el
 have er:rr=(grD X 0 512 + 1,0):=w.r
 subst er
 have S5':=S5 rfl
 dsimp only at S5' ⊢
 exact H Y c' h5 t ⟨D5,P5,⟨_,_,_,_,S5',fun _=>⟨by omega,by omega,by omega,by omega,by omega⟩⟩,w.good,w.safe,w.fuse,w.dead,kY,by rw [w.gr]; omega,w.bp,J.sb⟩ F5 S5' w.out (by rw [et]; split <;> omega) w.hi w.num w.gr
theorem AppG_ok {s:Slc} {bs:List Int} {e n p:Int} {k:Int->Heap->Prop} (J:JO B h d rn rs pr sr X c slot i) (i1:i<=900) (S:StAt h sr d pr true e n p) (e0:0<=e) (n0:0<=n/\n<=i) (p0:512<=p/\p + jprtD bs.length<=1024) (hs:∀ h',JF d rn rs sr h h'->SlcAt h' s (b8 bs)) (sl:s.len=bs.length) (sc:s.len<=s.cap) (bl:bs.length<=4096) (bB:isB bs)
  (H:∀ Y c' h',JO B h' d rn rs pr sr Y c' slot (i + 1)->JF d rn rs sr h h'->Y=(wrD p (recS e n bs) X (jprtD bs.length).toNat).2->(∀ a,a < 512->vD Y a=vD X a)->k 0 h'):journal_Store_Append (some ⟨sr,0,none⟩) s k h:=by
 have jb:=jp_bd (n:=(bs.length:Int)) (by omega)
 have gl:=J.gr
 refine Append_ok (bs:=bs) J.D S e0 (by omega) (by omega) hs sl sc bl (by omega) fun c' h8 Y r' e8 c8 D8 F8 S8 _=>?_
 obtain ⟨q1,q2,q3,q4,q5⟩:=wrD_free (X:=X) (g:=recS e n bs) (N:=(jprtD bs.length).toNat) (p:=p) (fun n=>recS_le _ _ _ _) J.dd J.fu J.sf (by omega) (by omega)
 have kY:=J.kn.wrD p (recS e n bs) (jprtD bs.length).toNat
 have eY:Y=(wrD p (recS e n bs) X (jprtD bs.length).toNat).2:=congrArg (·.2) e8
 rw [← e8] at q1 q2 q3 q4 q5 kY
 dsimp only at q1 q2 q3 q4 q5 kY
 subst q1
 have low:∀ a,a < 512->vD Y a=vD X a:=fun a ha=>by
  rcases q5.now a with h | ⟨j,h1,h2⟩
  ·exact h
  ·omega
 have gY:GoodX Y:=good_of q4 fun a=>by
  rcases q5.now a with h | ⟨j,h1,h2⟩
  ·rw [h]; exact J.g.1 a
  ·rw [h2,q5.all j h1]; exact gV_B (recS_le _ _ _ _) (recS_B bB)
 obtain ⟨b1,_,b3⟩:=bp_loc (Z:=Y) (X:=X) (fun p _ p1=>rd_cong (low p p1)) J.b
 exact H Y c' h8 ⟨D8,J.P.jf J.D S F8,⟨_,_,_,_,S8 rfl,fun _=>⟨e0,by omega,by omega,by omega,by omega⟩⟩,gY,q4,q3,q2,kY,by rw [b3]; omega,b1,J.sb⟩ F8 eY low
theorem Room_ok {fresh:Bool} {e n p:Int} {k:Int->Heap->Prop} (S:StAt h sr d pr fresh e n p) (p0:fresh=true->512<=p/\p<=1024) (H:k (if fresh=true then (if (1024 - p) * 108 < 4096 then (1024 - p) * 108 else 4096) else 0) h):journal_Store_Room (some ⟨sr,0,none⟩) k h:=by
 unfold journal_Store_Room
 rw [if_neg (by simp)]
 refine ⟨_,rfl,fresh,by rw [add_mk,S.cell]; rfl,?_⟩
 unfold journal_Store_Room_g1
 cases fresh with
 | false=>exact H
 | true =>
  have:=p0 rfl
  rw [if_neg (by simp)]
  refine ⟨_,rfl,p,by rw [add_mk,S.cell]; rfl,_,rfl,?_⟩
  rw [wrapI64 (x:=1024 - p) (by omega) (by omega),wrapI64 (x:=(1024 - p) * 108) (by omega) (by omega)]
  exact H
theorem ScrubF_ok {s:Slc} {bs:List Int} {k:Int->Heap->Prop} (J:JO B h d rn rs pr sr X c slot i) (i1:i<=900) (r:R0 h) (o:0 < B/\B<=h.size) (hs:∀ h',JF d rn rs sr h h'->SlcAt h' s (b8 bs)) (sl:s.len=bs.length) (sc:s.len<=s.cap) (bl:bs.length<=26624) (bB:isB bs)
  (H:∀ Y c' h' t1 t2,ScX Y (grD X 0 512) t1 t2 bs->DAt B c' h' d rn rs Y->PairAt h' pr d 0 256->JF d rn rs sr h h'->StAt h' sr d pr true (grD X 0 512 + 2) 0 512->k 0 h'):journal_Store_Scrub (some ⟨sr,0,none⟩) s k h:=by
 obtain ⟨fresh,e,n,p,S,_⟩:=J.S
 have gl:=J.gr
 exact Scrub_ok (bs:=bs) J.D J.P S r J.g J.dd J.fu J.sf J.kn J.b (by omega) bB hs sl sc bl ⟨by omega,J.sb,o.2,o.1⟩ H
/-- a row of bytes of one's own stays while the journal works -/
theorem JO.row {C:Nat} {s:Slc} {l:List Int} (J:JO B h d rn rs pr sr X c slot i) (R:Row C h 5 1 s (b8 l)) (hC:B<=C) (F:JF d rn rs sr h h'):SlcAt h' s (b8 l):=by
 obtain ⟨fresh,e,n,p,S,_⟩:=J.S
 exact (Row.jf (R.mono hC) (by decide) J.D S F).slc
end
end Go.Q.Yk
end

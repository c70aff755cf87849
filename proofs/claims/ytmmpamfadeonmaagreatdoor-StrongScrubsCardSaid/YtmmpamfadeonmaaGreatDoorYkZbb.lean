/- A part of the proof of statements of this seat: lemmas, no statement of their own. -/
import Derived.Test.YtmmpamfadeonmaaGreatDoorYkZau
import Derived.Test.YtmmpamfadeonmaaGreatDoorYkZba
set_option linter.unusedVariables false
set_option linter.unusedSimpArgs false
section
set_option maxRecDepth 100000
/- Journal: heads of records. -/
namespace Go.Q.Yk
def jhdD (b:List Int):S_journal_head:=⟨fld b 0 8,fld b 8 4,fld b 12 2,fld b 14 2,fld b 16 4⟩
theorem jfield_ok {s:Slc} {b:List Int} {h:Heap} {at' w:Nat} {k:Int->Heap->Prop} (hs:SlcAt h s (b8 b)) (hl:s.len=b.length) (lb:b.length=128) (lc:s.len<=s.cap) (hB:isB b) (w0:1<=w) (w1:w<=8) (hw:at' + w<=100) (H:k (fld b at' w) h):journal_field s at' w k h:=by
 unfold journal_field
 refine ⟨_,by omega,by omega,by omega,by omega,rfl,?_⟩
 simp only [Int.toNat_natCast]
 have S:=SlcAt.sub (w:=1) (l:=at') (u:=s.len) (m:=s.cap) hs (by omega) (by omega)
 rw [Nat.mul_one,Nat.mul_one,← List.map_drop,← List.map_take] at S
 have e:(b.drop at').take (s.len - at')=b.drop at':=List.take_of_length_le (by rw [List.length_drop]; omega)
 rw [e] at S
 exact nGet_ok (l':=b.drop at') (l:=(b.drop at').take w) S (by rw [List.length_drop]; show s.len - at'=_; omega) (by rw [Int.toNat_natCast]) (isB_take (isB_drop hB _) _) (by omega) (by omega) (by rw [List.length_take,List.length_drop]; omega) H
theorem fld2 {b:List Int} (hB:isB b) (at':Nat):0<=fld b at' 2/\fld b at' 2 < 65536:=by
 have:=fld_bd hB at' 2
 rw [show (256:Int) ^ 2=65536 from by decide] at this
 exact this
theorem fld4 {b:List Int} (hB:isB b) (at':Nat):0<=fld b at' 4/\fld b at' 4 < 4294967296:=by
 have:=fld_bd hB at' 4
 rw [show (256:Int) ^ 4=4294967296 from by decide] at this
 exact this
theorem jheadOf_ok {s:Slc} {b:List Int} {h:Heap} {k:S_journal_head->Heap->Prop} (hs:SlcAt h s (b8 b)) (hl:s.len=b.length) (lb:b.length=128) (lc:s.len<=s.cap) (hB:isB b) (H:∀ h',Ext h.size h h'->k (jhdD b) h'):journal_headOf s k h:=by
 unfold journal_headOf
 refine ⟨_,_,rfl,rfl,?_⟩
 have P:=Blk.push h (S_journal_head.cs ⟨0,0,0,0,0⟩) 152
 have W:=Ext.push h (.cells (S_journal_head.cs ⟨0,0,0,0,0⟩).toArray 152) (Nat.le_refl _)
 generalize h.push (.cells (S_journal_head.cs ⟨0,0,0,0,0⟩).toArray 152)=h2 at *
 have S:=hs.ext W
 refine jfield_ok (at':=0) (w:=8) S hl lb lc hB (by omega) (by omega) (by omega) ?_
 refine jfield_ok (at':=8) (w:=4) S hl lb lc hB (by omega) (by omega) (by omega) ?_
 refine jfield_ok (at':=12) (w:=2) S hl lb lc hB (by omega) (by omega) (by omega) ?_
 refine jfield_ok (at':=14) (w:=2) S hl lb lc hB (by omega) (by omega) (by omega) ?_
 refine jfield_ok (at':=16) (w:=4) S hl lb lc hB (by omega) (by omega) (by omega) ?_
 have a:=fld2 hB 12
 have b':=fld2 hB 14
 have c:=fld4 hB 16
 rw [wrapI64 (x:=fld b 12 2) (by omega) (by omega),wrapI64 (x:=fld b 14 2) (by omega) (by omega),wrapI64 (x:=fld b 16 4) (by omega) (by omega)]
 exact ⟨_,WrsAt.of_blk P (by show 5<=5; omega),rfl,jhdD b,CellsAt.of_blk (P.sets_all rfl),H _ (W.trans (Ext.sets _ _ _ (Nat.le_refl _)))⟩
def jprtD (n:Int):Int:=if (n + 107) / 108 > 1 then (n + 107) / 108 else 1
theorem JParts_ok {n:Int} {k:Int->Heap->Prop} {h:Heap} (n0:0<=n) (n1:n < 4611686018427387904) (H:k (jprtD n) h):journal_parts n k h:=by
 unfold journal_parts
 refine ⟨_,rfl,?_⟩
 rw [wrapI64 (x:=n + 108) (by omega) (by omega),wrapI64 (x:=n + 108 - 1) (by omega) (by omega),Int.tdiv_eq_ediv_of_nonneg (by omega),wrapI64 (x:=(n + 108 - 1) / 108) (by omega) (by omega)]
 rw [show n + 108 - 1=n + 107 from by omega]
 exact H
def jhbD (f:S_journal_head):List Int:=formL f.f_epoch 8 ++ formL f.f_number 4 ++ formL f.f_part 2 ++ formL f.f_parts 2 ++ formL f.f_size 4
theorem jhbD_len (f:S_journal_head):(jhbD f).length=20:=by
 unfold jhbD
 simp only [List.length_append,formL_length]
structure JOk (f:S_journal_head):Prop where
 e:0<=f.f_epoch
 n:0<=f.f_number
 p:0<=f.f_part/\f.f_part < 65536
 q:0<=f.f_parts/\f.f_parts < 65536
 s:0<=f.f_size/\f.f_size < 4294967296
theorem JHeadB_ok {f:S_journal_head} {k:Slc->Heap->Prop} {h:Heap} (o:JOk f) (H:∀ s' h',Row h.size h' 5 1 s' (b8 (jhbD f))->Ext h.size h h'->k s' h'):journal_head_bytes f k h:=by
 unfold journal_head_bytes
 refine ⟨_,_,rfl,rfl,?_⟩
 have P:=Blk.push h (S_journal_head.cs f) 152
 have W:=Ext.push h (.cells (S_journal_head.cs f).toArray 152) (Nat.le_refl _)
 have pl:=P.lt
 generalize h.push (.cells (S_journal_head.cs f).toArray 152)=h2 at *
 have z2:=W.size
 obtain ⟨b1,eb1⟩:∃ y,y=h.size:=⟨_,rfl⟩
 rw [← eb1] at P W pl z2 H ⊢
 have o1:=o.e; have o2:=o.p; have o3:=o.q; have o4:=o.s; have o5:=o.n
 refine ⟨_,by rw [P.cell]; rfl,_,by rw [add_mk,P.cell]; rfl,Put_ok (l:=[]) rfl ⟨fun _=>rfl,fun a ha=>by cases ha⟩ (by simp) (by omega) (by omega) o1 fun s5 h5 R5 X5=>?_⟩
 have z5:=X5.size
 have P5:=P.ext X5 (by omega)
 refine ⟨by rw [add_mk,P5.cell]; rfl,?_⟩
 refine Put_ok (Row.pb R5) R5.slc (by simp only [List.length_append,formL_length,List.length_nil]; omega) (by omega) (by omega) o5 fun s8 h8 R8 X8=>?_
 have z8:=X8.size
 have P8:=P5.ext X8 (by omega)
 refine ⟨_,by rw [add_mk,P8.cell]; rfl,_,by rw [add_mk,P8.cell]; rfl,?_⟩
 rw [wrapU64 (x:=f.f_part) (by omega) (by omega)]
 refine Put_ok (Row.pb R8) R8.slc (by simp only [List.length_append,formL_length,List.length_nil]; omega) (by omega) (by omega) o2.1 fun s11 h11 R11 X11=>?_
 have z11:=X11.size
 have P11:=P8.ext X11 (by omega)
 refine ⟨by rw [add_mk,P11.cell]; rfl,?_⟩
 rw [wrapU64 (x:=f.f_parts) (by omega) (by omega)]
 refine Put_ok (Row.pb R11) R11.slc (by simp only [List.length_append,formL_length,List.length_nil]; omega) (by omega) (by omega) o3.1 fun s14 h14 R14 X14=>?_
 have z14:=X14.size
 have P14:=P11.ext X14 (by omega)
 refine ⟨_,by rw [add_mk,P14.cell]; rfl,?_⟩
 rw [wrapU64 (x:=f.f_size) (by omega) (by omega)]
 refine Put_ok (Row.pb R14) R14.slc (by simp only [List.length_append,formL_length,List.length_nil]; omega) (by omega) (by omega) o4.1 fun s17 h17 R17 X17=>?_
 refine H s17 h17 ?_ ((((W.trans (X5.mono (by omega))).trans (X8.mono (by omega))).trans (X11.mono (by omega))).trans ((X14.mono (by omega)).trans (X17.mono (by omega))))
 unfold jhbD
 exact R17.mono (by omega)
/-! ### is a record there -/
variable {B c:Nat} {h h':Heap} {d rn rs pr sr:Nat} {X:DK}
def rh (X:DK) (p:Int):S_journal_head:=jhdD (readD X p).1
def wantD (X:DK) (e n p i:Int):S_journal_head:=⟨e,n,i,(rh X p).f_parts,(rh X p).f_size⟩
def ROk (X:DK) (e n p:Int) (i:Nat):Prop:=(readD X (p + i)).2=0/\jhdD (readD X (p + i)).1=wantD X e n p i
def RecW (X:DK) (e n p:Int):Prop:=ROk X e n p 0/\(rh X p).f_parts=jprtD (rh X p).f_size/\∀ i:Nat,(i:Int) < (rh X p).f_parts->ROk X e n p i
def catR (X:DK) (p:Int) (n:Nat):List Int:=((List.range n).map fun i:Nat=>(readD X (p + i)).1.drop 20).flatten
theorem catR_succ (X:DK) (p:Int) (n:Nat):catR X p (n + 1)=catR X p n ++ (readD X (p + n)).1.drop 20:=by
 unfold catR
 rw [List.range_succ,List.map_append,List.flatten_append]
 simp
theorem catR_len {p:Int}:∀ n:Nat,(∀ i:Nat,i < n->(readD X (p + i)).2=0)->(catR X p n).length=108 * n
 | 0,_=>rfl
 | n + 1,hh=>by
  rw [catR_succ,List.length_append,catR_len n fun i hi=>hh i (by omega),List.length_drop,read_len (hh n (by omega))]; omega
def outR (X:DK) (p:Int):List Int:=(catR X p (rh X p).f_parts.toNat).take (rh X p).f_size.toNat
theorem rh_bd (g:GoodX X) (p:Int):0<=(rh X p).f_size/\(rh X p).f_size < 4294967296/\0<=(rh X p).f_parts/\(rh X p).f_parts < 65536:=by
 have a:=fld4 (read_B g p) 16
 have b:=fld2 (read_B g p) 14
 exact ⟨a.1,a.2,b.1,b.2⟩
theorem jh_eq {a b:S_journal_head}:((a.f_epoch == b.f_epoch) && (a.f_number == b.f_number) && (a.f_part == b.f_part) && (a.f_parts == b.f_parts) && (a.f_size == b.f_size))=true ↔ a=b:=by
 cases a; cases b; simp [and_assoc]
/-- a store -/
abbrev scs (d pr:Nat) (fresh:Bool) (e n p:Int):List Value:=S_journal_Store.cs ⟨some ⟨d,0,none⟩,some ⟨pr,0,none⟩,fresh,e,n,p⟩
def StAt (h:Heap) (sr d pr:Nat) (fresh:Bool) (e n p:Int):Prop:=Blk h sr (scs d pr fresh e n p) 137
/-- where the walk of a record stands -/
structure RI (b1:Nat) (h0 h:Heap) (X:DK) (e n p:Int) (s:Slc) (i:Int) (f0:S_journal_head):Prop where
 i0:0<=i
 i1:i<=65535
 E:Ext b1 h0 h
 z:b1 + 1<=h.size
 P:Blk h b1 (S_journal_head.cs f0) 152
 R:Row (b1 + 1) h 5 1 s (b8 (catR X p i.toNat))
 f:(i=0/\f0=⟨e,n,0,1,0⟩)∨(0 < i/\(∃ pt,f0=wantD X e n p pt)/\(rh X p).f_parts=jprtD (rh X p).f_size/\i<=(rh X p).f_parts)
 ok:∀ j:Nat,(j:Int) < i->ROk X e n p j
theorem RI.ext {b1:Nat} {h0 h h':Heap} {e n p i:Int} {s:Slc} {f0:S_journal_head} (w:RI b1 h0 h X e n p s i f0) (E:Ext h.size h h'):RI b1 h0 h' X e n p s i f0 :=
 { w with E:=w.E.trans (E.mono (by have:=w.z; omega)),z:=Nat.le_trans w.z E.size,P:=w.P.ext E w.P.lt,R:=w.R.ext E fun g hg=>(w.R.bd hg).2 }
theorem jp_bd {n:Int} (n0:0<=n):1<=jprtD n/\n<=108 * jprtD n:=by unfold jprtD; split <;> omega
theorem Rec_ok {fresh:Bool} {e' n' p' e n p:Int} {k:Slc × Bool->Heap->Prop} (D:DAt B c h d rn rs X) (S:StAt h sr d pr fresh e' n' p') (g:GoodX X) (p0:0<=p/\p<=5000)
  (H0:¬ RecW X e n p->∀ h',Ext h.size h h'->k (⟨none,0,0⟩,false) h')
  (H1:RecW X e n p->∀ s h',SlcAt h' s (b8 (outR X p))->s.len=(outR X p).length->s.len<=s.cap->(∀ a,s.a=some a->h.size<=a.block/\a.block < h'.size)->Ext h.size h h'->k (s,true) h') :
  journal_Store_record (some ⟨sr,0,none⟩) e n p k h:=by
 unfold journal_Store_record
 refine ⟨_,_,rfl,rfl,?_⟩
 have P1:=Blk.push h (S_journal_head.cs ⟨0,0,0,0,0⟩) 152
 have W1:=Ext.push h (.cells (S_journal_head.cs ⟨0,0,0,0,0⟩).toArray 152) (Nat.le_refl _)
 generalize h.push (.cells (S_journal_head.cs ⟨0,0,0,0,0⟩).toArray 152)=h2 at *
 refine ⟨_,WrsAt.of_blk P1 (by show 5<=5; omega),rfl,?_⟩
 have P2:=P1.sets_all (vs:=S_journal_head.cs ⟨e,n,0,1,0⟩) rfl
 have X2:Ext h.size h (setsH h2 ⟨h.size,0,none⟩ 0 (S_journal_head.cs ⟨e,n,0,1,0⟩)):=W1.trans (Ext.sets _ _ _ (Nat.le_refl _))
 generalize setsH h2 ⟨h.size,0,none⟩ 0 (S_journal_head.cs ⟨e,n,0,1,0⟩)=h3 at *
 have pl:=P2.lt
 obtain ⟨b1,eb1⟩:∃ y,y=h.size:=⟨_,rfl⟩
 rw [← eb1] at P2 X2 pl H0 H1 ⊢
 have hdp:=rh_bd g p
 have jpb:=jp_bd hdp.1
 have Sl:=S.lt
 clear P1 W1
 unfold journal_Store_record_l1
 refine ⟨fun q h'=>∃ f0,RI b1 h h' X e n p q.1 q.2 f0,fun q _=>(70000 - q.2).toNat,⟨_,by dsimp only; omega,by dsimp only; omega,X2,by omega,P2,Row.nil _ _ _ _,.inl ⟨rfl,rfl⟩,fun j hj=>by dsimp only at hj; omega⟩,?_⟩
 rintro s i h4 ⟨f0,w⟩
 dsimp only at w
 have i0:=w.i0
 have i1:=w.i1
 have z4:=w.z
 have D4:DAt B c h4 d rn rs X:=D.ext (by rw [← eb1]; exact w.E)
 have S4:StAt h4 sr d pr fresh e' n' p':=Blk.ext S (by rw [← eb1]; exact w.E) Sl
 have bad:∀ {h'},¬ RecW X e n p->Ext b1 h h'->k (⟨none,0,0⟩,false) h':=fun {h'} no E=>H0 no h' E
 unfold journal_Store_record_l1b
 refine ⟨f0.f_parts,by rw [add_mk,w.P.cell]; rfl,?_⟩
 by_cases ci:i < f0.f_parts
 ·rw [if_pos (by rw [decide_eq_true_eq]; exact ci)]
  have hin:RecW X e n p->ROk X e n p i.toNat:=fun wc=>by
   rcases w.f with ⟨z,_⟩ | ⟨_,⟨pt,ef⟩,_⟩
   ·rw [z]; exact wc.1
   ·rw [ef] at ci
    exact wc.2.2 i.toNat (by have:(wantD X e n p pt).f_parts=(rh X p).f_parts:=rfl; omega)
  refine ⟨⟨sr,0,none⟩,rfl,some ⟨d,0,none⟩,by rw [S4.cell]; rfl,?_⟩
  rw [wrapI64 (x:=p + i) (by omega) (by omega)]
  refine DRead_ok D4 fun t h9 St lt ct ft X9=>?_
  by_cases er:(readD X (p + i)).2=0
  rotate_left
  ·rw [if_pos (by simpa using er)]
   refine bad (fun wc=>er ?_) (w.E.trans (X9.mono (by omega)))
   have:=(hin wc).1
   rw [show ((i.toNat:Nat):Int)=i from by omega] at this
   exact this
  rw [if_neg (by rw [er]; simp)]
  have lb:=read_len er
  refine jheadOf_ok St lt lb (by dsimp only; omega) (read_B g _) fun h11 X11=>?_
  have X911:=X9.trans (X11.mono X9.size)
  have w11:=w.ext X911
  refine ⟨_,_,rfl,rfl,?_⟩
  have V:=Blk.push h11 (S_journal_head.cs ⟨0,0,0,0,0⟩) 152
  have W13:=Ext.push h11 (.cells (S_journal_head.cs ⟨0,0,0,0,0⟩).toArray 152) (Nat.le_refl _)
  generalize h11.push (.cells (S_journal_head.cs ⟨0,0,0,0,0⟩).toArray 152)=h13 at *
  refine ⟨_,WrsAt.of_blk V (by show 5<=5; omega),rfl,?_⟩
  have V14:=V.sets_all (vs:=S_journal_head.cs (jhdD (readD X (p + i)).1)) rfl
  have X14:Ext h11.size h11 (setsH h13 ⟨h11.size,0,none⟩ 0 (S_journal_head.cs (jhdD (readD X (p + i)).1))):=W13.trans (Ext.sets _ _ _ (Nat.le_refl _))
  generalize setsH h13 ⟨h11.size,0,none⟩ 0 (S_journal_head.cs (jhdD (readD X (p + i)).1))=h14 at *
  have w14:=w11.ext X14
  have St14:SlcAt h14 t (b8 (readD X (p + i)).1):=(St.ext X11).ext X14
  have bl:b1 < h11.size:=by have:=w11.z; omega
  obtain ⟨hd,ehd⟩:∃ y,y=jhdD (readD X (p + i)).1:=⟨_,rfl⟩
  rw [← ehd] at V14
  -- the rest: what is wanted being laid
  have rest:∀ (h15:Heap) (q1 q2:Int) (pt:Int),Blk h15 b1 (S_journal_head.cs ⟨e,n,pt,q1,q2⟩) 152->Blk h15 h11.size (S_journal_head.cs hd) 152->(∀ j,j≠b1->h15[j]? = h14[j]?)->h15.size=h14.size->(RecW X e n p->hd=⟨e,n,i,q1,q2⟩/\hd.f_parts=jprtD hd.f_size)->(hd=⟨e,n,i,q1,q2⟩->hd.f_parts=jprtD hd.f_size->q1=(rh X p).f_parts/\q2=(rh X p).f_size/\i < (rh X p).f_parts) ->
    journal_Store_record_j2 (some ⟨sr,0,none⟩) p s ⟨b1,0,none⟩ i t ⟨h11.size,0,none⟩ k (fun s' h'=>(∃ f0,RI b1 h h' X e n p s'.1 s'.2 f0)/\(70000 - s'.2).toNat < (70000 - i).toNat) h15:=fun h15 q1 q2 pt Pb Vb o15 s15 ok0 ok1=>by
   have X015:Ext b1 h h15:=w14.E.trans ⟨by omega,fun j hj=>o15 j (by omega)⟩
   have R15:Row (b1 + 1) h15 5 1 s (b8 (catR X p i.toNat)):=w14.R.keep fun q hq=>o15 q (by have:=(w14.R.bd hq).1; omega)
   have S15:SlcAt h15 t (b8 (readD X (p + i)).1):=⟨St14.1,fun a ha j v hj=>by
    have:=St14.2 a ha j v hj
    have hb:=ft a ha
    rw [cellH_of (o15 _ (by show (a.add j).block≠b1; have:(a.add j).block=a.block:=(by unfold Addr.add; split <;> rfl); omega))]
    exact this⟩
   have z15:b1 + 1<=h15.size:=by have:=w14.z; omega
   have j3t:∀ h',journal_Store_record_j3 (some ⟨sr,0,none⟩) p s ⟨b1,0,none⟩ i t true k (fun s' h'=>(∃ f0,RI b1 h h' X e n p s'.1 s'.2 f0)/\(70000 - s'.2).toNat < (70000 - i).toNat) h'=k (⟨none,0,0⟩,false) h':=fun h'=>by
    unfold journal_Store_record_j3; rw [if_pos rfl]
   unfold journal_Store_record_j2
   refine ⟨_,by rw [add_mk]; exact Pb.wr (by show _ < 5; omega),rfl,?_⟩
   rw [add_mk]
   have P16:Blk (setH h15 ⟨b1,0 + 2,none⟩ (.int .i64 i)) b1 (S_journal_head.cs ⟨e,n,i,q1,q2⟩) 152:=Pb.set
   have o16:∀ j,j≠b1->(setH h15 ⟨b1,0 + 2,none⟩ (.int .i64 i))[j]? = h15[j]?:=fun j hj=>setH_other hj
   have s16:(setH h15 ⟨b1,0 + 2,none⟩ (.int .i64 i)).size=h15.size:=setH_size
   generalize setH h15 ⟨b1,0 + 2,none⟩ (.int .i64 i)=h16 at *
   have V16:=Vb.old (o16 _ (by omega))
   have X016:Ext b1 h h16:=X015.trans ⟨by omega,fun j hj=>o16 j (by omega)⟩
   have R16:Row (b1 + 1) h16 5 1 s (b8 (catR X p i.toNat)):=R15.keep fun q hq=>o16 q (by have:=(R15.bd hq).1; omega)
   have S16:SlcAt h16 t (b8 (readD X (p + i)).1):=⟨S15.1,fun a ha j v hj=>by
    have:=S15.2 a ha j v hj
    have hb:=ft a ha
    rw [cellH_of (o16 _ (by show (a.add j).block≠b1; have:(a.add j).block=a.block:=(by unfold Addr.add; split <;> rfl); omega))]
    exact this⟩
   refine ⟨hd,CellsAt.of_blk V16,_,CellsAt.of_blk P16,?_⟩
   by_cases ee:hd=⟨e,n,i,q1,q2⟩
   ·have e2:=jh_eq.2 ee
    rw [if_neg (by rw [if_neg (by decide),e2]; decide)]
    have hs0:0<=hd.f_size/\hd.f_size < 4294967296:=by rw [ehd]; exact fld4 (read_B g _) 16
    refine ⟨hd.f_parts,by rw [add_mk,V16.cell]; rfl,hd.f_size,by rw [add_mk,V16.cell]; rfl,JParts_ok hs0.1 (by omega) ⟨by rw [add_mk,V16.cell]; rfl,?_⟩⟩
    by_cases q3:hd.f_parts=jprtD hd.f_size
    ·rw [show (hd.f_parts != jprtD hd.f_size)=false from by simpa using q3]
     obtain ⟨c1,c2,c3⟩:=ok1 ee q3
     unfold journal_Store_record_j3
     rw [if_neg (by simp)]
     have tl:t.len=128:=by rw [← lb]; exact lt
     rw [tl,wrapI64 (x:=((128:Nat):Int) - 108) (by omega) (by omega)]
     refine ⟨_,by omega,by omega,by omega,by omega,rfl,b8 ((readD X (p + i)).1.drop 20),?_,?_⟩
     ·have:=SlcAt.sub (w:=1) (l:=(((128:Nat):Int) - 108).toNat) (u:=(((128:Nat):Int)).toNat) (m:=((t.cap:Nat):Int).toNat) S16 (by omega) (by omega)
      rw [Nat.mul_one,Nat.mul_one,← List.map_drop,← List.map_take,List.take_of_length_le (by rw [List.length_drop,lb]; omega)] at this
      exact this
     ·have okn:ROk X e n p i.toNat:=by
       unfold ROk wantD
       rw [show ((i.toNat:Nat):Int)=i from by omega,← ehd,ee,c1,c2]
       exact ⟨er,rfl⟩
      have ls:s.len=108 * i.toNat:=by
       have:=R16.len
       rw [this,List.length_map,catR_len]
       intro j hj; exact (w.ok j (by omega)).1
      refine App.row2 R16 (by omega) rfl (by rw [List.length_map,List.length_drop,lb]; rfl) (b8_one _) (by show (s.len + (128 - 20)) * 1<=_; omega) (by show s.len + (128 - 20)<=_; simp only [maxLen]; omega) fun s' h22 R22 _ z22 kp _ _=>?_
      have ne:∀ j,j<=b1->s.blk≠some j:=fun j hj e=>by have:=(R16.bd e).1; omega
      refine ⟨_,rfl,?_⟩
      rw [wrapI64 (by omega) (by omega)]
      refine ⟨⟨⟨e,n,i,q1,q2⟩,⟨by dsimp only; omega,by dsimp only; omega,X016.trans ⟨z22,fun j hj=>kp j (by omega) (ne j (by omega))⟩,by omega,P16.old (kp b1 P16.lt (ne b1 (Nat.le_refl _))),?_,.inr ⟨by dsimp only; omega,⟨i,by rw [c1,c2]; rfl⟩,?_,by dsimp only; omega⟩,fun j hj=>?_⟩⟩,by dsimp only; omega⟩
      ·dsimp only
       rw [show (i + 1).toNat=i.toNat + 1 from by omega,catR_succ,show ((i.toNat:Nat):Int)=i from by omega,b8,List.map_append]
       exact R22
      ·rw [← c1,← c2]
       rw [ee] at q3
       exact q3
      ·dsimp only at hj
       by_cases ej:(j:Int) < i
       ·exact w.ok j ej
       ·rw [show j=i.toNat from by omega]; exact okn
    ·rw [show (hd.f_parts != jprtD hd.f_size)=true from by simpa using q3,j3t]
     exact bad (fun wc=>q3 (ok0 wc).2) X016
   ·have e2:((hd.f_epoch == (⟨e,n,i,q1,q2⟩:S_journal_head).f_epoch) && (hd.f_number == (⟨e,n,i,q1,q2⟩:S_journal_head).f_number) && (hd.f_part == (⟨e,n,i,q1,q2⟩:S_journal_head).f_part) && (hd.f_parts == (⟨e,n,i,q1,q2⟩:S_journal_head).f_parts) && (hd.f_size == (⟨e,n,i,q1,q2⟩:S_journal_head).f_size))=false:=by
     rw [Bool.eq_false_iff]; exact fun hh=>ee (jh_eq.1 hh)
    rw [if_pos (by rw [if_neg (by decide),e2]; rfl),j3t]
    exact bad (fun wc=>ee (ok0 wc).1) X016
  have inh:RecW X e n p->hd=wantD X e n p i:=fun wc=>by
   have:=(hin wc).2
   rw [show ((i.toNat:Nat):Int)=i from by omega,← ehd] at this
   exact this
  by_cases iz:i=0
  ·rw [if_pos (by simpa using iz)]
   rcases w14.f with ⟨_,ef⟩ | ⟨z,_⟩
   rotate_left
   ·omega
   have P14:=w14.P
   rw [ef] at P14
   have ehp:hd=rh X p:=by rw [ehd,iz,Int.add_zero]; rfl
   refine ⟨hd.f_parts,by rw [add_mk,V14.cell]; rfl,hd.f_size,by rw [add_mk,V14.cell]; rfl,_,by rw [add_mk]; exact P14.wr (by show _ < 5; omega),rfl,?_⟩
   rw [add_mk,add_mk,add_mk]
   have P15:Blk (setH h14 ⟨b1,0 + 3,none⟩ (.int .i64 hd.f_parts)) b1 (S_journal_head.cs ⟨e,n,0,hd.f_parts,0⟩) 152:=P14.set
   have o15:∀ j,j≠b1->(setH h14 ⟨b1,0 + 3,none⟩ (.int .i64 hd.f_parts))[j]? = h14[j]?:=fun j hj=>setH_other hj
   have s15:(setH h14 ⟨b1,0 + 3,none⟩ (.int .i64 hd.f_parts)).size=h14.size:=setH_size
   generalize setH h14 ⟨b1,0 + 3,none⟩ (.int .i64 hd.f_parts)=h15 at *
   have V15:=V14.old (o15 _ (by omega))
   refine ⟨by rw [V15.cell]; rfl,_,P15.wr (by show _ < 5; omega),rfl,?_⟩
   have P16:Blk (setH h15 ⟨b1,0 + 4,none⟩ (.int .i64 hd.f_size)) b1 (S_journal_head.cs ⟨e,n,0,hd.f_parts,hd.f_size⟩) 152:=P15.set
   have o16:∀ j,j≠b1->(setH h15 ⟨b1,0 + 4,none⟩ (.int .i64 hd.f_size))[j]? = h14[j]?:=fun j hj=>(setH_other hj).trans (o15 j hj)
   have s16:(setH h15 ⟨b1,0 + 4,none⟩ (.int .i64 hd.f_size)).size=h14.size:=by rw [setH_size]; exact s15
   generalize setH h15 ⟨b1,0 + 4,none⟩ (.int .i64 hd.f_size)=h16 at *
   refine rest h16 hd.f_parts hd.f_size 0 P16 (V14.old (o16 _ (by omega))) o16 s16 (fun wc=>?_) (fun e1 e2=>?_)
   ·have:=inh wc
    have q:=wc.2.1
    rw [← ehp] at q
    refine ⟨?_,q⟩
    rw [this]
    unfold wantD
    rw [← ehp]
   ·rw [ehp] at e2 ⊢
    refine ⟨rfl,rfl,?_⟩
    have:=(jp_bd hdp.1).1
    omega
  ·rw [if_neg (by simpa using iz)]
   rcases w14.f with ⟨z,_⟩ | ⟨_,⟨pt,ef⟩,q3,il⟩
   ·exact absurd z iz
   ·have P14:=w14.P
    rw [ef] at P14 ci
    refine rest h14 (rh X p).f_parts (rh X p).f_size pt P14 V14 (fun _ _=>rfl) rfl (fun wc=>?_) (fun e1 e2=>⟨rfl,rfl,ci⟩)
    have:=inh wc
    exact ⟨this,by rw [this]; exact q3⟩
 ·rw [if_neg (by rw [decide_eq_true_eq]; exact ci)]
  rcases w.f with ⟨z,ef⟩ | ⟨ip,⟨pt,ef⟩,q3,il⟩
  ·rw [ef] at ci
   exact absurd (by rw [z]; show (0:Int) < 1; decide) ci
  ·have ie:i=(rh X p).f_parts:=by rw [ef] at ci; have:(wantD X e n p pt).f_parts=(rh X p).f_parts:=rfl; omega
   have wc:RecW X e n p:=⟨w.ok 0 (by omega),q3,fun j hj=>w.ok j (by omega)⟩
   have lsz:=catR_len (X:=X) (p:=p) i.toNat fun j hj=>(w.ok j (by omega)).1
   have ls:s.len=108 * i.toNat:=by have:=w.R.len; rw [this,List.length_map,lsz]
   have lc:=w.R.cap
   have szb:(rh X p).f_size<=108 * (rh X p).f_parts:=by rw [q3]; exact jpb.2
   refine ⟨(rh X p).f_size,by rw [add_mk,w.P.cell,ef]; rfl,_,by omega,by omega,by omega,by omega,rfl,?_⟩
   have Rs:=w.R
   rw [ie] at Rs lsz
   have So:SlcAt h4 (subS s 1 (0:Int).toNat (rh X p).f_size.toNat ((s.cap:Nat):Int).toNat) (b8 (outR X p)):=by
    have:=SlcAt.sub (w:=1) (l:=(0:Int).toNat) (u:=(rh X p).f_size.toNat) (m:=((s.cap:Nat):Int).toNat) Rs.slc (by simp) (by omega)
    rw [Nat.mul_one,Nat.mul_one,← List.map_drop,← List.map_take] at this
    exact this
   have lo:(outR X p).length=(rh X p).f_size.toNat:=by unfold outR; rw [List.length_take,lsz]; omega
   refine H1 wc _ h4 So (by rw [lo]; show (rh X p).f_size.toNat - (0:Int).toNat=_; simp) (by show (rh X p).f_size.toNat - (0:Int).toNat<=((s.cap:Nat):Int).toNat - (0:Int).toNat; simp only [Int.toNat_zero,Int.toNat_natCast]; omega) (fun a ha=>?_) w.E
   have:∃ a',s.a=some a'/\a'.block=a.block:=by
    unfold subS at ha
    simp only at ha
    split at ha
    ·exact ⟨a,ha,rfl⟩
    ·cases hs:s.a with
     | none=>rw [hs] at ha; cases ha
     | some a' =>
      rw [hs] at ha
      refine ⟨a',rfl,?_⟩
      have:=Option.some.inj ha
      rw [← this]
      unfold Addr.add; split <;> rfl
   obtain ⟨a',h1,h2⟩:=this
   have:=w.R.bd (g:=a'.block) (by simp [Slc.blk,h1])
   omega
end Go.Q.Yk
end
section
set_option maxRecDepth 100000
/- Journal: sectors that are written one behind the other, and a boot, plainly. -/
namespace Go.Q.Yk
def gVp (g:Nat->List Int) (n:Nat):Sec:=⟨padB (g n),false⟩
def wrUp (p:Int) (g:Nat->List Int) (X:DK):Nat->Int × DK
 | 0=>(0,X)
 | n + 1=>if (wrUp p g X n).1≠0 then wrUp p g X n else writeD (wrUp p g X n).2 (p + n) (g n)
def wrD (p:Int) (g:Nat->List Int) (X:DK) (N:Nat):Int × DK:=if (wrUp p g X N).1≠0 then wrUp p g X N else syncD (wrUp p g X N).2
/-- m sectors are laid -/
structure LG (X Y:DK) (p:Int) (g:Nat->List Int) (m:Nat):Prop where
 now:∀ a,vD Y a=vD X a∨∃ j:Nat,j < m/\a=p + j
 all:∀ j:Nat,j < m->vD Y (p + j)=gVp g j
 safe:∀ a s,mget Y.safe a=some s->s=vD X a/\∃ j:Nat,j < m/\a=p + j
theorem LG.put {X Y:DK} {p:Int} {g:Nat->List Int} {m:Nat} (L:LG X Y p g m):LG X (burnD (laidD Y (p + m) (g m))).2 p g (m + 1):=by
 have en:∀ a,vD (burnD (laidD Y (p + m) (g m))).2 a=if a=p + m then gVp g m else vD Y a:=fun a=>by
  unfold vD
  rw [burn_now]
  show (mget (mput Y.now (p + m) ⟨padB (g m),false⟩) a).getD zSec=_
  rw [mget_put]
  split
  ·rfl
  ·rfl
 refine ⟨fun a=>?_,fun j hj=>?_,fun a s hs=>?_⟩
 ·rw [en]
  by_cases e:a=p + m
  ·exact .inr ⟨m,by omega,e⟩
  ·rw [if_neg e]
   rcases L.now a with h | ⟨j,h1,h2⟩
   ·exact .inl h
   ·exact .inr ⟨j,by omega,h2⟩
 ·rw [en]
  by_cases e:j=m
  ·rw [if_pos (by rw [e]),e]
  ·rw [if_neg (by omega)]; exact L.all j (by omega)
 ·rw [burn_safe] at hs
  have old:mget Y.safe a=some s->s=vD X a/\∃ j:Nat,j < m + 1/\a=p + j:=fun hs=>by
   obtain ⟨h1,j,h2,h3⟩:=L.safe a s hs
   exact ⟨h1,j,by omega,h3⟩
  unfold laidD at hs
  dsimp only at hs
  split at hs
  ·exact old hs
  ·rw [mget_put] at hs
   by_cases e:a=p + m
   ·rw [if_pos e] at hs
    cases hs
    refine ⟨?_,m,by omega,e⟩
    rw [e]
    rcases L.now (p + m) with h | ⟨j,h1,h2⟩
    ·exact h
    ·omega
   ·rw [if_neg e] at hs
    exact old hs
theorem wrUp_mid {X:DK} {p:Int} {g:Nat->List Int} (hg:∀ n,(g n).length<=128) (hd:X.dead=false) (hs:X.safe=[]) (p0:0<=p):∀ n:Nat,p + n<=1024 ->
  ((wrUp p g X n).1=0/\(wrUp p g X n).2.dead=false/\LG X (wrUp p g X n).2 p g n)∨((wrUp p g X n).1=10/\(wrUp p g X n).2.dead=true/\∃ m:Nat,m<=n/\LG X (wrUp p g X n).2 p g m)
 | 0,_=>.inl ⟨rfl,hd,fun a=>.inl rfl,fun j hj=>by omega,fun a s h=>by
   change mget X.safe a=some s at h
   rw [hs] at h; cases h⟩
 | n + 1,hn=>by
  rcases wrUp_mid (g:=g) hg hd hs p0 n (by omega) with ⟨e,dd,L⟩ | ⟨e,dd,m,hm,L⟩
  ·have el:wrUp p g X (n + 1)=(endD (burnD (laidD (wrUp p g X n).2 (p + n) (g n))).1,(burnD (laidD (wrUp p g X n).2 (p + n) (g n))).2):=by
    rw [wrUp,if_neg (by rw [e]; simp)]
    show writeD (wrUp p g X n).2 (p + n) (g n)=_
    unfold writeD
    rw [if_neg (by rw [dd]; simp),if_neg (by omega),if_neg (by have:=hg n; omega)]
   have bd:=burn_dead (X:=laidD (wrUp p g X n).2 (p + n) (g n)) dd
   have Lp:=L.put
   rw [el]
   dsimp only
   rw [bd]
   cases hb:(burnD (laidD (wrUp p g X n).2 (p + n) (g n))).1 with
   | false=>exact .inl ⟨rfl,rfl,Lp⟩
   | true=>exact .inr ⟨rfl,rfl,n + 1,by omega,Lp⟩
  ·have el:wrUp p g X (n + 1)=wrUp p g X n:=by rw [wrUp,if_pos (by rw [e]; simp)]
   rw [el]
   exact .inr ⟨e,dd,m,by omega,L⟩
theorem wrD_end {X:DK} {p:Int} {g:Nat->List Int} {N:Nat} (hg:∀ n,(g n).length<=128) (hd:X.dead=false) (hs:X.safe=[]) (p0:0<=p) (pN:p + N<=1024) :
  ((wrD p g X N).1=0/\(wrD p g X N).2.dead=false/\(wrD p g X N).2.safe=[]/\LG X (wrD p g X N).2 p g N)∨((wrD p g X N).1=10/\(wrD p g X N).2.dead=true/\∃ m:Nat,m<=N/\LG X (wrD p g X N).2 p g m):=by
 unfold wrD
 rcases wrUp_mid (g:=g) hg hd hs p0 N pN with ⟨e,dd,L⟩ | ⟨e,dd,m,hm,L⟩
 ·rw [if_neg (by rw [e]; simp)]
  have bd:=burn_dead (X:=(wrUp p g X N).2) dd
  have bn:∀ a,vD (burnD (wrUp p g X N).2).2 a=vD (wrUp p g X N).2 a:=fun a=>by unfold vD; rw [burn_now]
  have es:syncD (wrUp p g X N).2=if (burnD (wrUp p g X N).2).1=true then (10,(burnD (wrUp p g X N).2).2) else (0,{ (burnD (wrUp p g X N).2).2 with safe:=[] }):=by
   unfold syncD
   rw [if_neg (by rw [dd]; simp)]
  rw [es]
  cases hb:(burnD (wrUp p g X N).2).1 with
  | true =>
   rw [if_pos rfl]
   refine .inr ⟨rfl,by rw [bd,hb],N,Nat.le_refl _,fun a=>by rw [bn]; exact L.now a,fun j hj=>by rw [bn]; exact L.all j hj,fun a s h=>by rw [burn_safe] at h; exact L.safe a s h⟩
  | false =>
   rw [if_neg (by simp)]
   refine .inl ⟨rfl,by show (burnD (wrUp p g X N).2).2.dead=false; rw [bd,hb],rfl,fun a=>?_,fun j hj=>?_,fun a s h=>by cases h⟩
   ·show vD (burnD (wrUp p g X N).2).2 a=_∨_
    rw [bn]; exact L.now a
   ·show vD (burnD (wrUp p g X N).2).2 _=_
    rw [bn]; exact L.all j hj
 ·rw [if_pos (by rw [e]; simp)]
  exact .inr ⟨e,dd,m,hm,L⟩
theorem wr_free {X:DK} {p:Int} {g:Nat->List Int} (hg:∀ n,(g n).length<=128) (hd:X.dead=false) (hf:X.fuse=0) (p0:0<=p):∀ n:Nat,p + n<=1024->(wrUp p g X n).1=0/\(wrUp p g X n).2.dead=false/\(wrUp p g X n).2.fuse=0
 | 0,_=>⟨rfl,hd,hf⟩
 | n + 1,hn=>by
  obtain ⟨e,dd,ff⟩:=wr_free (g:=g) hg hd hf p0 n (by omega)
  have el:wrUp p g X (n + 1)=(endD (burnD (laidD (wrUp p g X n).2 (p + n) (g n))).1,(burnD (laidD (wrUp p g X n).2 (p + n) (g n))).2):=by
   rw [wrUp,if_neg (by rw [e]; simp)]
   unfold writeD
   rw [if_neg (by rw [dd]; simp),if_neg (by omega),if_neg (by have:=hg n; omega)]
  obtain ⟨b1,b2,b3⟩:=burn_free (X:=laidD (wrUp p g X n).2 (p + n) (g n)) ff
  rw [el]
  dsimp only
  exact ⟨by rw [b1]; rfl,by rw [b2]; exact dd,b3⟩
theorem wrD_free {X:DK} {p:Int} {g:Nat->List Int} {N:Nat} (hg:∀ n,(g n).length<=128) (hd:X.dead=false) (hf:X.fuse=0) (hs:X.safe=[]) (p0:0<=p) (pN:p + N<=1024) :
  (wrD p g X N).1=0/\(wrD p g X N).2.dead=false/\(wrD p g X N).2.fuse=0/\(wrD p g X N).2.safe=[]/\LG X (wrD p g X N).2 p g N:=by
 obtain ⟨e,dd,ff⟩:=wr_free (g:=g) hg hd hf p0 N pN
 obtain ⟨b1,b2,b3⟩:=burn_free (X:=(wrUp p g X N).2) ff
 have es:syncD (wrUp p g X N).2=(0,{ (burnD (wrUp p g X N).2).2 with safe:=[] }):=by
  unfold syncD
  rw [if_neg (by rw [dd]; simp),if_neg (by rw [b1]; simp)]
 have el:wrD p g X N=(0,{ (burnD (wrUp p g X N).2).2 with safe:=[] }):=by
  unfold wrD
  rw [if_neg (by rw [e]; simp),es]
 rcases wrD_end (g:=g) (N:=N) hg hd hs p0 pN with ⟨_,_,_,L⟩ | ⟨_,q,_⟩
 ·exact ⟨by rw [el],by rw [el]; exact b2.trans dd,by rw [el]; exact b3,by rw [el],L⟩
 ·rw [el] at q
  have:(burnD (wrUp p g X N).2).2.dead=true:=q
  rw [b2,dd] at this
  cases this
theorem rdG_new {Z:DK} {a:Int} {g:Nat->List Int} {j:Nat} (hg:(g j).length<=128) (ha:0<=a/\a < 1024) (h:vD Z a=gVp g j):readD Z a=(padB (g j),0):=by
 unfold readD
 unfold vD at h
 rw [if_neg (by omega),h]
 show (if false=true then _ else (secB (gVp g j),(0:Int)))=_
 rw [if_neg (by simp)]
 unfold gVp
 rw [secB_pad hg]
theorem gV_B {g:Nat->List Int} {j:Nat} (hg:(g j).length<=128) (h:isB (g j)):isB (secB (gVp g j)):=by
 unfold gVp
 rw [secB_pad hg]
 exact pad_B h
end Go.Q.Yk
end

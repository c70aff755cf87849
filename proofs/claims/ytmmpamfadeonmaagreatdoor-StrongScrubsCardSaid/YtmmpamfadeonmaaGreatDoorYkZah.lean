/- A part of the proof of statements of this seat: lemmas, no statement of their own. -/
import Derived.Test.YtmmpamfadeonmaaGreatDoorYkZad
import Derived.Test.YtmmpamfadeonmaaGreatDoorYkZag
set_option linter.unusedVariables false
set_option linter.unusedSimpArgs false
section
namespace Go.Q
theorem SlcAt.ext {h h':Heap} {s:Slc} {vs:List Value} (a:SlcAt h s vs) (X:Ext h.size h h'):SlcAt h' s vs:=⟨a.1,fun b hb j w hj=>X.cellAt (a.2 b hb j w hj)⟩
/-- a part of a block -/
theorem Blk.part {h:Heap} {b E o n:Nat} {cs ys:List Value} (k:Blk h b cs E) (hd:(cs.drop o).take n=ys):CellsAt h ⟨b,o,none⟩ ys:=by
 intro j v hj
 rw [add_mk,k.cell]
 rw [← hd,List.getElem?_take] at hj
 split at hj
 ·rw [List.getElem?_drop] at hj; exact hj
 ·cases hj
theorem Blk.slc {h:Heap} {b E o n m c:Nat} {cs ys:List Value} (k:Blk h b cs E) (hd:(cs.drop o).take n=ys):SlcAt h ⟨some ⟨b,o,none⟩,m,c⟩ ys :=
 ⟨(fun hn=>by cases hn),fun a ha j v hj=>by cases ha; exact k.part hd j v hj⟩
/-- a row of structs in memory -/
structure LsAt {α:Type} (cs:α->List Value) (w:Nat) (h:Heap) (s:Slc) (xs:List α):Prop where
 l:s.len=xs.length
 at':∀ (i:Nat) x,xs[i]? = some x->∃ a,s.a=some a/\CellsAt h (a.add (i * w)) (cs x)
theorem CellsAt.ext {h h':Heap} {a:Addr} {vs:List Value} (c:CellsAt h a vs) (X:Ext h.size h h'):CellsAt h' a vs:=fun j v hj=>X.cellAt (c j v hj)
theorem LsAt.ext {α:Type} {cs:α->List Value} {w:Nat} {h h':Heap} {s:Slc} {xs:List α} (L:LsAt cs w h s xs) (X:Ext h.size h h'):LsAt cs w h' s xs :=
 ⟨L.l,fun i x hx=>by obtain ⟨a,h1,h2⟩:=L.at' i x hx; exact ⟨a,h1,h2.ext X⟩⟩
end Go.Q
end
section
set_option maxRecDepth 100000
/- Slot: the fingerprint, as a function of the bytes. -/
namespace Go.Q.Yk
def rcL:List Int:=[1116352408,1899447441,3049323471,3921009573,961987163,1508970993,2453635748,2870763221,3624381080,310598401,607225278,1426881987,1925078388,2162078206,2614888103,3248222580,3835390401,4022224774,264347078,604807628,770255983,1249150122,1555081692,1996064986,2554220882,2821834349,2952996808,3210313671,3336571891,3584528711,113926993,338241895,666307205,773529912,1294757372,1396182291,1695183700,1986661051,2177026350,2456956037,2730485921,2820302411,3259730800,3345764771,3516065817,3600352804,4094571909,275423344,430227734,506948616,659060556,883997877,958139571,1322822218,1537002063,1747873779,1955562222,2024104815,2227730452,2361852424,2428436474,2756734187,3204031479,3329325298]
abbrev u32s (l:List Int):List Value:=l.map (Value.int .u32)
theorem u32s_one (l:List Int):∀ v∈u32s l,v.oneCell'=true:=fun v hv=>by obtain ⟨a,_,rfl⟩:=List.mem_map.1 hv; rfl
def R0 (h:Heap):Prop:=CellsAt h ⟨0,0,none⟩ (u32s rcL)
theorem R0.pos {h:Heap} (r:R0 h):0 < h.size:=by
 have:=r 0 _ rfl
 rw [add_mk] at this
 exact cellH_lt this
theorem R0.ext {B:Nat} {h h':Heap} (r:R0 h) (X:Ext B h h') (hB:0 < B):R0 h':=fun j v hj=>by
 have:=r j v hj
 rw [X.cell (by rw [add_mk]; exact hB)]; exact this
theorem arr_full {n:Nat} {k:IntKind} {l:List Int} (hl:l.length=n):arr n k l=l.map (Value.int k):=by
 rw [arr_nrm]
 congr 1
 unfold nrm
 apply List.ext_getElem
 ·simp [hl]
 ·intro i h1 h2
  simp [h2]
theorem nn64 (x:Int):0<=IntKind.u64.wrap x:=by
 unfold IntKind.wrap; simp [IntKind.signed,IntKind.bits]; omega
def rotD (x n:Int):Int:=bwOr .u32 (shl .u32 x (bwAnd .u64 (IntKind.u64.wrap n) 31).toNat) (shr .u32 x (IntKind.u64.wrap (32 - bwAnd .u64 (IntKind.u64.wrap n) 31)).toNat)
theorem Rot_ok {x n:Int} {k:Int->Heap->Prop} {h:Heap} (H:k (rotD x n) h):math_bits_RotateLeft32 x n k h:=by
 unfold math_bits_RotateLeft32
 exact ⟨_,rfl,nn64 _,nn64 _,_,rfl,H⟩
def turnD (n a b c:Int) (cut:Bool):Int :=
 bwXor .u32 (bwXor .u32 (rotD n (IntKind.i64.wrap (0 - a))) (rotD n (IntKind.i64.wrap (0 - b)))) (if cut then shr .u32 n (IntKind.u64.wrap c).toNat else rotD n (IntKind.i64.wrap (0 - c)))
theorem Turned_ok {n a b c:Int} {cut:Bool} {k:Int->Heap->Prop} {h:Heap} (H:k (turnD n a b c cut) h):sha_turned n a b c cut k h:=by
 unfold sha_turned
 refine Rot_ok ?_
 unfold turnD at H
 cases cut with
 | true =>
  rw [if_pos rfl] at H ⊢
  refine ⟨nn64 _,_,rfl,?_⟩
  unfold sha_turned_j1
  exact Rot_ok (Rot_ok ⟨_,rfl,H⟩)
 | false =>
  rw [if_neg (by simp)] at H ⊢
  unfold sha_turned_j1
  exact Rot_ok (Rot_ok ⟨_,rfl,H⟩)
theorem addr_add (a:Addr) (i j:Nat):(a.add i).add j=a.add (i + j):=by
 unfold Addr.add
 by_cases hi:i=0
 ·subst hi; simp
 ·by_cases hj:j=0
  ·subst hj; simp
  ·rw [if_neg hi,if_neg hj,if_neg (by omega)]
   simp [Nat.add_assoc]
theorem sub_at {h:Heap} {s:Slc} {vs:List Value} {lo hi m:Nat} (S:SlcAt h s vs) (hv:0 < vs.length) (l1:lo < hi) (l2:hi<=vs.length) (l3:hi<=m) :
  ∃ a,(subS s 1 lo hi m).a=some a/\(subS s 1 lo hi m).len=hi - lo/\∀ j,lo + j < vs.length->cellH h (a.add j)=vs[lo + j]?:=by
 cases ha:s.a with
 | none=>have:=S.1 ha; rw [this] at hv; simp at hv
 | some a =>
  refine ⟨a.add lo,?_,rfl,fun j hj=>?_⟩
  ·unfold subS
   simp only
   rw [if_neg (by omega),ha,Nat.mul_one]; rfl
  ·rw [addr_add a lo j]
   have hj2:vs[lo + j]? = some vs[lo + j]:=List.getElem?_eq_getElem hj
   rw [S.2 a ha (lo + j) _ hj2,hj2]
def wordD (bl:List Int) (i:Nat):Int:=bwOr .u32 (bwOr .u32 (bwOr .u32 (shl .u32 (IntKind.u32.wrap (bl.getD (4 * i) 0)) (24:Int).toNat) (shl .u32 (IntKind.u32.wrap (bl.getD (4 * i + 1) 0)) (16:Int).toNat)) (shl .u32 (IntKind.u32.wrap (bl.getD (4 * i + 2) 0)) (8:Int).toNat)) (IntKind.u32.wrap (bl.getD (4 * i + 3) 0))
def schV (bl W:List Int) (n:Nat):Int :=
 if n < 16 then wordD bl n else IntKind.u32.wrap (IntKind.u32.wrap (IntKind.u32.wrap (W.getD (n - 16) 0 + turnD (W.getD (n - 15) 0) 7 18 3 true) + W.getD (n - 7) 0) + turnD (W.getD (n - 2) 0) 17 19 10 true)
def schUp (bl:List Int):Nat->List Int
 | 0=>List.replicate 64 0
 | n + 1=>(schUp bl n).set n (schV bl (schUp bl n) n)
theorem schUp_len (bl:List Int):∀ n,(schUp bl n).length=64
 | 0=>rfl
 | n + 1=>by rw [schUp,List.length_set]; exact schUp_len bl n
theorem u32_at {h:Heap} {b E:Nat} {W:List Int} (B:Blk h b (u32s W) E) {i:Nat} (hi:i < W.length):cellH h ⟨b,i,none⟩=some (.int .u32 (W.getD i 0)):=by
 rw [B.cell]; simp [hi]
theorem Sched_ok {s:Slc} {bl:List Int} {k:List Int->Heap->Prop} {h:Heap} (S:SlcAt h s (b8 bl)) (l:s.len=64) (lb:bl.length=64) (lc:s.len<=s.cap) (H:∀ h',Ext h.size h h'->k (schUp bl 64) h'):sha_schedule s k h:=by
 unfold sha_schedule
 refine ⟨_,_,rfl,rfl,_,_,rfl,rfl,?_⟩
 have P:=Blk.push h (arr 64 .u32 ([]:List Int)) 229
 have W2:=Ext.push h (.cells (arr 64 .u32 ([]:List Int)).toArray 229) (Nat.le_refl _)
 have pl:=P.lt
 generalize h.push (.cells (arr 64 .u32 ([]:List Int)).toArray 229)=h2 at *
 have z2:=W2.size
 have Q:Blk (h2.push (.cells (arr 64 .u32 ([]:List Int)).toArray 229)) h2.size (u32s (schUp bl 0)) 229:=Blk.push h2 (arr 64 .u32 ([]:List Int)) 229
 have W3:=Ext.push h2 (.cells (arr 64 .u32 ([]:List Int)).toArray 229) (Nat.le_refl _)
 generalize h2.push (.cells (arr 64 .u32 ([]:List Int)).toArray 229)=h4 at *
 have P4:=P.ext W3 pl
 have X4:Ext h.size h h4:=W2.trans (W3.mono z2)
 obtain ⟨b3,eb3⟩:∃ y,y=h2.size:=⟨_,rfl⟩
 obtain ⟨b1,eb1⟩:∃ y,y=h.size:=⟨_,rfl⟩
 rw [← eb3] at Q pl z2 ⊢
 rw [← eb1] at P4 X4 pl z2 H ⊢
 clear P
 unfold sha_schedule_l1
 refine ⟨fun i h'=>0<=i/\i<=64/\Blk h' b3 (u32s (schUp bl i.toNat)) 229/\Blk h' b1 (arr 64 .u32 ([]:List Int)) 229/\Ext b1 h h',fun i _=>(64 - i).toNat,⟨by omega,by omega,Q,P4,X4⟩,?_⟩
 rintro i h5 ⟨i0,i1,Q5,P5,X5⟩
 have lw:=schUp_len bl i.toNat
 unfold sha_schedule_l1b
 by_cases c:i < 64
 ·rw [if_pos (by rw [decide_eq_true_eq]; exact c)]
  have step:∀ h6,Ext h5.size h5 h6->WrH h6 ⟨b3,i.toNat,none⟩/\∀ v,v=schV bl (schUp bl i.toNat) i.toNat->sha_schedule_j2 s ⟨b1,0,none⟩ ⟨b3,0,none⟩ i k (fun i' h'=>(0<=i'/\i'<=64/\Blk h' b3 (u32s (schUp bl i'.toNat)) 229/\Blk h' b1 (arr 64 .u32 ([]:List Int)) 229/\Ext b1 h h')/\(64 - i').toNat < (64 - i).toNat) (setH h6 ⟨b3,i.toNat,none⟩ (.int .u32 v)):=fun h6 X6=>by
   have Q6:=Q5.ext X6 Q5.lt
   have P6:=P5.ext X6 P5.lt
   refine ⟨Q6.wr (by rw [List.length_map,lw]; omega),fun v hv=>?_⟩
   unfold sha_schedule_j2
   rw [wrapI64 (by omega) (by omega)]
   refine ⟨⟨by omega,by omega,?_,P6.old (setH_other (by show b1≠b3; omega)),?_⟩,by omega⟩
   ·have:=Q6.set (i:=i.toNat) (v:=.int .u32 v)
    rw [show (i + 1).toNat=i.toNat + 1 from by omega,schUp,u32s,List.map_set,← hv]
    exact this
   ·refine X5.trans ⟨by rw [setH_size]; exact X6.size,fun j hj=>?_⟩
    rw [setH_other (by show j≠b3; omega)]
    exact X6.block j (by have:=P5.lt; omega)
  by_cases d:i < 16
  ·rw [if_pos (by rw [decide_eq_true_eq]; exact d)]
   have S5:SlcAt h5 s (b8 bl):=S.ext (by rw [← eb1]; exact X5)
   have lbb:(b8 bl).length=64:=by rw [List.length_map,lb]
   rw [wrapI64 (x:=4 * i) (by omega) (by omega)]
   obtain ⟨a,ha,hl,hc⟩:=sub_at (lo:=(4 * i).toNat) (hi:=((s.len:Nat):Int).toNat) (m:=((s.cap:Nat):Int).toNat) S5 (by omega) (by omega) (by omega) (by omega)
   refine ⟨_,by omega,by omega,by omega,by omega,rfl,?_⟩
   generalize subS s 1 (4 * i).toNat ((s.len:Nat):Int).toNat ((s.cap:Nat):Int).toNat=s5 at *
   have cj:∀ j:Nat,j < 4->cellH h5 (a.add (j * 1))=some (.int .u8 (bl.getD (4 * i.toNat + j) 0)):=fun j hj=>by
    rw [Nat.mul_one,hc j (by omega),show (4 * i).toNat + j=4 * i.toNat + j from by omega]
    have:4 * i.toNat + j < bl.length:=by omega
    simp [this]
   refine ⟨a,ha,by omega,by omega,_,cj 0 (by omega),a,ha,by omega,by omega,_,cj 1 (by omega),a,ha,by omega,by omega,_,cj 2 (by omega),a,ha,by omega,by omega,_,cj 3 (by omega),i0,c,?_⟩
   obtain ⟨w1,w2⟩:=step h5 (Ext.refl _ _)
   refine ⟨_,by rw [add_mk,Nat.zero_add,Nat.mul_one]; exact w1,rfl,?_⟩
   rw [add_mk,Nat.zero_add,Nat.mul_one]
   refine w2 _ ?_
   unfold schV wordD
   rw [if_pos (by omega)]
   rfl
  ·rw [if_neg (by rw [decide_eq_true_eq]; exact d)]
   rw [wrapI64 (x:=i - 16) (by omega) (by omega),wrapI64 (x:=i - 15) (by omega) (by omega),wrapI64 (x:=i - 7) (by omega) (by omega),wrapI64 (x:=i - 2) (by omega) (by omega)]
   have cj:∀ (h6:Heap),Ext h5.size h5 h6->∀ j:Nat,j<=i.toNat->cellH h6 ((⟨b3,0,none⟩:Addr).add ((i - (j:Int)).toNat * 1))=some (.int .u32 ((schUp bl i.toNat).getD (i.toNat - j) 0)):=fun h6 X6 j hj=>by
    rw [add_mk,Nat.zero_add,Nat.mul_one,u32_at (Q5.ext X6 Q5.lt) (by omega),show (i - (j:Int)).toNat=i.toNat - j from by omega]
   have X0:=Ext.refl h5.size h5
   refine ⟨by omega,by omega,_,cj h5 X0 16 (by omega),by omega,by omega,_,cj h5 X0 15 (by omega),by omega,by omega,_,cj h5 X0 7 (by omega),by omega,by omega,_,cj h5 X0 2 (by omega),Turned_ok ⟨cj h5 X0 2 (by omega),cj h5 X0 7 (by omega),cj h5 X0 16 (by omega),Turned_ok ⟨cj h5 X0 7 (by omega),cj h5 X0 16 (by omega),i0,c,?_⟩⟩⟩
   obtain ⟨w1,w2⟩:=step h5 X0
   refine ⟨_,by rw [add_mk,Nat.zero_add,Nat.mul_one]; exact w1,rfl,?_⟩
   rw [add_mk,Nat.zero_add,Nat.mul_one]
   refine w2 _ ?_
   unfold schV
   rw [if_neg (by omega)]
 ·rw [if_neg (by rw [decide_eq_true_eq]; exact c)]
  have e:i.toNat=64:=by omega
  rw [e] at Q5 lw
  have ea:arr 64 .u32 (schUp bl 64)=u32s (schUp bl 64):=arr_full lw
  refine ⟨schUp bl 64,by rw [ea]; exact CellsAt.of_blk Q5,_,WrsAt.of_blk P5 (by show 64<=64; omega),rfl,schUp bl 64,?_,?_⟩
  ·exact CellsAt.of_blk (P5.sets_all (by rw [ea,List.length_map,lw]; rfl))
  ·exact H _ (X5.trans (Ext.sets _ _ _ (Nat.le_refl _)))
end Go.Q.Yk
end
section
set_option maxRecDepth 100000
/- Slot: words go through a block. -/
namespace Go.Q.Yk
abbrev wr32 (x:Int):Int:=IntKind.u32.wrap x
def oneD (V:List Int) (w c:Int):Int:=wr32 (wr32 (wr32 (wr32 (V.getD 7 0 + turnD (V.getD 4 0) 6 11 25 false) + bwXor .u32 (bwAnd .u32 (V.getD 4 0) (V.getD 5 0)) (bwAnd .u32 (bwXor .u32 4294967295 (V.getD 4 0)) (V.getD 6 0))) + c) + w)
def twoD (V:List Int):Int:=wr32 (turnD (V.getD 0 0) 2 13 22 false + bwXor .u32 (bwXor .u32 (bwAnd .u32 (V.getD 0 0) (V.getD 1 0)) (bwAnd .u32 (V.getD 0 0) (V.getD 2 0))) (bwAnd .u32 (V.getD 1 0) (V.getD 2 0)))
def movD (V:List Int):List Int:=V.take 1 ++ V.take 7
def rnd (V:List Int) (w c:Int):List Int:=((movD V).set 0 (wr32 (oneD V w c + twoD V))).set 4 (wr32 ((movD V).getD 4 0 + oneD V w c))
def rndUp (V0 W:List Int):Nat->List Int
 | 0=>V0
 | n + 1=>rnd (rndUp V0 W n) (W.getD n 0) (rcL.getD n 0)
def addUp (H V:List Int):Nat->List Int
 | 0=>H
 | n + 1=>(addUp H V n).set n (wr32 ((addUp H V n).getD n 0 + V.getD n 0))
def stepD (H bl:List Int):List Int:=addUp H (rndUp H (schUp bl 64) 64) 8
theorem mov_len {V:List Int} (h:V.length=8):(movD V).length=8:=by unfold movD; rw [List.length_append,List.length_take,List.length_take]; omega
theorem rnd_len {V:List Int} (w c:Int) (h:V.length=8):(rnd V w c).length=8:=by unfold rnd; rw [List.length_set,List.length_set]; exact mov_len h
theorem rndUp_len {V0 W:List Int} (h:V0.length=8):∀ n,(rndUp V0 W n).length=8
 | 0=>h
 | n + 1=>rnd_len _ _ (rndUp_len h n)
theorem addUp_len {H V:List Int} (h:H.length=8):∀ n,(addUp H V n).length=8
 | 0=>h
 | n + 1=>by rw [addUp,List.length_set]; exact addUp_len h n
theorem step_len {H bl:List Int} (h:H.length=8):(stepD H bl).length=8:=addUp_len h 8
theorem rc_at {h:Heap} (r:R0 h) {i:Nat} (hi:i < 64):cellH h ((⟨0,0,none⟩:Addr).add (i * 1))=some (.int .u32 (rcL.getD i 0)):=by
 rw [Nat.mul_one]
 have hl:i < rcL.length:=hi
 exact r i _ (by simp [hl])
theorem cpy_mk {sz:Nat} {h:Heap} {d s:Slc} {news:List Value} {k:Heap->Prop} {a:Addr} (ha:d.a=some a) (h1:∃ all,SlcAt h s all/\all.length=s.len * sz/\news=all.take (min s.len d.len * sz)) (h2:∀ v∈news,v.oneCell'=true) (h3:WrsAt h a news.length) (K:k (setsH h a 0 news)):Cpy sz h d s news k:=by
 refine ⟨h1,h2,fun hn=>(by rw [ha] at hn; cases hn),fun b hb=>?_,?_⟩
 ·rw [ha] at hb; cases hb; exact h3
 ·rw [ha]; exact K
theorem Step_ok {H:List Int} {s:Slc} {bl:List Int} {k:List Int->Heap->Prop} {h:Heap} (r:R0 h) (hH:H.length=8) (S:SlcAt h s (b8 bl)) (l:s.len=64) (lb:bl.length=64) (lc:s.len<=s.cap)
  (F:∀ h',Ext h.size h h'->k (stepD H bl) h'):sha_words_step H s k h:=by
 have r0:=r.pos
 unfold sha_words_step
 have eH:arr 8 .u32 H=u32s H:=arr_full hH
 refine ⟨_,_,rfl,rfl,_,_,rfl,rfl,?_⟩
 have P:=Blk.push h (arr 8 .u32 H) 218
 have W2:=Ext.push h (.cells (arr 8 .u32 H).toArray 218) (Nat.le_refl _)
 have pl:=P.lt
 generalize h.push (.cells (arr 8 .u32 H).toArray 218)=h2 at *
 have z2:=W2.size
 have Q:=Blk.push h2 (arr 8 .u32 ([]:List Int)) 218
 have W3:=Ext.push h2 (.cells (arr 8 .u32 ([]:List Int)).toArray 218) (Nat.le_refl _)
 have ql:=Q.lt
 generalize h2.push (.cells (arr 8 .u32 ([]:List Int)).toArray 218)=h4 at *
 have P4:=P.ext W3 pl
 have X4:Ext h.size h h4:=W2.trans (W3.mono z2)
 have z4:=X4.size
 have z24:=W3.size
 refine ⟨H,CellsAt.of_blk P4,_,_,rfl,rfl,?_⟩
 have V:=Blk.push h4 (arr 8 .u32 ([]:List Int)) 218
 have W5:=Ext.push h4 (.cells (arr 8 .u32 ([]:List Int)).toArray 218) (Nat.le_refl _)
 generalize h4.push (.cells (arr 8 .u32 ([]:List Int)).toArray 218)=h7 at *
 refine ⟨_,WrsAt.of_blk V (by show 8<=8; omega),rfl,?_⟩
 have V8:Blk (setsH h7 ⟨h4.size,0,none⟩ 0 (arr 8 .u32 H)) h4.size (arr 8 .u32 H) 218:=V.sets_all (by rw [eH,List.length_map,hH]; rfl)
 have X8:Ext h4.size h4 (setsH h7 ⟨h4.size,0,none⟩ 0 (arr 8 .u32 H)):=W5.trans (Ext.sets _ _ _ (Nat.le_refl _))
 generalize setsH h7 ⟨h4.size,0,none⟩ 0 (arr 8 .u32 H)=h8 at *
 have z8:=X8.size
 have vl:=V8.lt
 obtain ⟨b6,eb6⟩:∃ y,y=h4.size:=⟨_,rfl⟩
 obtain ⟨b3,eb3⟩:∃ y,y=h2.size:=⟨_,rfl⟩
 obtain ⟨b1,eb1⟩:∃ y,y=h.size:=⟨_,rfl⟩
 have X08:Ext b1 h h8:=by rw [eb1]; exact X4.trans (X8.mono z4)
 have P8:=P4.ext X8 (by omega)
 have Q8:=Q.ext X8 (by omega)
 have S8:SlcAt h8 s (b8 bl):=S.ext (by rw [← eb1]; exact X08)
 refine Sched_ok S8 l lb lc fun h10 X10=>?_
 have P10:=P8.ext X10 (by omega)
 have Q10:=Q8.ext X10 (by omega)
 have V10:=V8.ext X10 vl
 have X010:Ext b1 h h10:=X08.trans (X10.mono (by omega))
 rw [← eb6] at V10 ⊢
 rw [← eb3] at Q10 ⊢
 rw [← eb1] at P10 F r0 ⊢
 rw [eH] at P10 V10
 clear P P4 P8 Q Q8 V V8 W2 W3 W5 X4 X8 X10 X08 S8
 have dis:b1≠b3/\b1≠b6/\b3≠b6/\b1<=b3/\b1<=b6:=by omega
 generalize eW:schUp bl 64=W at *
 unfold sha_words_step_l1
 refine ⟨fun i h'=>0<=i/\i<=64/\Blk h' b1 (u32s H) 218/\Blk h' b3 (arr 8 .u32 ([]:List Int)) 218/\Blk h' b6 (u32s (rndUp H W i.toNat)) 218/\Ext b1 h h',fun i _=>(64 - i).toNat,⟨by omega,by omega,P10,Q10,V10,X010⟩,?_⟩
 rintro i h1 ⟨i0,i1,P1,Q1,V1,X1⟩
 have lv:=rndUp_len (W:=W) hH i.toNat
 unfold sha_words_step_l1b
 by_cases c:i < 64
 ·rw [if_pos (by rw [decide_eq_true_eq]; exact c)]
  generalize eV:rndUp H W i.toNat=Vi at *
  have cv:∀ j:Nat,j < 8->cellH h1 ((⟨b6,0,none⟩:Addr).add ((j:Int).toNat * 1))=some (.int .u32 (Vi.getD j 0)):=fun j hj=>by
   rw [add_mk,Nat.zero_add,Nat.mul_one,Int.toNat_natCast,u32_at V1 (by omega)]
  have cr:=rc_at (r.ext X1 r0) (i:=i.toNat) (by omega)
  refine ⟨i0,c,_,rfl,by omega,by omega,_,cv 0 (by omega),by omega,by omega,_,cv 4 (by omega),by omega,by omega,_,cv 7 (by omega),by omega,by omega,_,cv 5 (by omega),by omega,by omega,_,cv 6 (by omega),i0,c,_,cr,Turned_ok ⟨cr,cv 6 (by omega),cv 5 (by omega),cv 7 (by omega),
   by omega,by omega,_,cv 1 (by omega),by omega,by omega,_,cv 2 (by omega),by omega,by omega,_,cv 1 (by omega),by omega,by omega,_,cv 2 (by omega),Turned_ok ⟨cv 2 (by omega),cv 1 (by omega),cv 2 (by omega),cv 1 (by omega),_,by omega,by omega,by omega,rfl,_,by omega,by omega,by omega,rfl,u32s (Vi.take 7),?_⟩⟩⟩
  have lu:(u32s Vi).length=8:=by rw [List.length_map,lv]
  have l7:(u32s (Vi.take 7)).length=7:=by rw [List.length_map,List.length_take]; omega
  refine cpy_mk (a:=⟨b6,1,none⟩) ?_ ⟨u32s (Vi.take 7),?_,?_,?_⟩ (u32s_one _) (fun j hj=>?_) ?_
  ·show some ((⟨b6,0,none⟩:Addr).add 1)=_
   rw [add_mk]
  ·refine ⟨fun hn=>?_,fun a ha j v hj=>?_⟩
   ·have:some (((⟨b6,0,none⟩:Addr).add 0))=none:=hn
    cases this
   have ea:a=⟨b6,0,none⟩:=by
    have:some (((⟨b6,0,none⟩:Addr).add 0))=some a:=ha
    rw [add_mk] at this
    exact (Option.some.inj this).symm
   rw [ea,add_mk,Nat.zero_add,V1.cell]
   rw [u32s,List.map_take,List.getElem?_take] at hj
   split at hj
   ·exact hj
   ·cases hj
  ·rw [l7]; rfl
  ·exact (List.take_of_length_le (by rw [l7]; show 7<=min (7 - 0) (8 - 1) * 1; omega)).symm
  ·rw [add_mk]
   exact V1.wr (by omega)
  ·skip
   have V2:Blk (setsH h1 ⟨b6,1,none⟩ 0 (u32s (Vi.take 7))) b6 (u32s (movD Vi)) 218:=by
    have:=Blk.sets (u32s (Vi.take 7)) 1 0 V1 (by rw [l7,lu]; omega)
    rw [l7,List.drop_of_length_le (by rw [lu]; omega),List.append_nil] at this
    rw [show u32s (movD Vi)=(u32s Vi).take (1 + 0) ++ u32s (Vi.take 7) from by unfold movD; rw [u32s,List.map_append,List.map_take]]
    exact this
   have o2:∀ j,j≠b6->(setsH h1 ⟨b6,1,none⟩ 0 (u32s (Vi.take 7)))[j]? = h1[j]?:=fun j hj=>setsH_other _ _ hj
   have s2:(setsH h1 ⟨b6,1,none⟩ 0 (u32s (Vi.take 7))).size=h1.size:=setsH_size _ _
   generalize setsH h1 ⟨b6,1,none⟩ 0 (u32s (Vi.take 7))=h2' at *
   have lm:(movD Vi).length=8:=mov_len lv
   have lmu:(u32s (movD Vi)).length=8:=by rw [List.length_map,lm]
   refine ⟨by omega,by omega,(movD Vi).getD 4 0,?_,by omega,by omega,_,?_,rfl,by omega,by omega,_,?_,rfl,?_⟩
   ·rw [add_mk]; exact u32_at V2 (by omega)
   ·rw [add_mk]; exact V2.wr (by rw [lmu]; omega)
   ·rw [add_mk,add_mk]; exact V2.set.wr (by rw [List.length_set,lmu]; omega)
   ·rw [add_mk,add_mk]
    have V4:=(V2.set (i:=0 + (0:Int).toNat * 1) (v:=.int .u32 (wr32 (oneD Vi (W.getD i.toNat 0) (rcL.getD i.toNat 0) + twoD Vi)))).set (i:=0 + (4:Int).toNat * 1) (v:=.int .u32 (wr32 ((movD Vi).getD 4 0 + oneD Vi (W.getD i.toNat 0) (rcL.getD i.toNat 0))))
    rw [wrapI64 (by omega) (by omega)]
    refine ⟨⟨by omega,by omega,P1.old ?_,Q1.old ?_,?_,?_⟩,by dsimp only; omega⟩
    ·rw [setH_other dis.2.1,setH_other dis.2.1]; exact o2 _ dis.2.1
    ·rw [setH_other dis.2.2.1,setH_other dis.2.2.1]; exact o2 _ dis.2.2.1
    ·rw [show (i + 1).toNat=i.toNat + 1 from by omega,rndUp,eV]
     unfold rnd
     rw [u32s,List.map_set,List.map_set]
     exact V4
    ·refine X1.trans ⟨by rw [setH_size,setH_size,s2]; exact Nat.le_refl _,fun j hj=>?_⟩
     rw [setH_other (show j≠b6 by omega),setH_other (show j≠b6 by omega)]
     exact o2 j (by omega)
 ·rw [if_neg (by rw [decide_eq_true_eq]; exact c)]
  have e:i.toNat=64:=by omega
  rw [e] at V1 lv
  generalize eV:rndUp H W 64=Vf at *
  have hf:stepD H bl=addUp H Vf 8:=by unfold stepD; rw [eW,eV]
  unfold sha_words_step_l2
  refine ⟨fun j h'=>0<=j/\j<=8/\Blk h' b1 (u32s (addUp H Vf j.toNat)) 218/\Blk h' b3 (arr 8 .u32 ([]:List Int)) 218/\Blk h' b6 (u32s Vf) 218/\Ext b1 h h',fun j _=>(8 - j).toNat,⟨by omega,by omega,P1,Q1,V1,X1⟩,?_⟩
  rintro j h2' ⟨j0,j1,P2,Q2,V2,X2⟩
  have la:=addUp_len (V:=Vf) hH j.toNat
  unfold sha_words_step_l2b
  by_cases cj:j < 8
  ·rw [if_pos (by rw [decide_eq_true_eq]; exact cj)]
   refine ⟨j0,cj,_,by rw [add_mk,Nat.zero_add,Nat.mul_one]; exact u32_at P2 (by omega),j0,cj,_,by rw [add_mk,Nat.zero_add,Nat.mul_one]; exact u32_at V2 (by omega),j0,cj,_,by rw [add_mk,Nat.zero_add,Nat.mul_one]; exact P2.wr (by rw [List.length_map]; omega),rfl,?_⟩
   rw [add_mk,Nat.zero_add,Nat.mul_one,wrapI64 (by omega) (by omega)]
   refine ⟨⟨by omega,by omega,?_,Q2.old (setH_other dis.1.symm),V2.old (setH_other dis.2.1.symm),X2.trans (Ext.set _ _ (Nat.le_refl _))⟩,by dsimp only; omega⟩
   rw [show (j + 1).toNat=j.toNat + 1 from by omega,addUp,u32s,List.map_set]
   exact P2.set
  ·rw [if_neg (by rw [decide_eq_true_eq]; exact cj)]
   have e2:j.toNat=8:=by omega
   rw [e2] at P2 la
   have ea:arr 8 .u32 (addUp H Vf 8)=u32s (addUp H Vf 8):=arr_full la
   refine ⟨addUp H Vf 8,by rw [ea]; exact CellsAt.of_blk P2,_,WrsAt.of_blk Q2 (by show 8<=8; omega),rfl,addUp H Vf 8,CellsAt.of_blk (Q2.sets_all (by rw [ea,List.length_map,la]; rfl)),?_⟩
   rw [← hf]
   exact F _ (X2.trans (Ext.sets _ _ _ dis.2.2.2.1))
end Go.Q.Yk
end
section
/- Slot: rows of bytes are laid one behind the other. -/
namespace Go.Q.Yk
theorem Row.cut0 {B:Nat} {h:Heap} {E w:Nat} {s:Slc} {xs:List Value} (R:Row B h E w s xs):Row B h E w ⟨s.a,0,s.cap⟩ []:=by
 refine ⟨by simp,R.2.1,?_⟩
 rcases R.2.2 with ⟨a,b,c⟩ | ⟨g,cur,a,b,c,d,e,f⟩
 ·exact .inl ⟨a,rfl,c⟩
 ·exact .inr ⟨g,cur,a,b,c,Nat.zero_le _,e,by simp⟩
theorem zeros_b8 (n:Nat):(Builtin.zeroCells ([.int .u8 0]:List Value).toArray n).toList=b8 (List.replicate n 0):=by
 rw [zeroCells_zrow]
 unfold zrow
 simp
theorem Grow_ok {n:Int} {k:Slc->Heap->Prop} {h:Heap} (n0:0<=n) (n1:n<=1000000) (H:∀ s' h',Row h.size h' 5 1 s' []->Ext h.size h h'->k s' h'):slices_Grow_byte_byte ⟨none,0,0⟩ n k h:=by
 unfold slices_Grow_byte_byte
 rw [if_neg (by rw [decide_eq_true_eq]; omega)]
 unfold slices_Grow_byte_byte_j1
 refine ⟨_,rfl,?_⟩
 have e0:IntKind.i64.wrap (n - IntKind.i64.wrap ((((⟨none,0,0⟩:Slc).cap:Nat):Int) - (((⟨none,0,0⟩:Slc).len:Nat):Int)))=n:=by
  rw [show ((((⟨none,0,0⟩:Slc).cap:Nat):Int) - (((⟨none,0,0⟩:Slc).len:Nat):Int))=0 from rfl,wrapI64 (x:=0) (by omega) (by omega),wrapI64 (by omega) (by omega)]; omega
 rw [e0]
 by_cases c:n > 0
 ·rw [if_pos (by rw [decide_eq_true_eq]; exact c)]
  refine ⟨⟨none,0,0⟩,by omega,by simp,by simp,by simp,rfl,n0,by show 0 < 0 + n.toNat; omega,by omega,?_⟩
  rw [zeros_b8]
  refine App.row2 (Row.nil h.size h 5 1) (Nat.le_refl _) rfl (by simp) (b8_one _) (by simp only; omega) (by simp only [maxLen]; omega) fun s3 h4 R3 l3 z3 kp _ _=>?_
  have Rc:=Row.cut0 R3
  refine ⟨⟨s3.a,0,s3.cap⟩,by omega,by simp,by simp,by omega,?_,?_⟩
  ·unfold subS
   simp only [Int.toNat_zero,Int.toNat_natCast,Nat.sub_zero,Nat.zero_mul]
   congr 1
   split
   ·rfl
   ·cases s3.a <;> rfl
  ·unfold slices_Grow_byte_byte_j2
   exact H _ _ Rc ⟨z3,fun i hi=>kp i hi (by simp [Slc.blk])⟩
 ·rw [if_neg (by rw [decide_eq_true_eq]; exact c)]
  unfold slices_Grow_byte_byte_j2
  exact H _ _ (Row.nil _ _ _ _) (Ext.refl _ _)
abbrev flatS (L:List (Slc × List Int)):List Int:=(L.map (·.2)).flatten
theorem flat_take {L:List (Slc × List Int)} {i:Nat} (hi:i < L.length):flatS (L.take (i + 1))=flatS (L.take i) ++ L[i].2:=by
 unfold flatS
 rw [List.take_add_one,List.getElem?_eq_getElem hi,Option.toList_some,List.map_append,List.flatten_append]
 simp only [List.map_cons,List.map_nil,List.flatten_cons,List.flatten_nil,List.append_nil]
theorem flat_le {L:List (Slc × List Int)} (i:Nat):(flatS (L.take i)).length<=(flatS L).length:=by
 conv=>rhs; rw [← List.take_append_drop i L]
 rw [flatS,flatS,List.map_append,List.flatten_append,List.length_append]; omega
theorem Concat_ok {p0:Slc} {L:List (Slc × List Int)} {k:Slc->Heap->Prop} {h:Heap} (S:SlcAt h p0 (L.map fun q=>Slc.v q.1)) (l:p0.len=L.length) (A:∀ q∈L,SlcAt h q.1 (b8 q.2)/\q.1.len=q.2.length) (m:L.length<=10) (fl:(flatS L).length<=100000)
  (H:∀ s' h',Row h.size h' 5 1 s' (b8 (flatS L))->Ext h.size h h'->k s' h'):slices_Concat_byte_byte p0 k h:=by
 have get:∀ {h'},Ext h.size h h'->∀ i:Int,0<=i->(hi:i.toNat < L.length)->∃ a,p0.a=some a/\cellH h' (a.add (i.toNat * 1))=some (Slc.v L[i.toNat].1):=fun {h'} X i i0 hi=>by
  have S':=S.ext X
  have hg:(L.map fun q=>Slc.v q.1)[i.toNat]? = some (Slc.v L[i.toNat].1):=by simp [hi]
  cases ha:p0.a with
  | none=>have:=S'.1 ha; rw [this] at hg; simp at hg
  | some a=>exact ⟨a,rfl,by rw [Nat.mul_one]; exact S'.2 a ha _ _ hg⟩
 unfold slices_Concat_byte_byte slices_Concat_byte_byte_l1
 refine ⟨fun q h'=>h'=h/\0<=q.2/\q.2<=L.length/\q.1=((flatS (L.take q.2.toNat)).length:Nat),fun q _=>(L.length - q.2).toNat,⟨rfl,by omega,by omega,rfl⟩,?_⟩
 rintro t i h' ⟨rfl,i0,i1,et⟩
 dsimp only at i0 i1 et
 unfold slices_Concat_byte_byte_l1b
 have le:=flat_le (L:=L) i.toNat
 by_cases c:i < L.length
 ·rw [if_pos (by rw [decide_eq_true_eq]; omega)]
  have hi:i.toNat < L.length:=by omega
  obtain ⟨a,ha,hc⟩:=get (Ext.refl _ _) i i0 hi
  obtain ⟨_,lq⟩:=A _ (List.getElem_mem hi)
  have le2:=flat_le (L:=L) (i.toNat + 1)
  have ft:=congrArg List.length (flat_take hi)
  rw [List.length_append] at ft
  refine ⟨a,ha,i0,by omega,_,hc,_,rfl,?_⟩
  rw [wrapI64 (by omega) (by omega),if_neg (by rw [decide_eq_true_eq]; omega)]
  unfold slices_Concat_byte_byte_j2
  rw [wrapI64 (by omega) (by omega)]
  refine ⟨⟨rfl,by dsimp only; omega,by dsimp only; omega,?_⟩,by dsimp only; omega⟩
  dsimp only
  rw [show (i + 1).toNat=i.toNat + 1 from by omega,ft,lq,et]; omega
 ·rw [if_neg (by rw [decide_eq_true_eq]; omega)]
  refine Grow_ok (by omega) (by omega) fun s5 h5 R5 X5=>?_
  unfold slices_Concat_byte_byte_l3
  refine ⟨fun q h''=>0<=q.2/\q.2<=L.length/\Row h'.size h'' 5 1 q.1 (b8 (flatS (L.take q.2.toNat)))/\Ext h'.size h' h'',fun q _=>(L.length - q.2).toNat,⟨by omega,by omega,by simpa [flatS] using R5,X5⟩,?_⟩
  rintro s j h6 ⟨j0,j1,R6,X6⟩
  dsimp only at j0 j1 R6
  unfold slices_Concat_byte_byte_l3b
  by_cases d:j < L.length
  ·rw [if_pos (by rw [decide_eq_true_eq]; omega)]
   have hj:j.toNat < L.length:=by omega
   obtain ⟨a,ha,hc⟩:=get X6 j j0 hj
   obtain ⟨Aq,lq⟩:=A _ (List.getElem_mem hj)
   have le2:=flat_le (L:=L) (j.toNat + 1)
   have ft:=congrArg List.length (flat_take hj)
   rw [List.length_append] at ft
   have ls:s.len=(flatS (L.take j.toNat)).length:=by have:=R6.len; rw [this,List.length_map]
   refine ⟨a,ha,j0,by omega,_,hc,b8 L[j.toNat].2,Aq.ext X6,?_⟩
   refine App.row2 R6 X6.size rfl (by rw [List.length_map,lq]; omega) (b8_one _) (by omega) (by simp only [maxLen]; omega) fun s7 h7 R7 _ z7 kp _ _=>?_
   rw [wrapI64 (by omega) (by omega)]
   refine ⟨⟨by dsimp only; omega,by dsimp only; omega,?_,X6.trans ⟨z7,fun i hi=>kp i (by have:=X6.size; omega) fun e=>by have:=(R6.bd e).1; omega⟩⟩,by dsimp only; omega⟩
   dsimp only
   rw [show (j + 1).toNat=j.toNat + 1 from by omega,flat_take hj,b8,List.map_append]
   exact R7
  ·rw [if_neg (by rw [decide_eq_true_eq]; omega)]
   rw [show j.toNat=L.length from by omega,List.take_length] at R6
   exact H s h6 R6 X6
end Go.Q.Yk
end
section
set_option maxRecDepth 100000
/- Slot: the fingerprint of bytes. -/
namespace Go.Q.Yk
theorem and63 {n:Nat} (h:n < 1000000):bwAnd .i64 (n:Int) 63=((n % 64:Nat):Int):=by
 have e:(BitVec.ofInt 64 (n:Int) &&& BitVec.ofInt 64 63).toNat=n % 64:=by
  rw [BitVec.toNat_and]
  have e1:(BitVec.ofInt 64 (n:Int)).toNat=n:=by simp; omega
  have e2:(BitVec.ofInt 64 63).toNat=63:=by decide
  rw [e1,e2]
  exact Nat.and_two_pow_sub_one_eq_mod n 6
 show IntKind.i64.wrap (((BitVec.ofInt 64 (n:Int) &&& BitVec.ofInt 64 63).toNat:Nat):Int)=_
 rw [e]
 have:=Nat.mod_lt n (show 64 > 0 by omega)
 exact wrapI64 (by omega) (by omega)
def sizeD (n:Nat):Int:=shl .u64 (IntKind.u64.wrap (n:Int)) (3:Int).toNat
def lenB (z:Int):List Int:=[56,48,40,32,24,16,8,0].map fun i=>IntKind.u8.wrap (shr .u64 z (IntKind.u64.wrap i).toNat)
def padN (n:Nat):Nat:=(119 - n % 64) % 64
def padD (bs:List Int):List Int:=bs ++ [128] ++ List.replicate (padN bs.length) 0 ++ lenB (sizeD bs.length)
theorem padD_len (bs:List Int):∃ c,(padD bs).length=64 * (c + 1):=by
 refine ⟨(bs.length + 9 + padN bs.length) / 64 - 1,?_⟩
 unfold padD
 rw [List.length_append,List.length_append,List.length_append,List.length_replicate]
 show bs.length + 1 + padN bs.length + 8=_
 unfold padN; omega
def startL:List Int:=[1779033703,3144134277,1013904242,2773480762,1359893119,2600822924,528734635,1541459225]
def blkUp (M:List Int):Nat->List Int
 | 0=>startL
 | n + 1=>stepD (blkUp M n) ((M.drop (64 * n)).take 64)
theorem blkUp_len (M:List Int):∀ n,(blkUp M n).length=8
 | 0=>rfl
 | n + 1=>step_len (blkUp_len M n)
def outV (H:List Int) (i:Int):Int:=IntKind.u8.wrap (shr .u32 (H.getD (shr .i64 i (2:Int).toNat).toNat 0) (IntKind.u64.wrap (24 - IntKind.u64.wrap (8 * bwAnd .u64 (IntKind.u64.wrap i) 3))).toNat)
def outUp (H:List Int):Nat->List Int
 | 0=>List.replicate 32 0
 | n + 1=>(outUp H n).set n (outV H n)
theorem outUp_len (H:List Int):∀ n,(outUp H n).length=32
 | 0=>rfl
 | n + 1=>by rw [outUp,List.length_set]; exact outUp_len H n
def shaD (bs:List Int):List Int:=outUp (blkUp (padD bs) ((padD bs).length / 64)) 32
theorem shaD_len (bs:List Int):(shaD bs).length=32:=outUp_len _ _
theorem shaD_B (bs:List Int):∀ b∈shaD bs,0<=b/\b < 256:=by
 have g:∀ (H:List Int) n,∀ b∈outUp H n,0<=b/\b < 256:=fun H n=>by
  induction n with
  | zero=>intro b hb; have:=(List.mem_replicate.1 hb).2; omega
  | succ n ih =>
   intro b hb
   rcases List.mem_or_eq_of_mem_set hb with h | h
   ·exact ih b h
   ·rw [h]; unfold outV IntKind.wrap; simp [IntKind.signed,IntKind.bits]; omega
 exact g _ _
theorem Start_ok {k:List Int->Heap->Prop} {h:Heap} (H:∀ h',Ext h.size h h'->k startL h'):sha_start k h:=by
 unfold sha_start
 refine ⟨_,_,rfl,rfl,?_⟩
 have P:=Blk.push h (arr 8 .u32 ([]:List Int)) 218
 have W:=Ext.push h (.cells (arr 8 .u32 ([]:List Int)).toArray 218) (Nat.le_refl _)
 generalize h.push (.cells (arr 8 .u32 ([]:List Int)).toArray 218)=h2 at *
 refine ⟨_,WrsAt.of_blk P (by show 8<=8; omega),rfl,startL,CellsAt.of_blk (P.sets_all rfl),?_⟩
 exact H _ (W.trans (Ext.sets _ _ _ (Nat.le_refl _)))
theorem shr2 {i:Int} (h0:0<=i):shr .i64 i (2:Int).toNat=i / 4:=by
 unfold shr
 rw [show (2:Int) ^ (min (2:Int).toNat IntKind.i64.bits)=4 from rfl,Int.fdiv_eq_ediv_of_nonneg _ (by omega)]
/-- the words are told as bytes -/
theorem Out_ok {b2 b6 b7:Nat} {Hs:List Int} {B:Nat} {h0 h:Heap} {k:List Int->Heap->Prop} {nx1:Slc->Heap->Prop} {nx2:Slc × Int->Heap->Prop} {nx3:Slc->Heap->Prop} (P2:Blk h b2 (arr 32 .u8 ([]:List Int)) 27) (P6:Blk h b6 (u32s Hs) 218) (P7:Blk h b7 (arr 32 .u8 ([]:List Int)) 27)
  (d:b2≠b6/\b2≠b7/\b6≠b7) (Bb:B<=b2/\B<=b7) (lH:Hs.length=8) (X:Ext B h0 h) (H:∀ h',Ext B h0 h'->k (outUp Hs 32) h'):sha_Of_l4 ⟨b2,0,none⟩ ⟨b6,0,none⟩ ⟨b7,0,none⟩ 0 k nx1 nx2 nx3 h:=by
 unfold sha_Of_l4
 have P7':Blk h b7 (b8 (outUp Hs 0)) 27:=P7
 refine ⟨fun i h'=>0<=i/\i<=32/\Blk h' b2 (arr 32 .u8 ([]:List Int)) 27/\Blk h' b6 (u32s Hs) 218/\Blk h' b7 (b8 (outUp Hs i.toNat)) 27/\Ext B h0 h',fun i _=>(32 - i).toNat,⟨by omega,by omega,P2,P6,P7',X⟩,?_⟩
 rintro i h1 ⟨i0,i1,Q2,Q6,Q7,X1⟩
 have lo:=outUp_len Hs i.toNat
 unfold sha_Of_l4b
 by_cases c:i < 32
 ·rw [if_pos (by rw [decide_eq_true_eq]; exact c)]
  have e2:=shr2 i0
  refine ⟨by omega,by omega,Hs.getD (shr .i64 i (2:Int).toNat).toNat 0,by rw [add_mk,Nat.zero_add,Nat.mul_one]; exact u32_at Q6 (by omega),nn64 _,i0,c,_,by rw [add_mk,Nat.zero_add,Nat.mul_one]; exact Q7.wr (by rw [List.length_map]; omega),rfl,?_⟩
  rw [add_mk,Nat.zero_add,Nat.mul_one,wrapI64 (by omega) (by omega)]
  refine ⟨⟨by omega,by omega,Q2.old (setH_other d.2.1),Q6.old (setH_other d.2.2),?_,X1.trans (Ext.set _ _ Bb.2)⟩,by dsimp only; omega⟩
  rw [show (i + 1).toNat=i.toNat + 1 from by omega,outUp,b8,List.map_set]
  have:=Q7.set (i:=i.toNat) (v:=.int .u8 (outV Hs i))
  rw [show ((i.toNat:Nat):Int)=i from by omega]
  exact this
 ·rw [if_neg (by rw [decide_eq_true_eq]; exact c)]
  rw [show i.toNat=32 from by omega] at Q7 lo
  have ea:arr 32 .u8 (outUp Hs 32)=b8 (outUp Hs 32):=arr_full lo
  refine ⟨outUp Hs 32,by rw [ea]; exact CellsAt.of_blk Q7,_,WrsAt.of_blk Q2 (by show 32<=32; omega),rfl,outUp Hs 32,CellsAt.of_blk (Q2.sets_all (by rw [ea,List.length_map,lo]; rfl)),?_⟩
  exact H _ (X1.trans (Ext.sets _ _ _ Bb.1))
attribute [irreducible] shaD
end Go.Q.Yk
end
